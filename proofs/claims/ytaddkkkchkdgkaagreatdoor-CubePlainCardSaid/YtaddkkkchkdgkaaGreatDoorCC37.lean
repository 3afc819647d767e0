/- Is something so of all: the library's search, walked at the query's five closures. Written by genH3.py. -/
import Derived.Test.YtaddkkkchkdgkaaGreatDoorCC36
import Derived.Laws.EntriesVeiled
namespace Go.Proofs.YtaddkkkchkdgkaaGreatDoor
open Go.RowKit Go.Sort
open Tess (Fil Que)
theorem one_agg (is:Bool) (c0 c1 p1:Value) (B:Nat) (W:World) (hB:B < W.heap.size) (hf:W.cell? ⟨B,0,none⟩=some (.func (.func 118) #[] #[p1]))
  (h:∀ W',Below W.heap.size W W'→Calls Tryz.prog 118 #[(.agg #[c0,c1]),p1] W' fun e w'=>e = .returned (.bool is)∧Below W'.heap.size W' w') :
  Calls Tryz.prog 163 #[(.agg #[c0,c1]),.pointer (some ⟨B,0,none⟩)] W fun e w'=>e = .returned (.bool (!is))∧Below W.heap.size W w':=by
 have Aa:Below W.heap.size W (W.alloc (.cells #[c0,c1] 76)):=(Below.refl _ _).alloc (Nat.le_refl _) _
 have HC:=Hd (h _ Aa)
 have Ad:=Hd Aa
 have Ae:=(Aa.cell (p:=⟨B,0,none⟩) hB).trans hf
 clear h Aa hf
 go_enter Tryz.func163,Tryz.ntmps163
 go_wp2_with (go_at_call 118;refine HC.out.mono ?_;rintro e w2 ⟨rfl,Ab⟩;have Ac:=Hd (Bt Ad.out Ab);clear Ab)
 go_ret
 exact ⟨rfl,Ac.out⟩
def aggList (q:Tess.Agg→Bool) (l:List (Tess.Agg)) (a:Option Addr) (p1:Value) (w:World):Prop:=
 ∀ k (hk:k < l.length),∃ b off,a=some ⟨b,off,none⟩∧b < w.heap.size∧∃ c0 c1,(w.cell? ⟨b,off + k * 2,none⟩=some c0∧w.cell? ⟨b,off + k * 2 + 1,none⟩=some c1) ∧
   ∀ W,Below w.heap.size w W→Calls Tryz.prog 163 #[(.agg #[c0,c1]),p1] W fun e w'=>e = .returned (.bool (q l[k]))∧Below W.heap.size W w'
set_option maxHeartbeats 1000000 in
theorem index_agg (q:Tess.Agg→Bool) (l:List (Tess.Agg)) (a:Option Addr) (cap:Nat) (p1:Value) (w:World) (hlen:l.length≤maxLen) (hc:aggList q l a p1 w) :
  Calls Tryz.prog 199 #[.slice a l.length cap,.func (.func 163) #[] #[p1]] w fun e w' => ∃ i:Int,e = .returned (.int .i64 i)∧decide (0≤i)=l.any q∧Below w.heap.size w w':=by
 have HC:=Hd hc
 have Ag:l.length≤9223372036854775807:=by unfold maxLen at hlen;omega
 clear hc hlen
 go_enter Tryz.func199,Tryz.ntmps199
 go_wp2
 go_loopw [8] (fun i wr => ∃ k:Nat,k≤l.length∧i = .int .i64 k∧(∀ j (hj:j < l.length),j < k→q l[j]=false)∧Below w.heap.size w wr) (fun i _=>l.length - (intOf i).toNat)
 case atStart=>exact ⟨0,Nat.zero_le _,rfl,fun j _ h=>absurd h (Nat.not_lt_zero _),Below.refl _ _⟩
 case round=>
  obtain ⟨k,hk,rfl,Ab,hB⟩:=hrel
  have HA:=Hd Ab
  have HB:=Hd hB
  clear Ab hB
  by_cases hlt:k < l.length
  ·obtain ⟨b,Ad,rfl,hb,c0,c1,⟨g0,g1⟩,Aa⟩:=HC.out k hlt
   have e0:wr.cell? ⟨b,Ad + k * 2,none⟩=some c0:=(HB.out.cell (p:=⟨b,Ad + k * 2,none⟩) hb).trans g0
   have e1:wr.cell? ⟨b,Ad + k * 2 + 1,none⟩=some c1:=(HB.out.cell (p:=⟨b,Ad + k * 2 + 1,none⟩) hb).trans g1
   have HX:=Hd Aa
   clear g0 g1 Aa
   have Af:(k:Int) < (l.length:Int):=by omega
   cases hyx:q l[k]
   ·rw [hyx] at HX
    have HY:=Hd hyx
    clear hyx
    go_wp2_with (go_at_call 163;refine (HX.out _ HB.out).mono ?_;rintro e w2 ⟨rfl,Ac⟩;have Ae:=Hd Ac;clear Ac)
    go_roundw
    case rel=>
     refine ⟨k + 1,by omega,by go_num,fun j hj hjk => ?_,Bt HB.out Ae.out⟩
     by_cases hjk':j < k
     ·exact HA.out j hj hjk'
     ·obtain rfl:j=k:=by omega
      exact HY.out
    case measure=>simp [intOf];omega
   ·rw [hyx] at HX
    have HY:=Hd hyx
    clear hyx
    go_wp2_with (go_at_call 163;refine (HX.out _ HB.out).mono ?_;rintro e w2 ⟨rfl,Ac⟩;have Ae:=Hd Ac;clear Ac)
    go_ret
    refine ⟨(k:Int),rfl,?_,Bt HB.out Ae.out⟩
    rw [decide_eq_true (by omega),eq_comm,List.any_eq_true]
    exact ⟨l[k],List.getElem_mem hlt,HY.out⟩
  ·have Af:¬ (k:Int) < (l.length:Int):=by omega
   go_wp2
   go_ret
   refine ⟨-1,rfl,?_,HB.out⟩
   rw [decide_eq_false (by omega),eq_comm,List.any_eq_false]
   intro y hy
   obtain ⟨j,hj,rfl⟩:=List.getElem_of_mem hy
   rw [HA.out j hj (by omega)];simp
theorem contains_agg (q:Tess.Agg→Bool) (l:List (Tess.Agg)) (a:Option Addr) (cap:Nat) (p1:Value) (w:World) (hlen:l.length≤maxLen) (hc:aggList q l a p1 w) :
  Calls Tryz.prog 162 #[.slice a l.length cap,.func (.func 163) #[] #[p1]] w fun e w'=>e = .returned (.bool (l.any q))∧Below w.heap.size w w':=by
 have HI:=Hd (index_agg q l a cap p1 w hlen hc)
 clear hc
 go_enter Tryz.func162,Tryz.ntmps162
 go_wp2_with (go_at_call 199;refine HI.out.mono ?_;rintro e w2 ⟨i,rfl,hi,hB⟩;have HH:=Hd hi;have HB:=Hd hB;clear hi hB)
 go_ret
 refine ⟨?_,HB.out⟩
 rw [← HH.out];rfl
theorem all_agg (is:Tess.Agg→Bool) (l:List (Tess.Agg)) (a:Option Addr) (cap:Nat) (p1:Value) (w:World) (hlen:l.length≤maxLen)
  (hc:∀ k (hk:k < l.length),∃ b off,a=some ⟨b,off,none⟩∧b < w.heap.size∧∃ c0 c1,(w.cell? ⟨b,off + k * 2,none⟩=some c0∧w.cell? ⟨b,off + k * 2 + 1,none⟩=some c1) ∧
    ∀ W,Below w.heap.size w W→Calls Tryz.prog 118 #[(.agg #[c0,c1]),p1] W fun e w'=>e = .returned (.bool (is l[k]))∧Below W.heap.size W w') :
  Calls Tryz.prog 117 #[.slice a l.length cap,.func (.func 118) #[] #[p1]] w fun e w'=>e = .returned (.bool (l.all is))∧Below w.heap.size w w':=by
 have Aa:Below w.heap.size w (w.alloc (.cells #[.func (.func 118) #[] #[p1]] 193)):=(Below.refl _ _).alloc (Nat.le_refl _) _
 have Ad:(w.alloc (.cells #[.func (.func 118) #[] #[p1]] 193)).heap[w.heap.size]? = some (.cells #[.func (.func 118) #[] #[p1]] 193 (0,0)):=heap_alloc_new _ _
 have Af:(w.alloc (.cells #[.func (.func 118) #[] #[p1]] 193)).heap.size=w.heap.size + 1:=by simp
 have HK:=Hd (contains_agg (fun x => !is x) l a cap (.pointer (some ⟨w.heap.size,0,none⟩)) (w.alloc (.cells #[.func (.func 118) #[] #[p1]] 193)) hlen fun k hk=>by
  obtain ⟨b,off,ha,hb,c0,c1,⟨g0,g1⟩,Ab⟩:=hc k hk
  refine ⟨b,off,ha,Nat.lt_of_lt_of_le hb Aa.size,c0,c1,⟨(Aa.cell (p:=⟨b,off + k * 2,none⟩) hb).trans g0,(Aa.cell (p:=⟨b,off + k * 2 + 1,none⟩) hb).trans g1⟩,fun W hW => ?_⟩
  refine one_agg _ c0 c1 p1 w.heap.size W (by have:=hW.size;omega) ?_ fun W' hW'=>Ab W' ((Aa.trans (hW.mono (by omega))).trans (hW'.mono (by have:=hW.size;omega)))
  exact cell_of_row _ _ 0 _ _ _ ((hW.block _ (by omega)).trans Ad))
 have Ag:=Hd Aa
 have Ac:(!l.any fun x => !is x)=l.all is:=by simp [List.all_eq_not_any_not]
 have Ae:=Hd Ac
 clear hc Aa Ad Af Ac
 go_enter Tryz.func117,Tryz.ntmps117
 go_wp2_with (go_at_call 162;refine HK.out.mono ?_;rintro e w2 ⟨rfl,hB⟩;have HB:=Hd (Bt Ag.out hB);clear hB)
 go_ret
 rw [← Ae.out]
 exact ⟨rfl,HB.out⟩
theorem one_name (is:Bool) (c0 p1:Value) (B:Nat) (W:World) (_hB:B < W.heap.size) (hf:W.cell? ⟨B,0,none⟩=some (.func (.func 122) #[] #[p1]))
  (h:∀ W',Below W.heap.size W W'→Calls Tryz.prog 122 #[c0,p1] W' fun e w'=>e = .returned (.bool is)∧Below W'.heap.size W' w') :
  Calls Tryz.prog 167 #[c0,.pointer (some ⟨B,0,none⟩)] W fun e w'=>e = .returned (.bool (!is))∧Below W.heap.size W w':=by
 have HC:=Hd (h W (Below.refl _ _))
 have Ac:=Hd (Below.refl W.heap.size W)
 have Ad:=hf
 clear h hf
 go_enter Tryz.func167,Tryz.ntmps167
 go_wp2_with (go_at_call 122;refine HC.out.mono ?_;rintro e w2 ⟨rfl,Aa⟩;have Ab:=Hd (Bt Ac.out Aa);clear Aa)
 go_ret
 exact ⟨rfl,Ab.out⟩
def nameList (q:ByteArray→Bool) (l:List (ByteArray)) (a:Option Addr) (p1:Value) (w:World):Prop:=
 ∀ k (hk:k < l.length),∃ b off,a=some ⟨b,off,none⟩∧b < w.heap.size∧∃ c0,(w.cell? ⟨b,off + k,none⟩=some c0) ∧
   ∀ W,Below w.heap.size w W→Calls Tryz.prog 167 #[c0,p1] W fun e w'=>e = .returned (.bool (q l[k]))∧Below W.heap.size W w'
set_option maxHeartbeats 1000000 in
theorem index_name (q:ByteArray→Bool) (l:List (ByteArray)) (a:Option Addr) (cap:Nat) (p1:Value) (w:World) (hlen:l.length≤maxLen) (hc:nameList q l a p1 w) :
  Calls Tryz.prog 200 #[.slice a l.length cap,.func (.func 167) #[] #[p1]] w fun e w' => ∃ i:Int,e = .returned (.int .i64 i)∧decide (0≤i)=l.any q∧Below w.heap.size w w':=by
 have HC:=Hd hc
 have Ag:l.length≤9223372036854775807:=by unfold maxLen at hlen;omega
 clear hc hlen
 go_enter Tryz.func200,Tryz.ntmps200
 go_wp2
 go_loopw [8] (fun i wr => ∃ k:Nat,k≤l.length∧i = .int .i64 k∧(∀ j (hj:j < l.length),j < k→q l[j]=false)∧Below w.heap.size w wr) (fun i _=>l.length - (intOf i).toNat)
 case atStart=>exact ⟨0,Nat.zero_le _,rfl,fun j _ h=>absurd h (Nat.not_lt_zero _),Below.refl _ _⟩
 case round=>
  obtain ⟨k,hk,rfl,Ab,hB⟩:=hrel
  have HA:=Hd Ab
  have HB:=Hd hB
  clear Ab hB
  by_cases hlt:k < l.length
  ·obtain ⟨b,Ae,rfl,hb,c0,g0,Aa⟩:=HC.out k hlt
   have e0:wr.cell? ⟨b,Ae + k,none⟩=some c0:=(HB.out.cell (p:=⟨b,Ae + k,none⟩) hb).trans g0
   have HX:=Hd Aa
   clear g0 Aa
   have Af:(k:Int) < (l.length:Int):=by omega
   cases hyx:q l[k]
   ·rw [hyx] at HX
    have HY:=Hd hyx
    clear hyx
    go_wp2_with (go_at_call 167;refine (HX.out _ HB.out).mono ?_;rintro e w2 ⟨rfl,Ac⟩;have Ad:=Hd Ac;clear Ac)
    go_roundw
    case rel=>
     refine ⟨k + 1,by omega,by go_num,fun j hj hjk => ?_,Bt HB.out Ad.out⟩
     by_cases hjk':j < k
     ·exact HA.out j hj hjk'
     ·obtain rfl:j=k:=by omega
      exact HY.out
    case measure=>simp [intOf];omega
   ·rw [hyx] at HX
    have HY:=Hd hyx
    clear hyx
    go_wp2_with (go_at_call 167;refine (HX.out _ HB.out).mono ?_;rintro e w2 ⟨rfl,Ac⟩;have Ad:=Hd Ac;clear Ac)
    go_ret
    refine ⟨(k:Int),rfl,?_,Bt HB.out Ad.out⟩
    rw [decide_eq_true (by omega),eq_comm,List.any_eq_true]
    exact ⟨l[k],List.getElem_mem hlt,HY.out⟩
  ·have Af:¬ (k:Int) < (l.length:Int):=by omega
   go_wp2
   go_ret
   refine ⟨-1,rfl,?_,HB.out⟩
   rw [decide_eq_false (by omega),eq_comm,List.any_eq_false]
   intro y hy
   obtain ⟨j,hj,rfl⟩:=List.getElem_of_mem hy
   rw [HA.out j hj (by omega)];simp
theorem contains_name (q:ByteArray→Bool) (l:List (ByteArray)) (a:Option Addr) (cap:Nat) (p1:Value) (w:World) (hlen:l.length≤maxLen) (hc:nameList q l a p1 w) :
  Calls Tryz.prog 166 #[.slice a l.length cap,.func (.func 167) #[] #[p1]] w fun e w'=>e = .returned (.bool (l.any q))∧Below w.heap.size w w':=by
 have HI:=Hd (index_name q l a cap p1 w hlen hc)
 clear hc
 go_enter Tryz.func166,Tryz.ntmps166
 go_wp2_with (go_at_call 200;refine HI.out.mono ?_;rintro e w2 ⟨i,rfl,hi,hB⟩;have HH:=Hd hi;have HB:=Hd hB;clear hi hB)
 go_ret
 refine ⟨?_,HB.out⟩
 rw [← HH.out];rfl
theorem all_name (is:ByteArray→Bool) (l:List (ByteArray)) (a:Option Addr) (cap:Nat) (p1:Value) (w:World) (hlen:l.length≤maxLen)
  (hc:∀ k (hk:k < l.length),∃ b off,a=some ⟨b,off,none⟩∧b < w.heap.size∧∃ c0,(w.cell? ⟨b,off + k,none⟩=some c0) ∧
    ∀ W,Below w.heap.size w W→Calls Tryz.prog 122 #[c0,p1] W fun e w'=>e = .returned (.bool (is l[k]))∧Below W.heap.size W w') :
  Calls Tryz.prog 121 #[.slice a l.length cap,.func (.func 122) #[] #[p1]] w fun e w'=>e = .returned (.bool (l.all is))∧Below w.heap.size w w':=by
 have Ac:Below w.heap.size w (w.alloc (.cells #[.func (.func 122) #[] #[p1]] 154)):=(Below.refl _ _).alloc (Nat.le_refl _) _
 have Ad:(w.alloc (.cells #[.func (.func 122) #[] #[p1]] 154)).heap[w.heap.size]? = some (.cells #[.func (.func 122) #[] #[p1]] 154 (0,0)):=heap_alloc_new _ _
 have Af:(w.alloc (.cells #[.func (.func 122) #[] #[p1]] 154)).heap.size=w.heap.size + 1:=by simp
 have HK:=Hd (contains_name (fun x => !is x) l a cap (.pointer (some ⟨w.heap.size,0,none⟩)) (w.alloc (.cells #[.func (.func 122) #[] #[p1]] 154)) hlen fun k hk=>by
  obtain ⟨b,off,ha,hb,c0,g0,Aa⟩:=hc k hk
  refine ⟨b,off,ha,Nat.lt_of_lt_of_le hb Ac.size,c0,(Ac.cell (p:=⟨b,off + k,none⟩) hb).trans g0,fun W hW => ?_⟩
  refine one_name _ c0 p1 w.heap.size W (by have:=hW.size;omega) ?_ fun W' hW'=>Aa W' ((Ac.trans (hW.mono (by omega))).trans (hW'.mono (by have:=hW.size;omega)))
  exact cell_of_row _ _ 0 _ _ _ ((hW.block _ (by omega)).trans Ad))
 have Ag:=Hd Ac
 have Ab:(!l.any fun x => !is x)=l.all is:=by simp [List.all_eq_not_any_not]
 have Ae:=Hd Ab
 clear hc Ac Ad Af Ab
 go_enter Tryz.func121,Tryz.ntmps121
 go_wp2_with (go_at_call 166;refine HK.out.mono ?_;rintro e w2 ⟨rfl,hB⟩;have HB:=Hd (Bt Ag.out hB);clear hB)
 go_ret
 rw [← Ae.out]
 exact ⟨rfl,HB.out⟩
theorem one_set (is:Bool) (c0 p1:Value) (B:Nat) (W:World) (_hB:B < W.heap.size) (hf:W.cell? ⟨B,0,none⟩=some (.func (.func 124) #[] #[p1]))
  (h:∀ W',Below W.heap.size W W'→Calls Tryz.prog 124 #[c0,p1] W' fun e w'=>e = .returned (.bool is)∧Below W'.heap.size W' w') :
  Calls Tryz.prog 169 #[c0,.pointer (some ⟨B,0,none⟩)] W fun e w'=>e = .returned (.bool (!is))∧Below W.heap.size W w':=by
 have HC:=Hd (h W (Below.refl _ _))
 have Ac:=Hd (Below.refl W.heap.size W)
 have Ad:=hf
 clear h hf
 go_enter Tryz.func169,Tryz.ntmps169
 go_wp2_with (go_at_call 124;refine HC.out.mono ?_;rintro e w2 ⟨rfl,Aa⟩;have Ab:=Hd (Bt Ac.out Aa);clear Aa)
 go_ret
 exact ⟨rfl,Ab.out⟩
def setList (q:List ByteArray→Bool) (l:List (List ByteArray)) (a:Option Addr) (p1:Value) (w:World):Prop:=
 ∀ k (hk:k < l.length),∃ b off,a=some ⟨b,off,none⟩∧b < w.heap.size∧∃ c0,(w.cell? ⟨b,off + k,none⟩=some c0) ∧
   ∀ W,Below w.heap.size w W→Calls Tryz.prog 169 #[c0,p1] W fun e w'=>e = .returned (.bool (q l[k]))∧Below W.heap.size W w'
set_option maxHeartbeats 1000000 in
theorem index_set (q:List ByteArray→Bool) (l:List (List ByteArray)) (a:Option Addr) (cap:Nat) (p1:Value) (w:World) (hlen:l.length≤maxLen) (hc:setList q l a p1 w) :
  Calls Tryz.prog 201 #[.slice a l.length cap,.func (.func 169) #[] #[p1]] w fun e w' => ∃ i:Int,e = .returned (.int .i64 i)∧decide (0≤i)=l.any q∧Below w.heap.size w w':=by
 have HC:=Hd hc
 have Ag:l.length≤9223372036854775807:=by unfold maxLen at hlen;omega
 clear hc hlen
 go_enter Tryz.func201,Tryz.ntmps201
 go_wp2
 go_loopw [8] (fun i wr => ∃ k:Nat,k≤l.length∧i = .int .i64 k∧(∀ j (hj:j < l.length),j < k→q l[j]=false)∧Below w.heap.size w wr) (fun i _=>l.length - (intOf i).toNat)
 case atStart=>exact ⟨0,Nat.zero_le _,rfl,fun j _ h=>absurd h (Nat.not_lt_zero _),Below.refl _ _⟩
 case round=>
  obtain ⟨k,hk,rfl,Ab,hB⟩:=hrel
  have HA:=Hd Ab
  have HB:=Hd hB
  clear Ab hB
  by_cases hlt:k < l.length
  ·obtain ⟨b,Ae,rfl,hb,c0,g0,Aa⟩:=HC.out k hlt
   have e0:wr.cell? ⟨b,Ae + k,none⟩=some c0:=(HB.out.cell (p:=⟨b,Ae + k,none⟩) hb).trans g0
   have HX:=Hd Aa
   clear g0 Aa
   have Af:(k:Int) < (l.length:Int):=by omega
   cases hyx:q l[k]
   ·rw [hyx] at HX
    have HY:=Hd hyx
    clear hyx
    go_wp2_with (go_at_call 169;refine (HX.out _ HB.out).mono ?_;rintro e w2 ⟨rfl,Ac⟩;have Ad:=Hd Ac;clear Ac)
    go_roundw
    case rel=>
     refine ⟨k + 1,by omega,by go_num,fun j hj hjk => ?_,Bt HB.out Ad.out⟩
     by_cases hjk':j < k
     ·exact HA.out j hj hjk'
     ·obtain rfl:j=k:=by omega
      exact HY.out
    case measure=>simp [intOf];omega
   ·rw [hyx] at HX
    have HY:=Hd hyx
    clear hyx
    go_wp2_with (go_at_call 169;refine (HX.out _ HB.out).mono ?_;rintro e w2 ⟨rfl,Ac⟩;have Ad:=Hd Ac;clear Ac)
    go_ret
    refine ⟨(k:Int),rfl,?_,Bt HB.out Ad.out⟩
    rw [decide_eq_true (by omega),eq_comm,List.any_eq_true]
    exact ⟨l[k],List.getElem_mem hlt,HY.out⟩
  ·have Af:¬ (k:Int) < (l.length:Int):=by omega
   go_wp2
   go_ret
   refine ⟨-1,rfl,?_,HB.out⟩
   rw [decide_eq_false (by omega),eq_comm,List.any_eq_false]
   intro y hy
   obtain ⟨j,hj,rfl⟩:=List.getElem_of_mem hy
   rw [HA.out j hj (by omega)];simp
theorem contains_set (q:List ByteArray→Bool) (l:List (List ByteArray)) (a:Option Addr) (cap:Nat) (p1:Value) (w:World) (hlen:l.length≤maxLen) (hc:setList q l a p1 w) :
  Calls Tryz.prog 168 #[.slice a l.length cap,.func (.func 169) #[] #[p1]] w fun e w'=>e = .returned (.bool (l.any q))∧Below w.heap.size w w':=by
 have HI:=Hd (index_set q l a cap p1 w hlen hc)
 clear hc
 go_enter Tryz.func168,Tryz.ntmps168
 go_wp2_with (go_at_call 201;refine HI.out.mono ?_;rintro e w2 ⟨i,rfl,hi,hB⟩;have HH:=Hd hi;have HB:=Hd hB;clear hi hB)
 go_ret
 refine ⟨?_,HB.out⟩
 rw [← HH.out];rfl
theorem all_set (is:List ByteArray→Bool) (l:List (List ByteArray)) (a:Option Addr) (cap:Nat) (p1:Value) (w:World) (hlen:l.length≤maxLen)
  (hc:∀ k (hk:k < l.length),∃ b off,a=some ⟨b,off,none⟩∧b < w.heap.size∧∃ c0,(w.cell? ⟨b,off + k,none⟩=some c0) ∧
    ∀ W,Below w.heap.size w W→Calls Tryz.prog 124 #[c0,p1] W fun e w'=>e = .returned (.bool (is l[k]))∧Below W.heap.size W w') :
  Calls Tryz.prog 123 #[.slice a l.length cap,.func (.func 124) #[] #[p1]] w fun e w'=>e = .returned (.bool (l.all is))∧Below w.heap.size w w':=by
 have Ac:Below w.heap.size w (w.alloc (.cells #[.func (.func 124) #[] #[p1]] 197)):=(Below.refl _ _).alloc (Nat.le_refl _) _
 have Ad:(w.alloc (.cells #[.func (.func 124) #[] #[p1]] 197)).heap[w.heap.size]? = some (.cells #[.func (.func 124) #[] #[p1]] 197 (0,0)):=heap_alloc_new _ _
 have Af:(w.alloc (.cells #[.func (.func 124) #[] #[p1]] 197)).heap.size=w.heap.size + 1:=by simp
 have HK:=Hd (contains_set (fun x => !is x) l a cap (.pointer (some ⟨w.heap.size,0,none⟩)) (w.alloc (.cells #[.func (.func 124) #[] #[p1]] 197)) hlen fun k hk=>by
  obtain ⟨b,off,ha,hb,c0,g0,Aa⟩:=hc k hk
  refine ⟨b,off,ha,Nat.lt_of_lt_of_le hb Ac.size,c0,(Ac.cell (p:=⟨b,off + k,none⟩) hb).trans g0,fun W hW => ?_⟩
  refine one_set _ c0 p1 w.heap.size W (by have:=hW.size;omega) ?_ fun W' hW'=>Aa W' ((Ac.trans (hW.mono (by omega))).trans (hW'.mono (by have:=hW.size;omega)))
  exact cell_of_row _ _ 0 _ _ _ ((hW.block _ (by omega)).trans Ad))
 have Ag:=Hd Ac
 have Ab:(!l.any fun x => !is x)=l.all is:=by simp [List.all_eq_not_any_not]
 have Ae:=Hd Ab
 clear hc Ac Ad Af Ab
 go_enter Tryz.func123,Tryz.ntmps123
 go_wp2_with (go_at_call 168;refine HK.out.mono ?_;rintro e w2 ⟨rfl,hB⟩;have HB:=Hd (Bt Ag.out hB);clear hB)
 go_ret
 rw [← Ae.out]
 exact ⟨rfl,HB.out⟩
theorem one_cond (is:Bool) (c0 c1 c2 p1:Value) (B:Nat) (W:World) (hB:B < W.heap.size) (hf:W.cell? ⟨B,0,none⟩=some (.func (.func 126) #[] #[p1]))
  (h:∀ W',Below W.heap.size W W'→Calls Tryz.prog 126 #[(.agg #[c0,c1,c2]),p1] W' fun e w'=>e = .returned (.bool is)∧Below W'.heap.size W' w') :
  Calls Tryz.prog 171 #[(.agg #[c0,c1,c2]),.pointer (some ⟨B,0,none⟩)] W fun e w'=>e = .returned (.bool (!is))∧Below W.heap.size W w':=by
 have Aa:Below W.heap.size W (W.alloc (.cells #[c0,c1,c2] 200)):=(Below.refl _ _).alloc (Nat.le_refl _) _
 have HC:=Hd (h _ Aa)
 have Ad:=Hd Aa
 have Ae:=(Aa.cell (p:=⟨B,0,none⟩) hB).trans hf
 clear h Aa hf
 go_enter Tryz.func171,Tryz.ntmps171
 go_wp2_with (go_at_call 126;refine HC.out.mono ?_;rintro e w2 ⟨rfl,Ab⟩;have Ac:=Hd (Bt Ad.out Ab);clear Ab)
 go_ret
 exact ⟨rfl,Ac.out⟩
def condList (q:Tess.Cond→Bool) (l:List (Tess.Cond)) (a:Option Addr) (p1:Value) (w:World):Prop:=
 ∀ k (hk:k < l.length),∃ b off,a=some ⟨b,off,none⟩∧b < w.heap.size∧∃ c0 c1 c2,(w.cell? ⟨b,off + k * 3,none⟩=some c0∧w.cell? ⟨b,off + k * 3 + 1,none⟩=some c1∧w.cell? ⟨b,off + k * 3 + 2,none⟩=some c2) ∧
   ∀ W,Below w.heap.size w W→Calls Tryz.prog 171 #[(.agg #[c0,c1,c2]),p1] W fun e w'=>e = .returned (.bool (q l[k]))∧Below W.heap.size W w'
set_option maxHeartbeats 1000000 in
theorem index_cond (q:Tess.Cond→Bool) (l:List (Tess.Cond)) (a:Option Addr) (cap:Nat) (p1:Value) (w:World) (hlen:l.length≤maxLen) (hc:condList q l a p1 w) :
  Calls Tryz.prog 202 #[.slice a l.length cap,.func (.func 171) #[] #[p1]] w fun e w' => ∃ i:Int,e = .returned (.int .i64 i)∧decide (0≤i)=l.any q∧Below w.heap.size w w':=by
 have HC:=Hd hc
 have Ag:l.length≤9223372036854775807:=by unfold maxLen at hlen;omega
 clear hc hlen
 go_enter Tryz.func202,Tryz.ntmps202
 go_wp2
 go_loopw [8] (fun i wr => ∃ k:Nat,k≤l.length∧i = .int .i64 k∧(∀ j (hj:j < l.length),j < k→q l[j]=false)∧Below w.heap.size w wr) (fun i _=>l.length - (intOf i).toNat)
 case atStart=>exact ⟨0,Nat.zero_le _,rfl,fun j _ h=>absurd h (Nat.not_lt_zero _),Below.refl _ _⟩
 case round=>
  obtain ⟨k,hk,rfl,Ac,hB⟩:=hrel
  have HA:=Hd Ac
  have HB:=Hd hB
  clear Ac hB
  by_cases hlt:k < l.length
  ·obtain ⟨b,Ab,rfl,hb,c0,c1,c2,⟨g0,g1,g2⟩,Aa⟩:=HC.out k hlt
   have e0:wr.cell? ⟨b,Ab + k * 3,none⟩=some c0:=(HB.out.cell (p:=⟨b,Ab + k * 3,none⟩) hb).trans g0
   have e1:wr.cell? ⟨b,Ab + k * 3 + 1,none⟩=some c1:=(HB.out.cell (p:=⟨b,Ab + k * 3 + 1,none⟩) hb).trans g1
   have e2:wr.cell? ⟨b,Ab + k * 3 + 2,none⟩=some c2:=(HB.out.cell (p:=⟨b,Ab + k * 3 + 2,none⟩) hb).trans g2
   have HX:=Hd Aa
   clear g0 g1 g2 Aa
   have Af:(k:Int) < (l.length:Int):=by omega
   cases hyx:q l[k]
   ·rw [hyx] at HX
    have HY:=Hd hyx
    clear hyx
    go_wp2_with (go_at_call 171;refine (HX.out _ HB.out).mono ?_;rintro e w2 ⟨rfl,Ad⟩;have Ae:=Hd Ad;clear Ad)
    go_roundw
    case rel=>
     refine ⟨k + 1,by omega,by go_num,fun j hj hjk => ?_,Bt HB.out Ae.out⟩
     by_cases hjk':j < k
     ·exact HA.out j hj hjk'
     ·obtain rfl:j=k:=by omega
      exact HY.out
    case measure=>simp [intOf];omega
   ·rw [hyx] at HX
    have HY:=Hd hyx
    clear hyx
    go_wp2_with (go_at_call 171;refine (HX.out _ HB.out).mono ?_;rintro e w2 ⟨rfl,Ad⟩;have Ae:=Hd Ad;clear Ad)
    go_ret
    refine ⟨(k:Int),rfl,?_,Bt HB.out Ae.out⟩
    rw [decide_eq_true (by omega),eq_comm,List.any_eq_true]
    exact ⟨l[k],List.getElem_mem hlt,HY.out⟩
  ·have Af:¬ (k:Int) < (l.length:Int):=by omega
   go_wp2
   go_ret
   refine ⟨-1,rfl,?_,HB.out⟩
   rw [decide_eq_false (by omega),eq_comm,List.any_eq_false]
   intro y hy
   obtain ⟨j,hj,rfl⟩:=List.getElem_of_mem hy
   rw [HA.out j hj (by omega)];simp
theorem contains_cond (q:Tess.Cond→Bool) (l:List (Tess.Cond)) (a:Option Addr) (cap:Nat) (p1:Value) (w:World) (hlen:l.length≤maxLen) (hc:condList q l a p1 w) :
  Calls Tryz.prog 170 #[.slice a l.length cap,.func (.func 171) #[] #[p1]] w fun e w'=>e = .returned (.bool (l.any q))∧Below w.heap.size w w':=by
 have HI:=Hd (index_cond q l a cap p1 w hlen hc)
 clear hc
 go_enter Tryz.func170,Tryz.ntmps170
 go_wp2_with (go_at_call 202;refine HI.out.mono ?_;rintro e w2 ⟨i,rfl,hi,hB⟩;have HH:=Hd hi;have HB:=Hd hB;clear hi hB)
 go_ret
 refine ⟨?_,HB.out⟩
 rw [← HH.out];rfl
theorem all_cond (is:Tess.Cond→Bool) (l:List (Tess.Cond)) (a:Option Addr) (cap:Nat) (p1:Value) (w:World) (hlen:l.length≤maxLen)
  (hc:∀ k (hk:k < l.length),∃ b off,a=some ⟨b,off,none⟩∧b < w.heap.size∧∃ c0 c1 c2,(w.cell? ⟨b,off + k * 3,none⟩=some c0∧w.cell? ⟨b,off + k * 3 + 1,none⟩=some c1∧w.cell? ⟨b,off + k * 3 + 2,none⟩=some c2) ∧
    ∀ W,Below w.heap.size w W→Calls Tryz.prog 126 #[(.agg #[c0,c1,c2]),p1] W fun e w'=>e = .returned (.bool (is l[k]))∧Below W.heap.size W w') :
  Calls Tryz.prog 125 #[.slice a l.length cap,.func (.func 126) #[] #[p1]] w fun e w'=>e = .returned (.bool (l.all is))∧Below w.heap.size w w':=by
 have Aa:Below w.heap.size w (w.alloc (.cells #[.func (.func 126) #[] #[p1]] 201)):=(Below.refl _ _).alloc (Nat.le_refl _) _
 have Ad:(w.alloc (.cells #[.func (.func 126) #[] #[p1]] 201)).heap[w.heap.size]? = some (.cells #[.func (.func 126) #[] #[p1]] 201 (0,0)):=heap_alloc_new _ _
 have Af:(w.alloc (.cells #[.func (.func 126) #[] #[p1]] 201)).heap.size=w.heap.size + 1:=by simp
 have HK:=Hd (contains_cond (fun x => !is x) l a cap (.pointer (some ⟨w.heap.size,0,none⟩)) (w.alloc (.cells #[.func (.func 126) #[] #[p1]] 201)) hlen fun k hk=>by
  obtain ⟨b,off,ha,hb,c0,c1,c2,⟨g0,g1,g2⟩,Ab⟩:=hc k hk
  refine ⟨b,off,ha,Nat.lt_of_lt_of_le hb Aa.size,c0,c1,c2,⟨(Aa.cell (p:=⟨b,off + k * 3,none⟩) hb).trans g0,(Aa.cell (p:=⟨b,off + k * 3 + 1,none⟩) hb).trans g1,(Aa.cell (p:=⟨b,off + k * 3 + 2,none⟩) hb).trans g2⟩,fun W hW => ?_⟩
  refine one_cond _ c0 c1 c2 p1 w.heap.size W (by have:=hW.size;omega) ?_ fun W' hW'=>Ab W' ((Aa.trans (hW.mono (by omega))).trans (hW'.mono (by have:=hW.size;omega)))
  exact cell_of_row _ _ 0 _ _ _ ((hW.block _ (by omega)).trans Ad))
 have Ag:=Hd Aa
 have Ac:(!l.any fun x => !is x)=l.all is:=by simp [List.all_eq_not_any_not]
 have Ae:=Hd Ac
 clear hc Aa Ad Af Ac
 go_enter Tryz.func125,Tryz.ntmps125
 go_wp2_with (go_at_call 170;refine HK.out.mono ?_;rintro e w2 ⟨rfl,hB⟩;have HB:=Hd (Bt Ag.out hB);clear hB)
 go_ret
 rw [← Ae.out]
 exact ⟨rfl,HB.out⟩
theorem one_key (is:Bool) (c0 c1 c2 p1:Value) (B:Nat) (W:World) (hB:B < W.heap.size) (hf:W.cell? ⟨B,0,none⟩=some (.func (.func 128) #[] #[p1]))
  (h:∀ W',Below W.heap.size W W'→Calls Tryz.prog 128 #[(.agg #[c0,c1,c2]),p1] W' fun e w'=>e = .returned (.bool is)∧Below W'.heap.size W' w') :
  Calls Tryz.prog 173 #[(.agg #[c0,c1,c2]),.pointer (some ⟨B,0,none⟩)] W fun e w'=>e = .returned (.bool (!is))∧Below W.heap.size W w':=by
 have Aa:Below W.heap.size W (W.alloc (.cells #[c0,c1,c2] 204)):=(Below.refl _ _).alloc (Nat.le_refl _) _
 have HC:=Hd (h _ Aa)
 have Ad:=Hd Aa
 have Ae:=(Aa.cell (p:=⟨B,0,none⟩) hB).trans hf
 clear h Aa hf
 go_enter Tryz.func173,Tryz.ntmps173
 go_wp2_with (go_at_call 128;refine HC.out.mono ?_;rintro e w2 ⟨rfl,Ab⟩;have Ac:=Hd (Bt Ad.out Ab);clear Ab)
 go_ret
 exact ⟨rfl,Ac.out⟩
def keyList (q:Tess.Key→Bool) (l:List (Tess.Key)) (a:Option Addr) (p1:Value) (w:World):Prop:=
 ∀ k (hk:k < l.length),∃ b off,a=some ⟨b,off,none⟩∧b < w.heap.size∧∃ c0 c1 c2,(w.cell? ⟨b,off + k * 3,none⟩=some c0∧w.cell? ⟨b,off + k * 3 + 1,none⟩=some c1∧w.cell? ⟨b,off + k * 3 + 2,none⟩=some c2) ∧
   ∀ W,Below w.heap.size w W→Calls Tryz.prog 173 #[(.agg #[c0,c1,c2]),p1] W fun e w'=>e = .returned (.bool (q l[k]))∧Below W.heap.size W w'
set_option maxHeartbeats 1000000 in
theorem index_key (q:Tess.Key→Bool) (l:List (Tess.Key)) (a:Option Addr) (cap:Nat) (p1:Value) (w:World) (hlen:l.length≤maxLen) (hc:keyList q l a p1 w) :
  Calls Tryz.prog 203 #[.slice a l.length cap,.func (.func 173) #[] #[p1]] w fun e w' => ∃ i:Int,e = .returned (.int .i64 i)∧decide (0≤i)=l.any q∧Below w.heap.size w w':=by
 have HC:=Hd hc
 have Ag:l.length≤9223372036854775807:=by unfold maxLen at hlen;omega
 clear hc hlen
 go_enter Tryz.func203,Tryz.ntmps203
 go_wp2
 go_loopw [8] (fun i wr => ∃ k:Nat,k≤l.length∧i = .int .i64 k∧(∀ j (hj:j < l.length),j < k→q l[j]=false)∧Below w.heap.size w wr) (fun i _=>l.length - (intOf i).toNat)
 case atStart=>exact ⟨0,Nat.zero_le _,rfl,fun j _ h=>absurd h (Nat.not_lt_zero _),Below.refl _ _⟩
 case round=>
  obtain ⟨k,hk,rfl,Ac,hB⟩:=hrel
  have HA:=Hd Ac
  have HB:=Hd hB
  clear Ac hB
  by_cases hlt:k < l.length
  ·obtain ⟨b,Ab,rfl,hb,c0,c1,c2,⟨g0,g1,g2⟩,Aa⟩:=HC.out k hlt
   have e0:wr.cell? ⟨b,Ab + k * 3,none⟩=some c0:=(HB.out.cell (p:=⟨b,Ab + k * 3,none⟩) hb).trans g0
   have e1:wr.cell? ⟨b,Ab + k * 3 + 1,none⟩=some c1:=(HB.out.cell (p:=⟨b,Ab + k * 3 + 1,none⟩) hb).trans g1
   have e2:wr.cell? ⟨b,Ab + k * 3 + 2,none⟩=some c2:=(HB.out.cell (p:=⟨b,Ab + k * 3 + 2,none⟩) hb).trans g2
   have HX:=Hd Aa
   clear g0 g1 g2 Aa
   have Af:(k:Int) < (l.length:Int):=by omega
   cases hyx:q l[k]
   ·rw [hyx] at HX
    have HY:=Hd hyx
    clear hyx
    go_wp2_with (go_at_call 173;refine (HX.out _ HB.out).mono ?_;rintro e w2 ⟨rfl,Ad⟩;have Ae:=Hd Ad;clear Ad)
    go_roundw
    case rel=>
     refine ⟨k + 1,by omega,by go_num,fun j hj hjk => ?_,Bt HB.out Ae.out⟩
     by_cases hjk':j < k
     ·exact HA.out j hj hjk'
     ·obtain rfl:j=k:=by omega
      exact HY.out
    case measure=>simp [intOf];omega
   ·rw [hyx] at HX
    have HY:=Hd hyx
    clear hyx
    go_wp2_with (go_at_call 173;refine (HX.out _ HB.out).mono ?_;rintro e w2 ⟨rfl,Ad⟩;have Ae:=Hd Ad;clear Ad)
    go_ret
    refine ⟨(k:Int),rfl,?_,Bt HB.out Ae.out⟩
    rw [decide_eq_true (by omega),eq_comm,List.any_eq_true]
    exact ⟨l[k],List.getElem_mem hlt,HY.out⟩
  ·have Af:¬ (k:Int) < (l.length:Int):=by omega
   go_wp2
   go_ret
   refine ⟨-1,rfl,?_,HB.out⟩
   rw [decide_eq_false (by omega),eq_comm,List.any_eq_false]
   intro y hy
   obtain ⟨j,hj,rfl⟩:=List.getElem_of_mem hy
   rw [HA.out j hj (by omega)];simp
theorem contains_key (q:Tess.Key→Bool) (l:List (Tess.Key)) (a:Option Addr) (cap:Nat) (p1:Value) (w:World) (hlen:l.length≤maxLen) (hc:keyList q l a p1 w) :
  Calls Tryz.prog 172 #[.slice a l.length cap,.func (.func 173) #[] #[p1]] w fun e w'=>e = .returned (.bool (l.any q))∧Below w.heap.size w w':=by
 have HI:=Hd (index_key q l a cap p1 w hlen hc)
 clear hc
 go_enter Tryz.func172,Tryz.ntmps172
 go_wp2_with (go_at_call 203;refine HI.out.mono ?_;rintro e w2 ⟨i,rfl,hi,hB⟩;have HH:=Hd hi;have HB:=Hd hB;clear hi hB)
 go_ret
 refine ⟨?_,HB.out⟩
 rw [← HH.out];rfl
theorem all_key (is:Tess.Key→Bool) (l:List (Tess.Key)) (a:Option Addr) (cap:Nat) (p1:Value) (w:World) (hlen:l.length≤maxLen)
  (hc:∀ k (hk:k < l.length),∃ b off,a=some ⟨b,off,none⟩∧b < w.heap.size∧∃ c0 c1 c2,(w.cell? ⟨b,off + k * 3,none⟩=some c0∧w.cell? ⟨b,off + k * 3 + 1,none⟩=some c1∧w.cell? ⟨b,off + k * 3 + 2,none⟩=some c2) ∧
    ∀ W,Below w.heap.size w W→Calls Tryz.prog 128 #[(.agg #[c0,c1,c2]),p1] W fun e w'=>e = .returned (.bool (is l[k]))∧Below W.heap.size W w') :
  Calls Tryz.prog 127 #[.slice a l.length cap,.func (.func 128) #[] #[p1]] w fun e w'=>e = .returned (.bool (l.all is))∧Below w.heap.size w w':=by
 have Aa:Below w.heap.size w (w.alloc (.cells #[.func (.func 128) #[] #[p1]] 205)):=(Below.refl _ _).alloc (Nat.le_refl _) _
 have Ad:(w.alloc (.cells #[.func (.func 128) #[] #[p1]] 205)).heap[w.heap.size]? = some (.cells #[.func (.func 128) #[] #[p1]] 205 (0,0)):=heap_alloc_new _ _
 have Af:(w.alloc (.cells #[.func (.func 128) #[] #[p1]] 205)).heap.size=w.heap.size + 1:=by simp
 have HK:=Hd (contains_key (fun x => !is x) l a cap (.pointer (some ⟨w.heap.size,0,none⟩)) (w.alloc (.cells #[.func (.func 128) #[] #[p1]] 205)) hlen fun k hk=>by
  obtain ⟨b,off,ha,hb,c0,c1,c2,⟨g0,g1,g2⟩,Ab⟩:=hc k hk
  refine ⟨b,off,ha,Nat.lt_of_lt_of_le hb Aa.size,c0,c1,c2,⟨(Aa.cell (p:=⟨b,off + k * 3,none⟩) hb).trans g0,(Aa.cell (p:=⟨b,off + k * 3 + 1,none⟩) hb).trans g1,(Aa.cell (p:=⟨b,off + k * 3 + 2,none⟩) hb).trans g2⟩,fun W hW => ?_⟩
  refine one_key _ c0 c1 c2 p1 w.heap.size W (by have:=hW.size;omega) ?_ fun W' hW'=>Ab W' ((Aa.trans (hW.mono (by omega))).trans (hW'.mono (by have:=hW.size;omega)))
  exact cell_of_row _ _ 0 _ _ _ ((hW.block _ (by omega)).trans Ad))
 have Ag:=Hd Aa
 have Ac:(!l.any fun x => !is x)=l.all is:=by simp [List.all_eq_not_any_not]
 have Ae:=Hd Ac
 clear hc Aa Ad Af Ac
 go_enter Tryz.func127,Tryz.ntmps127
 go_wp2_with (go_at_call 172;refine HK.out.mono ?_;rintro e w2 ⟨rfl,hB⟩;have HB:=Hd (Bt Ag.out hB);clear hB)
 go_ret
 rw [← Ae.out]
 exact ⟨rfl,HB.out⟩
end Go.Proofs.YtaddkkkchkdgkaaGreatDoor
