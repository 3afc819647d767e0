/- Joined by mergeK.py: F24, F25, HR, K8, K1p, F31p, F36p, F41p, H2p, K2p, K10, HQ -/
import Derived.Test.YtaddkkkchkdgkaaGreatDoorWC06
import Derived.Test.YtaddkkkchkdgkaaGreatDoorWC01
import Derived.Test.YtaddkkkchkdgkaaGreatDoorRows
import Derived.Laws.Externs
import Derived.ProofKit
import Derived.Sort.Walk0
import Derived.Test.YtaddkkkchkdgkaaGreatDoorWC03
namespace Go.Proofs.YtaddkkkchkdgkaaGreatDoor
open Go.RowKit Go.Sort
open Tess (Fil)
def isList (q:Fil→Bool) (l:List Fil) (a:Option Addr) (p1 p2 p3:Value) (w:World):Prop:=
 ∀ k (hk:k < l.length),∃ b off,a=some ⟨b,off,none⟩∧b < w.heap.size∧∃ c0 c1 c2 c3 c4 c5,(w.cell? ⟨b,off + k * 6,none⟩=some c0∧w.cell? ⟨b,off + k * 6 + 1,none⟩=some c1∧w.cell? ⟨b,off + k * 6 + 2,none⟩=some c2∧w.cell? ⟨b,off + k * 6 + 3,none⟩=some c3∧w.cell? ⟨b,off + k * 6 + 4,none⟩=some c4∧w.cell? ⟨b,off + k * 6 + 5,none⟩=some c5) ∧
   ∀ W,Below w.heap.size w W→Calls Tryz.prog 184 #[.agg #[c0,c1,c2,c3,c4,c5],p1,p2,p3] W fun e w'=>e = .returned (.bool (q l[k]))∧Below W.heap.size W w'
set_option maxHeartbeats 1000000 in
theorem index_is (q:Fil→Bool) (l:List Fil) (a:Option Addr) (cap:Nat) (p1 p2 p3:Value) (w:World) (hlen:l.length≤maxLen) (hc:isList q l a p1 p2 p3 w) :
  Calls Tryz.prog 217 #[.slice a l.length cap,.func (.func 184) #[] #[p1,p2,p3]] w fun e w' => ∃ i:Int,e = .returned (.int .i64 i)∧decide (0≤i)=l.any q∧Below w.heap.size w w':=by
 have HC:=Lib.hid hc
 have hmx:l.length≤9223372036854775807:=by unfold maxLen at hlen;omega
 clear hc hlen
 go_enter Tryz.func217,Tryz.ntmps217
 go_wp2
 go_loopw [8] (fun i wr => ∃ k:Nat,k≤l.length∧i = .int .i64 k∧(∀ j (hj:j < l.length),j < k→q l[j]=false)∧Below w.heap.size w wr) (fun i _=>l.length - (intOf i).toNat)
 case atStart=>exact ⟨0,Nat.zero_le _,rfl,fun j _ h=>absurd h (Nat.not_lt_zero _),Below.refl _ _⟩
 case round=>
  obtain ⟨k,hk,rfl,hall,hB⟩:=hrel
  have HA:=Lib.hid hall
  have HB:=Lib.hid hB
  clear hall hB
  by_cases hlt:k < l.length
  ·obtain ⟨b,off,rfl,hb,c0,c1,c2,c3,c4,c5,⟨g0,g1,g2,g3,g4,g5⟩,hcall⟩:=HC.out k hlt
   have e0:wr.cell? ⟨b,off + k * 6,none⟩=some c0:=(HB.out.cell (p:=⟨b,off + k * 6,none⟩) hb).trans g0
   have e1:wr.cell? ⟨b,off + k * 6 + 1,none⟩=some c1:=(HB.out.cell (p:=⟨b,off + k * 6 + 1,none⟩) hb).trans g1
   have e2:wr.cell? ⟨b,off + k * 6 + 2,none⟩=some c2:=(HB.out.cell (p:=⟨b,off + k * 6 + 2,none⟩) hb).trans g2
   have e3:wr.cell? ⟨b,off + k * 6 + 3,none⟩=some c3:=(HB.out.cell (p:=⟨b,off + k * 6 + 3,none⟩) hb).trans g3
   have e4:wr.cell? ⟨b,off + k * 6 + 4,none⟩=some c4:=(HB.out.cell (p:=⟨b,off + k * 6 + 4,none⟩) hb).trans g4
   have e5:wr.cell? ⟨b,off + k * 6 + 5,none⟩=some c5:=(HB.out.cell (p:=⟨b,off + k * 6 + 5,none⟩) hb).trans g5
   have HX:=Lib.hid hcall
   clear g0 g1 g2 g3 g4 g5 hcall
   have hki:(k:Int) < (l.length:Int):=by omega
   cases hyx:q l[k]
   ·rw [hyx] at HX
    have HY:=Lib.hid hyx
    clear hyx
    go_wp2_with (go_at_call 184;refine (HX.out _ HB.out).mono ?_;rintro e w2 ⟨rfl,hb2⟩;have HB2:=Lib.hid hb2;clear hb2)
    go_roundw
    case rel=>
     refine ⟨k + 1,by omega,by go_num,fun j hj hjk => ?_,Bt HB.out HB2.out⟩
     by_cases hjk':j < k
     ·exact HA.out j hj hjk'
     ·obtain rfl:j=k:=by omega
      exact HY.out
    case measure=>simp [intOf];omega
   ·rw [hyx] at HX
    have HY:=Lib.hid hyx
    clear hyx
    go_wp2_with (go_at_call 184;refine (HX.out _ HB.out).mono ?_;rintro e w2 ⟨rfl,hb2⟩;have HB2:=Lib.hid hb2;clear hb2)
    go_ret
    refine ⟨(k:Int),rfl,?_,Bt HB.out HB2.out⟩
    rw [decide_eq_true (by omega),eq_comm,List.any_eq_true]
    exact ⟨l[k],List.getElem_mem hlt,HY.out⟩
  ·have hki:¬ (k:Int) < (l.length:Int):=by omega
   go_wp2
   go_ret
   refine ⟨-1,rfl,?_,HB.out⟩
   rw [decide_eq_false (by omega),eq_comm,List.any_eq_false]
   intro y hy
   obtain ⟨j,hj,rfl⟩:=List.getElem_of_mem hy
   rw [HA.out j hj (by omega)];simp
theorem contains_is (q:Fil→Bool) (l:List Fil) (a:Option Addr) (cap:Nat) (p1 p2 p3:Value) (w:World) (hlen:l.length≤maxLen) (hc:isList q l a p1 p2 p3 w) :
  Calls Tryz.prog 186 #[.slice a l.length cap,.func (.func 184) #[] #[p1,p2,p3]] w fun e w'=>e = .returned (.bool (l.any q))∧Below w.heap.size w w':=by
 have HI:=Lib.hid (index_is q l a cap p1 p2 p3 w hlen hc)
 clear hc
 go_enter Tryz.func186,Tryz.ntmps186
 go_wp2_with (go_at_call 217;refine HI.out.mono ?_;rintro e w2 ⟨i,rfl,hi,hB⟩;have HH:=Lib.hid hi;have HB:=Lib.hid hB;clear hi hB)
 go_ret
 refine ⟨?_,HB.out⟩
 rw [← HH.out];rfl
def isNotList (q:Fil→Bool) (l:List Fil) (a:Option Addr) (p1:Value) (w:World):Prop:=
 ∀ k (hk:k < l.length),∃ b off,a=some ⟨b,off,none⟩∧b < w.heap.size∧∃ c0 c1 c2 c3 c4 c5,(w.cell? ⟨b,off + k * 6,none⟩=some c0∧w.cell? ⟨b,off + k * 6 + 1,none⟩=some c1∧w.cell? ⟨b,off + k * 6 + 2,none⟩=some c2∧w.cell? ⟨b,off + k * 6 + 3,none⟩=some c3∧w.cell? ⟨b,off + k * 6 + 4,none⟩=some c4∧w.cell? ⟨b,off + k * 6 + 5,none⟩=some c5) ∧
   ∀ W,Below w.heap.size w W→Calls Tryz.prog 185 #[.agg #[c0,c1,c2,c3,c4,c5],p1] W fun e w'=>e = .returned (.bool (q l[k]))∧Below W.heap.size W w'
set_option maxHeartbeats 1000000 in
theorem index_isNot (q:Fil→Bool) (l:List Fil) (a:Option Addr) (cap:Nat) (p1:Value) (w:World) (hlen:l.length≤maxLen) (hc:isNotList q l a p1 w) :
  Calls Tryz.prog 217 #[.slice a l.length cap,.func (.func 185) #[] #[p1]] w fun e w' => ∃ i:Int,e = .returned (.int .i64 i)∧decide (0≤i)=l.any q∧Below w.heap.size w w':=by
 have HC:=Lib.hid hc
 have hmx:l.length≤9223372036854775807:=by unfold maxLen at hlen;omega
 clear hc hlen
 go_enter Tryz.func217,Tryz.ntmps217
 go_wp2
 go_loopw [8] (fun i wr => ∃ k:Nat,k≤l.length∧i = .int .i64 k∧(∀ j (hj:j < l.length),j < k→q l[j]=false)∧Below w.heap.size w wr) (fun i _=>l.length - (intOf i).toNat)
 case atStart=>exact ⟨0,Nat.zero_le _,rfl,fun j _ h=>absurd h (Nat.not_lt_zero _),Below.refl _ _⟩
 case round=>
  obtain ⟨k,hk,rfl,hall,hB⟩:=hrel
  have HA:=Lib.hid hall
  have HB:=Lib.hid hB
  clear hall hB
  by_cases hlt:k < l.length
  ·obtain ⟨b,off,rfl,hb,c0,c1,c2,c3,c4,c5,⟨g0,g1,g2,g3,g4,g5⟩,hcall⟩:=HC.out k hlt
   have e0:wr.cell? ⟨b,off + k * 6,none⟩=some c0:=(HB.out.cell (p:=⟨b,off + k * 6,none⟩) hb).trans g0
   have e1:wr.cell? ⟨b,off + k * 6 + 1,none⟩=some c1:=(HB.out.cell (p:=⟨b,off + k * 6 + 1,none⟩) hb).trans g1
   have e2:wr.cell? ⟨b,off + k * 6 + 2,none⟩=some c2:=(HB.out.cell (p:=⟨b,off + k * 6 + 2,none⟩) hb).trans g2
   have e3:wr.cell? ⟨b,off + k * 6 + 3,none⟩=some c3:=(HB.out.cell (p:=⟨b,off + k * 6 + 3,none⟩) hb).trans g3
   have e4:wr.cell? ⟨b,off + k * 6 + 4,none⟩=some c4:=(HB.out.cell (p:=⟨b,off + k * 6 + 4,none⟩) hb).trans g4
   have e5:wr.cell? ⟨b,off + k * 6 + 5,none⟩=some c5:=(HB.out.cell (p:=⟨b,off + k * 6 + 5,none⟩) hb).trans g5
   have HX:=Lib.hid hcall
   clear g0 g1 g2 g3 g4 g5 hcall
   have hki:(k:Int) < (l.length:Int):=by omega
   cases hyx:q l[k]
   ·rw [hyx] at HX
    have HY:=Lib.hid hyx
    clear hyx
    go_wp2_with (go_at_call 185;refine (HX.out _ HB.out).mono ?_;rintro e w2 ⟨rfl,hb2⟩;have HB2:=Lib.hid hb2;clear hb2)
    go_roundw
    case rel=>
     refine ⟨k + 1,by omega,by go_num,fun j hj hjk => ?_,Bt HB.out HB2.out⟩
     by_cases hjk':j < k
     ·exact HA.out j hj hjk'
     ·obtain rfl:j=k:=by omega
      exact HY.out
    case measure=>simp [intOf];omega
   ·rw [hyx] at HX
    have HY:=Lib.hid hyx
    clear hyx
    go_wp2_with (go_at_call 185;refine (HX.out _ HB.out).mono ?_;rintro e w2 ⟨rfl,hb2⟩;have HB2:=Lib.hid hb2;clear hb2)
    go_ret
    refine ⟨(k:Int),rfl,?_,Bt HB.out HB2.out⟩
    rw [decide_eq_true (by omega),eq_comm,List.any_eq_true]
    exact ⟨l[k],List.getElem_mem hlt,HY.out⟩
  ·have hki:¬ (k:Int) < (l.length:Int):=by omega
   go_wp2
   go_ret
   refine ⟨-1,rfl,?_,HB.out⟩
   rw [decide_eq_false (by omega),eq_comm,List.any_eq_false]
   intro y hy
   obtain ⟨j,hj,rfl⟩:=List.getElem_of_mem hy
   rw [HA.out j hj (by omega)];simp
theorem contains_isNot (q:Fil→Bool) (l:List Fil) (a:Option Addr) (cap:Nat) (p1:Value) (w:World) (hlen:l.length≤maxLen) (hc:isNotList q l a p1 w) :
  Calls Tryz.prog 186 #[.slice a l.length cap,.func (.func 185) #[] #[p1]] w fun e w'=>e = .returned (.bool (l.any q))∧Below w.heap.size w w':=by
 have HI:=Lib.hid (index_isNot q l a cap p1 w hlen hc)
 clear hc
 go_enter Tryz.func186,Tryz.ntmps186
 go_wp2_with (go_at_call 217;refine HI.out.mono ?_;rintro e w2 ⟨i,rfl,hi,hB⟩;have HH:=Lib.hid hi;have HB:=Lib.hid hB;clear hi hB)
 go_ret
 refine ⟨?_,HB.out⟩
 rw [← HH.out];rfl
end Go.Proofs.YtaddkkkchkdgkaaGreatDoor
namespace Go.Proofs.YtaddkkkchkdgkaaGreatDoor
open Go.RowKit Go.Sort
open Tess (Fil)
def ValsAt (p:Nat→Prop) (w:World) (v:Value) (l:List Tess.Val):Prop:=
 ∃ a cap,v = .slice a l.length cap∧l.length≤maxLen∧(∀ x ∈ l,x.s.size≤maxLen)∧(a=none→cap=0) ∧
   (0 < l.length→∃ b off,a=some ⟨b,off,none⟩∧b < w.heap.size∧p b∧∀ j (h:j < l.length),w.cell? ⟨b,off + j * 2,none⟩=some (.string l[j].s)∧w.cell? ⟨b,off + j * 2 + 1,none⟩=some (.bool l[j].null))
theorem ValsAt.ag {p:Nat→Prop} {w w':World} {v:Value} {l:List Tess.Val} (h:ValsAt p w v l) (hg:Ag p w w'):ValsAt p w' v l:=by
 obtain ⟨a,cap,hv,h1,h2,h3,h4⟩:=h
 refine ⟨a,cap,hv,h1,h2,h3,fun hl => ?_⟩
 obtain ⟨b,off,ha,hb,hp,hc⟩:=h4 hl
 refine ⟨b,off,ha,Nat.lt_of_lt_of_le hb hg.1,hp,fun j hj => ?_⟩
 exact ⟨(hg.cell hb hp).trans (hc j hj).1,(hg.cell hb hp).trans (hc j hj).2⟩
theorem ValsAt.weak {p q:Nat→Prop} {w:World} {v:Value} {l:List Tess.Val} (h:ValsAt p w v l) (hpq:∀ b,p b→q b):ValsAt q w v l:=by
 obtain ⟨a,cap,hv,h1,h2,h3,h4⟩:=h
 refine ⟨a,cap,hv,h1,h2,h3,fun hl => ?_⟩
 obtain ⟨b,off,ha,hb,hp,hc⟩:=h4 hl
 exact ⟨b,off,ha,hb,hpq b hp,hc⟩
def Asks (B:Nat) (vs v:Value) (t:Int) (vd:Value) (r:Bool) (W:World):Prop:=
 ∀ W',Below B W W'→Calls Tryz.prog 142 #[vs,v,.int .i64 t,vd] W' fun e w'=>e = .returned (.bool r)∧Below W'.heap.size W' w'
theorem is_any (bs bt bd:Nat) (s0 s1 s2 c0 c1 c2 c3 c4 c5:Value) (t:Int) (da:Option Addr) (dn dc:Nat) (r:Bool) (W:World) (T1 T2 T3:TypeId)
  (hs:W.heap[bs]? = some (.cells #[s0,s1,s2] T1 (0,0))) (ht:W.heap[bt]? = some (.cells #[.int .i64 t] T2 (0,0))) (hd:W.heap[bd]? = some (.cells #[.slice da dn dc] T3 (0,0)))
  (H:Asks W.heap.size (.agg #[s0,s1,s2]) (.agg #[c0,c1,c2,c3,c4,c5]) t (.slice da dn dc) r W) :
  Calls Tryz.prog 184 #[.agg #[c0,c1,c2,c3,c4,c5],.pointer (some ⟨bs,0,none⟩),.pointer (some ⟨bt,0,none⟩),.pointer (some ⟨bd,0,none⟩)] W fun e w'=>e = .returned (.bool r)∧Below W.heap.size W w':=by
 have HH:=Lib.hid H
 clear H
 obtain ⟨k1,k2,hB⟩:=laid1 W (.cells #[c0,c1,c2,c3,c4,c5] 31)
 have HB:=Lib.hid hB
 obtain ⟨x0,x1,x2⟩:=right_cells3 hB hs
 have y0:=(cell_of_box ((hB.block _ (Array.getElem?_eq_some_iff.1 ht).1).trans ht)).1
 have z0:=(cell_of_box ((hB.block _ (Array.getElem?_eq_some_iff.1 hd).1).trans hd)).1
 clear hB k1 k2 hs ht hd
 go_enter Tryz.func184,Tryz.ntmps184
 go_wp2_with (go_at_call 142;refine (HH.out _ HB.out).mono ?_;rintro e w2 ⟨rfl,hB2⟩;have HB2:=Lib.hid hB2;clear hB2)
 go_ret
 exact ⟨rfl,Bt HB.out HB2.out⟩
theorem isNot_any (bi bs bt bd:Nat) (s0 s1 s2 c0 c1 c2 c3 c4 c5:Value) (t:Int) (da:Option Addr) (dn dc:Nat) (r:Bool) (W:World) (T1 T2 T3 T4:TypeId)
  (hi:W.heap[bi]? = some (.cells #[.func (.func 184) #[] #[.pointer (some ⟨bs,0,none⟩),.pointer (some ⟨bt,0,none⟩),.pointer (some ⟨bd,0,none⟩)]] T4 (0,0)))
  (hs:W.heap[bs]? = some (.cells #[s0,s1,s2] T1 (0,0))) (ht:W.heap[bt]? = some (.cells #[.int .i64 t] T2 (0,0))) (hd:W.heap[bd]? = some (.cells #[.slice da dn dc] T3 (0,0)))
  (H:Asks W.heap.size (.agg #[s0,s1,s2]) (.agg #[c0,c1,c2,c3,c4,c5]) t (.slice da dn dc) r W) :
  Calls Tryz.prog 185 #[.agg #[c0,c1,c2,c3,c4,c5],.pointer (some ⟨bi,0,none⟩)] W fun e w'=>e = .returned (.bool (!r))∧Below W.heap.size W w':=by
 obtain ⟨k1,k2,hB⟩:=laid1 W (.cells #[c0,c1,c2,c3,c4,c5] 31)
 have HB:=Lib.hid hB
 have y0:=(cell_of_box ((hB.block _ (Array.getElem?_eq_some_iff.1 hi).1).trans hi)).1
 have HI:=Lib.hid (is_any bs bt bd s0 s1 s2 c0 c1 c2 c3 c4 c5 t da dn dc r _ T1 T2 T3 ((hB.block _ (Array.getElem?_eq_some_iff.1 hs).1).trans hs) ((hB.block _ (Array.getElem?_eq_some_iff.1 ht).1).trans ht) ((hB.block _ (Array.getElem?_eq_some_iff.1 hd).1).trans hd)
  (fun W' h=>H W' (Bt hB h)))
 clear hB k1 k2 hs ht hd H hi
 go_enter Tryz.func185,Tryz.ntmps185
 go_wp2_with (go_at_call 184;refine HI.out.mono ?_;rintro e w2 ⟨rfl,hB2⟩;have HB2:=Lib.hid hB2;clear hB2)
 go_ret
 exact ⟨rfl,Bt HB.out HB2.out⟩
end Go.Proofs.YtaddkkkchkdgkaaGreatDoor
namespace Go.Proofs.YtaddkkkchkdgkaaGreatDoor
open Go.RowKit Go.Sort
def RowsAt {α:Type} (k:Nat) (f:α→List Value) (p:Nat→Prop) (w:World) (v:Value) (l:List α):Prop:=
 ∃ a cap,v = .slice a l.length cap∧l.length≤maxLen∧l.length≤cap∧(a=none→cap=0) ∧
   (0 < l.length→∃ b off,a=some ⟨b,off,none⟩∧b < w.heap.size∧p b∧∀ j (h:j < l.length) i,i < k→w.cell? ⟨b,off + j * k + i,none⟩=(f l[j])[i]?)
section
variable {α:Type} {k:Nat} {f:α→List Value} {p q:Nat→Prop} {w w':World} {v:Value} {l:List α}
theorem RowsAt.ag (h:RowsAt k f p w v l) (hg:Ag p w w'):RowsAt k f p w' v l:=by
 obtain ⟨a,cap,hv,h1,h2,h3,h4⟩:=h
 refine ⟨a,cap,hv,h1,h2,h3,fun hl => ?_⟩
 obtain ⟨b,off,ha,hb,hp,hc⟩:=h4 hl
 exact ⟨b,off,ha,Nat.lt_of_lt_of_le hb hg.1,hp,fun j hj i hi=>(hg.cell hb hp).trans (hc j hj i hi)⟩
theorem RowsAt.weak (hpq:∀ b,p b→q b) (h:RowsAt k f p w v l):RowsAt k f q w v l:=by
 obtain ⟨a,cap,hv,h1,h2,h3,h4⟩:=h
 refine ⟨a,cap,hv,h1,h2,h3,fun hl => ?_⟩
 obtain ⟨b,off,ha,hb,hp,hc⟩:=h4 hl
 exact ⟨b,off,ha,hb,hpq b hp,hc⟩
theorem RowsAt.lt (h:RowsAt k f p w v l):RowsAt k f (fun b=>p b∧b < w.heap.size) w v l:=by
 obtain ⟨a,cap,hv,h1,h2,h3,h4⟩:=h
 refine ⟨a,cap,hv,h1,h2,h3,fun hl => ?_⟩
 obtain ⟨b,off,ha,hb,hp,hc⟩:=h4 hl
 exact ⟨b,off,ha,hb,⟨hp,hb⟩,hc⟩
theorem RowsAt.nil (k:Nat) (f:α→List Value) (p:Nat→Prop) (w:World):RowsAt k f p w (.slice none 0 0) []:=⟨none,0,rfl,Nat.zero_le _,Nat.zero_le _,fun _=>rfl,fun h=>absurd h (Nat.lt_irrefl 0)⟩
theorem RowsAt.take (h:RowsAt k f p w v l) (n:Nat) (hn:n≤l.length):∃ a cap,v = .slice a l.length cap∧RowsAt k f p w (.slice a n cap) (l.take n):=by
 obtain ⟨a,cap,hv,h1,h2,h3,h4⟩:=h
 have e:(l.take n).length=n:=by simp;omega
 refine ⟨a,cap,hv,a,cap,by rw [e],by rw [e];omega,by rw [e];omega,h3,fun hl => ?_⟩
 rw [e] at hl
 obtain ⟨b,off,ha,hb,hp,hc⟩:=h4 (by omega)
 refine ⟨b,off,ha,hb,hp,fun j hj i hi => ?_⟩
 rw [e] at hj
 rw [hc j (by omega) i hi];simp
end
end Go.Proofs.YtaddkkkchkdgkaaGreatDoor
namespace Go.Proofs.YtaddkkkchkdgkaaGreatDoor
open Go.RowKit Go.Sort
theorem can2 {W:World} {B:Nat} {t:TypeId} {x0 x1:Value} (h:W.heap[B]? = some (.cells #[x0,x1] t (0,0))) :
  (W.cell? ⟨B,0,none⟩=some x0∧W.cell? ⟨B,1,none⟩=some x1)∧W.frozen? ⟨B,0,none⟩=false∧W.frozen? ⟨B,1,none⟩=false:=
 ⟨⟨cell_of_row _ _ 0 _ _ _ h,cell_of_row _ _ 1 _ _ _ h⟩,frozen_of_row _ _ 0 _ _ h,frozen_of_row _ _ 1 _ _ h⟩
def wHi (n:Int):Int:=n / 18446744073709551616
def wLo (n:Int):Int:=n % 18446744073709551616
def wideF (n:Int):List Value:=[.int .i64 (wHi n),.int .u64 (wLo n)]
def intF (n:Int):List Value:=[.int .i64 n]
def WOk (n:Int):Prop := -170141183460469231731687303715884105728≤n∧n < 170141183460469231731687303715884105728
def I64 (n:Int):Prop := -9223372036854775808≤n∧n≤9223372036854775807
theorem I64.w {n:Int} (h:I64 n):WOk n:=⟨by have:=h.1;omega,by have:=h.2;omega⟩
theorem wHi_i64 {n:Int} (h:I64 n):n / 9223372036854775808=wHi n:=by
 unfold I64 at h;unfold wHi
 rcases Int.lt_or_le n 0 with h0 | h0 <;> omega
theorem wrap_u64' (n:Int):IntKind.u64.wrap n=n % 18446744073709551616:=by rw [IntKind.wrap_u64]
set_option maxRecDepth 100000 in
theorem wOf_eq (n:Int) (h:I64 n) (w:World):Calls Tryz.prog 26 #[.int .i64 n] w fun e w'=>e = .returned (.agg #[.int .i64 (wHi n),.int .u64 (wLo n)])∧Below w.heap.size w w':=by
 have HH:=Lib.hid (wHi_i64 h)
 go_enter Tryz.func26,Tryz.ntmps26
 go_wp2
 have hB:=(laid1 w (.cells #[.int .i64 (n / 9223372036854775808),.int .u64 (IntKind.u64.wrap n)] 60)).2.2
 have hl:=(laid1 w (.cells #[.int .i64 (n / 9223372036854775808),.int .u64 (IntKind.u64.wrap n)] 60)).1
 have e0:=cell_of_row _ w.heap.size 0 _ _ _ hl
 have e1:=cell_of_row _ w.heap.size 1 _ _ _ hl
 refine bodyPost_ret (v:=.agg #[.int .i64 (n / 9223372036854775808),.int .u64 (IntKind.u64.wrap n)]) (by simp [results,Tryz.results26,go_sem]) rfl ⟨?_,hB⟩
 rw [HH.out,wrap_u64'];rfl
theorem add64_run (x y c:Nat) (hc:c≤1) (w:World) :
  (callFunc 139 #[.int .u64 x,.int .u64 y,.int .u64 c]).run Tryz.prog w =
   .ok (.value (.tuple #[.int .u64 (((x + y + c) % 18446744073709551616:Nat):Int),.int .u64 (((x + y + c) / 18446744073709551616:Nat):Int)])) w:=by
 rw [run_callFunc_extern Tryz.func139 (by kernel_rfl) (by kernel_rfl) (by kernel_rfl) (e:=add64Entry) (by kernel_rfl),run_add64 x y c (by omega) (by omega) (by omega) (by omega)]
 simp only [Result.andThen]
 congr 5 <;> omega
set_option maxRecDepth 100000 in
theorem wAdd_any (n m:Int) (hs:WOk (n + m)) (w:World):Calls Tryz.prog 97 #[.agg #[.int .i64 (wHi n),.int .u64 (wLo n)],.agg #[.int .i64 (wHi m),.int .u64 (wLo m)]] w fun e w'=>e = .returned (.agg #[.int .i64 (wHi (n + m)),.int .u64 (wLo (n + m))])∧Below w.heap.size w w':=by
 obtain ⟨l,hl⟩:∃ l:Nat,wLo n=l:=⟨(wLo n).toNat,by unfold wLo;omega⟩
 obtain ⟨l',hl'⟩:∃ l:Nat,wLo m=l:=⟨(wLo m).toNat,by unfold wLo;omega⟩
 obtain ⟨u,hu⟩:∃ u:Nat,IntKind.u64.wrap (wHi n)=u:=⟨(wHi n % 18446744073709551616).toNat,by rw [wrap_u64'];omega⟩
 obtain ⟨u',hu'⟩:∃ u:Nat,IntKind.u64.wrap (wHi m)=u:=⟨(wHi m % 18446744073709551616).toNat,by rw [wrap_u64'];omega⟩
 have hul:=hu;have hul':=hu'
 rw [wrap_u64'] at hul hul'
 obtain ⟨c,hc⟩:∃ c,(l + l' + 0) / 18446744073709551616=c:=⟨_,rfl⟩
 obtain ⟨x,hx⟩:∃ x,(l + l' + 0) % 18446744073709551616=x:=⟨_,rfl⟩
 obtain ⟨y,hy⟩:∃ y,(u + u' + c) % 18446744073709551616=y:=⟨_,rfl⟩
 have hc1:c≤1:=by unfold wLo at hl hl';omega
 have A1:∀ w,(callFunc 139 #[.int .u64 l,.int .u64 l',.int .u64 0]).run Tryz.prog w = .ok (.value (.tuple #[.int .u64 x,.int .u64 c])) w:=fun w=>by
  have:=add64_run l l' 0 (by omega) w
  rwa [hc,hx] at this
 have A2:∀ w,(callFunc 139 #[.int .u64 u,.int .u64 u',.int .u64 c]).run Tryz.prog w = .ok (.value (.tuple #[.int .u64 y,.int .u64 _])) w:=fun w=>by
  have:=add64_run u u' c hc1 w
  rwa [hy] at this
 have hyw:IntKind.i64.wrap (y:Int)=wHi (n + m):=by
  unfold wLo wHi WOk at *
  rw [IntKind.wrap_i64]
  omega
 have hxl:(x:Int)=wLo (n + m):=by
  unfold wLo at *
  omega
 rw [hl,hl',← hxl]
 generalize wHi (n + m)=z at *
 clear hl hl' hul hul' hx hy hc hxl hs
 generalize wHi n=h at *
 generalize wHi m=h' at *
 obtain ⟨W0,hW0⟩:∃ W0,((w.alloc (.cells #[.int .i64 h,.int .u64 l] 60)).alloc (.cells #[.int .i64 h',.int .u64 l'] 60)).alloc (.cells #[.int .i64 0,.int .u64 0] 60)=W0:=⟨_,rfl⟩
 obtain ⟨k0,k1,k2,kS,kB⟩:=laid3 w (.cells #[.int .i64 h,.int .u64 l] 60) (.cells #[.int .i64 h',.int .u64 l'] 60) (.cells #[.int .i64 0,.int .u64 0] 60)
 rw [hW0] at k0 k1 k2 kS kB
 rw [show w.heap.size + 2=w.heap.size + 1 + 1 by omega] at k2
 obtain ⟨⟨x0,x1⟩,_⟩:=can2 k0
 obtain ⟨⟨y0,y1⟩,_⟩:=can2 k1
 obtain ⟨_,z0,z1⟩:=can2 k2
 go_enter Tryz.func97,Tryz.ntmps97
 go_wp2
 have q1:=heap_setCell_same _ _ 1 _ _ (.int .u64 x) (heap_setCell_same _ _ 0 _ _ (.int .i64 z) k2)
 obtain ⟨⟨e0,e1⟩,_⟩:=can2 q1
 refine bodyPost_ret (v:=.agg #[.int .i64 z,.int .u64 x]) (by simp [results,Tryz.results97,go_sem,e0,e1]) rfl ⟨rfl,(kB.setCell (by show _≤w.heap.size + 1 + 1;omega) _).setCell (by show _≤w.heap.size + 1 + 1;omega) _⟩
end Go.Proofs.YtaddkkkchkdgkaaGreatDoor
namespace Tess.Kl
structure Sto {K:Type} (lt:K→K→Bool):Prop where
 irr:∀ a,lt a a=false
 trans:∀ {a b c},lt a b=true→lt b c=true→lt a c=true
 tri:∀ {a b},lt a b=false→lt b a=false→a=b
section lex
variable {α:Type} (lt:α→α→Bool)
def lex:List α→List α→Bool
 | _,[]=>false
 | [],_ :: _=>true
 | a :: l,b :: m=>lt a b || (!lt b a && lex l m)
theorem lex_sto {lt:α→α→Bool} (h:Sto lt):Sto (lex lt) where
 irr l:=by
  induction l with
  | nil=>rfl
  | cons a l ih=>simp [lex,h.irr,ih]
 trans {l m n}:=by
  induction l generalizing m n with
  | nil=>cases m <;> cases n <;> simp [lex]
  | cons a l ih=>
    cases m with
    | nil=>simp [lex]
    | cons b m=>
      cases n with
      | nil=>simp [lex]
      | cons c n=>
        simp only [lex,Bool.or_eq_true,Bool.and_eq_true,Bool.not_eq_true']
        rintro (h1 | ⟨h1,h2⟩) (h3 | ⟨h3,h4⟩)
        ·exact Or.inl (h.trans h1 h3)
        ·cases hbc:lt b c
         ·obtain rfl:=h.tri hbc h3;exact Or.inl h1
         ·exact Or.inl (h.trans h1 hbc)
        ·cases hab:lt a b
         ·obtain rfl:=h.tri hab h1;exact Or.inl h3
         ·exact Or.inl (h.trans hab h3)
        ·cases hab:lt a b
         ·obtain rfl:=h.tri hab h1
          exact Or.inr ⟨h3,ih h2 h4⟩
         ·cases hbc:lt b c
          ·obtain rfl:=h.tri hbc h3;exact Or.inl hab
          ·exact Or.inl (h.trans hab hbc)
 tri {l m}:=by
  induction l generalizing m with
  | nil=>cases m <;> simp [lex]
  | cons a l ih=>
    cases m with
    | nil=>simp [lex]
    | cons b m=>
      simp only [lex,Bool.or_eq_false_iff,Bool.and_eq_false_iff,Bool.not_eq_false']
      rintro ⟨h1,h2⟩ ⟨h3,h4⟩
      obtain rfl:=h.tri h1 h3
      rcases h2 with h2 | h2
      ·rw [h.irr] at h2;cases h2
      rcases h4 with h4 | h4
      ·rw [h.irr] at h4;cases h4
      rw [ih h2 h4]
def pair {β:Type} (lt':β→β→Bool) (x y:α×β):Bool:=lt x.1 y.1 || (!lt y.1 x.1 && lt' x.2 y.2)
theorem pair_sto {β:Type} {lt:α→α→Bool} {lt':β→β→Bool} (h:Sto lt) (h':Sto lt'):Sto (pair lt lt') where
 irr x:=by simp [pair,h.irr,h'.irr]
 trans {x y z}:=by
  obtain ⟨a,l⟩:=x;obtain ⟨b,m⟩:=y;obtain ⟨c,n⟩:=z
  simp only [pair,Bool.or_eq_true,Bool.and_eq_true,Bool.not_eq_true']
  rintro (h1 | ⟨h1,h2⟩) (h3 | ⟨h3,h4⟩)
  ·exact Or.inl (h.trans h1 h3)
  ·cases hbc:lt b c
   ·obtain rfl:=h.tri hbc h3;exact Or.inl h1
   ·exact Or.inl (h.trans h1 hbc)
  ·cases hab:lt a b
   ·obtain rfl:=h.tri hab h1;exact Or.inl h3
   ·exact Or.inl (h.trans hab h3)
  ·cases hab:lt a b
   ·obtain rfl:=h.tri hab h1
    exact Or.inr ⟨h3,h'.trans h2 h4⟩
   ·cases hbc:lt b c
    ·obtain rfl:=h.tri hbc h3;exact Or.inl hab
    ·exact Or.inl (h.trans hab hbc)
 tri {x y}:=by
  obtain ⟨a,l⟩:=x;obtain ⟨b,m⟩:=y
  simp only [pair,Bool.or_eq_false_iff,Bool.and_eq_false_iff,Bool.not_eq_false']
  rintro ⟨h1,h2⟩ ⟨h3,h4⟩
  obtain rfl:=h.tri h1 h3
  rcases h2 with h2 | h2
  ·rw [h.irr] at h2;cases h2
  rcases h4 with h4 | h4
  ·rw [h.irr] at h4;cases h4
  rw [h'.tri h2 h4]
end lex
section keyed
variable {K P:Type} {lt:K→K→Bool} {add:P→P→P}
def ins (lt:K→K→Bool) (add:P→P→P) (x:K×P):List (K×P)→List (K×P)
 | []=>[x]
 | y :: r=>if lt y.1 x.1 then y :: ins lt add x r else if lt x.1 y.1 then x :: y :: r else (y.1,add y.2 x.2) :: r
def fold (lt:K→K→Bool) (add:P→P→P) (l:List (K×P)):List (K×P):=l.foldl (fun m x=>ins lt add x m) []
def oadd (add:P→P→P):Option P→Option P→Option P
 | none,b=>b
 | a,none=>a
 | some a,some b=>some (add a b)
def sum (add:P→P→P) (c:K→Bool):List (K×P)→Option P
 | []=>none
 | x :: r=>oadd add (if c x.1 then some x.2 else none) (sum add c r)
structure Com (add:P→P→P):Prop where
 comm:∀ a b,add a b=add b a
 assoc:∀ a b c,add (add a b) c=add a (add b c)
def Asc (lt:K→K→Bool) (l:List (K×P)):Prop:=l.Pairwise fun a b=>lt a.1 b.1=true
theorem oadd_none (a:Option P):oadd add a none=a:=by cases a <;> rfl
theorem none_oadd (a:Option P):oadd add none a=a:=by cases a <;> rfl
theorem oadd_comm (h:Com add) (a b:Option P):oadd add a b=oadd add b a:=by
 cases a <;> cases b <;> simp [oadd,h.comm]
theorem oadd_assoc (h:Com add) (a b c:Option P):oadd add (oadd add a b) c=oadd add a (oadd add b c):=by
 cases a <;> cases b <;> cases c <;> simp [oadd,h.assoc]
theorem sum_append (h:Com add) (c:K→Bool) (l m:List (K×P)):sum add c (l ++ m)=oadd add (sum add c l) (sum add c m):=by
 induction l with
 | nil=>rw [List.nil_append,sum,none_oadd]
 | cons x l ih=>rw [List.cons_append,sum,sum,ih,oadd_assoc h]
theorem sum_perm (h:Com add) (c:K→Bool) {l m:List (K×P)} (hp:l.Perm m):sum add c l=sum add c m:=by
 induction hp with
 | nil=>rfl
 | cons x _ ih=>rw [sum,sum,ih]
 | swap x y l=>simp only [sum];rw [← oadd_assoc h,← oadd_assoc h,oadd_comm h (if c y.1 then some y.2 else none)]
 | trans _ _ i1 i2=>rw [i1,i2]
theorem sum_none {c:K→Bool} {l:List (K×P)} (h:∀ x ∈ l,c x.1=false):sum add c l=none:=by
 induction l with
 | nil=>rfl
 | cons x l ih=>rw [sum,h x (by simp),ih fun y hy=>h y (by simp [hy])];rfl
theorem sum_some {c:K→Bool} {l:List (K×P)} {x:K×P} (hx:x ∈ l) (hc:c x.1=true):sum add c l≠none:=by
 induction l with
 | nil=>cases hx
 | cons y l ih=>
   rw [sum]
   rcases List.mem_cons.1 hx with rfl | h
   ·rw [hc,if_pos rfl];cases sum add c l <;> simp [oadd]
   ·have:=ih h
    cases hs:sum add c l
    ·exact absurd hs this
    ·cases (if c y.1 then some y.2 else none) <;> simp [oadd]
theorem sum_ins (hk:Sto lt) (h:Com add) (c:K→Bool) (x:K×P) (l:List (K×P)):sum add c (ins lt add x l)=oadd add (sum add c l) (if c x.1 then some x.2 else none):=by
 induction l with
 | nil=>simp only [ins,sum,oadd_none,none_oadd]
 | cons y l ih=>
   rw [ins]
   split
   ·rw [sum,sum,ih,oadd_assoc h]
   split
   ·rw [sum,oadd_comm h]
   ·rename_i h1 h2
    obtain e:y.1=x.1:=hk.tri (by simpa using h1) (by simpa using h2)
    rw [sum,sum,← e,oadd_assoc h,oadd_comm h (sum add c l),← oadd_assoc h]
    cases c y.1 <;> rfl
theorem sum_foldl (hk:Sto lt) (h:Com add) (c:K→Bool) (l m:List (K×P)):sum add c (l.foldl (fun m x=>ins lt add x m) m)=oadd add (sum add c m) (sum add c l):=by
 induction l generalizing m with
 | nil=>rw [List.foldl_nil,sum,oadd_none]
 | cons x l ih=>rw [List.foldl_cons,ih,sum_ins hk h,oadd_assoc h];rfl
theorem sum_fold (hk:Sto lt) (h:Com add) (c:K→Bool) (l:List (K×P)):sum add c (fold lt add l)=sum add c l:=by
 rw [fold,sum_foldl hk h,sum,none_oadd]
theorem mem_ins {x y:K×P} {l:List (K×P)} (h:y ∈ ins lt add x l):y.1=x.1∨∃ z ∈ l,z.1=y.1:=by
 induction l with
 | nil=>simp only [ins,List.mem_singleton] at h;exact Or.inl (by rw [h])
 | cons z l ih=>
   rw [ins] at h
   split at h
   ·rcases List.mem_cons.1 h with rfl | h
    ·exact Or.inr ⟨_,by simp,rfl⟩
    ·rcases ih h with h | ⟨u,hu,e⟩
     ·exact Or.inl h
     ·exact Or.inr ⟨u,by simp [hu],e⟩
   split at h
   ·rcases List.mem_cons.1 h with rfl | h
    ·exact Or.inl rfl
    ·exact Or.inr ⟨y,h,rfl⟩
   ·rcases List.mem_cons.1 h with rfl | h
    ·exact Or.inr ⟨z,by simp,rfl⟩
    ·exact Or.inr ⟨y,by simp [h],rfl⟩
theorem ins_asc (hk:Sto lt) (x:K×P) {l:List (K×P)} (h:Asc lt l):Asc lt (ins lt add x l):=by
 induction l with
 | nil=>exact List.pairwise_singleton _ _
 | cons y l ih=>
   obtain ⟨h1,h2⟩:=List.pairwise_cons.1 h
   rw [ins]
   split
   ·rename_i hyx
    refine List.pairwise_cons.2 ⟨fun z hz => ?_,ih h2⟩
    rcases mem_ins hz with e | ⟨u,hu,e⟩
    ·rw [e];exact hyx
    ·rw [← e];exact h1 u hu
   split
   ·rename_i hxy
    refine List.pairwise_cons.2 ⟨fun z hz => ?_,h⟩
    rcases List.mem_cons.1 hz with rfl | hz
    ·exact hxy
    ·exact hk.trans hxy (h1 z hz)
   ·exact List.pairwise_cons.2 ⟨h1,h2⟩
theorem foldl_asc (hk:Sto lt) (l:List (K×P)) {m:List (K×P)} (h:Asc lt m):Asc lt (l.foldl (fun m x=>ins lt add x m) m):=by
 induction l generalizing m with
 | nil=>exact h
 | cons x l ih=>exact ih (ins_asc hk x h)
theorem fold_asc (hk:Sto lt) (l:List (K×P)):Asc lt (fold lt add l):=foldl_asc hk l List.Pairwise.nil
def at' (lt:K→K→Bool) (k:K) (x:K):Bool := !lt x k && !lt k x
theorem at_iff (hk:Sto lt) {k x:K}:at' lt k x=true↔x=k:=by
 unfold at'
 constructor
 ·intro h
  simp only [Bool.and_eq_true,Bool.not_eq_true'] at h
  exact hk.tri h.1 h.2
 ·rintro rfl
  simp [hk.irr]
theorem sum_at (hk:Sto lt) {x:K×P} {l:List (K×P)} (h:Asc lt (x :: l)):sum add (at' lt x.1) (x :: l)=some x.2:=by
 obtain ⟨h1,_⟩:=List.pairwise_cons.1 h
 rw [sum,sum_none (c:=at' lt x.1) (l:=l),(at_iff hk).2 rfl]
 ·rfl
 ·intro y hy
  have:=h1 y hy
  cases he:at' lt x.1 y.1
  ·rfl
  ·rw [(at_iff hk).1 he,hk.irr] at this;cases this
theorem ext (hk:Sto lt) {l m:List (K×P)} (hl:Asc lt l) (hm:Asc lt m) (h:∀ k,sum add (at' lt k) l=sum add (at' lt k) m):l=m:=by
 induction l generalizing m with
 | nil=>
   cases m with
   | nil=>rfl
   | cons y m=>have:=h y.1;rw [sum_at hk hm] at this;cases this
 | cons x l ih=>
   cases m with
   | nil=>have:=h x.1;rw [sum_at hk hl] at this;cases this
   | cons y m=>
     obtain ⟨a1,a2⟩:=List.pairwise_cons.1 hl
     obtain ⟨b1,b2⟩:=List.pairwise_cons.1 hm
     have hxy:x.1=y.1:=by
      have hx:=h x.1
      have hy:=h y.1
      rw [sum_at hk hl] at hx
      rw [sum_at hk hm] at hy
      cases e1:lt x.1 y.1
      ·cases e2:lt y.1 x.1
       ·exact hk.tri e1 e2
       ·exfalso
        have:sum add (at' lt y.1) (x :: l)=none:=sum_none fun z hz=>by
         cases he:at' lt y.1 z.1
         ·rfl
         ·have:=(at_iff hk).1 he
          rcases List.mem_cons.1 hz with rfl | hz
          ·rw [this,hk.irr] at e2;cases e2
          ·have h3:=hk.trans e2 (a1 z hz);rw [this,hk.irr] at h3;cases h3
        rw [this] at hy;cases hy
      ·exfalso
       have:sum add (at' lt x.1) (y :: m)=none:=sum_none fun z hz=>by
        cases he:at' lt x.1 z.1
        ·rfl
        ·have:=(at_iff hk).1 he
         rcases List.mem_cons.1 hz with rfl | hz
         ·rw [this,hk.irr] at e1;cases e1
         ·have h3:=hk.trans e1 (b1 z hz);rw [this,hk.irr] at h3;cases h3
       rw [this] at hx;cases hx
     have hxy2:x.2=y.2:=by
      have hx:=h x.1
      rw [sum_at hk hl,hxy,sum_at hk hm] at hx
      exact Option.some.inj hx
     have hxe:x=y:=Prod.ext hxy hxy2
     subst hxe
     congr 1
     refine ih a2 b2 fun k => ?_
     have hk':=h k
     rw [sum,sum] at hk'
     cases hc:at' lt k x.1
     ·rw [hc] at hk'
      simpa [none_oadd] using hk'
     ·have e:=(at_iff hk).1 hc
      rw [sum_none (l:=l),sum_none (l:=m)]
      ·intro z hz
       cases he:at' lt k z.1
       ·rfl
       ·have h3:=b1 z hz;rw [(at_iff hk).1 he,e,hk.irr] at h3;cases h3
      ·intro z hz
       cases he:at' lt k z.1
       ·rfl
       ·have h3:=a1 z hz;rw [(at_iff hk).1 he,e,hk.irr] at h3;cases h3
theorem fold_congr (hk:Sto lt) (h:Com add) {l m:List (K×P)} (he:∀ k,sum add (at' lt k) l=sum add (at' lt k) m):fold lt add l=fold lt add m:=
 ext (add:=add) hk (fold_asc hk l) (fold_asc hk m) fun k=>by rw [sum_fold hk h,sum_fold hk h,he k]
end keyed
section regroup
variable {K L P:Type} {lt:K→K→Bool} {lt':L→L→Bool} {add:P→P→P}
def re (g:K→Option L) (l:List (K×P)):List (L×P):=l.filterMap fun x=>(g x.1).map fun k=>(k,x.2)
theorem sum_re (g:K→Option L) (c:L→Bool) (l:List (K×P)):sum add c (re g l)=sum add (fun k=>match g k with | some k'=>c k' | none=>false) l:=by
 induction l with
 | nil=>rfl
 | cons x l ih=>
   unfold re at *
   rw [List.filterMap_cons]
   cases hg:g x.1 with
   | none=>simp only [Option.map_none,hg,sum,ih];rw [if_neg (by simp),none_oadd]
   | some _=>simp only [Option.map_some,hg,sum,ih]
theorem fold_re (hk:Sto lt) (hl:Sto lt') (h:Com add) (g:K→Option L) (l:List (K×P)):fold lt' add (re g (fold lt add l))=fold lt' add (re g l):=
 fold_congr hl h fun k=>by rw [sum_re,sum_re,sum_fold hk h]
theorem re_append (g:K→Option L) (l m:List (K×P)):re g (l ++ m)=re g l ++ re g m:=List.filterMap_append
end regroup
end Tess.Kl
namespace Tess
open Go
def valOk (v:Val):Bool:=(v.null && decide (v.s=ByteArray.empty)) || (!v.null && decide (v.s.size≤100))
def rowFits (s:Sch) (t:Int) (l:List Val) (n:Nat):Bool:=schOk s && decide (0≤t) && decide (t≤1000000000000) && decide (l.length=s.dims.length) && decide (n=s.mets.length) && l.all valOk
end Tess
namespace Tess
open Go
def metW (s:Sch) (x:ByteArray):Nat×Bool:=placeW (schOk s) s.mets x
def coarser (a b:Int):Bool:=Fil.grainOk a && Fil.grainOk b && decide (b % a=0)
def within (n a b:Int):Bool:=decide (a≤n) && decide (n≤b)
structure Agg where
 kind:Int
 met:ByteArray
structure Cond where
 pos:Int
 op:Int
 n:Int
structure Key where
 agg:Bool
 pos:Int
 desc:Bool
structure Que where
 aggs:List Agg
 names:List ByteArray
 mode:Int
 sets:List (List ByteArray)
 every:Int
 fil:Fil
 conds:List Cond
 keys:List Key
 limit:Int
namespace Que
def isTyped (s:Sch) (a:Agg):Bool:=if a.kind=1 then decide (a.met=ByteArray.empty) else (metW s a.met).2 && decide (1 < a.kind) && decide (a.kind≤5)
def nameAt (all:List ByteArray) (x:ByteArray):Int:=if hasW all x then (idxW all x:Nat) else -1
def inOrd (all:List ByteArray) (last:Int):List ByteArray→Bool
 | []=>true
 | x :: r=>if nameAt all x≤last then false else inOrd all (nameAt all x) r
def inOrder (l all:List ByteArray):Bool:=inOrd all (-1) l
def sizesOk (q:Que):Bool:=
 within q.aggs.length 1 6 && decide (q.names.length≤6) && within q.mode 1 4 && within q.sets.length (if q.mode=4 then 1 else 0) (if q.mode=4 then 8 else 0) && decide (q.conds.length≤4) && decide (q.keys.length≤4) && within q.limit 0 1000
def condOk (n:Nat) (c:Cond):Bool:=within c.pos 0 ((n:Int) - 1) && within c.op 1 6
def keyOk (na nb:Nat) (k:Key):Bool:=if k.agg then within k.pos 0 ((na:Int) - 1) else within k.pos 0 ((nb:Int) - 1)
def isOf (s:Sch) (q:Que):Bool:=
 sizesOk q && q.aggs.all (isTyped s) && inOrder q.names q.names && q.names.all (fun x=>(dimW s x).2) && q.sets.all (fun l=>inOrder l q.names) && q.conds.all (condOk q.aggs.length) && q.keys.all (keyOk q.aggs.length q.names.length)
def check (s:Sch) (q:Que):Nat:=if schOk s then (if isOf s q then (if decide (q.every≠0) && !coarser s.grain q.every then 110 else Fil.checkE s q.fil) else 152) else 100
def setFrom (l:List ByteArray):Nat→List ByteArray→Nat
 | _,[]=>0
 | i,x :: r=>(if hasW l x then 0 else 2 ^ i) + setFrom l (i + 1) r
def setOf (names l:List ByteArray):Nat:=setFrom l 0 names
end Que
end Tess
namespace Tess
open Go Kl
abbrev DV:=Option ByteArray
def Val.c (v:Val):DV:=if v.null then none else some v.s
def valOf:DV→Val
 | none=>⟨ByteArray.empty,true⟩
 | some b=>⟨b,false⟩
theorem c_valOf (x:DV):(valOf x).c=x:=by cases x <;> rfl
theorem valOf_c {v:Val} (h:valOk v=true):valOf v.c=v:=by
 obtain ⟨s,b⟩:=v
 cases b
 ·rfl
 ·simp only [valOk,Bool.true_and,Bool.not_true,Bool.false_and,Bool.or_false,decide_eq_true_eq] at h
  subst h;rfl
theorem valOf_cs {l:List Val} (h:l.all valOk=true):(l.map Val.c).map valOf=l:=by
 rw [List.map_map]
 refine (List.map_congr_left fun v hv => ?_).trans (List.map_id l)
 exact valOf_c (List.all_eq_true.1 h v hv)
theorem blT (a b:ByteArray):bl a b=decide (a.toList < b.toList):=Go.Proofs.bytesLess_eq _ _
def vLt:DV→DV→Bool
 | _,none=>false
 | none,some _=>true
 | some a,some b=>bl a b
theorem v_sto:Sto vLt where
 irr a:=by
  cases a with
  | none=>rfl
  | some a=>rw [vLt,blT];exact decide_eq_false (List.lt_irrefl _)
 trans {a b c}:=by
  cases a <;> cases b <;> cases c <;> simp only [vLt,Bool.false_eq_true,false_implies,implies_true]
  rw [blT,blT,blT]
  intro h h'
  exact decide_eq_true (List.lt_trans (of_decide_eq_true h) (of_decide_eq_true h'))
 tri {a b}:=by
  cases a <;> cases b <;> simp only [vLt,Bool.true_eq_false,false_implies,implies_true]
  rw [blT,blT]
  intro h h'
  have:=List.le_antisymm (List.not_lt.1 (of_decide_eq_false h')) (List.not_lt.1 (of_decide_eq_false h))
  rw [ByteArray.toList_eq,ByteArray.toList_eq] at this
  rw [ByteArray.ext (Array.toList_inj.1 this)]
def iLt (a b:Int):Bool:=decide (a < b)
theorem i_sto:Sto iLt where
 irr a:=by simp [iLt]
 trans {a b c}:=by simp only [iLt,decide_eq_true_eq];omega
 tri {a b}:=by simp only [iLt,decide_eq_false_iff_not];omega
abbrev CK:=Int×List DV
def ckLt:CK→CK→Bool:=pair iLt (lex vLt)
theorem ck_sto:Sto ckLt:=pair_sto i_sto (lex_sto v_sto)
structure Pay where
 n:Int
 sums:List Int
 mins:List Int
 maxs:List Int
def Pay.add (a b:Pay):Pay:=⟨a.n + b.n,List.zipWith (· + ·) a.sums b.sums,List.zipWith min a.mins b.mins,List.zipWith max a.maxs b.maxs⟩
theorem zip_comm {f:Int→Int→Int} (h:∀ a b,f a b=f b a) (l m:List Int):List.zipWith f l m=List.zipWith f m l:=by
 induction l generalizing m with
 | nil=>simp
 | cons a l ih=>cases m with
   | nil=>simp
   | cons b m=>simp [h a b,ih]
theorem zip_assoc {f:Int→Int→Int} (h:∀ a b c,f (f a b) c=f a (f b c)) (l m n:List Int):List.zipWith f (List.zipWith f l m) n=List.zipWith f l (List.zipWith f m n):=by
 induction l generalizing m n with
 | nil=>simp
 | cons a l ih=>cases m with
   | nil=>simp
   | cons b m=>cases n with
     | nil=>simp
     | cons c n=>simp [h a b c,ih]
theorem pay_com:Com Pay.add where
 comm a b:=by
  obtain ⟨a1,a2,a3,a4⟩:=a;obtain ⟨b1,b2,b3,b4⟩:=b
  simp only [Pay.add,Pay.mk.injEq]
  exact ⟨Int.add_comm _ _,zip_comm Int.add_comm _ _,zip_comm Int.min_comm _ _,zip_comm Int.max_comm _ _⟩
 assoc a b c:=by
  obtain ⟨a1,a2,a3,a4⟩:=a;obtain ⟨b1,b2,b3,b4⟩:=b;obtain ⟨c1,c2,c3,c4⟩:=c
  simp only [Pay.add,Pay.mk.injEq]
  exact ⟨Int.add_assoc _ _ _,zip_assoc Int.add_assoc _ _ _,zip_assoc (fun a b c=>by omega) _ _ _,zip_assoc (fun a b c=>by omega) _ _ _⟩
structure Row where
 t:Int
 l:List Val
 ns:List Int
def Row.ok (s:Sch) (r:Row):Bool:=rowFits s r.t r.l r.ns.length
def Row.kp (g:Int) (r:Row):CK×Pay:=((r.t - r.t % g,r.l.map Val.c),⟨1,r.ns,r.ns,r.ns⟩)
def rollP (g:Int) (rows:List Row):List (CK×Pay):=fold ckLt Pay.add (rows.map (Row.kp g))
def cutE (e t:Int):Int:=if 0 < e then t - t % e else 0
def keyFrom (s:Sch) (set:Nat) (d:List DV):Nat→List ByteArray→List DV
 | _,[]=>[]
 | i,x :: r=>(if set / 2 ^ i % 2=0 then d.getD (dimW s x).1 none else none) :: keyFrom s set d (i + 1) r
def gOf (s:Sch) (q:Que) (set:Nat) (k:CK):Option CK:=if Fil.holds s k.1 (k.2.map valOf) q.fil then some (cutE q.every k.1,keyFrom s set k.2 0 q.names) else none
def groupsP (s:Sch) (q:Que) (set:Nat) (cells:List (CK×Pay)):List (CK×Pay):=fold ckLt Pay.add (re (gOf s q set) cells)
section
variable (s:Sch) (q:Que) (set:Nat) (g:Int)
theorem groups_roll (rows:List Row):groupsP s q set (rollP g rows)=groupsP s q set (rows.map (Row.kp g)):=fold_re ck_sto ck_sto pay_com _ _
theorem sum_cells (c:CK→Bool) (rows:List Row):sum Pay.add c (re (gOf s q set) (rollP g rows))=sum Pay.add c (re (gOf s q set) (rows.map (Row.kp g))):=by
 rw [sum_re,sum_re,rollP,sum_fold ck_sto pay_com]
theorem groups_two (a b:List Row):groupsP s q set (rollP g a ++ rollP g b)=groupsP s q set (rollP g (a ++ b)):=by
 rw [groups_roll]
 refine fold_congr ck_sto pay_com fun k => ?_
 rw [re_append,sum_append pay_com,sum_cells,sum_cells,← sum_append pay_com,← re_append,List.map_append]
theorem groups_swap (a b:List Row):groupsP s q set (rollP g b ++ rollP g a)=groupsP s q set (rollP g (a ++ b)):=by
 rw [groups_roll]
 refine fold_congr ck_sto pay_com fun k => ?_
 rw [re_append,sum_append pay_com,sum_cells,sum_cells,oadd_comm pay_com,← sum_append pay_com,← re_append,List.map_append]
end
theorem check_cases {s:Sch} {q:Que} (hc:Que.check s q=0):schOk s=true∧Que.isOf s q=true∧(q.every=0∨coarser s.grain q.every=true)∧Fil.checkE s q.fil=0:=by
 unfold Que.check at hc
 split at hc
 ·rename_i h1
  split at hc
  ·rename_i h2
   split at hc
   ·cases hc
   ·rename_i h3
    refine ⟨h1,h2,?_,hc⟩
    by_cases h0:q.every=0
    ·exact Or.inl h0
    ·simp only [h0,ne_eq,not_false_eq_true,decide_true,Bool.true_and,Bool.not_eq_true',Bool.not_eq_false] at h3
     exact Or.inr h3
  ·cases hc
 ·cases hc
theorem ok_parts {s:Sch} {r:Row} (h:Row.ok s r=true):schOk s=true∧(0≤r.t∧r.t≤1000000000000)∧r.l.length=s.dims.length∧r.ns.length=s.mets.length∧r.l.all valOk=true:=by
 simp only [Row.ok,rowFits,Bool.and_eq_true,decide_eq_true_eq] at h
 exact ⟨h.1.1.1.1.1,⟨h.1.1.1.1.2,h.1.1.1.2⟩,h.1.1.2,h.1.2,h.2⟩
end Tess
namespace Go.Proofs.YtaddkkkchkdgkaaGreatDoor
open Go.RowKit Go.Sort
open Tess (CK Pay)
theorem addr_add (b off n:Nat):(⟨b,off,none⟩:Addr).add n=⟨b,off + n,none⟩:=by unfold Addr.add;split <;> simp_all
def ListAt {α:Type} (k:Nat) (R:World→List Value→α→Prop) (p:Nat→Prop) (w:World) (v:Value) (l:List α):Prop:=
 ∃ a cap,v = .slice a l.length cap∧l.length≤maxLen∧l.length≤cap∧(a=none→cap=0) ∧
   (0 < l.length→∃ b off,a=some ⟨b,off,none⟩∧b < w.heap.size∧p b∧∀ j (h:j < l.length),∃ cs,cs.length=k∧R w cs l[j]∧∀ i,i < k→w.cell? ⟨b,off + j * k + i,none⟩=cs[i]?)
section
variable {α:Type} {k:Nat} {R S:World→List Value→α→Prop} {p q:Nat→Prop} {w w':World} {v:Value} {l:List α}
theorem ListAt.ag (h:ListAt k R p w v l) (hg:Ag p w w') (hR:∀ cs x,x ∈ l→R w cs x→R w' cs x):ListAt k R p w' v l:=by
 obtain ⟨a,cap,hv,h1,h2,h3,h4⟩:=h
 refine ⟨a,cap,hv,h1,h2,h3,fun hl => ?_⟩
 obtain ⟨b,off,ha,hb,hp,hc⟩:=h4 hl
 refine ⟨b,off,ha,Nat.lt_of_lt_of_le hb hg.1,hp,fun j hj => ?_⟩
 obtain ⟨cs,e1,e2,e3⟩:=hc j hj
 exact ⟨cs,e1,hR _ _ (List.getElem_mem hj) e2,fun i hi=>(hg.cell hb hp).trans (e3 i hi)⟩
theorem ListAt.weak (h:ListAt k R p w v l) (hpq:∀ b,p b→q b) (hR:∀ cs x,x ∈ l→R w cs x→S w cs x):ListAt k S q w v l:=by
 obtain ⟨a,cap,hv,h1,h2,h3,h4⟩:=h
 refine ⟨a,cap,hv,h1,h2,h3,fun hl => ?_⟩
 obtain ⟨b,off,ha,hb,hp,hc⟩:=h4 hl
 refine ⟨b,off,ha,hb,hpq b hp,fun j hj => ?_⟩
 obtain ⟨cs,e1,e2,e3⟩:=hc j hj
 exact ⟨cs,e1,hR _ _ (List.getElem_mem hj) e2,e3⟩
theorem ListAt.nil (k:Nat) (R:World→List Value→α→Prop) (p:Nat→Prop) (w:World):ListAt k R p w (.slice none 0 0) []:=⟨none,0,rfl,Nat.zero_le _,Nat.zero_le _,fun _=>rfl,fun h=>absurd h (Nat.lt_irrefl 0)⟩
theorem ListAt.open (h:ListAt k R p w v l):∃ a cap,v = .slice a l.length cap∧l.length≤cap∧l.length≤maxLen∧(a=none→cap=0)∧∀ j (hj:j < l.length),∃ b off,a=some ⟨b,off,none⟩∧b < w.heap.size∧p b∧∃ cs,cs.length=k∧R w cs l[j]∧∀ i,i < k→w.cell? ⟨b,off + j * k + i,none⟩=cs[i]? := by
 obtain ⟨a,cap,hv,h1,h2,h3,h4⟩:=h
 refine ⟨a,cap,hv,h2,h1,h3,fun j hj => ?_⟩
 obtain ⟨b,off,ha,hb,hp,hc⟩:=h4 (by omega)
 exact ⟨b,off,ha,hb,hp,hc j hj⟩
theorem ListAt.slice (h:ListAt k R p w v l) (i j:Nat) (hij:i≤j) (hj:j≤l.length):∃ a cap,v = .slice a l.length cap∧l.length≤cap∧l.length≤maxLen∧ListAt k R p w (.slice (if cap=i then a else a.map (·.add (i * k))) (j - i) (cap - i)) ((l.take j).drop i):=by
 obtain ⟨a,cap,hv,h1,h2,h3,h4⟩:=h
 have e:((l.take j).drop i).length=j - i:=by simp;omega
 refine ⟨a,cap,hv,h2,h1,_,cap - i,by rw [e],by rw [e];omega,by rw [e];omega,fun hz => ?_,fun hl => ?_⟩
 ·split at hz
  ·omega
  ·cases a with
   | none=>have:=h3 rfl;omega
   | some x=>cases hz
 ·rw [e] at hl
  obtain ⟨b,off,ha,hb,hp,hc⟩:=h4 (by omega)
  rw [if_neg (by omega),ha]
  refine ⟨b,off + i * k,by rw [Option.map_some,addr_add],hb,hp,fun m hm => ?_⟩
  rw [e] at hm
  obtain ⟨cs,e1,e2,e3⟩:=hc (i + m) (by omega)
  refine ⟨cs,e1,by simpa using e2,fun n hn => ?_⟩
  rw [← e3 n hn,Nat.add_mul]
  congr 2
  omega
end
structure PayAt (p:Nat→Prop) (w:World) (vs vm vx:Value) (x:Pay):Prop where
 sums:RowsAt 2 wideF p w vs x.sums
 mins:RowsAt 1 intF p w vm x.mins
 maxs:RowsAt 1 intF p w vx x.maxs
def CelAt (p:Nat→Prop) (w:World) (cs:List Value) (x:CK×Pay):Prop:=∃ vd vs vm vx,cs=[.int .i64 x.1.1,vd,.int .i64 x.2.n,vs,vm,vx]∧ValsAt p w vd (x.1.2.map Tess.valOf)∧PayAt p w vs vm vx x.2
def GrpAt (p:Nat→Prop) (w:World) (cs:List Value) (x:Int×CK×Pay):Prop:=∃ vd vs vm vx,cs=[.int .i64 x.1,.int .i64 x.2.1.1,vd,.int .i64 x.2.2.n,vs,vm,vx]∧ValsAt p w vd (x.2.1.2.map Tess.valOf)∧PayAt p w vs vm vx x.2.2
section
variable {p q:Nat→Prop} {w w':World} {v vs vm vx:Value} {cs:List Value} {x:Pay} {c:CK×Pay} {g:Int×CK×Pay}
theorem PayAt.ag (h:PayAt p w vs vm vx x) (hg:Ag p w w'):PayAt p w' vs vm vx x:=⟨h.sums.ag hg,h.mins.ag hg,h.maxs.ag hg⟩
theorem PayAt.weak (h:PayAt p w vs vm vx x) (hpq:∀ b,p b→q b):PayAt q w vs vm vx x:=⟨h.sums.weak hpq,h.mins.weak hpq,h.maxs.weak hpq⟩
theorem CelAt.ag (h:CelAt p w cs c) (hg:Ag p w w'):CelAt p w' cs c:=let ⟨_,_,_,_,e,h1,h2⟩:=h;⟨_,_,_,_,e,h1.ag hg,h2.ag hg⟩
theorem CelAt.weak (h:CelAt p w cs c) (hpq:∀ b,p b→q b):CelAt q w cs c:=let ⟨_,_,_,_,e,h1,h2⟩:=h;⟨_,_,_,_,e,h1.weak hpq,h2.weak hpq⟩
theorem CelAt.len (h:CelAt p w cs c):cs.length=6:=by obtain ⟨_,_,_,_,rfl,_⟩:=h;rfl
theorem GrpAt.ag (h:GrpAt p w cs g) (hg:Ag p w w'):GrpAt p w' cs g:=let ⟨_,_,_,_,e,h1,h2⟩:=h;⟨_,_,_,_,e,h1.ag hg,h2.ag hg⟩
theorem GrpAt.weak (h:GrpAt p w cs g) (hpq:∀ b,p b→q b):GrpAt q w cs g:=let ⟨_,_,_,_,e,h1,h2⟩:=h;⟨_,_,_,_,e,h1.weak hpq,h2.weak hpq⟩
def CelsAt (p:Nat→Prop):World→Value→List (CK×Pay)→Prop:=ListAt 6 (CelAt p) p
def GrpsAt (p:Nat→Prop):World→Value→List (Int×CK×Pay)→Prop:=ListAt 7 (GrpAt p) p
theorem CelsAt.ag {l:List (CK×Pay)} (h:CelsAt p w v l) (hg:Ag p w w'):CelsAt p w' v l:=ListAt.ag h hg fun _ _ _ h=>h.ag hg
theorem CelsAt.weak {l:List (CK×Pay)} (h:CelsAt p w v l) (hpq:∀ b,p b→q b):CelsAt q w v l:=ListAt.weak h hpq fun _ _ _ h=>h.weak hpq
theorem GrpsAt.ag {l:List (Int×CK×Pay)} (h:GrpsAt p w v l) (hg:Ag p w w'):GrpsAt p w' v l:=ListAt.ag h hg fun _ _ _ h=>h.ag hg
theorem GrpsAt.weak {l:List (Int×CK×Pay)} (h:GrpsAt p w v l) (hpq:∀ b,p b→q b):GrpsAt q w v l:=ListAt.weak h hpq fun _ _ _ h=>h.weak hpq
end
end Go.Proofs.YtaddkkkchkdgkaaGreatDoor
namespace Go.Proofs.YtaddkkkchkdgkaaGreatDoor
open Go.RowKit Go.Sort
open Tess (Fil Que)
def aggF (a:Tess.Agg):List Value:=[.int .i64 a.kind,.string a.met]
def condF (c:Tess.Cond):List Value:=[.int .i64 c.pos,.int .i64 c.op,.int .i64 c.n]
def keyF (k:Tess.Key):List Value:=[.bool k.agg,.int .i64 k.pos,.bool k.desc]
def SetsAt (p:Nat→Prop) (w:World) (v:Value) (l:List (List ByteArray)):Prop:=
 ∃ a cap,v = .slice a l.length cap∧l.length≤maxLen∧l.length≤cap∧(a=none→cap=0) ∧
   (0 < l.length→∃ b off,a=some ⟨b,off,none⟩∧b < w.heap.size∧p b∧∀ j (h:j < l.length),∃ c,w.cell? ⟨b,off + j,none⟩=some c∧SlP p w c (l[j].map .string)∧∀ x ∈ l[j],x.size≤maxLen)
section
variable {p q:Nat→Prop} {w w':World} {v:Value} {l:List (List ByteArray)}
theorem SetsAt.ag (h:SetsAt p w v l) (hg:Ag p w w'):SetsAt p w' v l:=by
 obtain ⟨a,cap,hv,h1,h2,h3,h4⟩:=h
 refine ⟨a,cap,hv,h1,h2,h3,fun hl => ?_⟩
 obtain ⟨b,off,ha,hb,hp,hc⟩:=h4 hl
 refine ⟨b,off,ha,Nat.lt_of_lt_of_le hb hg.1,hp,fun j hj => ?_⟩
 obtain ⟨c,e1,e2,e3⟩:=hc j hj
 exact ⟨c,(hg.cell hb hp).trans e1,e2.ag hg,e3⟩
theorem SetsAt.weak (hpq:∀ b,p b→q b) (h:SetsAt p w v l):SetsAt q w v l:=by
 obtain ⟨a,cap,hv,h1,h2,h3,h4⟩:=h
 refine ⟨a,cap,hv,h1,h2,h3,fun hl => ?_⟩
 obtain ⟨b,off,ha,hb,hp,hc⟩:=h4 hl
 refine ⟨b,off,ha,hb,hpq b hp,fun j hj => ?_⟩
 obtain ⟨c,e1,e2,e3⟩:=hc j hj
 exact ⟨c,e1,e2.weak hpq,e3⟩
theorem SetsAt.nil (p:Nat→Prop) (w:World):SetsAt p w (.slice none 0 0) []:=⟨none,0,rfl,Nat.zero_le _,Nat.zero_le _,fun _=>rfl,fun h=>absurd h (Nat.lt_irrefl 0)⟩
end
structure QueAt (p:Nat→Prop) (n:Nat) (w:World) (v:Value) (q:Que) (va vb vs f0 f1 f2 f3 f4 f5 vh vo:Value):Prop where
 e:v = .agg #[va,vb,.int .i64 q.mode,vs,.int .i64 q.every,f0,f1,f2,f3,f4,f5,vh,vo,.int .i64 q.limit]
 aggs:RowsAt 2 aggF p w va q.aggs
 mets:∀ x ∈ q.aggs,x.met.size≤maxLen
 names:SlP p w vb (q.names.map .string)
 small:∀ x ∈ q.names,x.size≤maxLen
 sets:SetsAt p w vs q.sets
 fil:FilAt p n w (.agg #[f0,f1,f2,f3,f4,f5]) q.fil
 conds:RowsAt 3 condF p w vh q.conds
 keys:RowsAt 3 keyF p w vo q.keys
section
variable {p q:Nat→Prop} {n:Nat} {w w':World} {v:Value} {x:Que} {va vb vs f0 f1 f2 f3 f4 f5 vh vo:Value}
theorem QueAt.ag (h:QueAt p n w v x va vb vs f0 f1 f2 f3 f4 f5 vh vo) (hg:Ag p w w'):QueAt p n w' v x va vb vs f0 f1 f2 f3 f4 f5 vh vo:=
 ⟨h.e,h.aggs.ag hg,h.mets,h.names.ag hg,h.small,h.sets.ag hg,h.fil.ag hg,h.conds.ag hg,h.keys.ag hg⟩
theorem QueAt.weak (hpq:∀ b,p b→q b) (h:QueAt p n w v x va vb vs f0 f1 f2 f3 f4 f5 vh vo):QueAt q n w v x va vb vs f0 f1 f2 f3 f4 f5 vh vo:=
 ⟨h.e,h.aggs.weak hpq,h.mets,h.names.weak hpq,h.small,h.sets.weak hpq,h.fil.weak hpq,h.conds.weak hpq,h.keys.weak hpq⟩
end
section
variable {W:World} {B:Nat} {t:TypeId} {x0 x1 x2 x3 x4 x5 x6 x7 x8 x9 xa xb xc xd:Value}
theorem can14 (h:W.heap[B]? = some (.cells #[x0,x1,x2,x3,x4,x5,x6,x7,x8,x9,xa,xb,xc,xd] t (0,0))) :
  (W.cell? ⟨B,0,none⟩=some x0∧W.cell? ⟨B,1,none⟩=some x1∧W.cell? ⟨B,2,none⟩=some x2∧W.cell? ⟨B,3,none⟩=some x3∧W.cell? ⟨B,4,none⟩=some x4∧W.cell? ⟨B,5,none⟩=some x5∧W.cell? ⟨B,6,none⟩=some x6∧W.cell? ⟨B,7,none⟩=some x7∧W.cell? ⟨B,8,none⟩=some x8∧W.cell? ⟨B,9,none⟩=some x9∧W.cell? ⟨B,10,none⟩=some xa∧W.cell? ⟨B,11,none⟩=some xb∧W.cell? ⟨B,12,none⟩=some xc∧W.cell? ⟨B,13,none⟩=some xd) ∧
   ∀ i,i < 14→W.frozen? ⟨B,i,none⟩=false:=
 ⟨⟨cell_of_row _ _ 0 _ _ _ h,cell_of_row _ _ 1 _ _ _ h,cell_of_row _ _ 2 _ _ _ h,cell_of_row _ _ 3 _ _ _ h,cell_of_row _ _ 4 _ _ _ h,cell_of_row _ _ 5 _ _ _ h,cell_of_row _ _ 6 _ _ _ h,cell_of_row _ _ 7 _ _ _ h,cell_of_row _ _ 8 _ _ _ h,cell_of_row _ _ 9 _ _ _ h,cell_of_row _ _ 10 _ _ _ h,cell_of_row _ _ 11 _ _ _ h,cell_of_row _ _ 12 _ _ _ h,cell_of_row _ _ 13 _ _ _ h⟩,fun i _=>frozen_of_row _ _ i _ _ h⟩
end
end Go.Proofs.YtaddkkkchkdgkaaGreatDoor
