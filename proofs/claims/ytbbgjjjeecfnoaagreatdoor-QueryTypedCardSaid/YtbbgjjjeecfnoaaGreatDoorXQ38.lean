/- Texts with a text between: query.each at its seven texts: walked. Written by genQ38.py. -/
import Derived.Test.YtbbgjjjeecfnoaaGreatDoorXFB
import Derived.Test.YtbbgjjjeecfnoaaGreatDoorXPB
import Derived.Test.YtbbgjjjeecfnoaaGreatDoorXFA
import Derived.Test.YtbbgjjjeecfnoaaGreatDoorXSh
import Derived.Laws.EntriesVeiled
import Derived.Maps.AppendAt
namespace Go.Proofs.YtbbgjjjeecfnoaaGreatDoor
open Go.RowKit Go.Sort Go.Maps
open Tess (Fil Tok)
theorem txt_snoc {α:Type} (tx:α→List UInt8) (l:List α) (k:Nat) (h:k < l.length):((l.take k).map fun x=>Value.string (Tess.Tok.ofL (tx x))) ++ [.string (Tess.Tok.ofL (tx l[k]))]=(l.take (k + 1)).map fun x => .string (Tess.Tok.ofL (tx x)):=by
 rw [List.take_succ_eq_append_getElem h,List.map_append,List.map_singleton]
theorem join_same (sep:List UInt8):∀ xs:List (List UInt8),Lib.join xs sep=Tess.Wr.join sep xs
 | []=>rfl
 | [x]=>Lib.join_one x sep
 | x :: y :: r=>by
   have:=join_same sep (y :: r)
   show Lib.join (x :: y :: r) sep=x ++ sep ++ Tess.Wr.join sep (y :: r)
   rw [← this,Lib.join_cons,Lib.join_cons]
   simp [Lib.joinTail]
theorem ofL_dat (l:List UInt8):(Tess.Tok.ofL l).data.toList=l:=by
 show l.toArray.toList=l
 simp
theorem join_own {α:Type} (n base:Nat) (sep:ByteArray) (tx:α→List UInt8) (l:List α) (v:Value) (w:World) (h:w.ownsRow base 9 1 v n (l.map fun x => .string (Tess.Tok.ofL (tx x)))) (hn:n=l.length) (hN:l.length≤10000000) (hj:(Tess.Wr.join sep.data.toList (l.map tx)).length≤100000000000) :
  Calls Tryz.prog 130 #[v,.string sep] w fun e w'=>e = .returned (.string (Tess.Tok.ofL (Tess.Wr.join sep.data.toList (l.map tx))))∧Below w.heap.size w w':=by
 subst hn
 have e:(l.map fun x=>Tess.Tok.ofL (tx x)).map (·.data.toList)=l.map tx:=by
  rw [List.map_map]
  exact List.map_congr_left fun x _=>ofL_dat (tx x)
 rcases Nat.eq_zero_or_pos l.length with h0 | h0
 ·have hl:=List.length_eq_zero_iff.1 h0
  subst hl
  obtain ⟨a,c,rfl⟩:∃ a c,v = .slice a 0 c:=by
   rcases h.2 with ⟨rfl,_⟩ | ⟨g,cap,cur,rfl,_⟩
   ·exact ⟨_,_,rfl⟩
   ·exact ⟨_,_,rfl⟩
  refine (Tryz.strings_Join_none a c sep w).mono ?_
  rintro e w' ⟨rfl,rfl⟩
  exact ⟨rfl,Below.refl _ _⟩
 ·obtain ⟨g,cap,rfl,hb,hg,hcap,_,hc⟩:=owns_cell_any h h0
  have:=Tryz.strings_Join g 0 cap (l.map fun x=>Tess.Tok.ofL (tx x)) sep w (fun j x hx=>by
   rw [List.getElem?_map] at hx
   obtain ⟨y,hy,rfl⟩:=Option.map_eq_some_iff.1 hx
   obtain ⟨hjl,rfl⟩:=List.getElem?_eq_some_iff.1 hy
   rw [Nat.zero_add,hc j (by omega)]
   simp [hjl]) hg (by rw [List.length_map];omega) (by rw [List.length_map];exact hcap) (by rw [e,join_same];omega)
  rw [e,join_same,List.length_map] at this
  exact this
def dolTxts (tx:ByteArray→List UInt8) (l:List (ByteArray)) (a:Option Addr) (w:World):Prop:=
 ∀ k (hk:k < l.length),∃ b off,a=some ⟨b,off,none⟩∧b < w.heap.size∧∃ (y0:ByteArray),(w.cell? ⟨b,off + k,none⟩=some (.string y0)) ∧
   ∀ W,Below w.heap.size w W→Calls Tryz.prog 195 #[(.string y0)] W fun e w'=>e = .returned (.string (Tok.ofL (tx l[k])))∧Below W.heap.size W w'
set_option maxRecDepth 100000 in
set_option maxHeartbeats 2000000 in
theorem each_dol (tx:ByteArray→List UInt8) (l:List (ByteArray)) (a:Option Addr) (cap:Nat) (sep:ByteArray) (w:World) (hlen:l.length≤10000000) (hj:(Tess.Wr.join sep.data.toList (l.map tx)).length≤100000000000) (hc:dolTxts tx l a w) :
  Calls Tryz.prog 194 #[.slice a l.length cap,.string sep,.func (.func 195) #[] #[]] w fun e w'=>e = .returned (.string (Tok.ofL (Tess.Wr.join sep.data.toList (l.map tx))))∧Below w.heap.size w w':=by
 have HC:=Lib.hid hc
 have HJ:=Lib.hid hj
 obtain ⟨i0,hi,hz0,hz1,hz2⟩:=info_parts infoStr
 clear hc hj
 go_enter Tryz.func194,Tryz.ntmps194
 go_wp2
 go_loopw [7,12] (fun v i wr => ∃ k:Nat,k≤l.length∧i = .int .i64 k∧wr.ownsRow w.heap.size 9 1 v k ((l.take k).map fun x => .string (Tok.ofL (tx x)))∧Below w.heap.size w wr) (fun _ i _=>l.length - (intOf i).toNat)
 case atStart=>exact ⟨0,Nat.zero_le _,rfl,by simpa using World.ownsRow_nil w w.heap.size 9 1,Below.refl _ _⟩
 case round=>
  obtain ⟨k,hk,rfl,hown,hB⟩:=hrel
  have HB:=Lib.hid hB
  have HO:=Lib.hid hown
  clear hB hown
  by_cases hlt:k < l.length
  ·obtain ⟨b,off,rfl,hb,y0,g0,hcall⟩:=HC.out k hlt
   have e0:wr.cell? ⟨b,off + k,none⟩=some (.string y0):=(HB.out.cell (p:=⟨b,off + k,none⟩) hb).trans g0
   have HX:=Lib.hid hcall
   have HE:=Lib.hid (txt_snoc tx l k hlt)
   clear g0 hcall
   have hki:(k:Int) < (l.length:Int):=by omega
   generalize l[k]=xk at *
   have HB1:RowKit.Hid (Below w.heap.size w wr):=Lib.hid (Bt HB.out (Below.refl _ _))
   have HO1:RowKit.Hid ((wr).ownsRow w.heap.size 9 1 _ k _):=Lib.hid (owns_below HO.out (Below.refl _ _))
   clear HO HB
   go_wp2_with (first | (go_at_call 195;refine (HX.out _ HB1.out).mono ?_;rintro e w2 ⟨rfl,hb2⟩;have HB2:=Lib.hid hb2;clear hb2) | (at_builtin;refine wpList_append_own _ rfl _ _ 22 rfl w.heap.size 9 i0 (.string ByteArray.empty) 1 16 Tryz.underlying22 hi hz0 hz1 hz2 rfl (by decide) _ _ _ rfl ((owns_below HO1.out HB2.out).alloc _) ⟨w2.heap.size,0,none⟩ 1 1 [.string (Tok.ofL (tx xk))] rfl rfl (cell_one_new _ _ _) (by simp [Value.oneCell']) (by unfold maxLen;omega) (by omega) (by have:=HB1.out.size;have:=HB2.out.size;simp;omega) ?_;intro v' w3 hown3 hgrow hnil3;have HG3:=Lib.hid hgrow;have HO3:=Lib.hid hown3;clear hgrow hown3 hnil3))
   go_roundw
   case rel=>
    refine ⟨k + 1,by omega,by go_num,by rw [← HE.out];exact HO3.out,?_⟩
    exact ((Bt HB1.out HB2.out).alloc (by have:=HB1.out.size;have:=HB2.out.size;omega) _).grown HG3.out (by have:=HB1.out.size;have:=HB2.out.size;simp;omega) (fun j e=>((owns_below HO1.out HB2.out).lt j e).1)
   case measure=>simp [intOf];omega
  ·have hki:¬ (k:Int) < (l.length:Int):=by omega
   obtain rfl:k=l.length:=by omega
   have HO':=HO.out
   rw [List.take_of_length_le (Nat.le_refl _)] at HO'
   have HJN:=Lib.hid (join_own l.length _ sep tx l _ _ HO' rfl (by omega) HJ.out)
   clear HO' hlt hki
   go_wp2_with (go_at_call 130;refine HJN.out.mono ?_;rintro e w2 ⟨rfl,hb2⟩;have HB2:=Lib.hid (Bt HB.out hb2);clear hb2)
   go_ret
   exact ⟨rfl,HB2.out⟩
def strTxts (tx:ByteArray→List UInt8) (l:List (ByteArray)) (a:Option Addr) (w:World):Prop:=
 ∀ k (hk:k < l.length),∃ b off,a=some ⟨b,off,none⟩∧b < w.heap.size∧∃ (y0:ByteArray),(w.cell? ⟨b,off + k,none⟩=some (.string y0)) ∧
   ∀ W,Below w.heap.size w W→Calls Tryz.prog 198 #[(.string y0)] W fun e w'=>e = .returned (.string (Tok.ofL (tx l[k])))∧Below W.heap.size W w'
set_option maxRecDepth 100000 in
set_option maxHeartbeats 2000000 in
theorem each_str (tx:ByteArray→List UInt8) (l:List (ByteArray)) (a:Option Addr) (cap:Nat) (sep:ByteArray) (w:World) (hlen:l.length≤10000000) (hj:(Tess.Wr.join sep.data.toList (l.map tx)).length≤100000000000) (hc:strTxts tx l a w) :
  Calls Tryz.prog 194 #[.slice a l.length cap,.string sep,.func (.func 198) #[] #[]] w fun e w'=>e = .returned (.string (Tok.ofL (Tess.Wr.join sep.data.toList (l.map tx))))∧Below w.heap.size w w':=by
 have HC:=Lib.hid hc
 have HJ:=Lib.hid hj
 obtain ⟨i0,hi,hz0,hz1,hz2⟩:=info_parts infoStr
 clear hc hj
 go_enter Tryz.func194,Tryz.ntmps194
 go_wp2
 go_loopw [7,12] (fun v i wr => ∃ k:Nat,k≤l.length∧i = .int .i64 k∧wr.ownsRow w.heap.size 9 1 v k ((l.take k).map fun x => .string (Tok.ofL (tx x)))∧Below w.heap.size w wr) (fun _ i _=>l.length - (intOf i).toNat)
 case atStart=>exact ⟨0,Nat.zero_le _,rfl,by simpa using World.ownsRow_nil w w.heap.size 9 1,Below.refl _ _⟩
 case round=>
  obtain ⟨k,hk,rfl,hown,hB⟩:=hrel
  have HB:=Lib.hid hB
  have HO:=Lib.hid hown
  clear hB hown
  by_cases hlt:k < l.length
  ·obtain ⟨b,off,rfl,hb,y0,g0,hcall⟩:=HC.out k hlt
   have e0:wr.cell? ⟨b,off + k,none⟩=some (.string y0):=(HB.out.cell (p:=⟨b,off + k,none⟩) hb).trans g0
   have HX:=Lib.hid hcall
   have HE:=Lib.hid (txt_snoc tx l k hlt)
   clear g0 hcall
   have hki:(k:Int) < (l.length:Int):=by omega
   generalize l[k]=xk at *
   have HB1:RowKit.Hid (Below w.heap.size w wr):=Lib.hid (Bt HB.out (Below.refl _ _))
   have HO1:RowKit.Hid ((wr).ownsRow w.heap.size 9 1 _ k _):=Lib.hid (owns_below HO.out (Below.refl _ _))
   clear HO HB
   go_wp2_with (first | (go_at_call 198;refine (HX.out _ HB1.out).mono ?_;rintro e w2 ⟨rfl,hb2⟩;have HB2:=Lib.hid hb2;clear hb2) | (at_builtin;refine wpList_append_own _ rfl _ _ 22 rfl w.heap.size 9 i0 (.string ByteArray.empty) 1 16 Tryz.underlying22 hi hz0 hz1 hz2 rfl (by decide) _ _ _ rfl ((owns_below HO1.out HB2.out).alloc _) ⟨w2.heap.size,0,none⟩ 1 1 [.string (Tok.ofL (tx xk))] rfl rfl (cell_one_new _ _ _) (by simp [Value.oneCell']) (by unfold maxLen;omega) (by omega) (by have:=HB1.out.size;have:=HB2.out.size;simp;omega) ?_;intro v' w3 hown3 hgrow hnil3;have HG3:=Lib.hid hgrow;have HO3:=Lib.hid hown3;clear hgrow hown3 hnil3))
   go_roundw
   case rel=>
    refine ⟨k + 1,by omega,by go_num,by rw [← HE.out];exact HO3.out,?_⟩
    exact ((Bt HB1.out HB2.out).alloc (by have:=HB1.out.size;have:=HB2.out.size;omega) _).grown HG3.out (by have:=HB1.out.size;have:=HB2.out.size;simp;omega) (fun j e=>((owns_below HO1.out HB2.out).lt j e).1)
   case measure=>simp [intOf];omega
  ·have hki:¬ (k:Int) < (l.length:Int):=by omega
   obtain rfl:k=l.length:=by omega
   have HO':=HO.out
   rw [List.take_of_length_le (Nat.le_refl _)] at HO'
   have HJN:=Lib.hid (join_own l.length _ sep tx l _ _ HO' rfl (by omega) HJ.out)
   clear HO' hlt hki
   go_wp2_with (go_at_call 130;refine HJN.out.mono ?_;rintro e w2 ⟨rfl,hb2⟩;have HB2:=Lib.hid (Bt HB.out hb2);clear hb2)
   go_ret
   exact ⟨rfl,HB2.out⟩
def sumTxts (tx:Tess.Agg→List UInt8) (l:List (Tess.Agg)) (a:Option Addr) (w:World):Prop:=
 ∀ k (hk:k < l.length),∃ b off,a=some ⟨b,off,none⟩∧b < w.heap.size∧∃ (y0:Int) (y1:ByteArray),(w.cell? ⟨b,off + k * 2,none⟩=some (.int .i64 y0)∧w.cell? ⟨b,off + k * 2 + 1,none⟩=some (.string y1)) ∧
   ∀ W,Below w.heap.size w W→Calls Tryz.prog 124 #[(.agg #[(.int .i64 y0),(.string y1)])] W fun e w'=>e = .returned (.string (Tok.ofL (tx l[k])))∧Below W.heap.size W w'
set_option maxRecDepth 100000 in
set_option maxHeartbeats 2000000 in
theorem each_sum (tx:Tess.Agg→List UInt8) (l:List (Tess.Agg)) (a:Option Addr) (cap:Nat) (sep:ByteArray) (w:World) (hlen:l.length≤10000000) (hj:(Tess.Wr.join sep.data.toList (l.map tx)).length≤100000000000) (hc:sumTxts tx l a w) :
  Calls Tryz.prog 123 #[.slice a l.length cap,.string sep,.func (.func 124) #[] #[]] w fun e w'=>e = .returned (.string (Tok.ofL (Tess.Wr.join sep.data.toList (l.map tx))))∧Below w.heap.size w w':=by
 have HC:=Lib.hid hc
 have HJ:=Lib.hid hj
 obtain ⟨i0,hi,hz0,hz1,hz2⟩:=info_parts infoStr
 clear hc hj
 go_enter Tryz.func123,Tryz.ntmps123
 go_wp2
 go_loopw [7,12] (fun v i wr => ∃ k:Nat,k≤l.length∧i = .int .i64 k∧wr.ownsRow w.heap.size 9 1 v k ((l.take k).map fun x => .string (Tok.ofL (tx x)))∧Below w.heap.size w wr) (fun _ i _=>l.length - (intOf i).toNat)
 case atStart=>exact ⟨0,Nat.zero_le _,rfl,by simpa using World.ownsRow_nil w w.heap.size 9 1,Below.refl _ _⟩
 case round=>
  obtain ⟨k,hk,rfl,hown,hB⟩:=hrel
  have HB:=Lib.hid hB
  have HO:=Lib.hid hown
  clear hB hown
  by_cases hlt:k < l.length
  ·obtain ⟨b,off,rfl,hb,y0,y1,⟨g0,g1⟩,hcall⟩:=HC.out k hlt
   have e0:wr.cell? ⟨b,off + k * 2,none⟩=some (.int .i64 y0):=(HB.out.cell (p:=⟨b,off + k * 2,none⟩) hb).trans g0
   have e1:wr.cell? ⟨b,off + k * 2 + 1,none⟩=some (.string y1):=(HB.out.cell (p:=⟨b,off + k * 2 + 1,none⟩) hb).trans g1
   have HX:=Lib.hid hcall
   have HE:=Lib.hid (txt_snoc tx l k hlt)
   clear g0 g1 hcall
   have hki:(k:Int) < (l.length:Int):=by omega
   generalize l[k]=xk at *
   have HB1:RowKit.Hid (Below w.heap.size w (wr.alloc (.cells #[(.int .i64 y0),(.string y1)] 83))):=Lib.hid (Bt HB.out ((Below.refl _ _).alloc (Nat.le_refl _) _))
   have HO1:RowKit.Hid (((wr.alloc (.cells #[(.int .i64 y0),(.string y1)] 83))).ownsRow w.heap.size 9 1 _ k _):=Lib.hid (owns_below HO.out ((Below.refl _ _).alloc (Nat.le_refl _) _))
   clear HO HB
   go_wp2_with (first | (go_at_call 124;refine (HX.out _ HB1.out).mono ?_;rintro e w2 ⟨rfl,hb2⟩;have HB2:=Lib.hid hb2;clear hb2) | (at_builtin;refine wpList_append_own _ rfl _ _ 22 rfl w.heap.size 9 i0 (.string ByteArray.empty) 1 16 Tryz.underlying22 hi hz0 hz1 hz2 rfl (by decide) _ _ _ rfl ((owns_below HO1.out HB2.out).alloc _) ⟨w2.heap.size,0,none⟩ 1 1 [.string (Tok.ofL (tx xk))] rfl rfl (cell_one_new _ _ _) (by simp [Value.oneCell']) (by unfold maxLen;omega) (by omega) (by have:=HB1.out.size;have:=HB2.out.size;simp;omega) ?_;intro v' w3 hown3 hgrow hnil3;have HG3:=Lib.hid hgrow;have HO3:=Lib.hid hown3;clear hgrow hown3 hnil3))
   go_roundw
   case rel=>
    refine ⟨k + 1,by omega,by go_num,by rw [← HE.out];exact HO3.out,?_⟩
    exact ((Bt HB1.out HB2.out).alloc (by have:=HB1.out.size;have:=HB2.out.size;omega) _).grown HG3.out (by have:=HB1.out.size;have:=HB2.out.size;simp;omega) (fun j e=>((owns_below HO1.out HB2.out).lt j e).1)
   case measure=>simp [intOf];omega
  ·have hki:¬ (k:Int) < (l.length:Int):=by omega
   obtain rfl:k=l.length:=by omega
   have HO':=HO.out
   rw [List.take_of_length_le (Nat.le_refl _)] at HO'
   have HJN:=Lib.hid (join_own l.length _ sep tx l _ _ HO' rfl (by omega) HJ.out)
   clear HO' hlt hki
   go_wp2_with (go_at_call 130;refine HJN.out.mono ?_;rintro e w2 ⟨rfl,hb2⟩;have HB2:=Lib.hid (Bt HB.out hb2);clear hb2)
   go_ret
   exact ⟨rfl,HB2.out⟩
def setTxts (tx:List ByteArray→List UInt8) (l:List (List ByteArray)) (a:Option Addr) (w:World):Prop:=
 ∀ k (hk:k < l.length),∃ b off,a=some ⟨b,off,none⟩∧b < w.heap.size∧∃ (y0:Option Addr) (y1:Nat) (y2:Nat),(w.cell? ⟨b,off + k,none⟩=some (.slice y0 y1 y2)) ∧
   ∀ W,Below w.heap.size w W→Calls Tryz.prog 120 #[(.slice y0 y1 y2)] W fun e w'=>e = .returned (.string (Tok.ofL (tx l[k])))∧Below W.heap.size W w'
set_option maxRecDepth 100000 in
set_option maxHeartbeats 2000000 in
theorem each_set (tx:List ByteArray→List UInt8) (l:List (List ByteArray)) (a:Option Addr) (cap:Nat) (sep:ByteArray) (w:World) (hlen:l.length≤10000000) (hj:(Tess.Wr.join sep.data.toList (l.map tx)).length≤100000000000) (hc:setTxts tx l a w) :
  Calls Tryz.prog 125 #[.slice a l.length cap,.string sep,.func (.func 120) #[] #[]] w fun e w'=>e = .returned (.string (Tok.ofL (Tess.Wr.join sep.data.toList (l.map tx))))∧Below w.heap.size w w':=by
 have HC:=Lib.hid hc
 have HJ:=Lib.hid hj
 obtain ⟨i0,hi,hz0,hz1,hz2⟩:=info_parts infoStr
 clear hc hj
 go_enter Tryz.func125,Tryz.ntmps125
 go_wp2
 go_loopw [7,12] (fun v i wr => ∃ k:Nat,k≤l.length∧i = .int .i64 k∧wr.ownsRow w.heap.size 9 1 v k ((l.take k).map fun x => .string (Tok.ofL (tx x)))∧Below w.heap.size w wr) (fun _ i _=>l.length - (intOf i).toNat)
 case atStart=>exact ⟨0,Nat.zero_le _,rfl,by simpa using World.ownsRow_nil w w.heap.size 9 1,Below.refl _ _⟩
 case round=>
  obtain ⟨k,hk,rfl,hown,hB⟩:=hrel
  have HB:=Lib.hid hB
  have HO:=Lib.hid hown
  clear hB hown
  by_cases hlt:k < l.length
  ·obtain ⟨b,off,rfl,hb,y0,y1,y2,g0,hcall⟩:=HC.out k hlt
   have e0:wr.cell? ⟨b,off + k,none⟩=some (.slice y0 y1 y2):=(HB.out.cell (p:=⟨b,off + k,none⟩) hb).trans g0
   have HX:=Lib.hid hcall
   have HE:=Lib.hid (txt_snoc tx l k hlt)
   clear g0 hcall
   have hki:(k:Int) < (l.length:Int):=by omega
   generalize l[k]=xk at *
   have HB1:RowKit.Hid (Below w.heap.size w wr):=Lib.hid (Bt HB.out (Below.refl _ _))
   have HO1:RowKit.Hid ((wr).ownsRow w.heap.size 9 1 _ k _):=Lib.hid (owns_below HO.out (Below.refl _ _))
   clear HO HB
   go_wp2_with (first | (go_at_call 120;refine (HX.out _ HB1.out).mono ?_;rintro e w2 ⟨rfl,hb2⟩;have HB2:=Lib.hid hb2;clear hb2) | (at_builtin;refine wpList_append_own _ rfl _ _ 22 rfl w.heap.size 9 i0 (.string ByteArray.empty) 1 16 Tryz.underlying22 hi hz0 hz1 hz2 rfl (by decide) _ _ _ rfl ((owns_below HO1.out HB2.out).alloc _) ⟨w2.heap.size,0,none⟩ 1 1 [.string (Tok.ofL (tx xk))] rfl rfl (cell_one_new _ _ _) (by simp [Value.oneCell']) (by unfold maxLen;omega) (by omega) (by have:=HB1.out.size;have:=HB2.out.size;simp;omega) ?_;intro v' w3 hown3 hgrow hnil3;have HG3:=Lib.hid hgrow;have HO3:=Lib.hid hown3;clear hgrow hown3 hnil3))
   go_roundw
   case rel=>
    refine ⟨k + 1,by omega,by go_num,by rw [← HE.out];exact HO3.out,?_⟩
    exact ((Bt HB1.out HB2.out).alloc (by have:=HB1.out.size;have:=HB2.out.size;omega) _).grown HG3.out (by have:=HB1.out.size;have:=HB2.out.size;simp;omega) (fun j e=>((owns_below HO1.out HB2.out).lt j e).1)
   case measure=>simp [intOf];omega
  ·have hki:¬ (k:Int) < (l.length:Int):=by omega
   obtain rfl:k=l.length:=by omega
   have HO':=HO.out
   rw [List.take_of_length_le (Nat.le_refl _)] at HO'
   have HJN:=Lib.hid (join_own l.length _ sep tx l _ _ HO' rfl (by omega) HJ.out)
   clear HO' hlt hki
   go_wp2_with (go_at_call 130;refine HJN.out.mono ?_;rintro e w2 ⟨rfl,hb2⟩;have HB2:=Lib.hid (Bt HB.out hb2);clear hb2)
   go_ret
   exact ⟨rfl,HB2.out⟩
def cndTxts (tx:Tess.Cond→List UInt8) (l:List (Tess.Cond)) (a:Option Addr) (w:World):Prop:=
 ∀ k (hk:k < l.length),∃ b off,a=some ⟨b,off,none⟩∧b < w.heap.size∧∃ (y0:Int) (y1:Int) (y2:Int),(w.cell? ⟨b,off + k * 3,none⟩=some (.int .i64 y0)∧w.cell? ⟨b,off + k * 3 + 1,none⟩=some (.int .i64 y1)∧w.cell? ⟨b,off + k * 3 + 2,none⟩=some (.int .i64 y2)) ∧
   ∀ W,Below w.heap.size w W→Calls Tryz.prog 128 #[(.agg #[(.int .i64 y0),(.int .i64 y1),(.int .i64 y2)])] W fun e w'=>e = .returned (.string (Tok.ofL (tx l[k])))∧Below W.heap.size W w'
set_option maxRecDepth 100000 in
set_option maxHeartbeats 2000000 in
theorem each_cnd (tx:Tess.Cond→List UInt8) (l:List (Tess.Cond)) (a:Option Addr) (cap:Nat) (sep:ByteArray) (w:World) (hlen:l.length≤10000000) (hj:(Tess.Wr.join sep.data.toList (l.map tx)).length≤100000000000) (hc:cndTxts tx l a w) :
  Calls Tryz.prog 127 #[.slice a l.length cap,.string sep,.func (.func 128) #[] #[]] w fun e w'=>e = .returned (.string (Tok.ofL (Tess.Wr.join sep.data.toList (l.map tx))))∧Below w.heap.size w w':=by
 have HC:=Lib.hid hc
 have HJ:=Lib.hid hj
 obtain ⟨i0,hi,hz0,hz1,hz2⟩:=info_parts infoStr
 clear hc hj
 go_enter Tryz.func127,Tryz.ntmps127
 go_wp2
 go_loopw [7,12] (fun v i wr => ∃ k:Nat,k≤l.length∧i = .int .i64 k∧wr.ownsRow w.heap.size 9 1 v k ((l.take k).map fun x => .string (Tok.ofL (tx x)))∧Below w.heap.size w wr) (fun _ i _=>l.length - (intOf i).toNat)
 case atStart=>exact ⟨0,Nat.zero_le _,rfl,by simpa using World.ownsRow_nil w w.heap.size 9 1,Below.refl _ _⟩
 case round=>
  obtain ⟨k,hk,rfl,hown,hB⟩:=hrel
  have HB:=Lib.hid hB
  have HO:=Lib.hid hown
  clear hB hown
  by_cases hlt:k < l.length
  ·obtain ⟨b,off,rfl,hb,y0,y1,y2,⟨g0,g1,g2⟩,hcall⟩:=HC.out k hlt
   have e0:wr.cell? ⟨b,off + k * 3,none⟩=some (.int .i64 y0):=(HB.out.cell (p:=⟨b,off + k * 3,none⟩) hb).trans g0
   have e1:wr.cell? ⟨b,off + k * 3 + 1,none⟩=some (.int .i64 y1):=(HB.out.cell (p:=⟨b,off + k * 3 + 1,none⟩) hb).trans g1
   have e2:wr.cell? ⟨b,off + k * 3 + 2,none⟩=some (.int .i64 y2):=(HB.out.cell (p:=⟨b,off + k * 3 + 2,none⟩) hb).trans g2
   have HX:=Lib.hid hcall
   have HE:=Lib.hid (txt_snoc tx l k hlt)
   clear g0 g1 g2 hcall
   have hki:(k:Int) < (l.length:Int):=by omega
   generalize l[k]=xk at *
   have HB1:RowKit.Hid (Below w.heap.size w (wr.alloc (.cells #[(.int .i64 y0),(.int .i64 y1),(.int .i64 y2)] 147))):=Lib.hid (Bt HB.out ((Below.refl _ _).alloc (Nat.le_refl _) _))
   have HO1:RowKit.Hid (((wr.alloc (.cells #[(.int .i64 y0),(.int .i64 y1),(.int .i64 y2)] 147))).ownsRow w.heap.size 9 1 _ k _):=Lib.hid (owns_below HO.out ((Below.refl _ _).alloc (Nat.le_refl _) _))
   clear HO HB
   go_wp2_with (first | (go_at_call 128;refine (HX.out _ HB1.out).mono ?_;rintro e w2 ⟨rfl,hb2⟩;have HB2:=Lib.hid hb2;clear hb2) | (at_builtin;refine wpList_append_own _ rfl _ _ 22 rfl w.heap.size 9 i0 (.string ByteArray.empty) 1 16 Tryz.underlying22 hi hz0 hz1 hz2 rfl (by decide) _ _ _ rfl ((owns_below HO1.out HB2.out).alloc _) ⟨w2.heap.size,0,none⟩ 1 1 [.string (Tok.ofL (tx xk))] rfl rfl (cell_one_new _ _ _) (by simp [Value.oneCell']) (by unfold maxLen;omega) (by omega) (by have:=HB1.out.size;have:=HB2.out.size;simp;omega) ?_;intro v' w3 hown3 hgrow hnil3;have HG3:=Lib.hid hgrow;have HO3:=Lib.hid hown3;clear hgrow hown3 hnil3))
   go_roundw
   case rel=>
    refine ⟨k + 1,by omega,by go_num,by rw [← HE.out];exact HO3.out,?_⟩
    exact ((Bt HB1.out HB2.out).alloc (by have:=HB1.out.size;have:=HB2.out.size;omega) _).grown HG3.out (by have:=HB1.out.size;have:=HB2.out.size;simp;omega) (fun j e=>((owns_below HO1.out HB2.out).lt j e).1)
   case measure=>simp [intOf];omega
  ·have hki:¬ (k:Int) < (l.length:Int):=by omega
   obtain rfl:k=l.length:=by omega
   have HO':=HO.out
   rw [List.take_of_length_le (Nat.le_refl _)] at HO'
   have HJN:=Lib.hid (join_own l.length _ sep tx l _ _ HO' rfl (by omega) HJ.out)
   clear HO' hlt hki
   go_wp2_with (go_at_call 130;refine HJN.out.mono ?_;rintro e w2 ⟨rfl,hb2⟩;have HB2:=Lib.hid (Bt HB.out hb2);clear hb2)
   go_ret
   exact ⟨rfl,HB2.out⟩
def keyTxts (tx:Tess.Key→List UInt8) (l:List (Tess.Key)) (a:Option Addr) (p1:Value) (w:World):Prop:=
 ∀ k (hk:k < l.length),∃ b off,a=some ⟨b,off,none⟩∧b < w.heap.size∧∃ (y0:Bool) (y1:Int) (y2:Bool),(w.cell? ⟨b,off + k * 3,none⟩=some (.bool y0)∧w.cell? ⟨b,off + k * 3 + 1,none⟩=some (.int .i64 y1)∧w.cell? ⟨b,off + k * 3 + 2,none⟩=some (.bool y2)) ∧
   ∀ W,Below w.heap.size w W→Calls Tryz.prog 117 #[(.agg #[(.bool y0),(.int .i64 y1),(.bool y2)]),p1] W fun e w'=>e = .returned (.string (Tok.ofL (tx l[k])))∧Below W.heap.size W w'
set_option maxRecDepth 100000 in
set_option maxHeartbeats 2000000 in
theorem each_key (tx:Tess.Key→List UInt8) (l:List (Tess.Key)) (a:Option Addr) (cap:Nat) (p1:Value) (sep:ByteArray) (w:World) (hlen:l.length≤10000000) (hj:(Tess.Wr.join sep.data.toList (l.map tx)).length≤100000000000) (hc:keyTxts tx l a p1 w) :
  Calls Tryz.prog 129 #[.slice a l.length cap,.string sep,.func (.func 117) #[] #[p1]] w fun e w'=>e = .returned (.string (Tok.ofL (Tess.Wr.join sep.data.toList (l.map tx))))∧Below w.heap.size w w':=by
 have HC:=Lib.hid hc
 have HJ:=Lib.hid hj
 obtain ⟨i0,hi,hz0,hz1,hz2⟩:=info_parts infoStr
 clear hc hj
 go_enter Tryz.func129,Tryz.ntmps129
 go_wp2
 go_loopw [7,12] (fun v i wr => ∃ k:Nat,k≤l.length∧i = .int .i64 k∧wr.ownsRow w.heap.size 9 1 v k ((l.take k).map fun x => .string (Tok.ofL (tx x)))∧Below w.heap.size w wr) (fun _ i _=>l.length - (intOf i).toNat)
 case atStart=>exact ⟨0,Nat.zero_le _,rfl,by simpa using World.ownsRow_nil w w.heap.size 9 1,Below.refl _ _⟩
 case round=>
  obtain ⟨k,hk,rfl,hown,hB⟩:=hrel
  have HB:=Lib.hid hB
  have HO:=Lib.hid hown
  clear hB hown
  by_cases hlt:k < l.length
  ·obtain ⟨b,off,rfl,hb,y0,y1,y2,⟨g0,g1,g2⟩,hcall⟩:=HC.out k hlt
   have e0:wr.cell? ⟨b,off + k * 3,none⟩=some (.bool y0):=(HB.out.cell (p:=⟨b,off + k * 3,none⟩) hb).trans g0
   have e1:wr.cell? ⟨b,off + k * 3 + 1,none⟩=some (.int .i64 y1):=(HB.out.cell (p:=⟨b,off + k * 3 + 1,none⟩) hb).trans g1
   have e2:wr.cell? ⟨b,off + k * 3 + 2,none⟩=some (.bool y2):=(HB.out.cell (p:=⟨b,off + k * 3 + 2,none⟩) hb).trans g2
   have HX:=Lib.hid hcall
   have HE:=Lib.hid (txt_snoc tx l k hlt)
   clear g0 g1 g2 hcall
   have hki:(k:Int) < (l.length:Int):=by omega
   generalize l[k]=xk at *
   have HB1:RowKit.Hid (Below w.heap.size w (wr.alloc (.cells #[(.bool y0),(.int .i64 y1),(.bool y2)] 150))):=Lib.hid (Bt HB.out ((Below.refl _ _).alloc (Nat.le_refl _) _))
   have HO1:RowKit.Hid (((wr.alloc (.cells #[(.bool y0),(.int .i64 y1),(.bool y2)] 150))).ownsRow w.heap.size 9 1 _ k _):=Lib.hid (owns_below HO.out ((Below.refl _ _).alloc (Nat.le_refl _) _))
   clear HO HB
   go_wp2_with (first | (go_at_call 117;refine (HX.out _ HB1.out).mono ?_;rintro e w2 ⟨rfl,hb2⟩;have HB2:=Lib.hid hb2;clear hb2) | (at_builtin;refine wpList_append_own _ rfl _ _ 22 rfl w.heap.size 9 i0 (.string ByteArray.empty) 1 16 Tryz.underlying22 hi hz0 hz1 hz2 rfl (by decide) _ _ _ rfl ((owns_below HO1.out HB2.out).alloc _) ⟨w2.heap.size,0,none⟩ 1 1 [.string (Tok.ofL (tx xk))] rfl rfl (cell_one_new _ _ _) (by simp [Value.oneCell']) (by unfold maxLen;omega) (by omega) (by have:=HB1.out.size;have:=HB2.out.size;simp;omega) ?_;intro v' w3 hown3 hgrow hnil3;have HG3:=Lib.hid hgrow;have HO3:=Lib.hid hown3;clear hgrow hown3 hnil3))
   go_roundw
   case rel=>
    refine ⟨k + 1,by omega,by go_num,by rw [← HE.out];exact HO3.out,?_⟩
    exact ((Bt HB1.out HB2.out).alloc (by have:=HB1.out.size;have:=HB2.out.size;omega) _).grown HG3.out (by have:=HB1.out.size;have:=HB2.out.size;simp;omega) (fun j e=>((owns_below HO1.out HB2.out).lt j e).1)
   case measure=>simp [intOf];omega
  ·have hki:¬ (k:Int) < (l.length:Int):=by omega
   obtain rfl:k=l.length:=by omega
   have HO':=HO.out
   rw [List.take_of_length_le (Nat.le_refl _)] at HO'
   have HJN:=Lib.hid (join_own l.length _ sep tx l _ _ HO' rfl (by omega) HJ.out)
   clear HO' hlt hki
   go_wp2_with (go_at_call 130;refine HJN.out.mono ?_;rintro e w2 ⟨rfl,hb2⟩;have HB2:=Lib.hid (Bt HB.out hb2);clear hb2)
   go_ret
   exact ⟨rfl,HB2.out⟩
def askTxts (tx:Fil→List UInt8) (l:List (Fil)) (a:Option Addr) (w:World):Prop:=
 ∀ k (hk:k < l.length),∃ b off,a=some ⟨b,off,none⟩∧b < w.heap.size∧∃ (y0:Int) (y1:ByteArray) (y2:Option Addr) (y3:Nat) (y4:Nat) (y5:Int) (y6:Int) (y7:Option Addr) (y8:Nat) (y9:Nat),(w.cell? ⟨b,off + k * 6,none⟩=some (.int .i64 y0)∧w.cell? ⟨b,off + k * 6 + 1,none⟩=some (.string y1)∧w.cell? ⟨b,off + k * 6 + 2,none⟩=some (.slice y2 y3 y4)∧w.cell? ⟨b,off + k * 6 + 3,none⟩=some (.int .i64 y5)∧w.cell? ⟨b,off + k * 6 + 4,none⟩=some (.int .i64 y6)∧w.cell? ⟨b,off + k * 6 + 5,none⟩=some (.slice y7 y8 y9)) ∧
   ∀ W,Below w.heap.size w W→Calls Tryz.prog 126 #[(.agg #[(.int .i64 y0),(.string y1),(.slice y2 y3 y4),(.int .i64 y5),(.int .i64 y6),(.slice y7 y8 y9)])] W fun e w'=>e = .returned (.string (Tok.ofL (tx l[k])))∧Below W.heap.size W w'
set_option maxRecDepth 100000 in
set_option maxHeartbeats 2000000 in
theorem each_ask (tx:Fil→List UInt8) (l:List (Fil)) (a:Option Addr) (cap:Nat) (sep:ByteArray) (w:World) (hlen:l.length≤10000000) (hj:(Tess.Wr.join sep.data.toList (l.map tx)).length≤100000000000) (hc:askTxts tx l a w) :
  Calls Tryz.prog 199 #[.slice a l.length cap,.string sep,.func (.func 126) #[] #[]] w fun e w'=>e = .returned (.string (Tok.ofL (Tess.Wr.join sep.data.toList (l.map tx))))∧Below w.heap.size w w':=by
 have HC:=Lib.hid hc
 have HJ:=Lib.hid hj
 obtain ⟨i0,hi,hz0,hz1,hz2⟩:=info_parts infoStr
 clear hc hj
 go_enter Tryz.func199,Tryz.ntmps199
 go_wp2
 go_loopw [7,12] (fun v i wr => ∃ k:Nat,k≤l.length∧i = .int .i64 k∧wr.ownsRow w.heap.size 9 1 v k ((l.take k).map fun x => .string (Tok.ofL (tx x)))∧Below w.heap.size w wr) (fun _ i _=>l.length - (intOf i).toNat)
 case atStart=>exact ⟨0,Nat.zero_le _,rfl,by simpa using World.ownsRow_nil w w.heap.size 9 1,Below.refl _ _⟩
 case round=>
  obtain ⟨k,hk,rfl,hown,hB⟩:=hrel
  have HB:=Lib.hid hB
  have HO:=Lib.hid hown
  clear hB hown
  by_cases hlt:k < l.length
  ·obtain ⟨b,off,rfl,hb,y0,y1,y2,y3,y4,y5,y6,y7,y8,y9,⟨g0,g1,g2,g3,g4,g5⟩,hcall⟩:=HC.out k hlt
   have e0:wr.cell? ⟨b,off + k * 6,none⟩=some (.int .i64 y0):=(HB.out.cell (p:=⟨b,off + k * 6,none⟩) hb).trans g0
   have e1:wr.cell? ⟨b,off + k * 6 + 1,none⟩=some (.string y1):=(HB.out.cell (p:=⟨b,off + k * 6 + 1,none⟩) hb).trans g1
   have e2:wr.cell? ⟨b,off + k * 6 + 2,none⟩=some (.slice y2 y3 y4):=(HB.out.cell (p:=⟨b,off + k * 6 + 2,none⟩) hb).trans g2
   have e3:wr.cell? ⟨b,off + k * 6 + 3,none⟩=some (.int .i64 y5):=(HB.out.cell (p:=⟨b,off + k * 6 + 3,none⟩) hb).trans g3
   have e4:wr.cell? ⟨b,off + k * 6 + 4,none⟩=some (.int .i64 y6):=(HB.out.cell (p:=⟨b,off + k * 6 + 4,none⟩) hb).trans g4
   have e5:wr.cell? ⟨b,off + k * 6 + 5,none⟩=some (.slice y7 y8 y9):=(HB.out.cell (p:=⟨b,off + k * 6 + 5,none⟩) hb).trans g5
   have HX:=Lib.hid hcall
   have HE:=Lib.hid (txt_snoc tx l k hlt)
   clear g0 g1 g2 g3 g4 g5 hcall
   have hki:(k:Int) < (l.length:Int):=by omega
   generalize l[k]=xk at *
   have HB1:RowKit.Hid (Below w.heap.size w (wr.alloc (.cells #[(.int .i64 y0),(.string y1),(.slice y2 y3 y4),(.int .i64 y5),(.int .i64 y6),(.slice y7 y8 y9)] 31))):=Lib.hid (Bt HB.out ((Below.refl _ _).alloc (Nat.le_refl _) _))
   have HO1:RowKit.Hid (((wr.alloc (.cells #[(.int .i64 y0),(.string y1),(.slice y2 y3 y4),(.int .i64 y5),(.int .i64 y6),(.slice y7 y8 y9)] 31))).ownsRow w.heap.size 9 1 _ k _):=Lib.hid (owns_below HO.out ((Below.refl _ _).alloc (Nat.le_refl _) _))
   clear HO HB
   go_wp2_with (first | (go_at_call 126;refine (HX.out _ HB1.out).mono ?_;rintro e w2 ⟨rfl,hb2⟩;have HB2:=Lib.hid hb2;clear hb2) | (at_builtin;refine wpList_append_own _ rfl _ _ 22 rfl w.heap.size 9 i0 (.string ByteArray.empty) 1 16 Tryz.underlying22 hi hz0 hz1 hz2 rfl (by decide) _ _ _ rfl ((owns_below HO1.out HB2.out).alloc _) ⟨w2.heap.size,0,none⟩ 1 1 [.string (Tok.ofL (tx xk))] rfl rfl (cell_one_new _ _ _) (by simp [Value.oneCell']) (by unfold maxLen;omega) (by omega) (by have:=HB1.out.size;have:=HB2.out.size;simp;omega) ?_;intro v' w3 hown3 hgrow hnil3;have HG3:=Lib.hid hgrow;have HO3:=Lib.hid hown3;clear hgrow hown3 hnil3))
   go_roundw
   case rel=>
    refine ⟨k + 1,by omega,by go_num,by rw [← HE.out];exact HO3.out,?_⟩
    exact ((Bt HB1.out HB2.out).alloc (by have:=HB1.out.size;have:=HB2.out.size;omega) _).grown HG3.out (by have:=HB1.out.size;have:=HB2.out.size;simp;omega) (fun j e=>((owns_below HO1.out HB2.out).lt j e).1)
   case measure=>simp [intOf];omega
  ·have hki:¬ (k:Int) < (l.length:Int):=by omega
   obtain rfl:k=l.length:=by omega
   have HO':=HO.out
   rw [List.take_of_length_le (Nat.le_refl _)] at HO'
   have HJN:=Lib.hid (join_own l.length _ sep tx l _ _ HO' rfl (by omega) HJ.out)
   clear HO' hlt hki
   go_wp2_with (go_at_call 130;refine HJN.out.mono ?_;rintro e w2 ⟨rfl,hb2⟩;have HB2:=Lib.hid (Bt HB.out hb2);clear hb2)
   go_ret
   exact ⟨rfl,HB2.out⟩
end Go.Proofs.YtbbgjjjeecfnoaaGreatDoor
