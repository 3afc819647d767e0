/- Values, lists of them, compared: the program's, walked; all that it does besides is to draw and to lay blocks. -/
import Derived.Test.YtaddkkkchkdgkaaGreatDoorCC06
import Derived.Test.YtaddkkkchkdgkaaGreatDoorCC07
import Derived.Test.YtaddkkkchkdgkaaGreatDoorCC08
import Derived.Deep.LoopGhost
import Derived.Shelf.SlSortCmp.QuietGrown
namespace Go.Proofs.YtaddkkkchkdgkaaGreatDoor
open Go.RowKit Go.Sort
open Tess (cmpV cV3)
theorem gm2 (w:World) (q n:Nat) (os os':Array Obj):grow ((grow (w.drewN q) os).drewN n) os'=grow (w.drewN (q + n)) (os ++ os'):=by
 show grow (grow ((w.drewN q).drewN n) os) os'=_
 rw [grow_grow,World.drewN_drewN]
theorem grow_two (w:World) (n:Nat) (A B:Obj):((w.drewN n).alloc A).alloc B=grow (w.drewN n) #[A,B]:=by rw [alloc_eq_grow,alloc_eq_grow,grow_grow];rfl
theorem grown2 (w:World) (A B:Obj):∃ q os,(w.alloc A).alloc B=grow (w.drewN q) os:=⟨0,#[A,B],grow_two w 0 A B⟩
set_option maxRecDepth 100000 in
theorem vCompare_any (a b:Tess.Val) (w:World):Calls Tryz.prog 138 #[.agg #[.string a.s,.bool a.null],.agg #[.string b.s,.bool b.null]] w fun e w'=>e = .returned (.int .i64 (cmpV a b))∧∃ q os,w'=grow (w.drewN q) os:=by
 obtain ⟨x,m⟩:=a
 obtain ⟨y,n⟩:=b
 have HC:=fun w=>Tryz.strings_Compare x y w
 cases m <;> cases n
 all_goals
  go_enter Tryz.func138,Tryz.ntmps138
  go_wp2_with (go_at_call 180;refine (HC _).mono ?_;rintro e w2 ⟨rfl,rfl⟩)
  go_ret
  exact ⟨rfl,grown2 _ _ _⟩
def VC (w:World) (a:Option Addr) (l:List Tess.Val):Prop:=∀ j (h:j < l.length),∃ b off,a=some ⟨b,off,none⟩∧b < w.heap.size∧w.cell? ⟨b,off + j * 2,none⟩=some (.string l[j].s)∧w.cell? ⟨b,off + j * 2 + 1,none⟩=some (.bool l[j].null)
theorem VA.cells {p:Nat→Prop} {w:World} {v:Value} {l:List Tess.Val} (h:VA p w v l):∃ a cap,v = .slice a l.length cap∧l.length≤9223372036854775807∧VC w a l:=by
 obtain ⟨a,cap,hv,h1,_,_,h4⟩:=h
 exact ⟨a,cap,hv,h1,fun j hj=>let ⟨b,off,ha,hb,_,hc⟩:=h4 (by omega);⟨b,off,ha,hb,hc j hj⟩⟩
set_option maxRecDepth 100000 in
set_option maxHeartbeats 4000000 in
theorem cFa (a b:Option Addr) (c d:Nat) (l m:List Tess.Val) (w:World) (hm:m.length≤9223372036854775807) (ha:VC w a l) (hb:VC w b m) :
  Calls Tryz.prog 137 #[.slice a l.length c,.slice b m.length d,.func (.func 138) #[] #[]] w fun e w'=>e = .returned (.int .i64 (cV3 l m))∧∃ q os,w'=grow (w.drewN q) os:=by
 have HA:=Hd ha
 have HB:=Hd hb
 have HC:=Hd vCompare_any
 clear ha hb
 go_enter Tryz.func137,Tryz.ntmps137
 go_wp2
 go_loopg [13] l.length (fun kx i wr => ∃ (k q:Nat) (os:Array Obj),kx + k=l.length∧k≤m.length∧i = .int .i64 k∧Hid (cV3 l m=cV3 (l.drop k) (m.drop k))∧wr=grow (w.drewN q) os)
 case atStart=>exact ⟨0,0,#[],by omega,Nat.zero_le _,rfl,Hd rfl,by rw [grow_empty];rfl⟩
 case round=>
  obtain ⟨k,q,os,hk,As,rfl,HE,rfl⟩:=hrel
  by_cases h1:k < l.length
  ·obtain ⟨b1,o1,rfl,Ae,x0,x1⟩:=HA.out k h1
   by_cases h2:k < m.length
   ·obtain ⟨b2,o2,rfl,Ap,y0,y1⟩:=HB.out k h2
    have u0:=cell_grown Ae x0 q os
    have u1:=cell_grown Ae x1 q os
    have v0:=cell_grown Ap y0 q os
    have v1:=cell_grown Ap y1 q os
    have HD:=Hd (Tess.cmpVL_drop h1 h2)
    have An:(k:Int) < (l.length:Int):=by omega
    have Ag:(k:Int) < (m.length:Int):=by omega
    clear x0 x1 y0 y1
    generalize l[k]=s at *
    generalize m[k]=t at *
    obtain ⟨W0,Ab⟩:∃ W0,grow (w.drewN q) os=W0:=⟨_,rfl⟩
    rw [Ab] at u0 u1 v0 v1 ⊢
    have Aq:b1 < W0.heap.size:=by rw [← Ab,size_grow];simp;omega
    have Ac:b2 < W0.heap.size:=by rw [← Ab,size_grow];simp;omega
    have Ar:=Hd Ab
    clear Ab
    obtain ⟨W1,Ah⟩:∃ W1,W0.alloc (.cells #[.string s.s,.bool s.null] 72)=W1:=⟨_,rfl⟩
    obtain ⟨W2,Af⟩:∃ W2,W1.alloc (.cells #[.string t.s,.bool t.null] 72)=W2:=⟨_,rfl⟩
    obtain ⟨k1,Ao,Ad⟩:=la2 W0 (.cells #[.string s.s,.bool s.null] 72)
    obtain ⟨k2,Am,Ai⟩:=la2 W1 (.cells #[.string t.s,.bool t.null] 72)
    rw [Ah] at k1 Ao Ad
    rw [Af] at k2 Am Ai
    have y0:=(Ad.cell (p:=⟨b2,o2 + k * 2,none⟩) Ac).trans v0
    have y1:=(Ad.cell (p:=⟨b2,o2 + k * 2 + 1,none⟩) Ac).trans v1
    obtain ⟨⟨z0,z1⟩,_⟩:=can2 ((Ai.block _ (by omega)).trans k1)
    obtain ⟨⟨z2,z3⟩,_⟩:=can2 k2
    have HG:=Hd (show W2=grow (w.drewN q) (os ++ #[.cells #[.string s.s,.bool s.null] 72] ++ #[.cells #[.string t.s,.bool t.null] 72]) by rw [← Af,← Ah,← Ar.out,alloc_eq_grow,alloc_eq_grow,grow_grow,grow_grow,Array.append_assoc])
    clear k1 k2 Ao Am Ad Ai
    go_wp2_with (fail)
    refine (HC.out s t W2).mono ?_
    rintro e w2 ⟨rfl,nq,Ak,rfl⟩
    have Al:=Hd (show ∃ q' Aj,grow (W2.drewN nq) Ak=grow (w.drewN q') Aj from ⟨_,_,by rw [HG.out,gm2]⟩)
    clear z0 z1 z2 z3 y0 y1 u0 u1 v0 v1 Ah Af
    generalize grow (W2.drewN nq) Ak=W3 at *
    by_cases hc:cmpV s t=0
    ·have Aa:=Hd (HE.out.trans (by rw [HD.out,if_pos hc]))
     rw [hc]
     clear hc
     go_wp2
     go_roundg (l.length - (k + 1))
     case measure=>omega
     case rel=>
      obtain ⟨q',Aj,e⟩:=Al.out
      exact ⟨k + 1,q',Aj,by omega,by omega,by go_num,Aa,e⟩
    ·have Aa:=Hd (HE.out.trans (by rw [HD.out,if_neg hc]))
     generalize cmpV s t=z at *
     go_wp2
     go_ret
     rw [Aa.out]
     exact ⟨rfl,Al.out⟩
   ·have An:(k:Int) < (l.length:Int):=by omega
    have Ag:(m.length:Int)≤(k:Int):=by omega
    have u0:=cell_grown Ae x0 q os
    have u1:=cell_grown Ae x1 q os
    have Aa:=Hd (HE.out.trans (by rw [List.drop_eq_getElem_cons h1,List.drop_eq_nil_of_le (Nat.le_of_not_lt h2)];rfl:_=(1:Int)))
    clear x0 x1
    generalize l[k]=s at *
    obtain ⟨W0,Ab⟩:∃ W0,grow (w.drewN q) os=W0:=⟨_,rfl⟩
    rw [Ab] at u0 u1 ⊢
    have HG:=Hd (show W0.alloc (.cells #[.string s.s,.bool s.null] 72)=grow (w.drewN q) (os ++ #[.cells #[.string s.s,.bool s.null] 72]) by rw [← Ab,alloc_eq_grow,grow_grow])
    clear Ab
    go_wp2
    go_ret
    rw [Aa.out]
    exact ⟨rfl,_,_,HG.out⟩
  ·obtain rfl:k=l.length:=by omega
   have An:¬ (l.length:Int) < (l.length:Int):=by omega
   by_cases h2:l.length < m.length
   ·have Ag:(l.length:Int) < (m.length:Int):=by omega
    have Aa:=Hd (HE.out.trans (by rw [List.drop_length,List.drop_eq_getElem_cons h2];rfl:_=(-1:Int)))
    go_wp2
    go_ret
    rw [Aa.out]
    exact ⟨rfl,_,_,rfl⟩
   ·have Ag:¬ (l.length:Int) < (m.length:Int):=by omega
    have Aa:=Hd (HE.out.trans (by rw [List.drop_length,List.drop_eq_nil_of_le (Nat.le_of_not_lt h2)];rfl:_=(0:Int)))
    go_wp2
    go_ret
    rw [Aa.out]
    exact ⟨rfl,_,_,rfl⟩
set_option maxRecDepth 100000 in
theorem la4 (a b:Option Addr) (c d:Nat) (l m:List Tess.Val) (w:World) (hm:m.length≤9223372036854775807) (ha:VC w a l) (hb:VC w b m) :
  Calls Tryz.prog 96 #[.slice a l.length c,.slice b m.length d] w fun e w'=>e = .returned (.bool (Tess.Kl.lex Tess.vLt (l.map Tess.Val.c) (m.map Tess.Val.c)))∧∃ q os,w'=grow (w.drewN q) os:=by
 have H:=Hd (cFa a b c d l m w hm ha hb)
 rw [← Tess.cmpVL_lt]
 generalize cV3 l m=z at *
 clear ha hb
 go_enter Tryz.func96,Tryz.ntmps96
 go_wp2_with (go_at_call 137;refine H.out.mono ?_;rintro e w2 ⟨rfl,nq,Aa,rfl⟩)
 go_ret
 exact ⟨rfl,_,_,rfl⟩
theorem VC.grown {w:World} {a:Option Addr} {l:List Tess.Val} (h:VC w a l) (q:Nat) (os:Array Obj):VC (grow (w.drewN q) os) a l:=fun j hj=>by
 obtain ⟨b,off,ha,hb,h0,h1⟩:=h j hj
 exact ⟨b,off,ha,by rw [size_grow];simp;omega,cell_grown hb h0 q os,cell_grown hb h1 q os⟩
theorem ck_lt (t u:Int) (l m:List Tess.DV):Tess.ckLt (t,l) (u,m)=if t=u then Tess.Kl.lex Tess.vLt l m else decide (t < u):=by
 unfold Tess.ckLt Tess.Kl.pair Tess.iLt
 simp only
 split
 ·rename_i h;subst h;simp
 ·rename_i h
  rcases Int.lt_or_gt_of_ne h with h | h
  ·simp [h]
  ·rw [decide_eq_false (by omega:¬ t < u),decide_eq_true (by omega:u < t)];rfl
set_option maxRecDepth 100000 in
set_option maxHeartbeats 4000000 in
theorem aa2 (a b:Option Addr) (c d:Nat) (l m:List Tess.Val) (t u n o:Int) (a3 a4 a5 b3 b4 b5:Option Addr) (n3 n4 n5 c3 c4 c5 o3 o4 o5 d3 d4 d5:Nat) (w:World) (hm:m.length≤9223372036854775807) (ha:VC w a l) (hb:VC w b m) :
  Calls Tryz.prog 61 #[.agg #[.int .i64 t,.slice a l.length c,.int .i64 n,.slice a3 n3 c3,.slice a4 n4 c4,.slice a5 n5 c5],.agg #[.int .i64 u,.slice b m.length d,.int .i64 o,.slice b3 o3 d3,.slice b4 o4 d4,.slice b5 o5 d5]] w
   fun e w'=>e = .returned (.bool (Tess.ckLt (t,l.map Tess.Val.c) (u,m.map Tess.Val.c)))∧∃ q os,w'=grow (w.drewN q) os:=by
 have H:=Hd (fun W q os (e:W=grow (w.drewN q) os)=>la4 a b c d l m W hm (e ▸ ha.grown q os) (e ▸ hb.grown q os))
 clear ha hb
 rw [ck_lt]
 generalize Tess.Kl.lex Tess.vLt (l.map Tess.Val.c) (m.map Tess.Val.c)=r at *
 obtain ⟨W0,Aa⟩:∃ W0,(w.alloc (.cells #[.int .i64 t,.slice a l.length c,.int .i64 n,.slice a3 n3 c3,.slice a4 n4 c4,.slice a5 n5 c5] 126)).alloc (.cells #[.int .i64 u,.slice b m.length d,.int .i64 o,.slice b3 o3 d3,.slice b4 o4 d4,.slice b5 o5 d5] 83)=W0:=⟨_,rfl⟩
 obtain ⟨k0,k1,kS,kB⟩:=la3 w (.cells #[.int .i64 t,.slice a l.length c,.int .i64 n,.slice a3 n3 c3,.slice a4 n4 c4,.slice a5 n5 c5] 126) (.cells #[.int .i64 u,.slice b m.length d,.int .i64 o,.slice b3 o3 d3,.slice b4 o4 d4,.slice b5 o5 d5] 83)
 rw [Aa] at k0 k1 kS kB
 have HG:=Hd (show W0=grow (w.drewN 0) #[_,_] by rw [← Aa];exact grow_two w 0 _ _)
 obtain ⟨⟨x0,x1,_⟩,_⟩:=can6 k0
 obtain ⟨⟨y0,y1,_⟩,_⟩:=can6 k1
 clear k0 k1 kS kB
 by_cases h:t=u
 ·have ht:(t != u)=false:=by rw [bne_eq_false_iff_eq];exact h
  rw [if_pos h]
  clear h
  go_enter Tryz.func61,Tryz.ntmps61
  go_wp2_with (fail)
  refine (H.out W0 _ _ HG.out).mono ?_
  rintro e w2 ⟨rfl,nq,Ab,rfl⟩
  have Ac:=Hd (show ∃ q' os',grow (W0.drewN nq) Ab=grow (w.drewN q') os' from ⟨_,_,by rw [HG.out,gm2]⟩)
  clear x0 x1 y0 y1 Aa
  generalize grow (W0.drewN nq) Ab=W3 at *
  go_wp2
  go_ret
  exact ⟨rfl,Ac.out⟩
 ·have ht:(t != u)=true:=by rw [bne_iff_ne];exact h
  rw [if_neg h]
  clear h
  generalize hr:decide (t < u)=r'
  go_enter Tryz.func61,Tryz.ntmps61
  go_wp2
  go_ret
  exact ⟨rfl,_,_,HG.out⟩
end Go.Proofs.YtaddkkkchkdgkaaGreatDoor
