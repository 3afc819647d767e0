/- Joined by mergeK.py: K48, K49 -/
import Derived.Test.YtaddkkkchkdgkaaGreatDoorWC30
namespace Go.Proofs.YtaddkkkchkdgkaaGreatDoor
open Go.RowKit Go.Sort
open Tess (CK Pay PayOk)
set_option maxRecDepth 100000 in
theorem cmp64_w (x y:Int) (w:World):Calls Tryz.prog 107 #[.int .i64 x,.int .i64 y] w fun e w'=>e = .returned (.int .i64 (cmpI x y))∧w'=w:=by
 rcases Int.lt_trichotomy x y with h | h | h
 ·have hc:cmpI x y = -1:=by unfold cmpI;rw [if_pos h]
  rw [hc]
  clear hc
  go_enter Tryz.func107,Tryz.ntmps107
  go_wp2
  go_ret
  exact ⟨rfl,rfl⟩
 ·subst h
  have hc:cmpI x x=0:=by unfold cmpI;simp
  rw [hc]
  clear hc
  go_enter Tryz.func107,Tryz.ntmps107
  go_wp2
  go_ret
  exact ⟨rfl,rfl⟩
 ·have hn:¬ x < y:=by omega
  have hc:cmpI x y=1:=by unfold cmpI;rw [if_neg hn,if_pos h]
  rw [hc]
  clear hc
  go_enter Tryz.func107,Tryz.ntmps107
  go_wp2
  go_ret
  exact ⟨rfl,rfl⟩
def cmpK (t:Int) (l:List Tess.Val) (u:Int) (m:List Tess.Val):Int:=
 if t=u then (if Tess.Kl.lex Tess.vLt (l.map Tess.Val.c) (m.map Tess.Val.c) then -1 else if Tess.Kl.lex Tess.vLt (m.map Tess.Val.c) (l.map Tess.Val.c) then 1 else 0) else cmpI t u
set_option maxRecDepth 100000 in
set_option maxHeartbeats 4000000 in
theorem cmpG_any (a b:Option Addr) (c d:Nat) (l m:List Tess.Val) (s1 s2 t u n o:Int) (a4 a5 a6 b4 b5 b6:Option Addr) (n4 n5 n6 c4 c5 c6 o4 o5 o6 d4 d5 d6:Nat) (w:World) (hl:l.length≤9223372036854775807) (hm:m.length≤9223372036854775807) (ha:ValCell w a l) (hb:ValCell w b m) :
  Calls Tryz.prog 69 #[.agg #[.int .i64 s1,.int .i64 t,.slice a l.length c,.int .i64 n,.slice a4 n4 c4,.slice a5 n5 c5,.slice a6 n6 c6],.agg #[.int .i64 s2,.int .i64 u,.slice b m.length d,.int .i64 o,.slice b4 o4 d4,.slice b5 o5 d5,.slice b6 o6 d6]] w
   fun e w'=>e = .returned (.int .i64 (cmpK t l u m))∧∃ q os,w'=grow (w.drewN q) os:=by
 have H1:=Lib.hid (fun W q os (e:W=grow (w.drewN q) os)=>less_any a b c d l m W hm (e ▸ ha.grown q os) (e ▸ hb.grown q os))
 have H2:=Lib.hid (fun W q os (e:W=grow (w.drewN q) os)=>less_any b a d c m l W hl (e ▸ hb.grown q os) (e ▸ ha.grown q os))
 clear ha hb
 unfold cmpK
 generalize Tess.Kl.lex Tess.vLt (l.map Tess.Val.c) (m.map Tess.Val.c)=r1 at *
 generalize Tess.Kl.lex Tess.vLt (m.map Tess.Val.c) (l.map Tess.Val.c)=r2 at *
 obtain ⟨W0,hW0⟩:∃ W0,(w.alloc (.cells #[.int .i64 s1,.int .i64 t,.slice a l.length c,.int .i64 n,.slice a4 n4 c4,.slice a5 n5 c5,.slice a6 n6 c6] 56)).alloc (.cells #[.int .i64 s2,.int .i64 u,.slice b m.length d,.int .i64 o,.slice b4 o4 d4,.slice b5 o5 d5,.slice b6 o6 d6] 56)=W0:=⟨_,rfl⟩
 obtain ⟨k0,k1,kS,kB⟩:=laid2 w (.cells #[.int .i64 s1,.int .i64 t,.slice a l.length c,.int .i64 n,.slice a4 n4 c4,.slice a5 n5 c5,.slice a6 n6 c6] 56) (.cells #[.int .i64 s2,.int .i64 u,.slice b m.length d,.int .i64 o,.slice b4 o4 d4,.slice b5 o5 d5,.slice b6 o6 d6] 56)
 rw [hW0] at k0 k1 kS kB
 have HG:=Lib.hid (show W0=grow (w.drewN 0) #[_,_] by rw [← hW0];exact grow_two w 0 _ _)
 by_cases h:t=u
 ·have ht:(t != u)=false:=by rw [bne_eq_false_iff_eq];exact h
  rw [if_pos h]
  clear h
  obtain ⟨⟨x0,x1,x2,_⟩,_⟩:=can7 k0
  obtain ⟨⟨y0,y1,y2,_⟩,_⟩:=can7 k1
  have HK:=Lib.hid (And.intro x2 y2)
  have HS:=Lib.hid kS
  clear k0 k1 kS kB
  go_enter Tryz.func69,Tryz.ntmps69
  go_wp2_with (fail)
  refine (H1.out W0 _ _ HG.out).mono ?_
  rintro e w2 ⟨rfl,nq,osq,rfl⟩
  have hg2:=HG.out
  have h2:∃ q' os',grow (W0.drewN nq) osq=grow (w.drewN q') os':=⟨_,_,by rw [hg2,grow_more]⟩
  have z2:=cell_grown (by show w.heap.size < _;rw [HS.out];omega) HK.out.1 nq osq
  have u2:=cell_grown (by show w.heap.size + 1 < _;rw [HS.out];omega) HK.out.2 nq osq
  have HG2:=Lib.hid h2
  clear h2 hg2 x0 x1 x2 y0 y1 y2 hW0
  generalize grow (W0.drewN nq) osq=W3 at *
  cases r1
  ·go_wp2_with (fail)
   obtain ⟨q',os',hq⟩:=HG2.out
   refine (H2.out W3 _ _ hq).mono ?_
   rintro e w4 ⟨rfl,nq2,osq2,rfl⟩
   have HG4:=Lib.hid (show ∃ q' os',grow (W3.drewN nq2) osq2=grow (w.drewN q') os' from ⟨_,_,by rw [hq,grow_more]⟩)
   clear hq z2 u2
   generalize grow (W3.drewN nq2) osq2=W5 at *
   cases r2
   ·go_wp2
    go_ret
    exact ⟨rfl,HG4.out⟩
   ·go_wp2
    go_ret
    exact ⟨rfl,HG4.out⟩
  ·go_wp2
   go_ret
   exact ⟨rfl,HG2.out⟩
 ·have ht:(t != u)=true:=by rw [bne_iff_ne];exact h
  rw [if_neg h]
  clear h
  obtain ⟨⟨x0,x1,_⟩,_⟩:=can7 k0
  obtain ⟨⟨y0,y1,_⟩,_⟩:=can7 k1
  clear k0 k1 kS kB
  have HC:=Lib.hid (fun W=>cmp64_w t u W)
  generalize cmpI t u=r at *
  go_enter Tryz.func69,Tryz.ntmps69
  go_wp2_with (fail)
  go_at_call 107
  refine (HC.out _).mono ?_
  rintro e w2 ⟨rfl,rfl⟩
  clear x0 x1 y0 y1
  go_wp2
  go_ret
  exact ⟨rfl,_,_,HG.out⟩
end Go.Proofs.YtaddkkkchkdgkaaGreatDoor
namespace Go.Proofs.YtaddkkkchkdgkaaGreatDoor
open Go.RowKit Go.Sort
open Tess (CK Pay PayOk)
theorem GS.new {T:Lib.PrintTabs} {N gb mb:Nat} {W:World} (hg:gb < N) (hm:mb < N) (hne:gb≠mb) (hN:N≤W.heap.size) (hb:W.heap[gb]? = some (.cells #[.slice none 0 0,.map (some mb)] 101 (0,0))) (hmap:W.heap[mb]? = some (.map #[] 0)) :
  GS T N gb mb W (.slice none 0 0) [] (fun _=>none) [] where
 gbN:=hg
 mbN:=hm
 ne:=hne
 NW:=hN
 box:=hb
 own:=OwnL.nil _
 nil:=fun _=>rfl
 map:=MapIs.made hmap
 rows:=fun s => .inl ⟨rfl,rfl⟩
 apart:=fun s s' r r' _ h=>by cases h
theorem GS.listed {T:Lib.PrintTabs} {N gb mb:Nat} {W:World} {v:Value} {us:List (List Value)} {V:ByteArray→RowV} {L:List Grp} (h:GS T N gb mb W v us V L) (hl:L.length≤maxLen) {B:Nat} (hB:B≤N):GrpsAt (fun b=>B≤b) W v L:=
 h.own.listed grp_nest (fun _ hb=>Nat.le_trans hB hb.1) (fun _ hb=>Nat.le_trans hB hb) hl h.nil
theorem GrpsAt.lt {p:Nat→Prop} {w:World} {v:Value} {l:List Grp} (h:GrpsAt p w v l):GrpsAt (fun b=>p b∧b < w.heap.size) w v l:=by
 obtain ⟨a,c,hv,h1,h2,h3,h4⟩:=h
 refine ⟨a,c,hv,h1,h2,h3,fun hl => ?_⟩
 obtain ⟨b,off,ha,hb,hp,hc⟩:=h4 hl
 exact ⟨b,off,ha,hb,⟨hp,hb⟩,fun j hj=>let ⟨cs,h5,h6,h7⟩:=hc j hj;⟨cs,h5,grp_nest.lt h6,h7⟩⟩
end Go.Proofs.YtaddkkkchkdgkaaGreatDoor
