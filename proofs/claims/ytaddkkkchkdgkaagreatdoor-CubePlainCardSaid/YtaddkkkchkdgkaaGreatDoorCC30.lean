/- Joined by mergeK.py: K48, K49 -/
import Derived.Test.YtaddkkkchkdgkaaGreatDoorCC29
namespace Go.Proofs.YtaddkkkchkdgkaaGreatDoor
open Go.RowKit Go.Sort
open Tess (CK Pay PO)
set_option maxRecDepth 100000 in
theorem cmp64_w (x y:Int) (w:World):Calls Tryz.prog 107 #[.int .i64 x,.int .i64 y] w fun e w'=>e = .returned (.int .i64 (cmpI x y))∧w'=w:=by
 rcases Int.lt_trichotomy x y with h | h | h
 ·have hc:cmpI x y = -1:=by unfold cmpI;rw [if_pos h]
  rw [hc]
  clear hc
  go_enter Tryz.func107,Tryz.ntmps107
  go_wp2
  go_ret
  exact ⟨rfl,rfl⟩
 ·subst h
  have hc:cmpI x x=0:=by unfold cmpI;simp
  rw [hc]
  clear hc
  go_enter Tryz.func107,Tryz.ntmps107
  go_wp2
  go_ret
  exact ⟨rfl,rfl⟩
 ·have hn:¬ x < y:=by omega
  have hc:cmpI x y=1:=by unfold cmpI;rw [if_neg hn,if_pos h]
  rw [hc]
  clear hc
  go_enter Tryz.func107,Tryz.ntmps107
  go_wp2
  go_ret
  exact ⟨rfl,rfl⟩
def cmpK (t:Int) (l:List Tess.Val) (u:Int) (m:List Tess.Val):Int:=
 if t=u then (if Tess.Kl.lex Tess.vLt (l.map Tess.Val.c) (m.map Tess.Val.c) then -1 else if Tess.Kl.lex Tess.vLt (m.map Tess.Val.c) (l.map Tess.Val.c) then 1 else 0) else cmpI t u
set_option maxRecDepth 100000 in
set_option maxHeartbeats 4000000 in
theorem cmpG_any (a b:Option Addr) (c d:Nat) (l m:List Tess.Val) (s1 s2 t u n o:Int) (a4 a5 a6 b4 b5 b6:Option Addr) (n4 n5 n6 c4 c5 c6 o4 o5 o6 d4 d5 d6:Nat) (w:World) (hl:l.length≤9223372036854775807) (hm:m.length≤9223372036854775807) (ha:VC w a l) (hb:VC w b m) :
  Calls Tryz.prog 69 #[.agg #[.int .i64 s1,.int .i64 t,.slice a l.length c,.int .i64 n,.slice a4 n4 c4,.slice a5 n5 c5,.slice a6 n6 c6],.agg #[.int .i64 s2,.int .i64 u,.slice b m.length d,.int .i64 o,.slice b4 o4 d4,.slice b5 o5 d5,.slice b6 o6 d6]] w
   fun e w'=>e = .returned (.int .i64 (cmpK t l u m))∧∃ q os,w'=grow (w.drewN q) os:=by
 have H1:=Hd (fun W q os (e:W=grow (w.drewN q) os)=>la4 a b c d l m W hm (e ▸ ha.grown q os) (e ▸ hb.grown q os))
 have H2:=Hd (fun W q os (e:W=grow (w.drewN q) os)=>la4 b a d c m l W hl (e ▸ hb.grown q os) (e ▸ ha.grown q os))
 clear ha hb
 unfold cmpK
 generalize Tess.Kl.lex Tess.vLt (l.map Tess.Val.c) (m.map Tess.Val.c)=r1 at *
 generalize Tess.Kl.lex Tess.vLt (m.map Tess.Val.c) (l.map Tess.Val.c)=r2 at *
 obtain ⟨W0,Ad⟩:∃ W0,(w.alloc (.cells #[.int .i64 s1,.int .i64 t,.slice a l.length c,.int .i64 n,.slice a4 n4 c4,.slice a5 n5 c5,.slice a6 n6 c6] 56)).alloc (.cells #[.int .i64 s2,.int .i64 u,.slice b m.length d,.int .i64 o,.slice b4 o4 d4,.slice b5 o5 d5,.slice b6 o6 d6] 56)=W0:=⟨_,rfl⟩
 obtain ⟨k0,k1,kS,kB⟩:=la3 w (.cells #[.int .i64 s1,.int .i64 t,.slice a l.length c,.int .i64 n,.slice a4 n4 c4,.slice a5 n5 c5,.slice a6 n6 c6] 56) (.cells #[.int .i64 s2,.int .i64 u,.slice b m.length d,.int .i64 o,.slice b4 o4 d4,.slice b5 o5 d5,.slice b6 o6 d6] 56)
 rw [Ad] at k0 k1 kS kB
 have HG:=Hd (show W0=grow (w.drewN 0) #[_,_] by rw [← Ad];exact grow_two w 0 _ _)
 by_cases h:t=u
 ·have ht:(t != u)=false:=by rw [bne_eq_false_iff_eq];exact h
  rw [if_pos h]
  clear h
  obtain ⟨⟨x0,x1,x2,_⟩,_⟩:=can7 k0
  obtain ⟨⟨y0,y1,y2,_⟩,_⟩:=can7 k1
  have HK:=Hd (And.intro x2 y2)
  have HS:=Hd kS
  clear k0 k1 kS kB
  go_enter Tryz.func69,Tryz.ntmps69
  go_wp2_with (fail)
  refine (H1.out W0 _ _ HG.out).mono ?_
  rintro e w2 ⟨rfl,nq,Ab,rfl⟩
  have Af:=HG.out
  have h2:∃ q' Ac,grow (W0.drewN nq) Ab=grow (w.drewN q') Ac:=⟨_,_,by rw [Af,gm2]⟩
  have z2:=cell_grown (by show w.heap.size < _;rw [HS.out];omega) HK.out.1 nq Ab
  have u2:=cell_grown (by show w.heap.size + 1 < _;rw [HS.out];omega) HK.out.2 nq Ab
  have Ag:=Hd h2
  clear h2 Af x0 x1 x2 y0 y1 y2 Ad
  generalize grow (W0.drewN nq) Ab=W3 at *
  cases r1
  ·go_wp2_with (fail)
   obtain ⟨q',Ac,hq⟩:=Ag.out
   refine (H2.out W3 _ _ hq).mono ?_
   rintro e w4 ⟨rfl,Ae,Aa,rfl⟩
   have Ah:=Hd (show ∃ q' Ac,grow (W3.drewN Ae) Aa=grow (w.drewN q') Ac from ⟨_,_,by rw [hq,gm2]⟩)
   clear hq z2 u2
   generalize grow (W3.drewN Ae) Aa=W5 at *
   cases r2
   ·go_wp2
    go_ret
    exact ⟨rfl,Ah.out⟩
   ·go_wp2
    go_ret
    exact ⟨rfl,Ah.out⟩
  ·go_wp2
   go_ret
   exact ⟨rfl,Ag.out⟩
 ·have ht:(t != u)=true:=by rw [bne_iff_ne];exact h
  rw [if_neg h]
  clear h
  obtain ⟨⟨x0,x1,_⟩,_⟩:=can7 k0
  obtain ⟨⟨y0,y1,_⟩,_⟩:=can7 k1
  clear k0 k1 kS kB
  have HC:=Hd (fun W=>cmp64_w t u W)
  generalize cmpI t u=r at *
  go_enter Tryz.func69,Tryz.ntmps69
  go_wp2_with (fail)
  go_at_call 107
  refine (HC.out _).mono ?_
  rintro e w2 ⟨rfl,rfl⟩
  clear x0 x1 y0 y1
  go_wp2
  go_ret
  exact ⟨rfl,_,_,HG.out⟩
end Go.Proofs.YtaddkkkchkdgkaaGreatDoor
namespace Go.Proofs.YtaddkkkchkdgkaaGreatDoor
open Go.RowKit Go.Sort
open Tess (CK Pay PO)
theorem GS.new {T:Lib.PrintTabs} {N gb mb:Nat} {W:World} (hg:gb < N) (hm:mb < N) (hne:gb≠mb) (hN:N≤W.heap.size) (hb:W.heap[gb]? = some (.cells #[.slice none 0 0,.map (some mb)] 101 (0,0))) (hmap:W.heap[mb]? = some (.map #[] 0)) :
  GS T N gb mb W (.slice none 0 0) [] (fun _=>none) [] where
 gbN:=hg
 mbN:=hm
 ne:=hne
 NW:=hN
 box:=hb
 own:=OwnL.nil _
 nil:=fun _=>rfl
 map:=MI.made hmap
 rows:=fun s => .inl ⟨rfl,rfl⟩
 apart:=fun s s' r r' _ h=>by cases h
theorem GS.listed {T:Lib.PrintTabs} {N gb mb:Nat} {W:World} {v:Value} {us:List (List Value)} {V:ByteArray→RowV} {L:List Grp} (h:GS T N gb mb W v us V L) (hl:L.length≤maxLen) {B:Nat} (hB:B≤N):GA3 (fun b=>B≤b) W v L:=
 h.own.listed gn2 (fun _ hb=>Nat.le_trans hB hb.1) (fun _ hb=>Nat.le_trans hB hb) hl h.nil
theorem GA3.lt {p:Nat→Prop} {w:World} {v:Value} {l:List Grp} (h:GA3 p w v l):GA3 (fun b=>p b∧b < w.heap.size) w v l:=by
 obtain ⟨a,c,hv,h1,h2,h3,h4⟩:=h
 refine ⟨a,c,hv,h1,h2,h3,fun hl => ?_⟩
 obtain ⟨b,Aa,ha,hb,hp,hc⟩:=h4 hl
 exact ⟨b,Aa,ha,hb,⟨hp,hb⟩,fun j hj=>let ⟨cs,h5,h6,h7⟩:=hc j hj;⟨cs,h5,gn2.lt h6,h7⟩⟩
end Go.Proofs.YtaddkkkchkdgkaaGreatDoor
