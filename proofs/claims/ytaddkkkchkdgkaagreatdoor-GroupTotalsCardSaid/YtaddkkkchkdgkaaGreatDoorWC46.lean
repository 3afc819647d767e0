/- What three rows come to: the laws' head, walked. -/
import Derived.Test.YtaddkkkchkdgkaaGreatDoorWC45
namespace Go.Proofs.YtaddkkkchkdgkaaGreatDoor
open Go.RowKit Go.Sort Go.Shelf
open Tess (CK Pay PayOk CelOk CelsOk Que Fil groupsP)
theorem one_in {α:Type} {P:α→Prop} {a:α} (h:P a):∀ x ∈ [a],P x:=fun x hx=>by
 rcases List.mem_cons.1 hx with rfl | hx
 ·exact h
 ·cases hx
theorem val1_at {w:World} {b:Nat} {t:TypeId} (s:ByteArray) (hs:s.size≤maxLen) (h:w.heap[b]? = some (.cells #[.string s,.bool false] t (0,0))):ValsAt (fun _=>True) w (.slice (some ⟨b,0,none⟩) 1 1) [⟨s,false⟩]:=
 ⟨_,1,rfl,(by decide:(1:Nat)≤maxLen),one_in (P:=fun x:Tess.Val=>x.s.size≤maxLen) hs,(fun e=>by cases e),fun _=>⟨b,0,rfl,(Array.getElem?_eq_some_iff.1 h).1,trivial,fun j hj=>by
   have hj:j < 1:=hj
   obtain rfl:j=0:=by omega
   exact ⟨cell_of_row _ _ 0 _ _ _ h,cell_of_row _ _ 1 _ _ _ h⟩⟩⟩
theorem eql_wide (n:Int) (W:World):(binOp .eql 60 (.agg #[.int .i64 (wHi n),.int .u64 (wLo n)]) (.agg #[.int .i64 (wHi n),.int .u64 (wLo n)])).run Tryz.prog W = .ok (.bool true) W:=by
 rw [run_eql_struct,run_equalIn_agg (d:=9999) _ _ _ _ (by kernel_rfl) (by kernel_rfl)]
 simp [Program.fieldsOf,Op.eqFields,go_sem,Tryz.underlying60,Tryz.underlying2,Tryz.underlying58]
theorem foldE16:foldE Tess.sch16 Tess.que16 0=0:=by unfold foldE;rw [Tess.que16_ok];decide
theorem foldE16':foldE Tess.sch16 Tess.que16 1=0:=by unfold foldE;rw [Tess.que16_ok];decide
theorem foldR16:foldR Tess.sch16 Tess.que16 0 [Tess.cells16].flatten=ofSet 0 [((0,[some Tess.tx]),⟨1,[5],[5],[5]⟩),((0,[some Tess.ty]),⟨2,[4],[1],[3]⟩)]:=by
 unfold foldR;rw [if_pos foldE16,show [Tess.cells16].flatten=Tess.cells16 from rfl,show (0:Int).toNat=0 from rfl,Tess.groups16]
theorem foldR16':foldR Tess.sch16 Tess.que16 1 [Tess.cells16].flatten=ofSet 1 [((0,[none]),⟨3,[9],[1],[5]⟩)]:=by
 unfold foldR;rw [if_pos foldE16',show [Tess.cells16].flatten=Tess.cells16 from rfl,show (1:Int).toNat=1 from rfl,Tess.groups16']
theorem rows16_rng:∀ r ∈ Tess.rows16,r.l.length≤1000∧r.ns.length≤1000∧r.rng:=by
 unfold Tess.rows16 Tess.Row.rng
 decide
theorem rollCode16:rollCode Tess.sch16 Tess.rows16=0:=by unfold rollCode;rw [Tess.sch16_ok,Tess.rows16_ok];rfl
theorem cells16_ok:CelsOk Tess.sch16 Tess.cells16:=Tess.roll16 ▸ Tess.roll_ok (s:=Tess.sch16) (rows:=Tess.rows16) Tess.sch16_ok (fun r hr=>List.all_eq_true.1 Tess.rows16_ok r hr) (fun r hr=>(rows16_rng r hr).2.2) (by decide)
theorem kinds16:kindsOk Tess.que16.fil:=kindsAB
theorem sch16_at {W:World} {b0 b1:Nat} (k0:W.heap[b0]? = some (.cells #[.string ⟨#[97]⟩] 9 (0,0))) (k1:W.heap[b1]? = some (.cells #[.string ⟨#[110]⟩] 9 (0,0))):SchAt (fun _=>True) W (.agg #[.slice (some ⟨b0,0,none⟩) 1 1,.slice (some ⟨b1,0,none⟩) 1 1,.int .i64 1]) Tess.sch16:=
 ⟨_,_,rfl,row_at' [.string ⟨#[97]⟩] k0 (by decide) trivial,row_at' [.string ⟨#[110]⟩] k1 (by decide) trivial,one_in (P:=fun x:ByteArray=>x.size≤maxLen) (by decide),one_in (P:=fun x:ByteArray=>x.size≤maxLen) (by decide)⟩
theorem que16_at {W:World} {b:Nat} {t1 t2:TypeId} (kG:W.heap[b]? = some (.cells #[.int .i64 2,.string ⟨#[110]⟩] t1 (0,0))) (kN:W.heap[b + 1]? = some (.cells #[.string ⟨#[97]⟩] t2 (0,0))) :
  QueAt (fun _=>True) 1 W (.agg #[.slice (some ⟨b,0,none⟩) 1 1,.slice (some ⟨b + 1,0,none⟩) 1 1,.int .i64 1,.slice none 0 0,.int .i64 0,.int .i64 1,.string ⟨#[]⟩,.slice none 0 0,.int .i64 0,.int .i64 0,.slice none 0 0,.slice none 0 0,.slice none 0 0,.int .i64 0]) Tess.que16 (.slice (some ⟨b,0,none⟩) 1 1) (.slice (some ⟨b + 1,0,none⟩) 1 1) (.slice none 0 0) (.int .i64 1) (.string ⟨#[]⟩) (.slice none 0 0) (.int .i64 0) (.int .i64 0) (.slice none 0 0) (.slice none 0 0) (.slice none 0 0) where
 e:=rfl
 aggs:=⟨_,_,rfl,(by decide:(1:Nat)≤maxLen),Nat.le_refl _,(fun e=>by cases e),fun _=>⟨b,0,rfl,(Array.getElem?_eq_some_iff.1 kG).1,trivial,fun j hj i hi=>by
  have hj:j < 1:=hj
  obtain rfl:j=0:=by omega
  rcases (show i=0∨i=1 by omega) with rfl | rfl
  ·exact cell_of_row _ _ 0 _ _ _ kG
  ·exact cell_of_row _ _ 1 _ _ _ kG⟩⟩
 mets:=one_in (P:=fun x:Tess.Agg=>x.met.size≤maxLen) (by decide)
 names:=row_at' [.string ⟨#[97]⟩] kN (by decide) trivial
 small:=one_in (P:=fun x:ByteArray=>x.size≤maxLen) (by decide)
 sets:=SetsAt.nil _ _
 fil:=⟨_,_,_,rfl,Nat.zero_le _,SlP.nil _ _,(fun x hx=>by cases hx),Nat.zero_le _,fun _=>rfl,fun h=>absurd h (by simp [Fil.l,Tess.que16])⟩
 conds:=RowsAt.nil _ _ _ _
 keys:=RowsAt.nil _ _ _ _
theorem rows16_at {W:World} {b3 b4 b5 b6 b7 b8:Nat} {t3 t4 t5 t6 t7 t8:TypeId} (k3:W.heap[b3]? = some (.cells #[.string ⟨#[120]⟩,.bool false] t3 (0,0))) (k4:W.heap[b4]? = some (.cells #[.string ⟨#[121]⟩,.bool false] t4 (0,0))) (k5:W.heap[b5]? = some (.cells #[.int .i64 5] t5 (0,0))) (k6:W.heap[b6]? = some (.cells #[.int .i64 1] t6 (0,0))) (k7:W.heap[b7]? = some (.cells #[.int .i64 3] t7 (0,0)))
  (k8:W.heap[b8]? = some (.cells #[.int .i64 1,.slice (some ⟨b3,0,none⟩) 1 1,.slice (some ⟨b5,0,none⟩) 1 1,.int .i64 1,.slice (some ⟨b4,0,none⟩) 1 1,.slice (some ⟨b6,0,none⟩) 1 1,.int .i64 2,.slice (some ⟨b4,0,none⟩) 1 1,.slice (some ⟨b7,0,none⟩) 1 1] t8 (0,0))):RowsIn (fun _=>True) W (.slice (some ⟨b8,0,none⟩) 3 3) Tess.rows16:=by
 refine ⟨_,3,rfl,(by decide:(3:Nat)≤maxLen),Nat.le_refl 3,(fun e=>by cases e),fun _=>⟨b8,0,rfl,(Array.getElem?_eq_some_iff.1 k8).1,trivial,fun j hj => ?_⟩⟩
 have hj':j < 3:=hj
 have h3:=val1_at ⟨#[120]⟩ (by decide) k3
 have h4:=val1_at ⟨#[121]⟩ (by decide) k4
 rcases (show j=0∨j=1∨j=2 by omega) with rfl | rfl | rfl
 ·refine ⟨_,rfl,⟨_,_,1,rfl,Nat.le_refl 1,h3,row_at' [.int .i64 5] k5 (by decide) trivial⟩,fun i hi => ?_⟩
  rcases (show i=0∨i=1∨i=2 by omega) with rfl | rfl | rfl
  ·exact cell_of_row _ _ 0 _ _ _ k8
  ·exact cell_of_row _ _ 1 _ _ _ k8
  ·exact cell_of_row _ _ 2 _ _ _ k8
 ·refine ⟨_,rfl,⟨_,_,1,rfl,Nat.le_refl 1,h4,row_at' [.int .i64 1] k6 (by decide) trivial⟩,fun i hi => ?_⟩
  rcases (show i=0∨i=1∨i=2 by omega) with rfl | rfl | rfl
  ·exact cell_of_row _ _ 3 _ _ _ k8
  ·exact cell_of_row _ _ 4 _ _ _ k8
  ·exact cell_of_row _ _ 5 _ _ _ k8
 ·refine ⟨_,rfl,⟨_,_,1,rfl,Nat.le_refl 1,h4,row_at' [.int .i64 3] k7 (by decide) trivial⟩,fun i hi => ?_⟩
  rcases (show i=0∨i=1∨i=2 by omega) with rfl | rfl | rfl
  ·exact cell_of_row _ _ 6 _ _ _ k8
  ·exact cell_of_row _ _ 7 _ _ _ k8
  ·exact cell_of_row _ _ 8 _ _ _ k8
theorem set_sameK {W:World} {b o:Nat} {cs:Array Value} {t:TypeId} {f:Nat×Nat} {v:Value} (h:W.heap[b]? = some (.cells cs t f)) (hv:cs[o]? = some v):W.setCell ⟨b,o,none⟩ v=W:=by
 have e:(W.setCell ⟨b,o,none⟩ v).heap=W.heap:=by
  apply Array.ext_getElem?
  intro k
  simp only [World.setCell,Array.getElem?_modify]
  by_cases hk:b=k
  ·subst hk
   rw [if_pos rfl,h]
   simp only [Option.map_some,Option.isSome_none]
   congr 2
   apply Array.ext_getElem?
   intro j
   rw [if_neg (by simp),Array.getElem?_setIfInBounds]
   split
   ·rename_i hj
    subst hj
    split
    ·exact hv.symm
    ·rename_i hn;exact absurd (Array.getElem?_eq_some_iff.1 hv).1 hn
   ·rfl
  ·rw [if_neg hk]
 cases W
 simp only [World.setCell] at e ⊢
 rw [e]
theorem laid3n (w:World) (A B C:Obj):∃ W,(((w.alloc A).alloc B).alloc C)=W∧W.heap[w.heap.size]? = some A∧W.heap[w.heap.size + 1]? = some B∧W.heap[w.heap.size + 1 + 1]? = some C∧W.heap.size=w.heap.size + 3∧Below w.heap.size w W:=by
 obtain ⟨h0,h1,h2,hS,hB⟩:=laid3 w A B C
 exact ⟨_,rfl,h0,h1,h2,hS,hB⟩
theorem fold16 {T:Lib.PrintTabs} (a0 a1:Addr) (W:World) {b0 b1 b:Nat} {vp:Value} {p:Nat→Prop} {t1 t2:TypeId} (hL:Lw T a0 a1 W) (k0:W.heap[b0]? = some (.cells #[.string ⟨#[97]⟩] 9 (0,0))) (k1:W.heap[b1]? = some (.cells #[.string ⟨#[110]⟩] 9 (0,0))) (kG:W.heap[b]? = some (.cells #[.int .i64 2,.string ⟨#[110]⟩] t1 (0,0))) (kN:W.heap[b + 1]? = some (.cells #[.string ⟨#[97]⟩] t2 (0,0)))
  (hp:PartsAt p W vp [Tess.cells16]) (set:Int) (hset:set=0∨set=1) :
  Calls Tryz.prog 15 #[.agg #[.slice (some ⟨b0,0,none⟩) 1 1,.slice (some ⟨b1,0,none⟩) 1 1,.int .i64 1],.agg #[.slice (some ⟨b,0,none⟩) 1 1,.slice (some ⟨b + 1,0,none⟩) 1 1,.int .i64 1,.slice none 0 0,.int .i64 0,.int .i64 1,.string ⟨#[]⟩,.slice none 0 0,.int .i64 0,.int .i64 0,.slice none 0 0,.slice none 0 0,.slice none 0 0,.int .i64 0],.int .i64 set,vp] W fun e w' => ∃ v',e = .returned (.tuple #[v',.int .i64 0])∧GrpsAt (fun b=>W.heap.size≤b) w' v' (foldR Tess.sch16 Tess.que16 set [Tess.cells16].flatten)∧Below W.heap.size W w':=by
 have h:=fold_any (T:=T) a0 a1 (fun _=>True) 1 _ _ vp Tess.sch16 Tess.que16 set [Tess.cells16] _ _ _ _ _ _ _ _ _ _ _ W hL.vars hL.vn hL.et (sch16_at k0 k1) (que16_at kG kN) (by omega) kinds16 (by decide) (hp.weak fun _ _=>trivial) (by decide) (fun _ C hC=>by obtain rfl:=List.mem_singleton.1 hC;exact cells16_ok) (by decide)
 have e:foldE Tess.sch16 Tess.que16 set=0:=by rcases hset with rfl | rfl;exact foldE16;exact foldE16'
 rw [e] at h
 exact h
set_option maxRecDepth 100000 in
set_option maxHeartbeats 16000000 in
theorem shown16_any {T:Lib.PrintTabs} (a0 a1:Addr) (w:World) (hL:Lw T a0 a1 w):Calls Tryz.prog 10 #[] w fun e w'=>e = .returned (.bool true)∧Below w.heap.size w w':=by
 obtain ⟨W,hW,k0,k1,k2,k3,k4,k5,k6,k7,k8,kS,kB⟩:=laid9 w (.cells #[.string ⟨#[97]⟩] 9) (.cells #[.string ⟨#[110]⟩] 9) (.cells #[.slice (some ⟨w.heap.size,0,none⟩) 1 1,.slice (some ⟨w.heap.size + 1,0,none⟩) 1 1,.int .i64 1] 24) (.cells #[.string ⟨#[120]⟩,.bool false] 72) (.cells #[.string ⟨#[121]⟩,.bool false] 72) (.cells #[.int .i64 5] 2) (.cells #[.int .i64 1] 2) (.cells #[.int .i64 3] 2) (.cells #[.int .i64 1,.slice (some ⟨w.heap.size + 1 + 1 + 1,0,none⟩) 1 1,.slice (some ⟨w.heap.size + 1 + 1 + 1 + 1 + 1,0,none⟩) 1 1,.int .i64 1,.slice (some ⟨w.heap.size + 1 + 1 + 1 + 1,0,none⟩) 1 1,.slice (some ⟨w.heap.size + 1 + 1 + 1 + 1 + 1 + 1,0,none⟩) 1 1,.int .i64 2,.slice (some ⟨w.heap.size + 1 + 1 + 1 + 1,0,none⟩) 1 1,.slice (some ⟨w.heap.size + 1 + 1 + 1 + 1 + 1 + 1 + 1,0,none⟩) 1 1] 74)
 obtain ⟨⟨x0,x1,x2⟩,_⟩:=can3 k2
 have HR:=roll_any (fun _=>True) _ _ Tess.sch16 Tess.rows16 W (sch16_at k0 k1) (rows16_at k3 k4 k5 k6 k7 k8) (by decide) rows16_rng
 rw [rollCode16] at HR
 have HR:=Lib.hid HR
 have K0:=Lib.hid k0
 have K1:=Lib.hid k1
 have K2:=Lib.hid k2
 have KS:=Lib.hid kS
 have KB:=Lib.hid kB
 have HL:=Lib.hid hL
 clear k0 k1 k2 k3 k4 k5 k6 k7 k8 kS kB hL
 go_enter Tryz.func10,Tryz.ntmps10
 go_wp2_with (fail)
 go_at_call 14
 refine HR.out.mono ?_
 rintro e w1 ⟨v,rfl,hc,_,hB1⟩
 have hc:CelsAt (fun b=>W.heap.size≤b) w1 v Tess.cells16:=by
  have:=hc trivial
  rwa [show Tess.rollP Tess.sch16.grain Tess.rows16=Tess.cells16 from Tess.roll16] at this
 obtain ⟨av,cv,rfl⟩:∃ a c,v = .slice a 3 c:=let ⟨a,c,h,_⟩:=hc;⟨a,c,h⟩
 have k0:=(hB1.block _ (Array.getElem?_eq_some_iff.1 K0.out).1).trans K0.out
 have k1:=(hB1.block _ (Array.getElem?_eq_some_iff.1 K1.out).1).trans K1.out
 have k2:=(hB1.block _ (Array.getElem?_eq_some_iff.1 K2.out).1).trans K2.out
 obtain ⟨W2,hW2,g0,g1,g2,gS,gB⟩:=laid3n w1 (.cells #[.int .i64 2,.string ⟨#[110]⟩] 76) (.cells #[.string ⟨#[97]⟩] 9) (.cells #[.slice (some ⟨w1.heap.size,0,none⟩) 1 1,.slice (some ⟨w1.heap.size + 1,0,none⟩) 1 1,.int .i64 1,.slice none 0 0,.int .i64 0,.int .i64 1,.string ⟨#[]⟩,.slice none 0 0,.int .i64 0,.int .i64 0,.slice none 0 0,.slice none 0 0,.slice none 0 0,.int .i64 0] 35)
 have k0:=(gB.block _ (Array.getElem?_eq_some_iff.1 k0).1).trans k0
 have k1:=(gB.block _ (Array.getElem?_eq_some_iff.1 k1).1).trans k1
 have k2:=(gB.block _ (Array.getElem?_eq_some_iff.1 k2).1).trans k2
 have hc2:=hc.ag (Ag.new _ gB)
 clear x0 x1 x2
 obtain ⟨⟨x0,x1,x2⟩,_⟩:=can3 k2
 obtain ⟨⟨y0,y1,y2,y3,y4,y5,y6,y7,y8,y9,ya,yb,yc,yd⟩,zf⟩:=can14 g2
 have z6:=zf 6 (by omega)
 have z7:=zf 7 (by omega)
 have z8:=zf 8 (by omega)
 have z9:=zf 9 (by omega)
 have za:=zf 10 (by omega)
 have zb:=zf 11 (by omega)
 have zc:=zf 12 (by omega)
 have zd:=zf 13 (by omega)
 clear zf
 have s6:=set_sameK (o:=6) (v:=.string ⟨#[]⟩) g2 rfl
 have s7:=set_sameK (o:=7) (v:=.slice none 0 0) g2 rfl
 have s8:=set_sameK (o:=8) (v:=.int .i64 0) g2 rfl
 have s9:=set_sameK (o:=9) (v:=.int .i64 0) g2 rfl
 have sa:=set_sameK (o:=10) (v:=.slice none 0 0) g2 rfl
 have sb:=set_sameK (o:=11) (v:=.slice none 0 0) g2 rfl
 have sc:=set_sameK (o:=12) (v:=.slice none 0 0) g2 rfl
 have sd:=set_sameK (o:=13) (v:=.int .i64 0) g2 rfl
 obtain ⟨W3,hW3⟩:∃ W3,W2.alloc (.cells #[.slice av 3 cv] 41)=W3:=⟨_,rfl⟩
 have hB3:=(laid1 W2 (.cells #[.slice av 3 cv] 41)).2.2
 have hp3:=parts1 (v:=.slice av 3 cv) hc2
 rw [hW3] at hB3 hp3
 have HLW1:=Lib.hid (Bt KB.out hB1)
 have HLW2:=Lib.hid (Bt HLW1.out gB)
 have HLW3:=Lib.hid (Bt HLW2.out hB3)
 have HF1:=Lib.hid (fold16 a0 a1 W3 (HL.out.below HLW3.out) ((hB3.block _ (Array.getElem?_eq_some_iff.1 k0).1).trans k0) ((hB3.block _ (Array.getElem?_eq_some_iff.1 k1).1).trans k1) ((hB3.block _ (Array.getElem?_eq_some_iff.1 g0).1).trans g0) ((hB3.block _ (Array.getElem?_eq_some_iff.1 g1).1).trans g1) hp3 0 (.inl rfl))
 have K0:=Lib.hid k0
 have K1:=Lib.hid k1
 have K2:=Lib.hid k2
 have G0:=Lib.hid g0
 have G1:=Lib.hid g1
 have G2:=Lib.hid g2
 have HB3:=Lib.hid hB3
 have HC2:=Lib.hid hc2
 clear hc hc2 hB1 k0 k1 k2 g0 g1 g2 gS gB hB3 hp3 hW
 go_wp2_with (fail)
 go_at_call 15
 refine HF1.out.mono ?_
 rintro e w4 ⟨v1,rfl,hG1,hB4⟩
 rw [foldR16] at hG1
 obtain ⟨ag,cg,rfl⟩:∃ a c,v1 = .slice a 2 c:=let ⟨a,c,h,_⟩:=hG1;⟨a,c,h⟩
 have hb24:Below W2.heap.size W2 w4:=Bt HB3.out hB4
 have k0:=(hb24.block _ (Array.getElem?_eq_some_iff.1 K0.out).1).trans K0.out
 have k1:=(hb24.block _ (Array.getElem?_eq_some_iff.1 K1.out).1).trans K1.out
 have k2:=(hb24.block _ (Array.getElem?_eq_some_iff.1 K2.out).1).trans K2.out
 have g0:=(hb24.block _ (Array.getElem?_eq_some_iff.1 G0.out).1).trans G0.out
 have g1:=(hb24.block _ (Array.getElem?_eq_some_iff.1 G1.out).1).trans G1.out
 have g2:=(hb24.block _ (Array.getElem?_eq_some_iff.1 G2.out).1).trans G2.out
 clear x0 x1 x2 y0 y1 y2 y3 y4 y5 y6 y7 y8 y9 ya yb yc yd z6 z7 z8 z9 za zb zc zd s6 s7 s8 s9 sa sb sc sd hW2 hW3
 obtain ⟨⟨x0,x1,x2⟩,_⟩:=can3 k2
 obtain ⟨y0,y1,y2,y3,y4,y5,y6,y7,y8,y9,ya,yb,yc,yd⟩:=(can14 g2).1
 obtain ⟨W5,hW5⟩:∃ W5,w4.alloc (.cells #[.slice av 3 cv] 41)=W5:=⟨_,rfl⟩
 have hB5:=(laid1 w4 (.cells #[.slice av 3 cv] 41)).2.2
 have hp5:=parts1 (v:=.slice av 3 cv) (HC2.out.ag (Ag.new _ hb24))
 rw [hW5] at hB5 hp5
 have HLW5:=Lib.hid (Bt HLW2.out (Bt hb24 hB5))
 have HF2:=Lib.hid (fold16 a0 a1 W5 (HL.out.below HLW5.out) ((hB5.block _ (Array.getElem?_eq_some_iff.1 k0).1).trans k0) ((hB5.block _ (Array.getElem?_eq_some_iff.1 k1).1).trans k1) ((hB5.block _ (Array.getElem?_eq_some_iff.1 g0).1).trans g0) ((hB5.block _ (Array.getElem?_eq_some_iff.1 g1).1).trans g1) hp5 1 (.inr rfl))
 have HG1:=Lib.hid (hG1.ag (Ag.new _ hB5))
 clear hG1 hB4 hb24 k0 k1 k2 g0 g1 g2 hB5 hp5
 go_wp2_with (fail)
 go_at_call 15
 refine HF2.out.mono ?_
 rintro e w6 ⟨v2,rfl,hG2,hB6⟩
 rw [foldR16'] at hG2
 obtain ⟨ah,ch,rfl⟩:∃ a c,v2 = .slice a 1 c:=let ⟨a,c,h,_⟩:=hG2;⟨a,c,h⟩
 have hG1:=HG1.out.ag (Ag.new _ hB6)
 clear x0 x1 x2 y0 y1 y2 y3 y4 y5 y6 y7 y8 y9 ya yb yc yd hW5
 obtain ⟨_,_,eg,_,_,_,hel⟩:=ListAt.open hG1
 simp only [Value.slice.injEq] at eg
 obtain ⟨rfl,-,rfl⟩:=eg
 obtain ⟨b,off,rfl,hb,_,cs,_,hR,hcell⟩:=hel 1 (by decide)
 obtain ⟨vd,vs,vm,vx,rfl,_,h2⟩:=hR
 have hsm:RowsAt 2 wideF _ w6 vs [4]:=h2.sums
 obtain ⟨asm,c4,rfl⟩:∃ a c,vs = .slice a 1 c:=let ⟨a,c,h,_⟩:=hsm;⟨a,c,h⟩
 obtain ⟨b4,off4,rfl,hb4,m0,m1⟩:=hsm.num2 (k:=0) (by decide)
 have e4:=hcell 4 (by omega)
 obtain ⟨_,_,eh,_,_,_,hel2⟩:=ListAt.open hG2
 simp only [Value.slice.injEq] at eh
 obtain ⟨rfl,-,rfl⟩:=eh
 obtain ⟨bh,offh,rfl,hbh,_,ch2,_,hR2,hcell2⟩:=hel2 0 (by decide)
 obtain ⟨ud,us,um,ux,rfl,_,_⟩:=hR2
 have q0:=hcell2 0 (by omega)
 have q3:=hcell2 3 (by omega)
 simp only [List.getElem?_cons_zero,List.getElem?_cons_succ,Nat.zero_mul,Nat.one_mul,Nat.add_zero] at e4 q0 q3 m0 m1
 have q0:w6.cell? ⟨bh,offh,none⟩=some (.int .i64 1):=q0
 have q3:w6.cell? ⟨bh,offh + 3,none⟩=some (.int .i64 3):=q3
 have n0:w6.cell? ⟨b4,off4,none⟩=some (.int .i64 (wHi 4)):=m0
 have n1:w6.cell? ⟨b4,off4 + 1,none⟩=some (.int .u64 (wLo 4)):=m1
 clear m0 m1
 have HB6:=Lib.hid (Bt HLW5.out hB6)
 have HOF:=Lib.hid (fun W=>wOf_eq 4 (by unfold I64;omega) W)
 have HEQ:=Lib.hid (fun W=>eql_wide 4 W)
 generalize wHi 4=x4 at *
 generalize wLo 4=y4 at *
 clear hG1 hG2 hel hel2 hcell hcell2 h2 hsm hB6
 go_wp2_with (fail)
 refine Flow.wp_region_flow_tail 32 (Flow.specs [.inl ?_,.inl ?_,.inl ?_,.inl ?_,.inl ?_,.inl ?_,.inl ?_,.inl ?_,.inl ?_,.inl ?_,.inl ?_,.inl ?_,.inl ?_,.inl ?_,.inl ?_,.inl ?_,.inl ?_,.inl ?_,.inl ?_,.inl ?_,.inl ?_,.inl ?_,.inl ?_,.inl ?_,.inl ?_,.inl ?_,.inl ?_,.inl ?_,.inl ?_,.inl ?_,.inl ?_,.inl ?_]) (by kernel_rfl) (by kernel_rfl) ?_ ?_
 rotate_left 32
 ·refine Flow.specs_mono ?_
  repeat (first | exact Flow.lmono_nil | refine Flow.lmono_inl ?_)
 all_goals try simp only [List.take_succ_cons,List.take_zero,List.drop_succ_cons,List.drop_zero]
 iterate 31 (refine Flow.tree_valK rfl (fun K hK=>⟨fun w hw hG => ?_,?_⟩);(have hcl:=Flow.bcell hw;clear hG hw;unfold Flow.Runs Flow.yields;go_simp;try rfl);go_simp;refine hK _ ?_;clear hK K)
 (refine Flow.tree_valK rfl (fun K hK=>⟨fun w hw hG => ?_,?_⟩);(clear hG hw;unfold Flow.Runs Flow.yields;go_simp;refine (HOF.out _).mono ?_;rintro e w5 ⟨rfl,hb5⟩;first | exact ⟨_,rfl,hb5,rfl⟩ | (refine ⟨?_,hb5⟩;rfl));go_simp;refine hK _ ?_;clear hK K)
 refine Flow.tree_nil fun w8 hw8 hG => ?_
 clear hG
 have HB8:=Lib.hid (Bt HB6.out hw8)
 have q0:=(hw8.cell (p:=⟨bh,offh,none⟩) hbh).trans q0
 have q3:=(hw8.cell (p:=⟨bh,offh + 3,none⟩) hbh).trans q3
 have heq:=HEQ.out w8
 clear hw8
 go_wp2_with (fail)
 go_ret
 exact ⟨rfl,HB8.out⟩
end Go.Proofs.YtaddkkkchkdgkaaGreatDoor
