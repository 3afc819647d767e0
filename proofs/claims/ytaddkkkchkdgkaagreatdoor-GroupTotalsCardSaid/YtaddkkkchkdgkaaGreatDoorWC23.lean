/- Are cells right? The program's Right, walked, where they are. -/
import Derived.Test.YtaddkkkchkdgkaaGreatDoorWC22
namespace Go.Proofs.YtaddkkkchkdgkaaGreatDoor
open Go.RowKit Go.Sort Go.Shelf
open Tess (CK Pay PayOk CelOk CelsOk ckLt)
open Tess.Kl (Asc)
attribute [local go_sem] Oper.semAt_some
theorem below_grow {w w':World} (h:∃ q os,w'=grow (w.drewN q) os):Below w.heap.size w w':=by
 obtain ⟨q,os,rfl⟩:=h
 exact below_grown_sl w.heap.size w q os (Nat.le_refl _)
set_option maxRecDepth 100000 in
set_option maxHeartbeats 4000000 in
theorem right_any (p:Nat→Prop) (vs va:Value) (s:Tess.Sch) (C:List (CK×Pay)) (w:World) (hs:SchAt p w vs s) (hv:CelsAt p w va C) (hok:CelsOk s C) :
  Calls Tryz.prog 64 #[vs,va] w fun e w'=>e = .returned (.bool true)∧Below w.heap.size w w':=by
 obtain ⟨a,c,rfl,hlen,us,hus⟩:=ListAt.rows hv
 have HR:=Lib.hid (fun W (hB:Below w.heap.size w W)=>schRight_any vs s p W (hs.ag (Ag.new p hB)))
 rw [hok.sch] at HR
 have hs0:=hs
 obtain ⟨vd,vm,rfl,hd,hm,_,_⟩:=hs
 obtain ⟨ad,capd,rfl,_⟩:=slp_len hd
 obtain ⟨am,capm,rfl,_⟩:=slp_len hm
 have HUS:=Lib.hid hus
 have hcl:=hok.len
 have HCON:=Lib.hid (fun W (hB:Below w.heap.size w W) (hbx:W.heap[w.heap.size]? = some (.cells #[.slice ad s.dims.length capd,.slice am s.mets.length capm,.int .i64 s.grain] 24 (0,0)))=>contains_rgt w.heap.size (fun _=>false) C a c W hlen (fun k hk=>by
  obtain ⟨e6,hR,b,off,ha,hb,hp,hcell⟩:=hus k hk
  obtain ⟨y0,y1,y2,y3,y4,y5,ey⟩:=six e6
  rw [ey] at hcell hR
  refine ⟨b,off,ha,Nat.lt_of_lt_of_le hb hB.size,y0,y1,y2,y3,y4,y5,⟨?_,?_,?_,?_,?_,?_⟩,fun W' hW' => ?_⟩
  ·exact (hB.cell (p:=⟨b,off + k * 6,none⟩) hb).trans (hcell 0 (by omega))
  ·exact (hB.cell (p:=⟨b,off + k * 6 + 1,none⟩) hb).trans (hcell 1 (by omega))
  ·exact (hB.cell (p:=⟨b,off + k * 6 + 2,none⟩) hb).trans (hcell 2 (by omega))
  ·exact (hB.cell (p:=⟨b,off + k * 6 + 3,none⟩) hb).trans (hcell 3 (by omega))
  ·exact (hB.cell (p:=⟨b,off + k * 6 + 4,none⟩) hb).trans (hcell 4 (by omega))
  ·exact (hB.cell (p:=⟨b,off + k * 6 + 5,none⟩) hb).trans (hcell 5 (by omega))
  ·have hB':=Bt hB hW'
   exact right1_any w.heap.size p [_,_,_] _ s C[k] W' ((hW'.block _ (Array.getElem?_eq_some_iff.1 hbx).1).trans hbx) (hs0.ag (Ag.new p hB')) (hR.ag (Ag.new p hB')) hok.sch (hok.each _ (List.getElem_mem hk))))
 have hany:C.any (fun _=>false)=false:=by simp
 rw [hany] at HCON
 have HAS:=Lib.hid (show ∀ k (h1:k < C.length) (h2:k + 1 < C.length),ckLt C[k].1 C[k + 1].1=true from fun k h1 h2=>(List.pairwise_iff_getElem.1 hok.asc) k (k + 1) h1 h2 (by omega))
 have hli:decide ((1000:Int) < (C.length:Int))=false:=decide_eq_false (by omega)
 clear hs0 hd hm hv hus hlen hany hok
 obtain ⟨W0,hW0⟩:∃ W0,w.alloc (.cells #[.slice ad s.dims.length capd,.slice am s.mets.length capm,.int .i64 s.grain] 24)=W0:=⟨_,rfl⟩
 obtain ⟨k0,kS,kB⟩:=laid1 w (.cells #[.slice ad s.dims.length capd,.slice am s.mets.length capm,.int .i64 s.grain] 24)
 rw [hW0] at k0 kS kB
 obtain ⟨⟨x0,x1,x2⟩,_⟩:=can3 k0
 have K0:=Lib.hid k0
 have KB:=Lib.hid kB
 clear k0 kS kB
 refine (callsIn_wide (n:=5)).1 ?_
 refine callsIn_of_wp_marks Tryz.func64 rfl trivial ?_ rfl
 simp only [Tryz.ntmps64,List.size_toArray,List.length_cons,List.length_nil,Nat.reduceAdd,Nat.reduceSub,Array.replicate_succ,Array.replicate_zero,List.push_toArray,List.append_toArray,List.nil_append,List.cons_append]
 gi_wp2
 refine Rf.wpIn_scope_straight ?_
 gi_wp2_with (refine ⟨trivial,?_⟩;gi_at_call 30;refine (callsIn_wide.2 (HR.out _ KB.out)).mono ?_;rintro e w1 ⟨rfl,hb1⟩;have HB1:=Lib.hid (Bt KB.out hb1);have K1:=Lib.hid ((hb1.block _ (Array.getElem?_eq_some_iff.1 K0.out).1).trans K0.out);clear hb1 x0 x1 x2)
 gi_wp2_with (refine ⟨trivial,?_⟩;gi_at_call 57;refine (callsIn_wide.2 (HCON.out _ HB1.out K1.out)).mono ?_;rintro e w2 ⟨rfl,hb2⟩;have HB2:=Lib.hid (Bt HB1.out hb2);clear hb2)
 obtain ⟨W3,hW3⟩:∃ W3,w2.alloc (.cells #[.bool true] 4)=W3:=⟨_,rfl⟩
 obtain ⟨k3,kS3,kB3⟩:=laid1 w2 (.cells #[.bool true] 4)
 rw [hW3] at k3 kS3 kB3 ⊢
 refine wpIn_label ?_
 gi_wp2_with (refine ⟨trivial,?_⟩;gi_at_call 100;refine (callsIn_wide.2 (pairs_any a C.length c _)).mono ?_;rintro e w4 ⟨rfl,rfl⟩)
 obtain ⟨W4,hW4⟩:∃ W4,W3.alloc (.cells #[.slice a C.length c] 41)=W4:=⟨_,rfl⟩
 obtain ⟨k4,kS4,kB4⟩:=laid1 W3 (.cells #[.slice a C.length c] 41)
 rw [hW4] at k4 kS4 kB4 ⊢
 have k34:=(kB4.block _ (by omega)).trans k3
 have hB4:=Bt HB2.out (Bt kB3 kB4)
 obtain ⟨N,hN⟩:∃ N,w2.heap.size=N:=⟨_,rfl⟩
 rw [hN] at k34 kS3
 rw [kS3] at k4 kS4
 have hS4:W4.heap.size=N + 2:=by omega
 have hNw:w.heap.size≤N:=by have:=HB2.out.size;omega
 have HCT:=Lib.hid (pairs_iter C.length (by omega) us a c (N + 1) (fun x=>(p x∧x < w.heap.size)∨x=N + 1) W4 (cell_of_row _ _ 0 _ _ _ k4) (.inr rfl) (fun j hj=>by
  obtain ⟨e6,_,b,off,ha,hb,hp,hcell⟩:=HUS.out j hj
  exact ⟨e6,b,off,ha,Nat.lt_of_lt_of_le hb hB4.size,.inl ⟨hp,hb⟩,fun i hi=>(hB4.cell (p:=⟨b,off + j * 6 + i,none⟩) hb).trans (hcell i hi)⟩))
 have K34:=Lib.hid k34
 have K4:=Lib.hid k4
 have HB4:=Lib.hid hB4
 clear k3 k4 k34 kB3 kB4 hB4
 rw [hN]
 refine Rf.range_wide (gf:=141) (lb:=#[.pointer (some ⟨N + 1,0,none⟩)]) rfl (enters_of Tryz.func141 (by kernel_rfl) rfl) ?_
 intro fn W5 hL hD hB5 hS5
 have hB5':Below W4.heap.size W4 W5:=hB5
 rw [hS4] at hL hD hS5 ⊢
 obtain ⟨rec,hrec,hL⟩:∃ rec:Loop,rec=_∧W5.heap[N + 2 + 1]? = some (.loop rec):=⟨_,rfl,hL⟩
 have HREC:=Lib.hid hrec
 have hst:rec.state = .ready∧rec.params.size=2∧rec.pending=none:=by rw [hrec];exact ⟨rfl,rfl,rfl⟩
 clear hrec
 obtain ⟨hst,hps,hpe⟩:=hst
 obtain ⟨J,hJ⟩:∃ J:Nat→World→Prop,J=fun k X=>X.heap[N]? = some (.cells #[.bool true] 4 (0,0))∧X.heap[N + 1]? = some (.cells #[.slice a C.length c] 41 (0,0))∧X.heap[N + 2]? = some (.deferred (some []))∧X.heap[N + 2 + 1]? = some (.loop rec)∧Below w.heap.size w X:=⟨_,rfl⟩
 have HJ:RowKit.Hid (∀ k X,J k X↔(X.heap[N]? = some (.cells #[.bool true] 4 (0,0))∧X.heap[N + 1]? = some (.cells #[.slice a C.length c] 41 (0,0))∧X.heap[N + 2]? = some (.deferred (some []))∧X.heap[N + 2 + 1]? = some (.loop rec)∧Below w.heap.size w X)):=Lib.hid fun k X=>by rw [hJ]
 have hJ0:J 0 W5:=(HJ.out _ _).2 ⟨(hB5'.block _ (by omega)).trans K34.out,(hB5'.block _ (by omega)).trans K4.out,hD,hL,Bt HB4.out hB5'⟩
 clear hJ hB5 hB5' hL hD hS5 hW3 hW4 hW0
 refine callsIn_wide.2 ((HCT.out (N + 2 + 1) rec.fn (fun v=>(rec.params.zip v).foldl (fun tmps (t,a)=>tmps.setIfInBounds t a) rec.tmps) rec.assign rec.body J ?_ ?_ ?_ ?_ ?_ W5 hJ0).mono ?_)
 ·intro k X X' h hb
  obtain ⟨h2,h3,h4,h5,h6⟩:=(HJ.out _ _).1 h
  exact (HJ.out _ _).2 ⟨(hb.block _ (Array.getElem?_eq_some_iff.1 h2).1).trans h2,(hb.block _ (Array.getElem?_eq_some_iff.1 h3).1).trans h3,(hb.block _ (Array.getElem?_eq_some_iff.1 h4).1).trans h4,(hb.block _ (Array.getElem?_eq_some_iff.1 h5).1).trans h5,Bt h6 hb⟩
 ·intro k X X' l' o h hl' ho hc hs
  obtain ⟨h2,h3,h4,h5,h6⟩:=(HJ.out _ _).1 h
  exact (HJ.out _ _).2 ⟨(hs.block _ (by omega)).trans h2,(hs.block _ (by omega)).trans h3,(hs.block _ (by omega)).trans h4,(hs.block _ (by omega)).trans h5,h6.trans (hs.below (by omega))⟩
 ·intro k X h
  obtain ⟨h2,h3,h4,h5,h6⟩:=(HJ.out _ _).1 h
  have hx:=(Array.getElem?_eq_some_iff.1 h5).1
  refine ⟨hx,by omega,fun x hxl hx2 => ?_⟩
  rcases hx2 with ⟨hx2,hx3⟩ | rfl
  ·exact (h6.block x hx3).trans (HB4.out.block x hx3).symm
  ·exact h3.trans K4.out.symm
 ·intro k X h z hz
  obtain ⟨h2,h3,h4,h5,h6⟩:=(HJ.out _ _).1 h
  exact run_yield h5 (by rw [hps,hz])
 ·intro k X hk h
  obtain ⟨h2,h3,h4,h5,h6⟩:=(HJ.out _ _).1 h
  rw [List.length_map,List.length_range] at hk
  have hk1:k < C.length:=by omega
  have hk2:k + 1 < C.length:=by omega
  have has:=HAS.out k hk1 hk2
  obtain ⟨_,hR1,_⟩:=HUS.out k hk1
  obtain ⟨_,hR2,_⟩:=HUS.out (k + 1) hk2
  have HJK:=Lib.hid (HJ.out (k + 1))
  simp only [List.getElem_map,List.getElem_range]
  generalize us k=uk at *
  generalize us (k + 1)=uk1 at *
  generalize C[k]=x at *
  generalize C[k + 1]=y at *
  generalize J (k + 1)=J' at *
  obtain ⟨ad1,cd1,a3,c3,a4,c4,a5,c5,rfl,hva⟩:=hR1.shapes
  obtain ⟨ad2,cd2,b3,d3,b4,d4,b5,d5,rfl,hvb⟩:=hR2.shapes
  have HLY:=Lib.hid (show (y.1.2.map Tess.valOf).length≤9223372036854775807 from by
   obtain ⟨_,_,_,_,e,hd,_⟩:=hR2
   obtain ⟨_,_,_,hl,_⟩:=hd.cells
   exact hl)
  have HAH:=Lib.hid (fun W (hW:Below w.heap.size w W)=>ahead_any ad1 ad2 cd1 cd2 (x.1.2.map Tess.valOf) (y.1.2.map Tess.valOf) x.1.1 y.1.1 x.2.n y.2.n a3 a4 a5 b3 b4 b5 x.2.sums.length x.2.mins.length x.2.maxs.length c3 c4 c5 y.2.sums.length y.2.mins.length y.2.maxs.length d3 d4 d5 W HLY.out (hva.below hW) (hvb.below hW))
  simp only [vals_c,List.length_map] at HAH
  rw [show ckLt (x.1.1,x.1.2) (y.1.1,y.1.2)=true from has] at HAH
  clear has hR1 hR2 hva hvb
  generalize x.2.sums.length=n3 at *
  generalize x.2.mins.length=n4 at *
  generalize x.2.maxs.length=n5 at *
  generalize y.2.sums.length=m3 at *
  generalize y.2.mins.length=m4 at *
  generalize y.2.maxs.length=m5 at *
  generalize x.1.2.length=n1 at *
  generalize y.1.2.length=m1 at *
  generalize x.1.1=t1 at *
  generalize y.1.1=t2 at *
  generalize x.2.n=z1 at *
  generalize y.2.n=z2 at *
  have H2:=Lib.hid h2
  have H3:=Lib.hid h3
  have H4:=Lib.hid h4
  have H5:=Lib.hid h5
  have H6:=Lib.hid h6
  have HX5:=Lib.hid (Array.getElem?_eq_some_iff.1 h5).1
  clear h h2 h3 h4 h5 h6 hk1 hk2 hk
  refine Rf.round_wide (r:=rec) ?_
  have hrr:=HREC.out
  subst hrr
  dsimp only
  obtain ⟨X1,hX1⟩:∃ X1,(X.alloc (.cells #[.int .i64 t1,.slice ad1 n1 cd1,.int .i64 z1,.slice a3 n3 c3,.slice a4 n4 c4,.slice a5 n5 c5] 126)).alloc (.cells #[.int .i64 t2,.slice ad2 m1 cd2,.int .i64 z2,.slice b3 m3 d3,.slice b4 m4 d4,.slice b5 m5 d5] 83)=X1:=⟨_,rfl⟩
  obtain ⟨q1,q2,qS,qB⟩:=laid2 X (.cells #[.int .i64 t1,.slice ad1 n1 cd1,.int .i64 z1,.slice a3 n3 c3,.slice a4 n4 c4,.slice a5 n5 c5] 126) (.cells #[.int .i64 t2,.slice ad2 m1 cd2,.int .i64 z2,.slice b3 m3 d3,.slice b4 m4 d4,.slice b5 m5 d5] 83)
  rw [hX1] at q1 q2 qS qB
  have Q1:=Lib.hid q1
  have Q2:=Lib.hid q2
  have QS:=Lib.hid qS
  have QB:=Lib.hid qB
  clear q1 q2 qS qB
  gi_wp2_with (rw [Oper.semAt_eq _ _ _ (fun c h=>by cases h)];go_simp;try go_bits)
  have hx5:=HX5.out
  refine ⟨(QB.out.block _ hx5).trans H5.out,fun X2 hs2 hl2 => ?_⟩
  have g1:=(hs2.block X.heap.size (by omega)).trans Q1.out
  have g2:=(hs2.block (X.heap.size + 1) (by omega)).trans Q2.out
  obtain ⟨⟨x0,x1,x2,x3,x4,x5⟩,_⟩:=can6 g1
  obtain ⟨⟨y0,y1,y2,y3,y4,y5⟩,_⟩:=can6 g2
  have hqs:=QS.out
  have HB2':=Lib.hid ((Bt H6.out QB.out).trans (hs2.below (show w.heap.size≤N + 2 + 1 by omega)))
  have HA2:=Lib.hid (HAH.out X2 HB2'.out)
  have HBK:=Lib.hid (show ∀ b,b < X.heap.size→b≠N + 2 + 1→X2.heap[b]? = X.heap[b]? from fun b h1 h2=>(hs2.block b h2).trans (QB.out.block b h1))
  have HL2:=Lib.hid hl2
  have HS2:=Lib.hid (show X.heap.size + 2=X2.heap.size by have:=hs2.size;omega)
  clear g1 g2 hs2 hl2 hqs hx5
  gi_wp2_with (first | (refine ⟨trivial,?_⟩;gi_at_call 61;refine CallsIn.mono (CallsIn.inRound _ (callsIn_wide.2 HA2.out)) ?_;rintro e w6 ⟨rfl,hb6⟩;have HB6:=Lib.hid (below_grow hb6);clear hb6) | (rw [Oper.semAt_eq _ _ _ (fun c h=>by cases h)];go_simp;try go_bits))
  have hb6:=HB6.out
  have hs2:=HS2.out
  have hx5:=HX5.out
  have hl6:=(hb6.block _ (by omega)).trans HL2.out
  have hbk:∀ b,b < X.heap.size→b≠N + 2 + 1→w6.heap[b]? = X.heap[b]? := fun b h1 h2=>(hb6.block b (by omega)).trans (HBK.out b h1 h2)
  have hB6:=Bt HB2'.out hb6
  refine ⟨hl6,fun X7 hs7 hl7=>⟨rfl,(HJK.out X7).2 ⟨?_,?_,?_,hl7,hB6.trans (hs7.below (by omega))⟩⟩⟩
  ·exact (hs7.block _ (by omega)).trans ((hbk _ (by omega) (by omega)).trans H2.out)
  ·exact (hs7.block _ (by omega)).trans ((hbk _ (by omega) (by omega)).trans H3.out)
  ·exact (hs7.block _ (by omega)).trans ((hbk _ (by omega) (by omega)).trans H4.out)
 ·rintro e W8 ⟨⟨vv,rfl⟩,h⟩
  obtain ⟨h2,h3,h4,h5,h6⟩:=(HJ.out _ _).1 h
  refine ⟨⟨_,rfl⟩,rec,h5,by rw [hst];decide,?_⟩
  intro W9 hW9
  rw [hpe]
  dsimp only
  have hK9:=(hW9.block (N + 2) (by omega)).trans h4
  have g0:=(hW9.block N (by omega)).trans h2
  have hB9:=h6.trans (hW9.below (show w.heap.size≤N + 2 + 1 by omega))
  have HB11:=Lib.hid (hB9.trans ((Rf.SameBut.put W9 (N + 2) (.deferred none)).below (show w.heap.size≤N + 2 by omega)))
  have x0:=(cell_of_box g0).1
  clear h h2 h3 h4 h5 h6 hW9 g0 hB9
  gi_wp2
  refine ⟨by simp,.inl ⟨_,_,rfl,run_takeDeferred hK9,?_⟩⟩
  refine ⟨.bool true,by simp [results,Tryz.results64,go_sem],rfl,HB11.out⟩
end Go.Proofs.YtaddkkkchkdgkaaGreatDoor
