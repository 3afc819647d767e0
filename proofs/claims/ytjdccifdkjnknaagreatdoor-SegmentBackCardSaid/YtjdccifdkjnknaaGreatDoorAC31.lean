/- Are cells right? The program's Right, walked, where they are. -/
import Derived.Test.YtjdccifdkjnknaaGreatDoorAC30
namespace Go.Proofs.YtjdccifdkjnknaaGreatDoor
open Go.RowKit Go.Sort Go.Shelf
open Tess (CK Pay PO CO3 CO ckLt)
open Tess.Kl (Asc)
attribute [local go_sem] Oper.semAt_some
theorem below_grow {w w':World} (h:∃ q os,w'=grow (w.drewN q) os):Below w.heap.size w w':=by
 obtain ⟨q,os,rfl⟩:=h
 exact below_grown_sl w.heap.size w q os (Nat.le_refl _)
set_option maxRecDepth 100000 in
set_option maxHeartbeats 4000000 in
theorem right_any (p:Nat→Prop) (vs va:Value) (s:Tess.Sch) (C:List (CK×Pay)) (w:World) (hs:SA p w vs s) (hv:CA2 p w va C) (hok:CO s C) :
  Calls Tryz.prog 17 #[vs,va] w fun e w'=>e = .returned (.bool true)∧Below w.heap.size w w':=by
 obtain ⟨a,c,rfl,An,us,Ay⟩:=LA.rows hv
 have HR:=Hd (fun W (hB:Below w.heap.size w W)=>sRa vs s p W (hs.ag (Ag.new p hB)))
 rw [hok.sch] at HR
 have Bf:=hs
 obtain ⟨vd,vm,rfl,hd,hm,_,_⟩:=hs
 obtain ⟨ad,Af,rfl,_⟩:=sl3 hd
 obtain ⟨am,Ae,rfl,_⟩:=sl3 hm
 have Ar:=Hd Ay
 have Ch:=hok.len
 have Al:=Hd (fun W (hB:Below w.heap.size w W) (hbx:W.heap[w.heap.size]? = some (.cells #[.slice ad s.dims.length Af,.slice am s.mets.length Ae,.int .i64 s.grain] 24 (0,0)))=>cr3 w.heap.size (fun _=>false) C a c W An (fun k hk=>by
  obtain ⟨e6,hR,b,Ac,ha,hb,hp,Aa⟩:=Ay k hk
  obtain ⟨y0,y1,y2,y3,y4,y5,ey⟩:=six e6
  rw [ey] at Aa hR
  refine ⟨b,Ac,ha,Nat.lt_of_lt_of_le hb hB.size,y0,y1,y2,y3,y4,y5,⟨?_,?_,?_,?_,?_,?_⟩,fun W' hW' => ?_⟩
  ·exact (hB.cell (p:=⟨b,Ac + k * 6,none⟩) hb).trans (Aa 0 (by omega))
  ·exact (hB.cell (p:=⟨b,Ac + k * 6 + 1,none⟩) hb).trans (Aa 1 (by omega))
  ·exact (hB.cell (p:=⟨b,Ac + k * 6 + 2,none⟩) hb).trans (Aa 2 (by omega))
  ·exact (hB.cell (p:=⟨b,Ac + k * 6 + 3,none⟩) hb).trans (Aa 3 (by omega))
  ·exact (hB.cell (p:=⟨b,Ac + k * 6 + 4,none⟩) hb).trans (Aa 4 (by omega))
  ·exact (hB.cell (p:=⟨b,Ac + k * 6 + 5,none⟩) hb).trans (Aa 5 (by omega))
  ·have Bo:=Bt hB hW'
   exact right1_any w.heap.size p [_,_,_] _ s C[k] W' ((hW'.block _ (Array.getElem?_eq_some_iff.1 hbx).1).trans hbx) (Bf.ag (Ag.new p Bo)) (hR.ag (Ag.new p Bo)) hok.sch (hok.each _ (List.getElem_mem hk))))
 have Am:C.any (fun _=>false)=false:=by simp
 rw [Am] at Al
 have B8:=Hd (show ∀ k (h1:k < C.length) (h2:k + 1 < C.length),ckLt C[k].1 C[k + 1].1=true from fun k h1 h2=>(List.pairwise_iff_getElem.1 hok.asc) k (k + 1) h1 h2 (by omega))
 have Cg:decide ((1000:Int) < (C.length:Int))=false:=decide_eq_false (by omega)
 clear Bf hd hm hv Ay An Am hok
 obtain ⟨W0,Bh⟩:∃ W0,w.alloc (.cells #[.slice ad s.dims.length Af,.slice am s.mets.length Ae,.int .i64 s.grain] 24)=W0:=⟨_,rfl⟩
 obtain ⟨k0,kS,kB⟩:=la2 w (.cells #[.slice ad s.dims.length Af,.slice am s.mets.length Ae,.int .i64 s.grain] 24)
 rw [Bh] at k0 kS kB
 obtain ⟨⟨x0,x1,x2⟩,_⟩:=can3 k0
 have K0:=Hd k0
 have KB:=Hd kB
 clear k0 kS kB
 refine (callsIn_wide (n:=5)).1 ?_
 refine callsIn_of_wp_marks Tryz.func17 rfl trivial ?_ rfl
 simp only [Tryz.ntmps17,List.size_toArray,List.length_cons,List.length_nil,Nat.reduceAdd,Nat.reduceSub,Array.replicate_succ,Array.replicate_zero,List.push_toArray,List.append_toArray,List.nil_append,List.cons_append]
 gi_wp2
 refine Rf.wIs ?_
 gi_wp2_with (refine ⟨trivial,?_⟩;gi_at_call 23;refine (callsIn_wide.2 (HR.out _ KB.out)).mono ?_;rintro e w1 ⟨rfl,As⟩;have Be:=Hd (Bt KB.out As);have K1:=Hd ((As.block _ (Array.getElem?_eq_some_iff.1 K0.out).1).trans K0.out);clear As x0 x1 x2)
 gi_wp2_with (refine ⟨trivial,?_⟩;gi_at_call 36;refine (callsIn_wide.2 (Al.out _ Be.out K1.out)).mono ?_;rintro e w2 ⟨rfl,Bn⟩;have Bb:=Hd (Bt Be.out Bn);clear Bn)
 obtain ⟨W3,Bj⟩:∃ W3,w2.alloc (.cells #[.bool true] 4)=W3:=⟨_,rfl⟩
 obtain ⟨k3,Aw,Av⟩:=la2 w2 (.cells #[.bool true] 4)
 rw [Bj] at k3 Aw Av ⊢
 refine wpIn_label ?_
 gi_wp2_with (refine ⟨trivial,?_⟩;gi_at_call 39;refine (callsIn_wide.2 (pa3 a C.length c _)).mono ?_;rintro e w4 ⟨rfl,rfl⟩)
 obtain ⟨W4,Bd⟩:∃ W4,W3.alloc (.cells #[.slice a C.length c] 28)=W4:=⟨_,rfl⟩
 obtain ⟨k4,Bl,Ap⟩:=la2 W3 (.cells #[.slice a C.length c] 28)
 rw [Bd] at k4 Bl Ap ⊢
 have A9:=(Ap.block _ (by omega)).trans k3
 have Aq:=Bt Bb.out (Bt Av Ap)
 obtain ⟨N,hN⟩:∃ N,w2.heap.size=N:=⟨_,rfl⟩
 rw [hN] at A9 Aw
 rw [Aw] at k4 Bl
 have Ca:W4.heap.size=N + 2:=by omega
 have Cf:w.heap.size≤N:=by have:=Bb.out.size;omega
 have B0:=Hd (pairs_iter C.length (by omega) us a c (N + 1) (fun x=>(p x∧x < w.heap.size)∨x=N + 1) W4 (cell_of_row _ _ 0 _ _ _ k4) (.inr rfl) (fun j hj=>by
  obtain ⟨e6,_,b,Ac,ha,hb,hp,Aa⟩:=Ar.out j hj
  exact ⟨e6,b,Ac,ha,Nat.lt_of_lt_of_le hb Aq.size,.inl ⟨hp,hb⟩,fun i hi=>(Aq.cell (p:=⟨b,Ac + j * 6 + i,none⟩) hb).trans (Aa i hi)⟩))
 have Bz:=Hd A9
 have K4:=Hd k4
 have Bc:=Hd Aq
 clear k3 k4 A9 Av Ap Aq
 rw [hN]
 refine Rf.rw3 (gf:=90) (lb:=#[.pointer (some ⟨N + 1,0,none⟩)]) rfl (enters_of Tryz.func90 (by kernel_rfl) rfl) ?_
 intro fn W5 hL hD Br Bm
 have Ad:Below W4.heap.size W4 W5:=Br
 rw [Ca] at hL hD Bm ⊢
 obtain ⟨Ab,Ai,hL⟩:∃ Ab:Loop,Ab=_∧W5.heap[N + 2 + 1]? = some (.loop Ab):=⟨_,rfl,hL⟩
 have A4:=Hd Ai
 have At:Ab.state = .ready∧Ab.params.size=2∧Ab.pending=none:=by rw [Ai];exact ⟨rfl,rfl,rfl⟩
 clear Ai
 obtain ⟨At,Cb,Bv⟩:=At
 obtain ⟨J,hJ⟩:∃ J:Nat→World→Prop,J=fun k X=>X.heap[N]? = some (.cells #[.bool true] 4 (0,0))∧X.heap[N + 1]? = some (.cells #[.slice a C.length c] 28 (0,0))∧X.heap[N + 2]? = some (.deferred (some []))∧X.heap[N + 2 + 1]? = some (.loop Ab)∧Below w.heap.size w X:=⟨_,rfl⟩
 have HJ:RowKit.Hid (∀ k X,J k X↔(X.heap[N]? = some (.cells #[.bool true] 4 (0,0))∧X.heap[N + 1]? = some (.cells #[.slice a C.length c] 28 (0,0))∧X.heap[N + 2]? = some (.deferred (some []))∧X.heap[N + 2 + 1]? = some (.loop Ab)∧Below w.heap.size w X)):=Hd fun k X=>by rw [hJ]
 have B7:J 0 W5:=(HJ.out _ _).2 ⟨(Ad.block _ (by omega)).trans Bz.out,(Ad.block _ (by omega)).trans K4.out,hD,hL,Bt Bc.out Ad⟩
 clear hJ Br Ad hL hD Bm Bj Bd Bh
 refine callsIn_wide.2 ((B0.out (N + 2 + 1) Ab.fn (fun v=>(Ab.params.zip v).foldl (fun tmps (t,a)=>tmps.setIfInBounds t a) Ab.tmps) Ab.assign Ab.body J ?_ ?_ ?_ ?_ ?_ W5 B7).mono ?_)
 ·intro k X X' h hb
  obtain ⟨h2,h3,h4,h5,h6⟩:=(HJ.out _ _).1 h
  exact (HJ.out _ _).2 ⟨(hb.block _ (Array.getElem?_eq_some_iff.1 h2).1).trans h2,(hb.block _ (Array.getElem?_eq_some_iff.1 h3).1).trans h3,(hb.block _ (Array.getElem?_eq_some_iff.1 h4).1).trans h4,(hb.block _ (Array.getElem?_eq_some_iff.1 h5).1).trans h5,Bt h6 hb⟩
 ·intro k X X' l' o h Ce ho hc hs
  obtain ⟨h2,h3,h4,h5,h6⟩:=(HJ.out _ _).1 h
  exact (HJ.out _ _).2 ⟨(hs.block _ (by omega)).trans h2,(hs.block _ (by omega)).trans h3,(hs.block _ (by omega)).trans h4,(hs.block _ (by omega)).trans h5,h6.trans (hs.below (by omega))⟩
 ·intro k X h
  obtain ⟨h2,h3,h4,h5,h6⟩:=(HJ.out _ _).1 h
  have hx:=(Array.getElem?_eq_some_iff.1 h5).1
  refine ⟨hx,by omega,fun x hxl Ba => ?_⟩
  rcases Ba with ⟨Ba,Bs⟩ | rfl
  ·exact (h6.block x Bs).trans (Bc.out.block x Bs).symm
  ·exact h3.trans K4.out.symm
 ·intro k X h z hz
  obtain ⟨h2,h3,h4,h5,h6⟩:=(HJ.out _ _).1 h
  exact run_yield h5 (by rw [Cb,hz])
 ·intro k X hk h
  obtain ⟨h2,h3,h4,h5,h6⟩:=(HJ.out _ _).1 h
  rw [List.length_map,List.length_range] at hk
  have Au:k < C.length:=by omega
  have A6:k + 1 < C.length:=by omega
  have has:=B8.out k Au A6
  obtain ⟨_,Bi,_⟩:=Ar.out k Au
  obtain ⟨_,A5,_⟩:=Ar.out (k + 1) A6
  have By:=Hd (HJ.out (k + 1))
  simp only [List.getElem_map,List.getElem_range]
  generalize us k=uk at *
  generalize us (k + 1)=uk1 at *
  generalize C[k]=x at *
  generalize C[k + 1]=y at *
  generalize J (k + 1)=J' at *
  obtain ⟨A1,A7,a3,c3,a4,c4,a5,c5,rfl,Bg⟩:=Bi.shapes
  obtain ⟨A8,A3,b3,d3,b4,d4,b5,d5,rfl,Bp⟩:=A5.shapes
  have B5:=Hd (show (y.1.2.map Tess.valOf).length≤9223372036854775807 from by
   obtain ⟨_,_,_,_,e,hd,_⟩:=A5
   obtain ⟨_,_,_,hl,_⟩:=hd.cells
   exact hl)
  have A0:=Hd (fun W (hW:Below w.heap.size w W)=>aa A1 A8 A7 A3 (x.1.2.map Tess.valOf) (y.1.2.map Tess.valOf) x.1.1 y.1.1 x.2.n y.2.n a3 a4 a5 b3 b4 b5 x.2.sums.length x.2.mins.length x.2.maxs.length c3 c4 c5 y.2.sums.length y.2.mins.length y.2.maxs.length d3 d4 d5 W B5.out (Bg.below hW) (Bp.below hW))
  simp only [vc2,List.length_map] at A0
  rw [show ckLt (x.1.1,x.1.2) (y.1.1,y.1.2)=true from has] at A0
  clear has Bi A5 Bg Bp
  generalize x.2.sums.length=n3 at *
  generalize x.2.mins.length=n4 at *
  generalize x.2.maxs.length=n5 at *
  generalize y.2.sums.length=m3 at *
  generalize y.2.mins.length=m4 at *
  generalize y.2.maxs.length=m5 at *
  generalize x.1.2.length=n1 at *
  generalize y.1.2.length=m1 at *
  generalize x.1.1=t1 at *
  generalize y.1.1=t2 at *
  generalize x.2.n=z1 at *
  generalize y.2.n=z2 at *
  have H2:=Hd h2
  have H3:=Hd h3
  have H4:=Hd h4
  have H5:=Hd h5
  have H6:=Hd h6
  have Bk:=Hd (Array.getElem?_eq_some_iff.1 h5).1
  clear h h2 h3 h4 h5 h6 Au A6 hk
  refine Rf.rw2 (r:=Ab) ?_
  have B1:=A4.out
  subst B1
  dsimp only
  obtain ⟨X1,B9⟩:∃ X1,(X.alloc (.cells #[.int .i64 t1,.slice A1 n1 A7,.int .i64 z1,.slice a3 n3 c3,.slice a4 n4 c4,.slice a5 n5 c5] 80)).alloc (.cells #[.int .i64 t2,.slice A8 m1 A3,.int .i64 z2,.slice b3 m3 d3,.slice b4 m4 d4,.slice b5 m5 d5] 56)=X1:=⟨_,rfl⟩
  obtain ⟨q1,q2,qS,qB⟩:=la3 X (.cells #[.int .i64 t1,.slice A1 n1 A7,.int .i64 z1,.slice a3 n3 c3,.slice a4 n4 c4,.slice a5 n5 c5] 80) (.cells #[.int .i64 t2,.slice A8 m1 A3,.int .i64 z2,.slice b3 m3 d3,.slice b4 m4 d4,.slice b5 m5 d5] 56)
  rw [B9] at q1 q2 qS qB
  have Q1:=Hd q1
  have Q2:=Hd q2
  have QS:=Hd qS
  have QB:=Hd qB
  clear q1 q2 qS qB
  gi_wp2_with (rw [Oper.semAt_eq _ _ _ (fun c h=>by cases h)];go_simp;try go_bits)
  have Az:=Bk.out
  refine ⟨(QB.out.block _ Az).trans H5.out,fun X2 Ah hl2 => ?_⟩
  have g1:=(Ah.block X.heap.size (by omega)).trans Q1.out
  have g2:=(Ah.block (X.heap.size + 1) (by omega)).trans Q2.out
  obtain ⟨⟨x0,x1,x2,x3,x4,x5⟩,_⟩:=can6 g1
  obtain ⟨⟨y0,y1,y2,y3,y4,y5⟩,_⟩:=can6 g2
  have Bx:=QS.out
  have Ak:=Hd ((Bt H6.out QB.out).trans (Ah.below (show w.heap.size≤N + 2 + 1 by omega)))
  have Bw:=Hd (A0.out X2 Ak.out)
  have B4:=Hd (show ∀ b,b < X.heap.size→b≠N + 2 + 1→X2.heap[b]? = X.heap[b]? from fun b h1 h2=>(Ah.block b h2).trans (QB.out.block b h1))
  have Cd:=Hd hl2
  have Bu:=Hd (show X.heap.size + 2=X2.heap.size by have:=Ah.size;omega)
  clear g1 g2 Ah hl2 Bx Az
  gi_wp2_with (first | (refine ⟨trivial,?_⟩;gi_at_call 40;refine CallsIn.mono (CallsIn.inRound _ (callsIn_wide.2 Bw.out)) ?_;rintro e w6 ⟨rfl,Aj⟩;have B3:=Hd (below_grow Aj);clear Aj) | (rw [Oper.semAt_eq _ _ _ (fun c h=>by cases h)];go_simp;try go_bits))
  have Aj:=B3.out
  have Ah:=Bu.out
  have Az:=Bk.out
  have B2:=(Aj.block _ (by omega)).trans Cd.out
  have A2:∀ b,b < X.heap.size→b≠N + 2 + 1→w6.heap[b]? = X.heap[b]? := fun b h1 h2=>(Aj.block b (by omega)).trans (B4.out b h1 h2)
  have Cc:=Bt Ak.out Aj
  refine ⟨B2,fun X7 hs7 hl7=>⟨rfl,(By.out X7).2 ⟨?_,?_,?_,hl7,Cc.trans (hs7.below (by omega))⟩⟩⟩
  ·exact (hs7.block _ (by omega)).trans ((A2 _ (by omega) (by omega)).trans H2.out)
  ·exact (hs7.block _ (by omega)).trans ((A2 _ (by omega) (by omega)).trans H3.out)
  ·exact (hs7.block _ (by omega)).trans ((A2 _ (by omega) (by omega)).trans H4.out)
 ·rintro e W8 ⟨⟨vv,rfl⟩,h⟩
  obtain ⟨h2,h3,h4,h5,h6⟩:=(HJ.out _ _).1 h
  refine ⟨⟨_,rfl⟩,Ab,h5,by rw [At];decide,?_⟩
  intro W9 Ao
  rw [Bv]
  dsimp only
  have B6:=(Ao.block (N + 2) (by omega)).trans h4
  have g0:=(Ao.block N (by omega)).trans h2
  have Bq:=h6.trans (Ao.below (show w.heap.size≤N + 2 + 1 by omega))
  have Ax:=Hd (Bq.trans ((Rf.SB.put W9 (N + 2) (.deferred none)).below (show w.heap.size≤N + 2 by omega)))
  have x0:=(cob g0).1
  clear h h2 h3 h4 h5 h6 Ao g0 Bq
  gi_wp2
  refine ⟨by simp,.inl ⟨_,_,rfl,run_takeDeferred B6,?_⟩⟩
  refine ⟨.bool true,by simp [results,Tryz.results17,go_sem],rfl,Ax.out⟩
end Go.Proofs.YtjdccifdkjnknaaGreatDoor
