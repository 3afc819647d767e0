/- Joined by mergeK.py: K99, K100p, U15p, K100, U15, T11, T12 -/
import Derived.Test.YtjdccifdkjnknaaGreatDoorAC32
import Derived.Test.YtjdccifdkjnknaaGreatDoorAC31
import Derived.Test.YtjdccifdkjnknaaGreatDoorAC16
import Derived.Test.YtjdccifdkjnknaaGreatDoorAC06
import Derived.Test.YtjdccifdkjnknaaGreatDoorAC25
import Derived.Test.YtjdccifdkjnknaaGreatDoorAC27
import Derived.Test.YtjdccifdkjnknaaGreatDoorRows
import Derived.Test.YtjdccifdkjnknaaGreatDoorAC03
import Derived.Test.YtjdccifdkjnknaaGreatDoorAC15
namespace Tess
def RCel.ck (x:RCel):CK:=(x.t,x.l.map Val.c)
end Tess
namespace Go.Proofs.YtjdccifdkjnknaaGreatDoor
open Go.RowKit Go.Sort Go.Shelf
open Tess (CK Pay PO CO3 CO ckLt RCel)
attribute [local go_sem] Oper.semAt_some
theorem RA2.sV {p:Nat→Prop} {w:World} {cs:List Value} {x:RCel} (h:RA2 p w cs x):∃ ad cd a3 c3 a4 c4 a5 c5,cs=[.int .i64 x.t,.slice ad x.l.length cd,.int .i64 x.n,.slice a3 x.sums.length c3,.slice a4 x.mins.length c4,.slice a5 x.maxs.length c5]∧VC w ad x.l:=by
 obtain ⟨vd,vs,vm,vx,rfl,h1,h2,h3,h4⟩:=h
 obtain ⟨ad,cd,rfl,_,hc⟩:=h1.cells
 obtain ⟨a3,c3,rfl⟩:=h2.shape
 obtain ⟨a4,c4,rfl⟩:=h3.shape
 obtain ⟨a5,c5,rfl⟩:=h4.shape
 exact ⟨ad,cd,a3,c3,a4,c4,a5,c5,rfl,hc⟩
set_option maxRecDepth 100000 in
set_option maxHeartbeats 4000000 in
theorem right_stop (p:Nat→Prop) (vs va:Value) (s:Tess.Sch) (C:List RCel) (w:World) (hs:SA p w vs s) (hv:LA 6 (RA2 p) p w va C) (hsch:Tess.sO s=true) (hcl:C.length≤1000) (hok:∀ x ∈ C,x.ok s=true) (hrn:∀ x ∈ C,(∀ z ∈ x.mins,I64 z)∧∀ z ∈ x.maxs,I64 z) (m:Nat) (hm:m < C.length - 1)
  (hah:∀ k (h1:k < C.length) (h2:k + 1 < C.length),k < m→ckLt C[k].ck C[k + 1].ck=true) (hno:∀ (h1:m < C.length) (h2:m + 1 < C.length),ckLt C[m].ck C[m + 1].ck=false) :
  Calls Tryz.prog 17 #[vs,va] w fun e w'=>e = .returned (.bool false)∧Below w.heap.size w w':=by
 obtain ⟨a,c,rfl,A2,us,Bi⟩:=LA.rows hv
 have HR:=Hd (fun W (hB:Below w.heap.size w W)=>sRa vs s p W (hs.ag (Ag.new p hB)))
 rw [hsch] at HR
 have Bw:=hs
 obtain ⟨vd,vm,rfl,hd,Bz,_,_⟩:=hs
 obtain ⟨ad,As,rfl,_⟩:=sl3 hd
 obtain ⟨am,Ar,rfl,_⟩:=sl3 Bz
 have Au:=Hd Bi
 have Av:=Hd (fun W (hB:Below w.heap.size w W) (hbx:W.heap[w.heap.size]? = some (.cells #[.slice ad s.dims.length As,.slice am s.mets.length Ar,.int .i64 s.grain] 24 (0,0)))=>crR w.heap.size (fun x => !x.ok s) C a c W A2 (fun k hk=>by
  obtain ⟨e6,hR,b,Ae,ha,hb,hp,Aa⟩:=Bi k hk
  obtain ⟨y0,y1,y2,y3,y4,y5,ey⟩:=six e6
  rw [ey] at Aa hR
  refine ⟨b,Ae,ha,Nat.lt_of_lt_of_le hb hB.size,y0,y1,y2,y3,y4,y5,⟨?_,?_,?_,?_,?_,?_⟩,fun W' hW' => ?_⟩
  ·exact (hB.cell (p:=⟨b,Ae + k * 6,none⟩) hb).trans (Aa 0 (by omega))
  ·exact (hB.cell (p:=⟨b,Ae + k * 6 + 1,none⟩) hb).trans (Aa 1 (by omega))
  ·exact (hB.cell (p:=⟨b,Ae + k * 6 + 2,none⟩) hb).trans (Aa 2 (by omega))
  ·exact (hB.cell (p:=⟨b,Ae + k * 6 + 3,none⟩) hb).trans (Aa 3 (by omega))
  ·exact (hB.cell (p:=⟨b,Ae + k * 6 + 4,none⟩) hb).trans (Aa 4 (by omega))
  ·exact (hB.cell (p:=⟨b,Ae + k * 6 + 5,none⟩) hb).trans (Aa 5 (by omega))
  ·have B3:=Bt hB hW'
   exact rGa w.heap.size p [_,_,_] _ s C[k] W' ((hW'.block _ (Array.getElem?_eq_some_iff.1 hbx).1).trans hbx) (Bw.ag (Ag.new p B3)) (hR.ag (Ag.new p B3)) hsch (hrn _ (List.getElem_mem hk)).1 (hrn _ (List.getElem_mem hk)).2))
 have A1:C.any (fun x => !x.ok s)=false:=by
  rw [List.any_eq_false]
  intro x hx
  rw [hok x hx]
  simp
 rw [A1] at Av
 have Cf:=Hd hah
 have Cb:=Hd hno
 have Cm:decide ((1000:Int) < (C.length:Int))=false:=decide_eq_false (by omega)
 clear Bw hd Bz hv Bi A2 A1 hok hrn hah hno hsch
 obtain ⟨W0,Bx⟩:∃ W0,w.alloc (.cells #[.slice ad s.dims.length As,.slice am s.mets.length Ar,.int .i64 s.grain] 24)=W0:=⟨_,rfl⟩
 obtain ⟨k0,kS,kB⟩:=la2 w (.cells #[.slice ad s.dims.length As,.slice am s.mets.length Ar,.int .i64 s.grain] 24)
 rw [Bx] at k0 kS kB
 obtain ⟨⟨x0,x1,x2⟩,_⟩:=can3 k0
 have K0:=Hd k0
 have KB:=Hd kB
 clear k0 kS kB
 refine (callsIn_wide (n:=5)).1 ?_
 refine callsIn_of_wp_marks Tryz.func17 rfl trivial ?_ rfl
 simp only [Tryz.ntmps17,List.size_toArray,List.length_cons,List.length_nil,Nat.reduceAdd,Nat.reduceSub,Array.replicate_succ,Array.replicate_zero,List.push_toArray,List.append_toArray,List.nil_append,List.cons_append]
 gi_wp2
 refine Rf.wIs ?_
 gi_wp2_with (refine ⟨trivial,?_⟩;gi_at_call 23;refine (callsIn_wide.2 (HR.out _ KB.out)).mono ?_;rintro e w1 ⟨rfl,Ba⟩;have Bv:=Hd (Bt KB.out Ba);have K1:=Hd ((Ba.block _ (Array.getElem?_eq_some_iff.1 K0.out).1).trans K0.out);clear Ba x0 x1 x2)
 gi_wp2_with (refine ⟨trivial,?_⟩;gi_at_call 36;refine (callsIn_wide.2 (Av.out _ Bv.out K1.out)).mono ?_;rintro e w2 ⟨rfl,B2⟩;have Bp:=Hd (Bt Bv.out B2);clear B2)
 obtain ⟨W3,By⟩:∃ W3,w2.alloc (.cells #[.bool true] 4)=W3:=⟨_,rfl⟩
 obtain ⟨k3,Be,Bb⟩:=la2 w2 (.cells #[.bool true] 4)
 rw [By] at k3 Be Bb ⊢
 refine wpIn_label ?_
 gi_wp2_with (refine ⟨trivial,?_⟩;gi_at_call 39;refine (callsIn_wide.2 (pa3 a C.length c _)).mono ?_;rintro e w4 ⟨rfl,rfl⟩)
 obtain ⟨W4,Bu⟩:∃ W4,W3.alloc (.cells #[.slice a C.length c] 28)=W4:=⟨_,rfl⟩
 obtain ⟨k4,B0,A6⟩:=la2 W3 (.cells #[.slice a C.length c] 28)
 rw [Bu] at k4 B0 A6 ⊢
 have Bl:=(A6.block _ (by omega)).trans k3
 have A9:=Bt Bp.out (Bt Bb A6)
 obtain ⟨N,hN⟩:∃ N,w2.heap.size=N:=⟨_,rfl⟩
 rw [hN] at Bl Be
 rw [Be] at k4 B0
 have Ch:W4.heap.size=N + 2:=by omega
 have Cl:w.heap.size≤N:=by have:=Bp.out.size;omega
 have Cc:=Hd (show ∀ j,j < C.length→(us j).length=6∧∃ b Ae,a=some ⟨b,Ae,none⟩∧b < W4.heap.size∧((p b∧b < w.heap.size)∨b=N + 1)∧∀ i,i < 6→W4.cell? ⟨b,Ae + j * 6 + i,none⟩=(us j)[i]? from fun j hj=>by
  obtain ⟨e6,_,b,Ae,ha,hb,hp,Aa⟩:=Au.out j hj
  exact ⟨e6,b,Ae,ha,Nat.lt_of_lt_of_le hb A9.size,.inl ⟨hp,hb⟩,fun i hi=>(A9.cell (p:=⟨b,Ae + j * 6 + i,none⟩) hb).trans (Aa i hi)⟩)
 have Cg:=Hd (cell_of_row _ _ 0 _ _ _ k4)
 have Ca:=Hd Bl
 have K4:=Hd k4
 have Br:=Hd A9
 clear k3 k4 Bl Bb A6 A9
 rw [hN]
 refine Rf.rw3 (gf:=90) (lb:=#[.pointer (some ⟨N + 1,0,none⟩)]) rfl (enters_of Tryz.func90 (by kernel_rfl) rfl) ?_
 intro fn W5 hL hD B8 B1
 have Ah:Below W4.heap.size W4 W5:=B8
 rw [Ch] at hL hD B1 ⊢
 obtain ⟨Ab,At,hL⟩:∃ Ab:Loop,Ab=_∧W5.heap[N + 2 + 1]? = some (.loop Ab):=⟨_,rfl,hL⟩
 have A0:=Hd At
 have Bq:Ab.state = .ready∧Ab.params.size=2∧Ab.pending=none:=by rw [At];exact ⟨rfl,rfl,rfl⟩
 clear At
 obtain ⟨Bq,Ci,Ck⟩:=Bq
 obtain ⟨J,hJ⟩:∃ J:Nat→World→Prop,J=fun k X=>X.heap[N]? = some (.cells #[.bool true] 4 (0,0))∧X.heap[N + 1]? = some (.cells #[.slice a C.length c] 28 (0,0))∧X.heap[N + 2]? = some (.deferred (some []))∧X.heap[N + 2 + 1]? = some (.loop Ab)∧Below w.heap.size w X:=⟨_,rfl⟩
 have HJ:RowKit.Hid (∀ k X,J k X↔(X.heap[N]? = some (.cells #[.bool true] 4 (0,0))∧X.heap[N + 1]? = some (.cells #[.slice a C.length c] 28 (0,0))∧X.heap[N + 2]? = some (.deferred (some []))∧X.heap[N + 2 + 1]? = some (.loop Ab)∧Below w.heap.size w X)):=Hd fun k X=>by rw [hJ]
 have Ce:J 0 W5:=(HJ.out _ _).2 ⟨(Ah.block _ (by omega)).trans Ca.out,(Ah.block _ (by omega)).trans K4.out,hD,hL,Bt Br.out Ah⟩
 clear hJ B8 Ah hL hD B1 By Bu Bx
 obtain ⟨PP,Bs⟩:∃ PP:World→Prop,PP=fun X=>X.heap[N]? = some (.cells #[.bool false] 4 (0,0))∧X.heap[N + 2]? = some (.deferred (some []))∧X.heap[N + 2 + 1]? = some (.loop { Ab with state:=.done,pending:=some (.exit 0) })∧Below w.heap.size w X:=⟨_,rfl⟩
 have B7:RowKit.Hid (∀ X,PP X↔(X.heap[N]? = some (.cells #[.bool false] 4 (0,0))∧X.heap[N + 2]? = some (.deferred (some []))∧X.heap[N + 2 + 1]? = some (.loop { Ab with state:=.done,pending:=some (.exit 0) })∧Below w.heap.size w X)):=Hd fun X=>by rw [Bs]
 clear Bs
 refine callsIn_wide.2 ((pairs_stop C.length (by omega) us a c (N + 1) (fun x=>(p x∧x < w.heap.size)∨x=N + 1) W4 Cg.out (.inr rfl) Cc.out m hm (N + 2 + 1) Ab.fn (fun v=>(Ab.params.zip v).foldl (fun tmps (t,a)=>tmps.setIfInBounds t a) Ab.tmps) Ab.assign Ab.body J PP ?_ ?_ ?_ ?_ ?_ W5 Ce).mono ?_)
 ·intro k X X' h hb
  obtain ⟨h2,h3,h4,h5,h6⟩:=(HJ.out _ _).1 h
  exact (HJ.out _ _).2 ⟨(hb.block _ (Array.getElem?_eq_some_iff.1 h2).1).trans h2,(hb.block _ (Array.getElem?_eq_some_iff.1 h3).1).trans h3,(hb.block _ (Array.getElem?_eq_some_iff.1 h4).1).trans h4,(hb.block _ (Array.getElem?_eq_some_iff.1 h5).1).trans h5,Bt h6 hb⟩
 ·intro k X h
  obtain ⟨h2,h3,h4,h5,h6⟩:=(HJ.out _ _).1 h
  have hx:=(Array.getElem?_eq_some_iff.1 h5).1
  refine ⟨hx,by omega,fun x hxl Bo => ?_⟩
  rcases Bo with ⟨Bo,B4⟩ | rfl
  ·exact (h6.block x B4).trans (Br.out.block x B4).symm
  ·exact h3.trans K4.out.symm
 ·intro k X h z hz
  obtain ⟨h2,h3,h4,h5,h6⟩:=(HJ.out _ _).1 h
  exact run_yield h5 (by rw [Ci,hz])
 ·intro k X B5 h
  obtain ⟨h2,h3,h4,h5,h6⟩:=(HJ.out _ _).1 h
  have Ai:k < C.length:=by omega
  have Ao:k + 1 < C.length:=by omega
  have has:=Cf.out k Ai Ao B5
  obtain ⟨_,Ax,_⟩:=Au.out k Ai
  obtain ⟨_,An,_⟩:=Au.out (k + 1) Ao
  have B9:=Hd (HJ.out (k + 1))
  generalize us k=uk at *
  generalize us (k + 1)=uk1 at *
  generalize C[k]=x at *
  generalize C[k + 1]=y at *
  generalize J (k + 1)=J' at *
  obtain ⟨Al,Ap,a3,c3,a4,c4,a5,c5,rfl,Aw⟩:=Ax.sV
  obtain ⟨Aq,Am,b3,d3,b4,d4,b5,d5,rfl,A3⟩:=An.sV
  have Bj:=Hd (show y.l.length≤9223372036854775807 from by
   obtain ⟨_,_,_,_,e,hd,_⟩:=An
   obtain ⟨_,_,_,hl,_⟩:=hd.cells
   exact hl)
  have Ay:=Hd (fun W (hW:Below w.heap.size w W)=>aa Al Aq Ap Am x.l y.l x.t y.t x.n y.n a3 a4 a5 b3 b4 b5 x.sums.length x.mins.length x.maxs.length c3 c4 c5 y.sums.length y.mins.length y.maxs.length d3 d4 d5 W Bj.out (Aw.below hW) (A3.below hW))
  rw [show ckLt (x.t,x.l.map Tess.Val.c) (y.t,y.l.map Tess.Val.c)=true from has] at Ay
  clear has Ax An Aw A3
  generalize x.sums.length=n3 at *
  generalize x.mins.length=n4 at *
  generalize x.maxs.length=n5 at *
  generalize y.sums.length=m3 at *
  generalize y.mins.length=m4 at *
  generalize y.maxs.length=m5 at *
  generalize x.l.length=n1 at *
  generalize y.l.length=m1 at *
  generalize x.t=t1 at *
  generalize y.t=t2 at *
  generalize x.n=z1 at *
  generalize y.n=z2 at *
  have H2:=Hd h2
  have H3:=Hd h3
  have H4:=Hd h4
  have H5:=Hd h5
  have H6:=Hd h6
  have Ak:=Hd (Array.getElem?_eq_some_iff.1 h5).1
  clear h h2 h3 h4 h5 h6 Ai Ao B5
  refine Rf.rw2 (r:=Ab) ?_
  have Bg:=A0.out
  subst Bg
  dsimp only
  obtain ⟨X1,Bk⟩:∃ X1,(X.alloc (.cells #[.int .i64 t1,.slice Al n1 Ap,.int .i64 z1,.slice a3 n3 c3,.slice a4 n4 c4,.slice a5 n5 c5] 80)).alloc (.cells #[.int .i64 t2,.slice Aq m1 Am,.int .i64 z2,.slice b3 m3 d3,.slice b4 m4 d4,.slice b5 m5 d5] 56)=X1:=⟨_,rfl⟩
  obtain ⟨q1,q2,qS,qB⟩:=la3 X (.cells #[.int .i64 t1,.slice Al n1 Ap,.int .i64 z1,.slice a3 n3 c3,.slice a4 n4 c4,.slice a5 n5 c5] 80) (.cells #[.int .i64 t2,.slice Aq m1 Am,.int .i64 z2,.slice b3 m3 d3,.slice b4 m4 d4,.slice b5 m5 d5] 56)
  rw [Bk] at q1 q2 qS qB
  have Q1:=Hd q1
  have Q2:=Hd q2
  have QS:=Hd qS
  have QB:=Hd qB
  clear q1 q2 qS qB
  gi_wp2_with (rw [Oper.semAt_eq _ _ _ (fun c h=>by cases h)];go_simp;try go_bits)
  have Aj:=Ak.out
  refine ⟨(QB.out.block _ Aj).trans H5.out,fun X2 Ac hl2 => ?_⟩
  have g1:=(Ac.block X.heap.size (by omega)).trans Q1.out
  have g2:=(Ac.block (X.heap.size + 1) (by omega)).trans Q2.out
  obtain ⟨⟨x0,x1,x2,x3,x4,x5⟩,_⟩:=can6 g1
  obtain ⟨⟨y0,y1,y2,y3,y4,y5⟩,_⟩:=can6 g2
  have Bd:=QS.out
  have Af:=Hd ((Bt H6.out QB.out).trans (Ac.below (show w.heap.size≤N + 2 + 1 by omega)))
  have Bc:=Hd (Ay.out X2 Af.out)
  have A8:=Hd (show ∀ b,b < X.heap.size→b≠N + 2 + 1→X2.heap[b]? = X.heap[b]? from fun b h1 h2=>(Ac.block b h2).trans (QB.out.block b h1))
  have Bn:=Hd hl2
  have A4:=Hd (show X.heap.size + 2=X2.heap.size by have:=Ac.size;omega)
  clear g1 g2 Ac hl2 Bd Aj
  gi_wp2_with (first | (refine ⟨trivial,?_⟩;gi_at_call 40;refine CallsIn.mono (CallsIn.inRound _ (callsIn_wide.2 Bc.out)) ?_;rintro e w6 ⟨rfl,Ad⟩;have A7:=Hd (below_grow Ad);clear Ad) | (rw [Oper.semAt_eq _ _ _ (fun c h=>by cases h)];go_simp;try go_bits))
  have Ad:=A7.out
  have Ac:=A4.out
  have Aj:=Ak.out
  have Bh:=(Ad.block _ (by omega)).trans Bn.out
  have Az:∀ b,b < X.heap.size→b≠N + 2 + 1→w6.heap[b]? = X.heap[b]? := fun b h1 h2=>(Ad.block b (by omega)).trans (A8.out b h1 h2)
  have Bm:=Bt Af.out Ad
  refine ⟨Bh,fun X7 hs7 hl7=>⟨rfl,(B9.out X7).2 ⟨?_,?_,?_,hl7,Bm.trans (hs7.below (by omega))⟩⟩⟩
  ·exact (hs7.block _ (by omega)).trans ((Az _ (by omega) (by omega)).trans H2.out)
  ·exact (hs7.block _ (by omega)).trans ((Az _ (by omega) (by omega)).trans H3.out)
  ·exact (hs7.block _ (by omega)).trans ((Az _ (by omega) (by omega)).trans H4.out)
 ·intro X h
  obtain ⟨h2,h3,h4,h5,h6⟩:=(HJ.out _ _).1 h
  have Ai:m < C.length:=by omega
  have Ao:m + 1 < C.length:=by omega
  have has:=Cb.out Ai Ao
  obtain ⟨_,Ax,_⟩:=Au.out m Ai
  obtain ⟨_,An,_⟩:=Au.out (m + 1) Ao
  generalize us m=uk at *
  generalize us (m + 1)=uk1 at *
  generalize C[m]=x at *
  generalize C[m + 1]=y at *
  obtain ⟨Al,Ap,a3,c3,a4,c4,a5,c5,rfl,Aw⟩:=Ax.sV
  obtain ⟨Aq,Am,b3,d3,b4,d4,b5,d5,rfl,A3⟩:=An.sV
  have Bj:=Hd (show y.l.length≤9223372036854775807 from by
   obtain ⟨_,_,_,_,e,hd,_⟩:=An
   obtain ⟨_,_,_,hl,_⟩:=hd.cells
   exact hl)
  have Ay:=Hd (fun W (hW:Below w.heap.size w W)=>aa Al Aq Ap Am x.l y.l x.t y.t x.n y.n a3 a4 a5 b3 b4 b5 x.sums.length x.mins.length x.maxs.length c3 c4 c5 y.sums.length y.mins.length y.maxs.length d3 d4 d5 W Bj.out (Aw.below hW) (A3.below hW))
  rw [show ckLt (x.t,x.l.map Tess.Val.c) (y.t,y.l.map Tess.Val.c)=false from has] at Ay
  clear has Ax An Aw A3
  generalize x.sums.length=n3 at *
  generalize x.mins.length=n4 at *
  generalize x.maxs.length=n5 at *
  generalize y.sums.length=m3 at *
  generalize y.mins.length=m4 at *
  generalize y.maxs.length=m5 at *
  generalize x.l.length=n1 at *
  generalize y.l.length=m1 at *
  generalize x.t=t1 at *
  generalize y.t=t2 at *
  generalize x.n=z1 at *
  generalize y.n=z2 at *
  have H2:=Hd h2
  have H3:=Hd h3
  have H4:=Hd h4
  have H5:=Hd h5
  have H6:=Hd h6
  have Ak:=Hd (Array.getElem?_eq_some_iff.1 h5).1
  clear h h2 h3 h4 h5 h6 Ai Ao
  refine Rf.rw2 (r:=Ab) ?_
  have Bg:=A0.out
  subst Bg
  dsimp only
  obtain ⟨X1,Bk⟩:∃ X1,(X.alloc (.cells #[.int .i64 t1,.slice Al n1 Ap,.int .i64 z1,.slice a3 n3 c3,.slice a4 n4 c4,.slice a5 n5 c5] 80)).alloc (.cells #[.int .i64 t2,.slice Aq m1 Am,.int .i64 z2,.slice b3 m3 d3,.slice b4 m4 d4,.slice b5 m5 d5] 56)=X1:=⟨_,rfl⟩
  obtain ⟨q1,q2,qS,qB⟩:=la3 X (.cells #[.int .i64 t1,.slice Al n1 Ap,.int .i64 z1,.slice a3 n3 c3,.slice a4 n4 c4,.slice a5 n5 c5] 80) (.cells #[.int .i64 t2,.slice Aq m1 Am,.int .i64 z2,.slice b3 m3 d3,.slice b4 m4 d4,.slice b5 m5 d5] 56)
  rw [Bk] at q1 q2 qS qB
  have Q1:=Hd q1
  have Q2:=Hd q2
  have QS:=Hd qS
  have QB:=Hd qB
  clear q1 q2 qS qB
  gi_wp2_with (rw [Oper.semAt_eq _ _ _ (fun c h=>by cases h)];go_simp;try go_bits)
  have Aj:=Ak.out
  refine ⟨(QB.out.block _ Aj).trans H5.out,fun X2 Ac hl2 => ?_⟩
  have g1:=(Ac.block X.heap.size (by omega)).trans Q1.out
  have g2:=(Ac.block (X.heap.size + 1) (by omega)).trans Q2.out
  obtain ⟨⟨x0,x1,x2,x3,x4,x5⟩,_⟩:=can6 g1
  obtain ⟨⟨y0,y1,y2,y3,y4,y5⟩,_⟩:=can6 g2
  have Bd:=QS.out
  have Af:=Hd ((Bt H6.out QB.out).trans (Ac.below (show w.heap.size≤N + 2 + 1 by omega)))
  have Bc:=Hd (Ay.out X2 Af.out)
  have A8:=Hd (show ∀ b,b < X.heap.size→b≠N + 2 + 1→X2.heap[b]? = X.heap[b]? from fun b h1 h2=>(Ac.block b h2).trans (QB.out.block b h1))
  have Bn:=Hd hl2
  have A4:=Hd (show X.heap.size + 2=X2.heap.size by have:=Ac.size;omega)
  clear g1 g2 Ac hl2 Bd Aj
  gi_wp2_with (first | (refine ⟨trivial,?_⟩;gi_at_call 40;refine CallsIn.mono (CallsIn.inRound _ (callsIn_wide.2 Bc.out)) ?_;rintro e w6 ⟨rfl,Ad⟩;have A7:=Hd (below_grow Ad);clear Ad;have g6:=((A7.out.block N (by have:=A4.out;have:=Ak.out;omega)).trans ((A8.out N (by have:=Ak.out;omega) (by omega)).trans H2.out));have f6:=(cob g6).2;have c6:=(cob g6).1;have G6:=Hd g6;clear g6) | (rw [Oper.semAt_eq _ _ _ (fun c h=>by cases h)];go_simp;try go_bits))
  have Ad:=A7.out
  have Ac:=A4.out
  have Aj:=Ak.out
  have Bh:=(Ad.block _ (by omega)).trans Bn.out
  have Az:∀ b,b < X.heap.size→b≠N + 2 + 1→w6.heap[b]? = X.heap[b]? := fun b h1 h2=>(Ad.block b (by omega)).trans (A8.out b h1 h2)
  have Bm:=Bt Af.out Ad
  have Cj:=heap_setCell_same w6 N 0 #[.bool true] 4 (.bool false) G6.out
  refine ⟨(heap_setCell_other w6 ⟨N,0,none⟩ _ (.bool false) (by show N + 2 + 1≠N;omega)).trans Bh,fun X7 hs7 hl7=>⟨rfl,(B7.out X7).2 ⟨(hs7.block _ (by omega)).trans Cj,?_,hl7,(Bm.setCell (by show _≤N;omega) _).trans (hs7.below (by omega))⟩⟩⟩
  exact (hs7.block _ (by omega)).trans ((heap_setCell_other w6 ⟨N,0,none⟩ _ (.bool false) (by show N + 2≠N;omega)).trans ((Az _ (by omega) (by omega)).trans H4.out))
 ·rintro e W8 ⟨⟨vv,rfl⟩,h⟩
  obtain ⟨h2,h4,h5,h6⟩:=(B7.out _).1 h
  refine ⟨⟨_,rfl⟩,_,h5,(by show LoopState.done≠LoopState.busy;decide),?_⟩
  intro W9 A5
  dsimp only
  have Cd:=(A5.block (N + 2) (by omega)).trans h4
  have g0:=(A5.block N (by omega)).trans h2
  have B6:=h6.trans (A5.below (show w.heap.size≤N + 2 + 1 by omega))
  have Bf:=Hd (B6.trans ((Rf.SB.put W9 (N + 2) (.deferred none)).below (show w.heap.size≤N + 2 by omega)))
  have x0:=(cob g0).1
  clear h h2 h4 h5 h6 A5 g0 B6
  gi_wp2
  refine ⟨by simp,.inl ⟨_,_,rfl,run_takeDeferred Cd,?_⟩⟩
  refine ⟨.bool false,by simp [results,Tryz.results17,go_sem],rfl,Bf.out⟩
end Go.Proofs.YtjdccifdkjnknaaGreatDoor
namespace Tess
open Go Kl
def RCel.cel (x:RCel):CK×Pay:=(x.ck,⟨x.n,x.sums,x.mins,x.maxs⟩)
theorem sumP_of {s n l h:Int} (hn:1≤n) (h':iSP s n l h=true):SO2 s n l h:=by
 unfold iSP at h'
 unfold SO2
 split at h'
 ·rename_i h1
  subst h1
  rw [Bool.and_eq_true,decide_eq_true_eq,decide_eq_true_eq] at h'
  omega
 ·rw [Bool.and_eq_true,Bool.and_eq_true,decide_eq_true_eq,decide_eq_true_eq,decide_eq_true_eq] at h'
  have e1:l * (n - 1)=l * (n - 2) + l:=by rw [show n - 1=(n - 2) + 1 by omega,Int.mul_add,Int.mul_one]
  have e2:h * (n - 1)=h * (n - 2) + h:=by rw [show n - 1=(n - 2) + 1 by omega,Int.mul_add,Int.mul_one]
  omega
theorem ro4 {s:Sch} {x:RCel} (hmn:∀ z ∈ x.mins,-9223372036854775808≤z∧z≤9223372036854775807) (hmx:∀ z ∈ x.maxs,-9223372036854775808≤z∧z≤9223372036854775807) (h:x.ok s=true):CO3 s x.cel∧x.l.all vO=true:=by
 unfold RCel.ok rowFits at h
 simp only [Bool.and_eq_true,decide_eq_true_eq] at h
 obtain ⟨⟨⟨⟨t0,t1⟩,t2,n1,n2⟩,⟨⟨⟨⟨⟨_,_⟩,_⟩,hl⟩,hm⟩,hv⟩,l1,l2⟩,Aa⟩:=h
 have Ab:∀ m < s.mets.length,-9223372036854775808≤x.mins.getD m 0∧x.mins.getD m 0≤9223372036854775807 ∧ -9223372036854775808≤x.maxs.getD m 0∧x.maxs.getD m 0≤9223372036854775807:=fun m hmm=>by
  have g1:m < x.mins.length:=by omega
  have g2:m < x.maxs.length:=by omega
  have a1:=hmn _ (List.getElem_mem g1)
  have a2:=hmx _ (List.getElem_mem g2)
  simp only [List.getD_eq_getElem?_getD,List.getElem?_eq_getElem g1,List.getElem?_eq_getElem g2,Option.getD_some]
  exact ⟨a1.1,a1.2,a2.1,a2.2⟩
 exact ⟨⟨⟨t0,t1,t2⟩,⟨by show (x.l.map Val.c).length=_;rw [List.length_map];exact hl,by show ((x.l.map Val.c).map valOf).all vO=true;rw [vOc hv];exact hv⟩,n2,⟨by show x.sums.length=_∧x.mins.length=_∧x.maxs.length=_;omega,n1,fun m hmm=>sumP_of n1 (RCel.sums_le x Aa (show m < x.sums.length by omega)),Ab⟩⟩,hv⟩
def rB2 (s:Sch) (l:List RCel):Bool:=(sO s && decide (l.length≤1000)) && (l.all (·.ok s) && (List.range (l.length - 1)).all fun k=>ckLt ((l.map RCel.ck).getD k (0,[])) ((l.map RCel.ck).getD (k + 1) (0,[])))
theorem aa2 {lt:CK→CK→Bool} (hs:Sto lt):∀ (l:List CK),(∀ k (h1:k < l.length) (h2:k + 1 < l.length),lt l[k] l[k + 1]=true)→l.Pairwise fun a b=>lt a b=true
 | [],_=>List.Pairwise.nil
 | [x],_=>List.pairwise_singleton _ _
 | x :: y :: l,h=>by
   have h0:=h 0 (by simp) (by simp)
   have ih:=aa2 hs (y :: l) fun k h1 h2=>h (k + 1) (by simp at h1 ⊢;omega) (by simp at h2 ⊢;omega)
   refine List.pairwise_cons.2 ⟨fun z hz => ?_,ih⟩
   rcases List.mem_cons.1 hz with rfl | hz
   ·exact h0
   ·exact hs.trans h0 ((List.pairwise_cons.1 ih).1 z hz)
end Tess
namespace Tess
open Go Kl Go.RowKit Go.Proofs.YtjdccifdkjnknaaGreatDoor
def toR (x:CK×Pay):RCel:=⟨x.1.1,x.1.2.map valOf,x.2.n,x.2.sums,x.2.mins,x.2.maxs⟩
theorem cs_valOf (l:List DV):(l.map valOf).map Val.c=l:=by
 rw [List.map_map]
 exact (List.map_congr_left fun x _=>c_valOf x).trans (List.map_id _)
theorem toR_cel (x:CK×Pay):(toR x).cel=x:=by
 obtain ⟨⟨t,l⟩,⟨n,a,b,c⟩⟩:=x
 show ((t,(l.map valOf).map Val.c),_)=_
 rw [cs_valOf]
 rfl
theorem toR_cels (C:List (CK×Pay)):(C.map toR).map RCel.cel=C:=by
 rw [List.map_map]
 exact (List.map_congr_left fun x _=>toR_cel x).trans (List.map_id _)
def RRng (C:List RCel):Prop:=∀ x ∈ C,(∀ z ∈ x.mins,-9223372036854775808≤z∧z≤9223372036854775807)∧∀ z ∈ x.maxs,-9223372036854775808≤z∧z≤9223372036854775807
theorem rBc {s:Sch} {C:List RCel} (h:rB2 s C=true) (hr:RRng C):CO s (C.map RCel.cel)∧∀ x ∈ C,x.l.all vO=true:=by
 unfold rB2 at h
 simp only [Bool.and_eq_true,decide_eq_true_eq,List.all_eq_true] at h
 obtain ⟨⟨h1,h2⟩,h3,h4⟩:=h
 have Aa:∀ k (h:k < C.length),(C.map RCel.ck).getD k (0,[])=C[k].ck:=fun k h=>by
  rw [List.getD_eq_getElem?_getD,List.getElem?_map,List.getElem?_eq_getElem h];rfl
 refine ⟨⟨h1,by rw [List.length_map];exact h2,fun y hy => ?_,?_⟩,fun x hx=>(ro4 (hr x hx).1 (hr x hx).2 (h3 x hx)).2⟩
 ·obtain ⟨x,hx,rfl⟩:=List.mem_map.1 hy
  exact (ro4 (hr x hx).1 (hr x hx).2 (h3 x hx)).1
 ·have Ab:∀ k (h1:k < (C.map RCel.ck).length) (h2:k + 1 < (C.map RCel.ck).length),ckLt (C.map RCel.ck)[k] (C.map RCel.ck)[k + 1]=true:=fun k h1 h2=>by
   have h5:=h4 k (List.mem_range.2 (by rw [List.length_map] at h2;omega))
   rw [List.length_map] at h1 h2
   rw [Aa k h1,Aa (k + 1) h2] at h5
   simpa only [List.getElem_map] using h5
  have:=aa2 cs3 (C.map RCel.ck) Ab
  rw [List.pairwise_map] at this
  show (C.map RCel.cel).Pairwise fun a b=>ckLt a.1 b.1=true
  rw [List.pairwise_map]
  exact this
theorem toR_ok {s:Sch} {x:CK×Pay} (hs:sO s=true) (h:CO3 s x):(toR x).ok s=true:=by
 obtain ⟨⟨t0,t1,t2⟩,⟨d1,d2⟩,n2,⟨⟨l1,l2,l3⟩,n1,Aa,Ab⟩⟩:=h
 unfold RCel.ok rowFits toR RCel.sO2 RCel.sumAt
 simp only [Bool.and_eq_true,decide_eq_true_eq,List.length_map,List.all_eq_true,List.mem_range]
 refine ⟨⟨⟨⟨t0,t1⟩,t2,n1,n2⟩,⟨⟨⟨⟨⟨hs,t0⟩,t1⟩,d1⟩,l2⟩,fun v hv=>List.all_eq_true.1 d2 v hv⟩,by omega,by omega⟩,fun m hm=>isSum_of (Aa m (by omega))⟩
theorem right_toR {s:Sch} {C:List (CK×Pay)} (hr:RRng (C.map toR)):rB2 s (C.map toR)=celsB s C:=by
 cases h:rB2 s (C.map toR)
 ·cases h2:celsB s C
  ·rfl
  ·exfalso
   have h3:=cBi.1 h2
   have:rB2 s (C.map toR)=true:=by
    unfold rB2
    simp only [Bool.and_eq_true,decide_eq_true_eq,List.all_eq_true,List.length_map]
    refine ⟨⟨h3.sch,h3.len⟩,fun y hy => ?_,fun k hk => ?_⟩
    ·obtain ⟨x,hx,rfl⟩:=List.mem_map.1 hy
     exact toR_ok h3.sch (h3.each x hx)
    ·have hk:=List.mem_range.1 hk
     have Aa:∀ j (hj:j < C.length),((C.map toR).map RCel.ck).getD j (0,[])=C[j].1:=fun j hj=>by
      rw [List.getD_eq_getElem?_getD,List.getElem?_map,List.getElem?_map,List.getElem?_eq_getElem hj]
      exact congrArg Prod.fst (toR_cel C[j])
     rw [Aa k (by omega),Aa (k + 1) (by omega)]
     exact List.pairwise_iff_getElem.1 h3.asc k (k + 1) (by omega) (by omega) (by omega)
   rw [this] at h
   cases h
 ·have h3:=(rBc h hr).1
  rw [toR_cels] at h3
  exact (cBi.2 h3).symm
def encR (s:Sch) (C:List RCel):ByteArray×Nat:=
 if sO s=false then (mk [],100) else if rB2 s C=false then (mk [],120) else jP ((pS2 s (C.map RCel.cel)).map mk)
theorem jPp (s:Sch) (C:List (CK×Pay)):jP ((pS2 s C).map mk)=if ∀ x ∈ pS2 s C,x.length≤60000 then (encS s C,0) else (mk [],30):=by
 unfold jP encS
 by_cases h:∀ x ∈ pS2 s C,x.length≤60000
 ·rw [if_pos h,if_pos (fun x hx=>by obtain ⟨y,hy,rfl⟩:=List.mem_map.1 hx;rw [ms2];exact h y hy)]
 ·rw [if_neg h,if_neg (fun h2=>h fun x hx=>by have:=h2 _ (List.mem_map.2 ⟨x,hx,rfl⟩);rwa [ms2] at this)]
  rfl
theorem eRt {s:Sch} {C:List (CK×Pay)} (hr:RRng (C.map toR)):encR s (C.map toR)=encP s C:=by
 unfold encR encP
 rw [right_toR hr,toR_cels,jPp]
 cases sO s <;> cases celsB s C <;> simp
end Tess
namespace Go.Proofs.YtjdccifdkjnknaaGreatDoor
open Go.RowKit Go.Sort Go.Shelf
open Tess (CK Pay PO CO3 CO ckLt RCel rB2)
attribute [local go_sem] Oper.semAt_some
theorem LA.maps {α β:Type} {k:Nat} {R:World→List Value→α→Prop} {S:World→List Value→β→Prop} {p:Nat→Prop} {w:World} {v:Value} {l:List α} (f:α→β) (h:LA k R p w v l) (hR:∀ cs x,x ∈ l→R w cs x→S w cs (f x)):LA k S p w v (l.map f):=by
 obtain ⟨a,Ab,hv,h1,h2,h3,h4⟩:=h
 refine ⟨a,Ab,by rw [List.length_map];exact hv,by rw [List.length_map];exact h1,by rw [List.length_map];exact h2,h3,fun hl => ?_⟩
 obtain ⟨b,Aa,ha,hb,hp,hc⟩:=h4 (by simpa using hl)
 refine ⟨b,Aa,ha,hb,hp,fun j hj => ?_⟩
 obtain ⟨cs,e1,e2,e3⟩:=hc j (by simpa using hj)
 exact ⟨cs,e1,by rw [List.getElem_map];exact hR _ _ (List.getElem_mem _) e2,e3⟩
theorem RA2.cel {p:Nat→Prop} {w:World} {cs:List Value} {x:RCel} (h:RA2 p w cs x) (hv:x.l.all Tess.vO=true):CA3 p w cs x.cel:=by
 obtain ⟨vd,vs,vm,vx,rfl,h1,h2,h3,h4⟩:=h
 refine ⟨vd,vs,vm,vx,rfl,?_,⟨h2,h3,h4⟩⟩
 show VA p w vd ((x.l.map Tess.Val.c).map Tess.valOf)
 rw [Tess.vOc hv]
 exact h1
set_option maxRecDepth 100000 in
set_option maxHeartbeats 4000000 in
theorem right_sch (p:Nat→Prop) (vs va:Value) (s:Tess.Sch) (C:List RCel) (w:World) (hs:SA p w vs s) (hv:LA 6 (RA2 p) p w va C) (hsch:Tess.sO s=false) :
  Calls Tryz.prog 17 #[vs,va] w fun e w'=>e = .returned (.bool false)∧Below w.heap.size w w':=by
 obtain ⟨a,c,rfl,_⟩:=LA.open hv
 have HR:=Hd (fun W (hB:Below w.heap.size w W)=>sRa vs s p W (hs.ag (Ag.new p hB)))
 rw [hsch] at HR
 obtain ⟨vd,vm,rfl,hd,Ad,_,_⟩:=hs
 obtain ⟨ad,Ab,rfl,_⟩:=sl3 hd
 obtain ⟨am,Aa,rfl,_⟩:=sl3 Ad
 clear hv hd Ad hsch
 obtain ⟨W0,Af⟩:∃ W0,w.alloc (.cells #[.slice ad s.dims.length Ab,.slice am s.mets.length Aa,.int .i64 s.grain] 24)=W0:=⟨_,rfl⟩
 obtain ⟨k0,kS,kB⟩:=la2 w (.cells #[.slice ad s.dims.length Ab,.slice am s.mets.length Aa,.int .i64 s.grain] 24)
 rw [Af] at k0 kS kB
 obtain ⟨⟨x0,x1,x2⟩,_⟩:=can3 k0
 have K0:=Hd k0
 have KB:=Hd kB
 clear k0 kS kB
 refine (callsIn_wide (n:=5)).1 ?_
 refine callsIn_of_wp_marks Tryz.func17 rfl trivial ?_ rfl
 simp only [Tryz.ntmps17,List.size_toArray,List.length_cons,List.length_nil,Nat.reduceAdd,Nat.reduceSub,Array.replicate_succ,Array.replicate_zero,List.push_toArray,List.append_toArray,List.nil_append,List.cons_append]
 gi_wp2
 refine Rf.wIs ?_
 gi_wp2_with (refine ⟨trivial,?_⟩;gi_at_call 23;refine (callsIn_wide.2 (HR.out _ KB.out)).mono ?_;rintro e w1 ⟨rfl,Ac⟩;have Ae:=Hd (Bt KB.out Ac);have K1:=Hd ((Ac.block _ (Array.getElem?_eq_some_iff.1 K0.out).1).trans K0.out);clear Ac x0 x1 x2)
 gi_wp2_with (refine ⟨trivial,?_⟩)
 rw [Exit.noGoto_ret]
 refine ⟨.bool false,by simp [results,Tryz.results17,go_sem],rfl,Ae.out⟩
set_option maxRecDepth 100000 in
set_option maxHeartbeats 4000000 in
theorem right_many (p:Nat→Prop) (vs va:Value) (s:Tess.Sch) (C:List RCel) (w:World) (hs:SA p w vs s) (hv:LA 6 (RA2 p) p w va C) (hsch:Tess.sO s=true) (hm:1000 < C.length) :
  Calls Tryz.prog 17 #[vs,va] w fun e w'=>e = .returned (.bool false)∧Below w.heap.size w w':=by
 obtain ⟨a,c,rfl,_⟩:=LA.open hv
 have HR:=Hd (fun W (hB:Below w.heap.size w W)=>sRa vs s p W (hs.ag (Ag.new p hB)))
 rw [hsch] at HR
 obtain ⟨vd,vm,rfl,hd,Ad,_,_⟩:=hs
 obtain ⟨ad,Ab,rfl,_⟩:=sl3 hd
 obtain ⟨am,Aa,rfl,_⟩:=sl3 Ad
 have Ah:decide ((1000:Int) < (C.length:Int))=true:=decide_eq_true (by omega)
 clear hv hd Ad hsch hm
 obtain ⟨W0,Af⟩:∃ W0,w.alloc (.cells #[.slice ad s.dims.length Ab,.slice am s.mets.length Aa,.int .i64 s.grain] 24)=W0:=⟨_,rfl⟩
 obtain ⟨k0,kS,kB⟩:=la2 w (.cells #[.slice ad s.dims.length Ab,.slice am s.mets.length Aa,.int .i64 s.grain] 24)
 rw [Af] at k0 kS kB
 obtain ⟨⟨x0,x1,x2⟩,_⟩:=can3 k0
 have K0:=Hd k0
 have KB:=Hd kB
 clear k0 kS kB
 refine (callsIn_wide (n:=5)).1 ?_
 refine callsIn_of_wp_marks Tryz.func17 rfl trivial ?_ rfl
 simp only [Tryz.ntmps17,List.size_toArray,List.length_cons,List.length_nil,Nat.reduceAdd,Nat.reduceSub,Array.replicate_succ,Array.replicate_zero,List.push_toArray,List.append_toArray,List.nil_append,List.cons_append]
 gi_wp2
 refine Rf.wIs ?_
 gi_wp2_with (refine ⟨trivial,?_⟩;gi_at_call 23;refine (callsIn_wide.2 (HR.out _ KB.out)).mono ?_;rintro e w1 ⟨rfl,Ac⟩;have Ae:=Hd (Bt KB.out Ac);have K1:=Hd ((Ac.block _ (Array.getElem?_eq_some_iff.1 K0.out).1).trans K0.out);clear Ac x0 x1 x2)
 gi_wp2_with (refine ⟨trivial,?_⟩)
 rw [Exit.noGoto_ret]
 refine ⟨.bool false,by simp [results,Tryz.results17,go_sem],rfl,Ae.out⟩
set_option maxRecDepth 100000 in
set_option maxHeartbeats 4000000 in
theorem right_some (p:Nat→Prop) (vs va:Value) (s:Tess.Sch) (C:List RCel) (w:World) (hs:SA p w vs s) (hv:LA 6 (RA2 p) p w va C) (hsch:Tess.sO s=true) (hcl:C.length≤1000) (hno:C.all (·.ok s)=false) (hrn:∀ x ∈ C,(∀ z ∈ x.mins,I64 z)∧∀ z ∈ x.maxs,I64 z) :
  Calls Tryz.prog 17 #[vs,va] w fun e w'=>e = .returned (.bool false)∧Below w.heap.size w w':=by
 obtain ⟨a,c,rfl,Af,us,Aj⟩:=LA.rows hv
 have HR:=Hd (fun W (hB:Below w.heap.size w W)=>sRa vs s p W (hs.ag (Ag.new p hB)))
 rw [hsch] at HR
 have Al:=hs
 obtain ⟨vd,vm,rfl,hd,Am,_,_⟩:=hs
 obtain ⟨ad,Ac,rfl,_⟩:=sl3 hd
 obtain ⟨am,Ab,rfl,_⟩:=sl3 Am
 have Ar:=Hd Aj
 have Ae:=Hd (fun W (hB:Below w.heap.size w W) (hbx:W.heap[w.heap.size]? = some (.cells #[.slice ad s.dims.length Ac,.slice am s.mets.length Ab,.int .i64 s.grain] 24 (0,0)))=>crR w.heap.size (fun x => !x.ok s) C a c W Af (fun k hk=>by
  obtain ⟨e6,hR,b,Ad,ha,hb,hp,Aa⟩:=Aj k hk
  obtain ⟨y0,y1,y2,y3,y4,y5,ey⟩:=six e6
  rw [ey] at Aa hR
  refine ⟨b,Ad,ha,Nat.lt_of_lt_of_le hb hB.size,y0,y1,y2,y3,y4,y5,⟨?_,?_,?_,?_,?_,?_⟩,fun W' hW' => ?_⟩
  ·exact (hB.cell (p:=⟨b,Ad + k * 6,none⟩) hb).trans (Aa 0 (by omega))
  ·exact (hB.cell (p:=⟨b,Ad + k * 6 + 1,none⟩) hb).trans (Aa 1 (by omega))
  ·exact (hB.cell (p:=⟨b,Ad + k * 6 + 2,none⟩) hb).trans (Aa 2 (by omega))
  ·exact (hB.cell (p:=⟨b,Ad + k * 6 + 3,none⟩) hb).trans (Aa 3 (by omega))
  ·exact (hB.cell (p:=⟨b,Ad + k * 6 + 4,none⟩) hb).trans (Aa 4 (by omega))
  ·exact (hB.cell (p:=⟨b,Ad + k * 6 + 5,none⟩) hb).trans (Aa 5 (by omega))
  ·have Ao:=Bt hB hW'
   exact rGa w.heap.size p [_,_,_] _ s C[k] W' ((hW'.block _ (Array.getElem?_eq_some_iff.1 hbx).1).trans hbx) (Al.ag (Ag.new p Ao)) (hR.ag (Ag.new p Ao)) hsch (hrn _ (List.getElem_mem hk)).1 (hrn _ (List.getElem_mem hk)).2))
 have Ah:C.any (fun x => !x.ok s)=true:=by
  rw [List.any_eq_true]
  rw [List.all_eq_false] at hno
  obtain ⟨x,hx,h⟩:=hno
  exact ⟨x,hx,by simpa using h⟩
 rw [Ah] at Ae
 have As:decide ((1000:Int) < (C.length:Int))=false:=decide_eq_false (by omega)
 clear Al hd Am hv Aj Af Ah hno hrn hsch
 obtain ⟨W0,Aq⟩:∃ W0,w.alloc (.cells #[.slice ad s.dims.length Ac,.slice am s.mets.length Ab,.int .i64 s.grain] 24)=W0:=⟨_,rfl⟩
 obtain ⟨k0,kS,kB⟩:=la2 w (.cells #[.slice ad s.dims.length Ac,.slice am s.mets.length Ab,.int .i64 s.grain] 24)
 rw [Aq] at k0 kS kB
 obtain ⟨⟨x0,x1,x2⟩,_⟩:=can3 k0
 have K0:=Hd k0
 have KB:=Hd kB
 clear k0 kS kB
 refine (callsIn_wide (n:=5)).1 ?_
 refine callsIn_of_wp_marks Tryz.func17 rfl trivial ?_ rfl
 simp only [Tryz.ntmps17,List.size_toArray,List.length_cons,List.length_nil,Nat.reduceAdd,Nat.reduceSub,Array.replicate_succ,Array.replicate_zero,List.push_toArray,List.append_toArray,List.nil_append,List.cons_append]
 gi_wp2
 refine Rf.wIs ?_
 gi_wp2_with (refine ⟨trivial,?_⟩;gi_at_call 23;refine (callsIn_wide.2 (HR.out _ KB.out)).mono ?_;rintro e w1 ⟨rfl,Ai⟩;have Ak:=Hd (Bt KB.out Ai);have K1:=Hd ((Ai.block _ (Array.getElem?_eq_some_iff.1 K0.out).1).trans K0.out);clear Ai x0 x1 x2)
 gi_wp2_with (refine ⟨trivial,?_⟩;gi_at_call 36;refine (callsIn_wide.2 (Ae.out _ Ak.out K1.out)).mono ?_;rintro e w2 ⟨rfl,An⟩;have Ap:=Hd (Bt Ak.out An);clear An)
 gi_wp2_with (refine ⟨trivial,?_⟩)
 rw [Exit.noGoto_ret]
 refine ⟨.bool false,by simp [results,Tryz.results17,go_sem],rfl,Ap.out⟩
theorem right_full (p:Nat→Prop) (vs va:Value) (s:Tess.Sch) (C:List RCel) (w:World) (hs:SA p w vs s) (hv:LA 6 (RA2 p) p w va C) (hrn:∀ x ∈ C,(∀ z ∈ x.mins,I64 z)∧∀ z ∈ x.maxs,I64 z) :
  Calls Tryz.prog 17 #[vs,va] w fun e w'=>e = .returned (.bool (rB2 s C))∧Below w.heap.size w w':=by
 cases hsch:Tess.sO s
 ·have e:rB2 s C=false:=by unfold rB2;rw [hsch];rfl
  rw [e]
  exact right_sch p vs va s C w hs hv hsch
 by_cases hcl:C.length≤1000
 rotate_left
 ·have e:rB2 s C=false:=by unfold rB2;rw [decide_eq_false hcl,Bool.and_false,Bool.false_and]
  rw [e]
  exact right_many p vs va s C w hs hv hsch (by omega)
 cases hall:C.all (·.ok s)
 ·have e:rB2 s C=false:=by unfold rB2;rw [hall,Bool.false_and,Bool.and_false]
  rw [e]
  exact right_some p vs va s C w hs hv hsch hcl hall hrn
 have Ae:∀ x ∈ C,x.ok s=true:=List.all_eq_true.1 hall
 have Aa:∀ k (h:k < C.length),(C.map RCel.ck).getD k (0,[])=C[k].ck:=fun k h=>by
  rw [List.getD_eq_getElem?_getD,List.getElem?_map,List.getElem?_eq_getElem h];rfl
 by_cases hst:∃ m,m < C.length - 1∧ckLt ((C.map RCel.ck).getD m (0,[])) ((C.map RCel.ck).getD (m + 1) (0,[]))=false
 ·have e:rB2 s C=false:=by
   unfold rB2
   obtain ⟨m,hm,h⟩:=hst
   have:((List.range (C.length - 1)).all fun k=>ckLt ((C.map RCel.ck).getD k (0,[])) ((C.map RCel.ck).getD (k + 1) (0,[])))=false:=by
    rw [List.all_eq_false]
    exact ⟨m,List.mem_range.2 hm,by simp only [h];decide⟩
   rw [this,Bool.and_false,Bool.and_false]
  rw [e]
  have Ac:∃ m,(m < C.length - 1∧ckLt ((C.map RCel.ck).getD m (0,[])) ((C.map RCel.ck).getD (m + 1) (0,[]))=false)∧∀ k,k < m→¬ (k < C.length - 1∧ckLt ((C.map RCel.ck).getD k (0,[])) ((C.map RCel.ck).getD (k + 1) (0,[]))=false):=by
   obtain ⟨m,hm⟩:=hst
   induction m using Nat.strongRecOn with
   | ind m ih=>
     by_cases h:∃ k,k < m∧(k < C.length - 1∧ckLt ((C.map RCel.ck).getD k (0,[])) ((C.map RCel.ck).getD (k + 1) (0,[]))=false)
     ·obtain ⟨k,hk,Ag⟩:=h
      exact ih k hk Ag
     ·exact ⟨m,hm,fun k hk h2=>h ⟨k,hk,h2⟩⟩
  obtain ⟨m,⟨hm,Af⟩,Ah⟩:=Ac
  refine right_stop p vs va s C w hs hv hsch hcl Ae hrn m hm (fun k h1 h2 hk => ?_) fun h1 h2 => ?_
  ·have:=Ah k hk
   rw [Aa k h1,Aa (k + 1) h2] at this
   cases h:ckLt C[k].ck C[k + 1].ck
   ·exact absurd ⟨by omega,h⟩ this
   ·rfl
  ·rw [Aa m h1,Aa (m + 1) h2] at Af
   exact Af
 ·have Ad:∀ k (h1:k < (C.map RCel.ck).length) (h2:k + 1 < (C.map RCel.ck).length),ckLt (C.map RCel.ck)[k] (C.map RCel.ck)[k + 1]=true:=fun k h1 h2=>by
   rw [List.length_map] at h1 h2
   simp only [List.getElem_map]
   cases h:ckLt C[k].ck C[k + 1].ck
   ·exact absurd ⟨k,by omega,by rw [Aa k h1,Aa (k + 1) h2];exact h⟩ hst
   ·rfl
  have e:rB2 s C=true:=by
   unfold rB2
   rw [hsch,hall,decide_eq_true hcl,Bool.true_and,Bool.true_and,Bool.true_and,List.all_eq_true]
   intro k hk
   have hk:=List.mem_range.1 hk
   cases h:ckLt ((C.map RCel.ck).getD k (0,[])) ((C.map RCel.ck).getD (k + 1) (0,[]))
   ·exact absurd ⟨k,hk,h⟩ hst
   ·rfl
  rw [e]
  have Ab:CO s (C.map RCel.cel):=by
   refine ⟨hsch,by rw [List.length_map];exact hcl,fun y hy => ?_,?_⟩
   ·obtain ⟨x,hx,rfl⟩:=List.mem_map.1 hy
    exact (Tess.ro4 (hrn x hx).1 (hrn x hx).2 (Ae x hx)).1
   ·have:=Tess.aa2 Tess.cs3 (C.map RCel.ck) Ad
    rw [List.pairwise_map] at this
    show (C.map RCel.cel).Pairwise fun a b=>ckLt a.1 b.1=true
    rw [List.pairwise_map]
    exact this
  exact right_any p vs va s (C.map RCel.cel) w hs (LA.maps RCel.cel hv fun cs x hx h=>h.cel (Tess.ro4 (hrn x hx).1 (hrn x hx).2 (Ae x hx)).2) Ab
end Go.Proofs.YtjdccifdkjnknaaGreatDoor
namespace Tess
open Go Kl Go.RowKit Go.Proofs.YtjdccifdkjnknaaGreatDoor
theorem hi_rng {s:Sch} {C:List (CK×Pay)} (h:CO s C):∀ m,m < s.mets.length→∀ x ∈ C,I64 (wHi (x.2.sums.getD m 0)):=fun m hm x hx=>by
 have hp:=(h.each x hx).pay
 obtain ⟨h1,h2,h3⟩:=hp.sum m hm
 obtain ⟨r1,r2,r3,r4⟩:=hp.rng m hm
 have h0:=hp.one
 have hmost:=(h.each x hx).most
 have m1 : -9223372036854775808 * (x.2.n - 1)≤x.2.mins.getD m 0 * (x.2.n - 1):=Int.mul_le_mul_of_nonneg_right r1 (by omega)
 have m2:x.2.maxs.getD m 0 * (x.2.n - 1)≤9223372036854775807 * (x.2.n - 1):=Int.mul_le_mul_of_nonneg_right r4 (by omega)
 unfold wHi I64
 omega
theorem wf3 {s:Sch} {C:List (CK×Pay)} (h:CO s C) (i:Nat):∀ y ∈ dW C i,y.size≤100:=fun y hy=>ds4 h i y ((sWa _ y).2 hy)
theorem pm4 {s:Sch} {C:List (CK×Pay)} (h:CO s C):(∀ x ∈ (pS2 s C).map mk,x.size≤maxLen)∧((pS2 s C).map mk).length≤1000:=by
 obtain ⟨h1,h2,_⟩:=sf2 h.sch
 have hl:=h.len
 have hp:∀ l:List Int,l.length=C.length→(pL2 l).length≤20000:=fun l e=>by
  have:=pLf l (by omega)
  omega
 refine ⟨fun x hx => ?_,by simp [pS2];omega⟩
 obtain ⟨y,hy,rfl⟩:=List.mem_map.1 hx
 rw [ms2]
 suffices y.length≤1000000000 by unfold maxLen;omega
 unfold pS2 at hy
 simp only [List.mem_cons,List.mem_append,List.mem_map,List.mem_range] at hy
 rcases hy with rfl | rfl | ⟨i,_,rfl⟩ | ⟨m,_,rfl⟩
 ·have:=head_few h.sch
  omega
 ·unfold colT
  rw [List.length_append]
  have a1:=hp (C.map fun x=>x.1.1) (List.length_map _)
  have a2:=hp (C.map fun x=>x.2.n) (List.length_map _)
  omega
 ·exact colD_all C hl i (wf3 h i)
 ·unfold colM
  simp only [List.length_append]
  have a1:=hp (C.map fun x=>wHi (x.2.sums.getD m 0)) (List.length_map _)
  have a2:=hp (C.map fun x=>wrap64 (wLo (x.2.sums.getD m 0))) (List.length_map _)
  have a3:=hp (C.map fun x=>x.2.mins.getD m 0) (List.length_map _)
  have a4:=hp (C.map fun x=>x.2.maxs.getD m 0) (List.length_map _)
  omega
end Tess
namespace Go.Proofs.YtjdccifdkjnknaaGreatDoor
open Go.RowKit Go.Sort
open Tess (CK Pay RCel rB2)
theorem CA2.lt {p:Nat→Prop} {w:World} {v:Value} {l:List (CK×Pay)} (h:CA2 p w v l):CA2 (fun b=>p b∧b < w.heap.size) w v l:=by
 obtain ⟨a,c,hv,h1,h2,h3,h4⟩:=h
 refine ⟨a,c,hv,h1,h2,h3,fun hl => ?_⟩
 obtain ⟨b,Aa,ha,hb,hp,hc⟩:=h4 hl
 exact ⟨b,Aa,ha,hb,⟨hp,hb⟩,fun j hj=>let ⟨cs,h5,h6,h7⟩:=hc j hj;⟨cs,h5,cn2.lt h6,h7⟩⟩
theorem RCels.ag {p:Nat→Prop} {w w':World} {v:Value} {l:List RCel} (h:LA 6 (RA2 p) p w v l) (hg:Ag p w w'):LA 6 (RA2 p) p w' v l:=LA.ag h hg fun _ _ _ h=>h.ag hg
theorem sa3 (p:Nat→Prop) (vs va:Value) (s:Tess.Sch) (C:List RCel) (w:World) (hs:SA p w vs s) (hv:LA 6 (RA2 p) p w va C) (hrn:Tess.RRng C) :
  Calls Tryz.prog 11 #[vs,va] w fun e w'=>e = .returned (.tuple #[.string (Tess.encR s C).1,.int .i64 ((Tess.encR s C).2:Nat)])∧Below w.heap.size w w':=by
 cases hok:Tess.sO s
 ·rw [show Tess.encR s C=(Tess.mk [],100) by unfold Tess.encR;rw [if_pos hok]]
  exact segenc_sch p vs va s w hs hok
 have HR:∀ W,Below w.heap.size w W→Calls Tryz.prog 17 #[vs,va] W fun e w'=>e = .returned (.bool (rB2 s C))∧Below W.heap.size W w':=fun W hB=>right_full p vs va s C W (hs.ag (Ag.new p hB)) (RCels.ag hv (Ag.new p hB)) hrn
 cases hr:rB2 s C
 ·rw [show Tess.encR s C=(Tess.mk [],120) by unfold Tess.encR;rw [if_neg (by rw [hok];decide),if_pos hr]]
  rw [hr] at HR
  exact sc3 p vs va s w hs hok HR
 rw [hr] at HR
 obtain ⟨Aa,Ae⟩:=Tess.rBc hr hrn
 rw [show Tess.encR s C=Tess.jP ((Tess.pS2 s (C.map RCel.cel)).map Tess.mk) by unfold Tess.encR;rw [if_neg (by rw [hok];decide),if_neg (by rw [hr];decide)]]
 have Ab:CA2 p w va (C.map RCel.cel):=LA.maps RCel.cel hv fun cs x hx h=>h.cel (Ae x hx)
 generalize C.map RCel.cel=D at *
 clear hv hr hrn Ae
 have Ah:=Ab
 have Af:=hs
 obtain ⟨a,Ai,rfl,_⟩:=Ah
 obtain ⟨vd,vm,rfl,hd,hm,_⟩:=hs
 obtain ⟨ad,Ad,rfl,_⟩:=sl3 hd
 obtain ⟨am,Ac,rfl,_⟩:=sl3 hm
 obtain ⟨f1,f2,_⟩:=Tess.sf2 hok
 refine segenc_ok p ad am a Ad Ac Ai s D w Af hok Ab (Tess.pm4 Aa).1 (Tess.pm4 Aa).2 (fun W0 b hB h0 h1 => ?_) HR
 refine ci2 b _ _ ad am Ad Ac s.grain _ D (fun x=>p x∧x < w.heap.size) _ (fun c hc => .inl hc) W0 h0 (cob h1).1 (.inr (.inl rfl)) (.inr (.inr rfl)) (Ab.lt.ag (Ag.new _ hB)) Aa.len f1 f2 (fun x hx=>(Aa.each x hx).dims.1) (Tess.wf3 Aa) (fun i=>Tess.colD_all D Aa.len i (Tess.wf3 Aa i)) (fun x hx=>(Aa.each x hx).pay.len) (Tess.hi_rng Aa) (fun m hm x hx => ?_) (fun m hm x hx => ?_) (fun x hx => ?_) (fun x hx => ?_)
 ·obtain ⟨r1,r2,r3,r4⟩:=(Aa.each x hx).pay.rng m hm
  exact ⟨r1,r2⟩
 ·obtain ⟨r1,r2,r3,r4⟩:=(Aa.each x hx).pay.rng m hm
  exact ⟨r3,r4⟩
 ·have:=(Aa.each x hx).time
  unfold I64
  omega
 ·have:=(Aa.each x hx).most
  have:=(Aa.each x hx).pay.one
  unfold I64
  omega
end Go.Proofs.YtjdccifdkjnknaaGreatDoor
namespace Go.Proofs.YtjdccifdkjnknaaGreatDoor
open Go.RowKit Go.Sort
set_option maxRecDepth 100000 in
theorem back_any (n:Nat) (w:World) (hn:n < 18446744073709551616):Calls Tryz.prog 171 #[.int .u64 n] w fun e w'=>e = .returned (.int .i64 (Tess.bN n))∧w'=w:=by
 have h1:IntKind.i64.wrap ((n:Int) / 2)=((n / 2:Nat):Int):=by rw [wrap_i64];unfold wrap64;omega
 have h2:bits .and .u64 (n:Int) 1=((n % 2:Nat):Int):=by
  have:=u64_and_nat n 1 hn (by decide)
  rw [show n &&& 1=n % 2 from Nat.and_one_is_mod n] at this
  exact this
 have h3:IntKind.i64.wrap (((n % 2:Nat):Int))=((n % 2:Nat):Int):=by rw [wrap_i64];unfold wrap64;omega
 have h4:bits .xor .i64 ((n:Int) / 2) (-((n:Int) % 2))=Tess.bN n:=by
  rw [show (n:Int) / 2=((n / 2:Nat):Int) by omega]
  unfold Tess.bN
  rcases Nat.mod_two_eq_zero_or_one n with h | h
  ·rw [show -((n:Int) % 2)=0 by omega,if_pos h]
   exact i64_xor_0 _ (by omega)
  ·rw [show -((n:Int) % 2) = -1 by omega,if_neg (by omega),i64_xor_m1 (n / 2) (by omega)]
   omega
 go_enter Tryz.func171,Tryz.ntmps171
 go_wp2
 go_ret
 exact ⟨by rw [← h4];rfl,rfl⟩
end Go.Proofs.YtjdccifdkjnknaaGreatDoor
namespace Tess
def FinU (T:List Int×ByteArray×Nat) (o:List Int) (m:Nat) (last:Int) (r:ByteArray) (c:Nat):Prop:=(c=0∧T=(o ++ (takeN m last r).1,(takeN m last r).2))∨(c≠0∧T.2.2=c)
theorem FinU.step {T:List Int×ByteArray×Nat} {o:List Int} {m:Nat} {last:Int} {r:ByteArray} (h:FinU T o (m + 1) last r 0):((getW r).2.2=0→FinU T (o ++ [Go.RowKit.wrap64 (last + bN (getW r).1)]) m (Go.RowKit.wrap64 (last + bN (getW r).1)) (getW r).2.1 0)∧((getW r).2.2≠0→FinU T o m last (getW r).2.1 (getW r).2.2):=by
 rcases h with ⟨_,h⟩ | ⟨h,_⟩
 ·refine ⟨fun hc => .inl ⟨rfl,?_⟩,fun hc => .inr ⟨hc,?_⟩⟩
  ·rw [h]
   simp only [takeN,hc,if_true]
   simp
  ·rw [h]
   simp only [takeN,if_neg hc]
 ·exact absurd rfl h
theorem unpackW_of {s:ByteArray} (T:List Int×ByteArray×Nat) (h:T=if (getW s).2.2≠0 then ([],s,(getW s).2.2) else if 1000 < (getW s).1 then ([],s,20) else takeN (getW s).1 0 (getW s).2.1):uW s=if T.2.2=0 then T else ([],s,T.2.2):=by
 unfold uW
 by_cases h1:(getW s).2.2≠0
 ·rw [if_pos h1] at h ⊢
  rw [h,if_neg h1]
 ·rw [if_neg h1] at h ⊢
  by_cases h2:1000 < (getW s).1
  ·rw [if_pos h2] at h ⊢
   rw [h];rfl
  ·rw [if_neg h2] at h ⊢
   rw [← h]
end Tess
namespace Go.Proofs.YtjdccifdkjnknaaGreatDoor
open Go.RowKit Go.Sort
theorem eVs (a0 a1:Addr) {c:Nat} (h:c≠0):∃ p,deV a0 a1 c = .iface 314 (.pointer (some p)):=by unfold deV;rw [if_neg h];exact ⟨_,rfl⟩
set_option maxRecDepth 100000 in
set_option maxHeartbeats 4000000 in
theorem ua2 (a0 a1:Addr) (s:ByteArray) (w:World) (hv:DV2 a0 a1 w) :
  Calls Tryz.prog 132 #[.string s] w fun e w' => ∃ v,e = .returned (.tuple #[v,.string (Tess.uW s).2.1,.int .i64 ((Tess.uW s).2.2:Nat)])∧w'.ownsRow w.heap.size 2 1 v (Tess.uW s).1.length ((Tess.uW s).1.map (.int .i64))∧Below w.heap.size w w':=by
 obtain ⟨w0,Az⟩:∃ w0,w.alloc (.cells #[.string s] 236)=w0:=⟨_,rfl⟩
 have Av:Below w.heap.size w w0:=by rw [← Az];exact (Below.refl _ _).alloc (Nat.le_refl _) _
 have A3:w0.heap.size=w.heap.size + 1:=by rw [← Az];simp
 have h0:w0.heap[w.heap.size]? = some (.cells #[.string s] 236 (0,0)):=by rw [← Az];exact World.alloc_heap_new w _
 obtain ⟨c0,z0⟩:=dco h0
 have hn:=na3 a0 a1 w.heap.size s w0 (hv.below Av) c0 z0
 obtain ⟨T,hT⟩:∃ T:List Int×ByteArray×Nat,T=if (Tess.getW s).2.2≠0 then ([],s,(Tess.getW s).2.2) else if 1000 < (Tess.getW s).1 then ([],s,20) else Tess.takeN (Tess.getW s).1 0 (Tess.getW s).2.1:=⟨_,rfl⟩
 rw [Tess.unpackW_of T hT]
 obtain ⟨U,hU⟩:∃ U:List Int×ByteArray×Nat,U=if T.2.2=0 then T else ([],s,T.2.2):=⟨_,rfl⟩
 rw [← hU]
 have HU:=Hd hU
 clear hU
 have Ae:=gWc s
 have Aj:=Tess.gWl s
 obtain ⟨⟨n,r0,c⟩,hg⟩:∃ g,g=Tess.getW s:=⟨_,rfl⟩
 rw [← hg] at hn hT Ae Aj
 simp only at hn hT Ae Aj
 have HN:=Hd hn
 have HT:=Hd hT
 have A8:=Hd Av
 have Bl:=Hd A3
 have g2:=hv.g2
 have HV:=Hd hv
 obtain ⟨i0,hi,A9,Bc,Bg⟩:=info_parts (P:=Tryz.prog) (e:=2) (z:=.int .i64 0) (size:=1) (bytes:=8) (by kernel_rfl)
 have Bk:∀ x:Bool,(if (x=true) then true else false)=x:=fun x=>by cases x <;> rfl
 clear hn hT hg Av A3 hv h0 c0 z0 Bk
 go_enter Tryz.func132,Tryz.ntmps132
 go_wp2_with (fail)
 go_at_call 170
 refine HN.out.mono ?_
 rintro e w1 ⟨rfl,c1,z1,A2⟩
 have An:=A2.from A8.out (Nat.le_refl _)
 have A4:=World.block_lt_of_cell? _ _ g2
 have Bn:=(An.cell (p:=⟨1,0,none⟩) A4).trans g2
 have Ba:=Hd An
 have Bo:=Hd (HV.out.below An)
 clear A2 An A4 g2
 by_cases hc:c=0
 rotate_left
 obtain ⟨p,hp⟩:=eVs a0 a1 hc
 obtain ⟨C,hC⟩:∃ C:Nat,C=c:=⟨_,rfl⟩
 have HF:=Hd (show Value.iface 314 (.pointer (some p))=deV a0 a1 C∧(C=0∨C=20∨C=21)∧Tess.FinU T [] n 0 r0 C∧(C=0→n≤1000) by rw [hC];exact ⟨hp.symm,Ae,.inr ⟨hc,by rw [HT.out,if_pos hc]⟩,fun h=>absurd h hc⟩)
 rw [hp]
 go_wp2_with (fail)
 rotate_left
 subst hc
 by_cases hn:1000 < n
 have Bf:(1000:Int) < (n:Int):=by omega
 obtain ⟨C,hC⟩:∃ C:Nat,C=20:=⟨_,rfl⟩
 have HF:=Hd (show Value.iface 314 (.pointer (some a1))=deV a0 a1 C∧(C=0∨C=20∨C=21)∧Tess.FinU T [] n 0 r0 C∧(C=0→n≤1000) by rw [hC];exact ⟨rfl,.inr (.inl rfl),.inr ⟨by omega,by rw [HT.out,if_neg (by simp),if_pos hn]⟩,fun h=>by omega⟩)
 rw [show deV a0 a1 0 = .nilIface from rfl]
 go_wp2_with (fail)
 rotate_left
 have Bf:¬ (1000:Int) < (n:Int):=by omega
 obtain ⟨C,hC⟩:∃ C:Nat,C=0:=⟨_,rfl⟩
 have HF:=Hd (show Value.nilIface=deV a0 a1 C∧(C=0∨C=20∨C=21)∧Tess.FinU T [] n 0 r0 C∧(C=0→n≤1000) by rw [hC];exact ⟨rfl,.inl rfl,.inl ⟨rfl,by rw [HT.out,if_neg (by simp),if_neg hn];rfl⟩,fun _=>by omega⟩)
 rw [show deV a0 a1 0 = .nilIface from rfl]
 go_wp2_with (fail)
 rotate_left
 all_goals
  go_loopw [6,7,8,9] (fun v6 v7 v8 v9 wr => ∃ (m c':Nat) (o:List Int) (Ab:Int) (r:ByteArray),v6 = .int .u64 m∧v7=deV a0 a1 c'∧wr.ownsRow (w.heap.size + 1) 2 1 v8 o.length (o.map (.int .i64))∧v9 = .int .i64 Ab∧wr.cell? ⟨w.heap.size,0,none⟩=some (.string r)∧wr.frozen? ⟨w.heap.size,0,none⟩=false∧(c'=0∨c'=20∨c'=21)∧Tess.FinU T o m Ab r c'∧(c'=0→o.length + m≤1000)∧Below w.heap.size w wr) (fun v6 _ _ _ _=>(intOf v6).toNat)
  case atStart=>exact ⟨n,C,[],0,r0,rfl,HF.out.1,World.ownsRow_nil _ _ _ _,rfl,c1,z1,HF.out.2.1,HF.out.2.2.1,fun h=>by simpa using HF.out.2.2.2 h,Ba.out⟩
  case round=>
   obtain ⟨m,c',o,Ab,r,rfl,rfl,Ak,rfl,Ao,Ay,Ai,Am,Af,hB⟩:=hrel
   have HO:=Hd Ak
   have Ax:=Hd Am
   have HB:=Hd hB
   have Bm:=Hd Ao
   have Bp:=Hd Af
   have Be:=Hd Ai
   have A5:=Hd (HV.out.below hB)
   clear Ak Am Ai
   by_cases hc':c'=0
   ·subst hc'
    have Aw:=Af rfl
    rw [show deV a0 a1 0 = .nilIface from rfl]
    clear Af
    cases m with
    | zero=>
      have Ad:T=(o,r,0):=by
       rcases Ax.out with ⟨_,h⟩ | ⟨h,_⟩
       ·simpa [Tess.takeN] using h
       ·exact absurd rfl h
      have Bh:=Hd (ol2 HO.out (Nat.le_succ _))
      have HR:=Hd (show U=(o,r,0) by rw [HU.out,Ad];rfl)
      clear Ad
      go_wp2_with (fail)
      go_quiet (fail)
      go_wp2_with (fail)
      go_ret3
      exact ⟨_,by rw [HR.out];rfl,by rw [HR.out];exact Bh.out,below_drewN HB.out _⟩
    | succ m=>
      have Bq:(0:Int) < ((m + 1:Nat):Int):=by omega
      have A0:=Hd (na3 a0 a1 w.heap.size r wr A5.out Ao Ay)
      obtain ⟨Aq,As⟩:=Ax.out.step
      have Aa:=gWc r
      have Ah:=Tess.gWl r
      obtain ⟨⟨gn,gr,gc⟩,hg⟩:∃ g,g=Tess.getW r:=⟨_,rfl⟩
      rw [← hg] at A0 Aq As Aa Ah
      simp only at A0 Aq As Aa Ah
      have Bi:=Hd Aq
      have A6:=Hd As
      clear Aq As hg Ao Ay hB
      go_wp2_with (fail)
      go_at_call 170
      refine A0.out.mono ?_
      rintro e w2 ⟨rfl,c2,z2,k2⟩
      have Ar:=Hd (k2.owns HO.out (by omega))
      have Au:=Hd (k2.from HB.out (Nat.le_refl _))
      have Ap:=Hd (World.block_lt_of_cell? _ _ c2)
      clear k2
      by_cases hgc:gc=0
      ·subst hgc
       rw [show deV a0 a1 0 = .nilIface from rfl]
       have Bb:IntKind.i64.wrap (Ab + Tess.bN gn)=wrap64 (Ab + Tess.bN gn):=wrap_i64 _
       have HX:=Hd (Bi.out rfl)
       obtain ⟨x,hx⟩:∃ x,x=wrap64 (Ab + Tess.bN gn):=⟨_,rfl⟩
       rw [← hx] at Bb HX
       clear hx
       go_wp2_with (first
        | (go_at_call 171;refine (back_any gn _ Ah).mono ?_;rintro e w3 ⟨rfl,rfl⟩)
        | (at_builtin;refine wpList_append_own _ rfl _ _ 49 rfl (w.heap.size + 1) 2 i0 (.int .i64 0) 1 8 Tryz.underlying49 hi A9 Bc Bg rfl (by decide) _ _ _ rfl (Ar.out.alloc _) ⟨w3.heap.size,0,none⟩ 1 1 [.int .i64 x] rfl rfl (cell_one_new _ _ _) (by simp [Value.oneCell']) (by unfold maxLen;omega) (by omega) (by have:=Ap.out;simp;omega) ?_))
       intro v' w4 Ag Ac _
       have A1:w4.heap[w.heap.size]? = w3.heap[w.heap.size]? := (Ac.block _ (by have:=Ap.out;simp;omega) (fun e=>by have:=(Ar.out.lt _ e.symm).1;omega)).trans (Below.heap_alloc w3 _ _ Ap.out)
       have C4:=Hd ((World.cell?_of_block (a:=⟨w.heap.size,0,none⟩) A1).trans c2)
       have Z4:=Hd ((World.frozen?_of_block (a:=⟨w.heap.size,0,none⟩) A1).trans z2)
       have A7:=Hd ((Au.out.alloc Au.out.size (.cells #[.int .i64 x] 2)).grown Ac (by have:=Ap.out;simp;omega) (fun k e=>by have:=(Ar.out.lt k e).1;omega))
       have Bd:=Hd (show w4.ownsRow (w.heap.size + 1) 2 1 v' (o ++ [x]).length ((o ++ [x]).map (.int .i64)) by rw [List.length_append,List.map_append];exact Ag)
       clear A1 Ac Ag c2 z2
       go_wp2_with (fail)
       go_roundw
       case rel=>exact ⟨m,0,o ++ [x],x,gr,by go_num,rfl,Bd.out,rfl,C4.out,Z4.out,.inl rfl,HX.out,fun _=>by rw [List.length_append,List.length_singleton];omega,A7.out⟩
       case measure=>simp [intOf]
      ·obtain ⟨p2,Al⟩:=eVs a0 a1 hgc
       rw [Al]
       go_wp2_with (fail)
       go_roundw
       case rel=>exact ⟨m,gc,o,Ab,gr,by go_num,Al.symm,Ar.out,rfl,c2,z2,Aa,A6.out hgc,fun h=>absurd h hgc,Au.out⟩
       case measure=>simp [intOf]
   ·obtain ⟨p2,Al⟩:=eVs a0 a1 hc'
    have At:=va2 a0 a1 c' wr A5.out Be.out
    rw [Al] at At ⊢
    have Bj:=Hd At
    have Ad:T.2.2=c':=by
     rcases Ax.out with ⟨h,_⟩ | ⟨_,h⟩
     ·exact absurd h hc'
     ·exact h
    have HR:=Hd (show U=([],s,c') by rw [HU.out,Ad,if_neg hc'])
    clear Ao Ay Af Ad At Al
    go_wp2_with (go_at_call 172;refine Bj.out.mono ?_;rintro e w2 ⟨rfl,rfl⟩)
    go_ret3
    exact ⟨_,by rw [HR.out];rfl,by rw [HR.out];exact World.ownsRow_nil _ _ _ _,HB.out⟩
end Go.Proofs.YtjdccifdkjnknaaGreatDoor
