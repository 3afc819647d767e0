/- Joined by mergeK.py: H17, K64, K73, K65p -/
import Derived.Test.YtaddkkkchkdgkaaGreatDoorCC43
import Derived.Test.YtaddkkkchkdgkaaGreatDoorCC11
import Derived.Test.YtaddkkkchkdgkaaGreatDoorCC42
import Derived.Test.YtaddkkkchkdgkaaGreatDoorCC18
import Derived.Test.YtaddkkkchkdgkaaGreatDoorCC24
import Derived.Lib.LaidPrint
import Derived.Stop.LaidTwo
import Derived.Test.YtaddkkkchkdgkaaGreatDoorRows
import Derived.ChangeSame
import Derived.ChangeVars
import Derived.JoinedOf
import Derived.RowKit
import Derived.RowKitTokens
import Derived.LaidLaws
import Derived.LaidHandle
import Derived.LaidMore
import Derived.PinnedBridge
import Derived.Lib.LaidU8
import Derived.Lay
import Derived.WalkSmall
import Derived.Stop.Joined
import Derived.Stop.LaidErr
import Derived.Stop.ErrReads
import Derived.Test.YtaddkkkchkdgkaaGreatDoorCC34
namespace Tess
open Go
abbrev ab:List ByteArray:=[⟨#[97]⟩,⟨#[98]⟩]
def schAB:Sch:=⟨ab,[],1⟩
def queAB (mode:Int) (sets:List (List ByteArray)):Que:=⟨[⟨1,⟨#[]⟩⟩],ab,mode,sets,0,.mk 1 ⟨#[]⟩ [] 0 0 [],[],[],0⟩
theorem queAB2:Que.check schAB (queAB 2 [])=0:=by decide +kernel
theorem queAB3:Que.check schAB (queAB 3 [])=0:=by decide +kernel
theorem queAB4:Que.check schAB (queAB 4 [[⟨#[98]⟩],[]])=0:=by decide +kernel
theorem setsAB2:Que.sO (queAB 2 [])=[0,1,2,3]:=by decide +kernel
theorem setsAB3:Que.sO (queAB 3 [])=[0,2,3]:=by decide +kernel
theorem setsAB4:Que.sO (queAB 4 [[⟨#[98]⟩],[]])=[1,3]:=by decide +kernel
end Tess
namespace Go.Proofs.YtaddkkkchkdgkaaGreatDoor
open Go.RowKit Go.Sort
open Tess (Fil Que)
theorem ra4 {q:Nat→Prop} {w:World} {b:Nat} {t:TypeId} (l:List Value) (h:w.heap[b]? = some (.cells l.toArray t (0,0))) (h0:l.length≤maxLen) (hq:q b):SlP q w (.slice (some ⟨b,0,none⟩) l.length l.length) l:=
 ⟨⟨h0,_,_,rfl,fun _=>⟨b,0,rfl,(Array.getElem?_eq_some_iff.1 h).1,fun j hj=>by rw [Nat.zero_add,cell_of_row w b j _ _ _ h];simp [hj]⟩⟩,fun _ c e=>by cases e;exact hq,fun n c e=>by cases e⟩
theorem kindsAB:kO2 (Fil.mk 1 ⟨#[]⟩ [] 0 0 []):=by
 unfold kO2
 rw [Fil.aPe]
 simp [Fil.kind,Fil.l]
abbrev schC (B:Nat):Array Value:=#[.slice (some ⟨B,0,none⟩) 2 2,.slice none 0 0,.int .i64 1]
abbrev queC (B:Nat) (mode:Int) (vS:Value):Array Value:=#[.slice (some ⟨B + 1 + 1,0,none⟩) 1 1,.slice (some ⟨B + 1 + 1 + 1,0,none⟩) 2 2,.int .i64 mode,vS,.int .i64 0,.int .i64 1,.string ⟨#[]⟩,.slice none 0 0,.int .i64 0,.int .i64 0,.slice none 0 0,.slice none 0 0,.slice none 0 0,.int .i64 0]
structure Sh (w:World) (mode:Int) (vS:Value) (W:World):Prop where
 kA:W.heap[w.heap.size]? = some (.cells #[.string ⟨#[97]⟩,.string ⟨#[98]⟩] 9 (0,0))
 kS:W.heap[w.heap.size + 1]? = some (.cells (schC w.heap.size) 24 (0,0))
 kG:W.heap[w.heap.size + 1 + 1]? = some (.cells #[.int .i64 1,.string ⟨#[]⟩] 76 (0,0))
 kN:W.heap[w.heap.size + 1 + 1 + 1]? = some (.cells #[.string ⟨#[97]⟩,.string ⟨#[98]⟩] 9 (0,0))
 kQ:W.heap[w.heap.size + 1 + 1 + 1 + 1]? = some (.cells (queC w.heap.size mode vS) 35 (0,0))
 below:Below w.heap.size w W
def Shq (w:World) (b:Nat):Prop:=b≠w.heap.size + 1∧b≠w.heap.size + 1 + 1 + 1 + 1
section
variable {w W W':World} {mode:Int} {vS:Value}
theorem Sh.lt (h:Sh w mode vS W):w.heap.size + 1 + 1 + 1 + 1 < W.heap.size:=(Array.getElem?_eq_some_iff.1 h.kQ).1
theorem Sh.later (h:Sh w mode vS W) (hb:Below W.heap.size W W'):Sh w mode vS W':=
 have:=h.lt
 ⟨(hb.block _ (by omega)).trans h.kA,(hb.block _ (by omega)).trans h.kS,(hb.block _ (by omega)).trans h.kG,(hb.block _ (by omega)).trans h.kN,(hb.block _ (by omega)).trans h.kQ,Bt h.below hb⟩
theorem Sh.set (h:Sh w mode vS W) (i:Nat) (u:Value) (mode':Int) (vS':Value) (e:(queC w.heap.size mode vS).setIfInBounds i u=queC w.heap.size mode' vS'):Sh w mode' vS' (W.setCell ⟨w.heap.size + 1 + 1 + 1 + 1,i,none⟩ u):=
 ⟨(heap_setCell_other _ _ _ _ (by show _≠w.heap.size + 1 + 1 + 1 + 1;omega)).trans h.kA,(heap_setCell_other _ _ _ _ (by show _≠w.heap.size + 1 + 1 + 1 + 1;omega)).trans h.kS,(heap_setCell_other _ _ _ _ (by show _≠w.heap.size + 1 + 1 + 1 + 1;omega)).trans h.kG,
   (heap_setCell_other _ _ _ _ (by show _≠w.heap.size + 1 + 1 + 1 + 1;omega)).trans h.kN,by have:=heap_setCell_same W (w.heap.size + 1 + 1 + 1 + 1) i _ 35 u h.kQ;rw [e] at this;exact this,h.below.setCell (by show _≤w.heap.size + 1 + 1 + 1 + 1;omega) _⟩
theorem Sh.sch (h:Sh w mode vS W):SA (Shq w) W (.agg (schC w.heap.size)) Tess.schAB:=
 ⟨_,_,rfl,ra4 [.string ⟨#[97]⟩,.string ⟨#[98]⟩] h.kA (by decide) ⟨by omega,by omega⟩,SlP.nil _ _,(fun x (hx:x ∈ Tess.ab)=>by
   rcases List.mem_cons.1 hx with rfl | hx
   ·exact (by decide:(1:Nat)≤maxLen)
   ·rcases List.mem_cons.1 hx with rfl | hx
    ·exact (by decide:(1:Nat)≤maxLen)
    ·cases hx),fun x (hx:x ∈ ([]:List ByteArray))=>by cases hx⟩
theorem Sh.que (h:Sh w mode vS W) {sets:List (List ByteArray)} (hs:SA2 (Shq w) W vS sets) :
  QA (Shq w) 1 W (.agg (queC w.heap.size mode vS)) (Tess.queAB mode sets) (.slice (some ⟨w.heap.size + 1 + 1,0,none⟩) 1 1) (.slice (some ⟨w.heap.size + 1 + 1 + 1,0,none⟩) 2 2) vS (.int .i64 1) (.string ⟨#[]⟩) (.slice none 0 0) (.int .i64 0) (.int .i64 0) (.slice none 0 0) (.slice none 0 0) (.slice none 0 0) where
 e:=rfl
 aggs:=⟨_,_,rfl,(by decide:(1:Nat)≤maxLen),Nat.le_refl _,(fun e=>by cases e),fun _=>⟨w.heap.size + 1 + 1,0,rfl,(Array.getElem?_eq_some_iff.1 h.kG).1,⟨by omega,by omega⟩,fun j hj i hi=>by
  have hj:j < 1:=hj
  obtain rfl:j=0:=by omega
  have:i=0∨i=1:=by omega
  rcases this with rfl | rfl
  ·exact cell_of_row _ _ 0 _ _ _ h.kG
  ·exact cell_of_row _ _ 1 _ _ _ h.kG⟩⟩
 mets:=fun x (hx:x ∈ [(⟨1,⟨#[]⟩⟩:Tess.Agg)])=>by
  rcases List.mem_cons.1 hx with rfl | hx
  ·exact Nat.zero_le _
  ·cases hx
 names:=ra4 [.string ⟨#[97]⟩,.string ⟨#[98]⟩] h.kN (by decide) ⟨by omega,by omega⟩
 small:=fun x (hx:x ∈ Tess.ab)=>by
  rcases List.mem_cons.1 hx with rfl | hx
  ·exact (by decide:(1:Nat)≤maxLen)
  ·rcases List.mem_cons.1 hx with rfl | hx
   ·exact (by decide:(1:Nat)≤maxLen)
   ·cases hx
 sets:=hs
 fil:=⟨_,_,_,rfl,Nat.zero_le _,SlP.nil _ _,(fun x hx=>by cases hx),Nat.zero_le _,fun _=>rfl,fun h=>absurd h (by simp [Fil.l,Tess.queAB])⟩
 conds:=RA.nil _ _ _ _
 keys:=RA.nil _ _ _ _
end
theorem natV_ints (l:List Nat):natV l=(l.map fun k:Nat=>(k:Int)).map (.int .i64):=by unfold natV;rw [List.map_map];rfl
theorem is2 (p q:Nat→Prop) (va vb:Value) (l:List Nat) (w:World) (ha:SlP p w va (natV l)) (hb:SlP q w vb (natV l)):Calls Tryz.prog 43 #[va,vb] w fun e w'=>e = .returned (.bool true)∧Below w.heap.size w w':=by
 rw [natV_ints] at ha hb
 refine (rInts_any p q va vb _ _ w ha hb).mono ?_
 rintro e w' ⟨rfl,h⟩
 exact ⟨by simp,h⟩
set_option maxRecDepth 100000 in
set_option maxHeartbeats 4000000 in
theorem sa3 (a0 a1:Addr) (w:World) (hV:Vars a0 a1 w):Calls Tryz.prog 21 #[] w fun e w'=>e = .returned (.bool true)∧Below w.heap.size w w':=by
 have Aa:=Hd (fun (mode:Int) (vS:Value) (sets:List (List ByteArray)) (W:World) (hS:Sh w mode vS W) (hs:SA2 (Shq w) W vS sets)=>sa2 a0 a1 (Shq w) 1 _ _ Tess.schAB (Tess.queAB mode sets) _ _ _ _ _ _ _ _ _ _ _ W (hV.below hS.below) hS.sch (hS.que hs) (by omega) kindsAB)
 obtain ⟨W0,Ar⟩:∃ W0,(((((w.alloc (.cells #[.string ⟨#[97]⟩,.string ⟨#[98]⟩] 9)).alloc (.cells (schC w.heap.size) 24)).alloc (.cells #[.int .i64 1,.string ⟨#[]⟩] 76)).alloc (.cells #[.string ⟨#[97]⟩,.string ⟨#[98]⟩] 9)).alloc (.cells (queC w.heap.size 2 (.slice none 0 0)) 35))=W0:=⟨_,rfl⟩
 have h5:=laid5 w (.cells #[.string ⟨#[97]⟩,.string ⟨#[98]⟩] 9) (.cells (schC w.heap.size) 24) (.cells #[.int .i64 1,.string ⟨#[]⟩] 76) (.cells #[.string ⟨#[97]⟩,.string ⟨#[98]⟩] 9) (.cells (queC w.heap.size 2 (.slice none 0 0)) 35)
 rw [Ar] at h5
 obtain ⟨k0,k1,k2,k3,k4,kS,kB⟩:=h5
 have Ai:=Hd (show Sh w 2 (.slice none 0 0) W0 from ⟨k0,k1,k2,k3,k4,kB⟩)
 have A9:=Hd Ar
 clear k0 k1 k2 k3 k4 kS kB Ar
 go_enter Tryz.func21,Tryz.ntmps21
 go_wp2_with (fail)
 rw [A9.out]
 go_at_call 23
 refine (Aa.out 2 (.slice none 0 0) [] W0 Ai.out (SA2.nil _ _)).mono ?_
 rintro e W1 ⟨va,rfl,hA,A3⟩
 rw [Tess.queAB2,if_pos rfl,Tess.setsAB2] at hA
 rw [Tess.queAB2]
 obtain ⟨Bp,Bq,Bu,rfl⟩:=hA.shape
 have Aw:=Hd (hA.weak (q:=fun b=>w.heap.size + 5≤b) fun b hb=>by have:W0.heap.size≤b:=hb;have:=Ai.out.lt;omega)
 have Ak:=Hd (Ai.out.later A3)
 clear hA A3 Ai A9
 have Ao:=Hd (Ak.out.set 2 (.int .i64 3) 3 (.slice none 0 0) rfl)
 have Ax:=Hd (Aw.out.ag (Ag.set _ W1 (a:=⟨w.heap.size + 1 + 1 + 1 + 1,2,none⟩) (.int .i64 3) (by show ¬ (w.heap.size + 5≤w.heap.size + 1 + 1 + 1 + 1);omega)))
 obtain ⟨x0,x1,x2⟩:=(can3 Ak.out.kS).1
 obtain ⟨⟨y0,y1,y2,y3,y4,y5,y6,y7,y8,y9,ya,yb,yc,yd⟩,zf⟩:=ca2 Ak.out.kQ
 have z2:=zf 2 (by omega)
 clear zf
 go_wp2_with (fail)
 go_at_call 23
 refine (Aa.out 3 (.slice none 0 0) [] _ Ao.out (SA2.nil _ _)).mono ?_
 rintro e W3 ⟨vb,rfl,hB,Av⟩
 rw [Tess.queAB3,if_pos rfl,Tess.setsAB3] at hB
 rw [Tess.queAB3]
 obtain ⟨Br,Bs,Bo,rfl⟩:=hB.shape
 have A0:=Hd (hB.weak (q:=fun b=>w.heap.size + 5≤b) fun b hb=>by have h1:(W1.setCell ⟨w.heap.size + 1 + 1 + 1 + 1,2,none⟩ (.int .i64 3)).heap.size≤b:=hb;have:=Ao.out.lt;omega)
 have Ba:=Hd (Ax.out.ag (Ag.new _ Av))
 have Af:=Hd (Ao.out.later Av)
 clear hB Av Ao Ax Ak Aw x0 x1 x2 y0 y1 y2 y3 y4 y5 y6 y7 y8 y9 ya yb yc yd z2
 have Bb:=Hd (Af.out.set 2 (.int .i64 4) 4 (.slice none 0 0) rfl)
 have Ae:∀ q:Nat→Prop,¬ q (w.heap.size + 1 + 1 + 1 + 1)→∀ i u W,Ag q W (W.setCell ⟨w.heap.size + 1 + 1 + 1 + 1,i,none⟩ u):=fun q hq i u W=>Ag.set q W u hq
 obtain ⟨W5,Ay⟩:∃ W5,((W3.setCell ⟨w.heap.size + 1 + 1 + 1 + 1,2,none⟩ (.int .i64 4)).alloc (.cells #[.string ⟨#[98]⟩] 9)).alloc (.cells #[.slice (some ⟨W3.heap.size,0,none⟩) 1 1,.slice none 0 0] 22)=W5:=⟨_,rfl⟩
 obtain ⟨kB,kL,Au,Aj⟩:=la3 (W3.setCell ⟨w.heap.size + 1 + 1 + 1 + 1,2,none⟩ (.int .i64 4)) (.cells #[.string ⟨#[98]⟩] 9) (.cells #[.slice (some ⟨W3.heap.size,0,none⟩) 1 1,.slice none 0 0] 22)
 rw [Ay] at kB kL Au Aj
 have A1:(W3.setCell ⟨w.heap.size + 1 + 1 + 1 + 1,2,none⟩ (.int .i64 4)).heap.size=W3.heap.size:=by simp [World.setCell]
 rw [A1] at kB kL Au
 have Am:=Hd (Bb.out.later Aj)
 have Aq:=Af.out.lt
 obtain ⟨W6,A6⟩:∃ W6,W5.setCell ⟨w.heap.size + 1 + 1 + 1 + 1,3,none⟩ (.slice (some ⟨W3.heap.size + 1,0,none⟩) 2 2)=W6:=⟨_,rfl⟩
 have Ab:=Am.out.set 3 (.slice (some ⟨W3.heap.size + 1,0,none⟩) 2 2) 4 (.slice (some ⟨W3.heap.size + 1,0,none⟩) 2 2) rfl
 have Ah:=Ae (fun b=>w.heap.size + 5≤b) (by omega) 3 (.slice (some ⟨W3.heap.size + 1,0,none⟩) 2 2) W5
 rw [A6] at Ab Ah
 have A8:=(Ah.2 W3.heap.size (by omega) (by omega)).trans kB
 have Al:=(Ah.2 (W3.heap.size + 1) (by omega) (by omega)).trans kL
 have A2:RowKit.Hid (SA2 (Shq w) W6 (.slice (some ⟨W3.heap.size + 1,0,none⟩) 2 2) [[⟨#[98]⟩],[]]):=Hd ⟨_,_,rfl,(by decide:(2:Nat)≤maxLen),Nat.le_refl _,(fun e=>by cases e),fun _=>⟨W3.heap.size + 1,0,rfl,(Array.getElem?_eq_some_iff.1 Al).1,⟨by omega,by omega⟩,fun j hj=>by
  have:j=0∨j=1:=by have:j < 2:=hj;omega
  rcases this with rfl | rfl
  ·exact ⟨_,cell_of_row _ _ 0 _ _ _ Al,ra4 [.string ⟨#[98]⟩] A8 (by decide) ⟨by omega,by omega⟩,fun x (hx:x ∈ [(⟨#[98]⟩:ByteArray)])=>by
    rcases List.mem_cons.1 hx with rfl | hx
    ·exact (by decide:(1:Nat)≤maxLen)
    ·cases hx⟩
  ·exact ⟨_,cell_of_row _ _ 1 _ _ _ Al,SlP.nil _ _,fun x (hx:x ∈ ([]:List ByteArray))=>by cases hx⟩⟩⟩
 have Ac:Ag (fun b=>w.heap.size + 5≤b) W3 W6:=((Ae _ (by omega) 2 (.int .i64 4) W3).trans (Ag.new _ Aj)).trans Ah
 have Az:=Hd (Ba.out.ag Ac)
 have A5:=Hd (A0.out.ag Ac)
 have Ab:=Hd Ab
 have y2:=(ca2 Af.out.kQ).1.2.2.1
 have z2:=(ca2 Af.out.kQ).2 2 (by omega)
 have u3:=(ca2 Am.out.kQ).1.2.2.2.1
 have z3:=(ca2 Am.out.kQ).2 3 (by omega)
 obtain ⟨x0,x1,x2⟩:=(can3 Ab.out.kS).1
 obtain ⟨v0,v1,v2,v3,v4,v5,v6,v7,v8,v9,Bh,Bc,Be,Bg⟩:=(ca2 Ab.out.kQ).1
 clear Ae kB kL Au Aj A1 Ah A8 Al Ac Bb Am Ba A0
 go_wp2_with (fail)
 go_at_call 23
 refine (Aa.out 4 _ _ _ Ab.out A2.out).mono ?_
 rintro e W7 ⟨vc,rfl,hC,An⟩
 rw [Tess.queAB4,if_pos rfl,Tess.setsAB4] at hC
 rw [Tess.queAB4]
 obtain ⟨Bk,Bl,Bn,rfl⟩:=hC.shape
 have Bi:=Hd hC
 have Bd:=Hd (Az.out.ag (Ag.new _ An))
 have Bj:=Hd (A5.out.ag (Ag.new _ An))
 have Bf:=Hd (Bt Ab.out.below An)
 clear hC An Az A5 Ab A2 Ay A6 Af x0 x1 x2 v0 v1 v2 v3 v4 v5 v6 v7 v8 v9 Bh Bc Be Bg y2 z2 u3 z3 Aq
 go_wp2_with (fail)
 go_at_call 43
 have As:Below W7.heap.size W7 (W7.alloc (.cells #[.int .i64 0,.int .i64 1,.int .i64 2,.int .i64 3] 3)):=(Below.refl _ _).alloc (Nat.le_refl _) _
 refine (is2 _ (fun _=>True) _ _ [0,1,2,3] _ (Bd.out.ag (Ag.new _ As)) (ra4 [.int .i64 0,.int .i64 1,.int .i64 2,.int .i64 3] (heap_alloc_new W7 _) (by decide) trivial)).mono ?_
 rintro e W8 ⟨rfl,hx⟩
 have A7:=Hd (Bt As hx)
 clear As hx
 go_wp2_with (fail)
 go_at_call 43
 have Ap:Below W7.heap.size W7 (W8.alloc (.cells #[.int .i64 0,.int .i64 2,.int .i64 3] 3)):=A7.out.alloc A7.out.size _
 refine (is2 _ (fun _=>True) _ _ [0,2,3] _ (Bj.out.ag (Ag.new _ Ap)) (ra4 [.int .i64 0,.int .i64 2,.int .i64 3] (heap_alloc_new W8 _) (by decide) trivial)).mono ?_
 rintro e W9 ⟨rfl,hx⟩
 have A4:=Hd (Bt Ap hx)
 clear Ap hx
 go_wp2_with (fail)
 go_at_call 43
 have Ad:Below W7.heap.size W7 (W9.alloc (.cells #[.int .i64 1,.int .i64 3] 3)):=A4.out.alloc A4.out.size _
 refine (is2 _ (fun _=>True) _ _ [1,3] _ (Bi.out.ag (Ag.new _ Ad)) (ra4 [.int .i64 1,.int .i64 3] (heap_alloc_new W9 _) (by decide) trivial)).mono ?_
 rintro e Bm ⟨rfl,hx⟩
 have At:=Hd (Bt Ad hx)
 clear Ad hx
 go_wp2
 go_ret
 exact ⟨rfl,Bt Bf.out At.out⟩
end Go.Proofs.YtaddkkkchkdgkaaGreatDoor
namespace Go.Proofs.YtaddkkkchkdgkaaGreatDoor
open Go.RowKit Go.Sort Go.Shelf
open Tess (CK Pay PO CO2 CO Que Fil gP)
structure Lw (T:Lib.PrintTabs) (a0 a1:Addr) (w:World):Prop where
 vars:Vars a0 a1 w
 vn:∀ w',Below w.heap.size w w'→Vn T w'
 et:w.cell? ⟨0,0,none⟩=some (.iface 229 (.agg #[.pointer (some ⟨14,89,none⟩)]))
theorem Lw.below {T:Lib.PrintTabs} {a0 a1:Addr} {w w':World} (h:Lw T a0 a1 w) (hb:Below w.heap.size w w'):Lw T a0 a1 w':=
 ⟨h.vars.below hb,fun _ hb'=>h.vn _ (Bt hb hb'),(hb.cell (p:=⟨0,0,none⟩) (World.block_lt_of_cell? _ _ h.et)).trans h.et⟩
theorem parts_mk {p:Nat→Prop} {W:World} {vs:List Value} {pts:List (List (CK×Pay))} (hlen:vs.length=pts.length) (hl:pts.length≤maxLen) (h:∀ j (h1:j < vs.length) (h2:j < pts.length),CA3 p W vs[j] pts[j]) :
  PartsAt (fun b=>p b∨b=W.heap.size) (W.alloc (.cells vs.toArray 41)) (.slice (some ⟨W.heap.size,0,none⟩) vs.length vs.length) pts:=by
 rw [hlen]
 refine ⟨_,_,rfl,hl,Nat.le_refl _,(fun e=>by cases e),fun _=>⟨W.heap.size,0,rfl,by simp,.inr rfl,fun j hj=>⟨[vs[j]'(by omega)],rfl,⟨_,rfl,((h j (by omega) hj).ag (Ag.new _ (la2 _ _).2.2)).weak fun _ h => .inl h⟩,fun i hi => ?_⟩⟩⟩
 obtain rfl:i=0:=by omega
 rw [cell_of_row _ _ _ _ _ _ (heap_alloc_new _ _),List.getElem?_toArray]
 simp [show j < vs.length by omega]
theorem parts1 {p:Nat→Prop} {W:World} {v:Value} {C:List (CK×Pay)} (h:CA3 p W v C):PartsAt (fun b=>p b∨b=W.heap.size) (W.alloc (.cells #[v] 41)) (.slice (some ⟨W.heap.size,0,none⟩) 1 1) [C]:=
 parts_mk (vs:=[v]) (pts:=[C]) rfl (by show (1:Nat)≤maxLen;decide) fun j h1 h2=>by
  have h1:j < 1:=h1
  obtain rfl:j=0:=by omega
  exact h
theorem CA3.nilc (p:Nat→Prop) (W:World):CA3 p W (.slice none 0 0) []:=LA.nil _ _ _ _
end Go.Proofs.YtaddkkkchkdgkaaGreatDoor
namespace Go.Proofs.YtaddkkkchkdgkaaGreatDoor
open Go.ChangeShapes Go.WideShapes Go.RowKit Go.Lib
theorem own:ownKnob Tryz.prog.godebug=none:=by kernel_rfl
theorem laidOut:laidOutB Tryz.prog=true:=by kernel_rfl
theorem gEt : Tryz.prog.globalNamed "errors.errorType" = some 0 := by kernel_rfl
theorem gPow : Tryz.prog.globalNamed "internal/strconv.uint64pow10" = some 3 := by kernel_rfl
theorem gNone : Tryz.prog.globalNamed "tesserae/filter.errNone" = some 1 := by kernel_rfl
theorem gGrain : Tryz.prog.globalNamed "tesserae/filter.errGrain" = some 2 := by kernel_rfl
theorem gNoneT:(Tryz.prog.globals[1]?).map (·.type)=some 89:=by kernel_rfl
theorem gGrainT:(Tryz.prog.globals[2]?).map (·.type)=some 89:=by kernel_rfl
theorem gPowT:(Tryz.prog.globals[3]?).map (·.type)=some 298:=by kernel_rfl
theorem gRt : (Tryz.prog.cutTypes.find? (·.1 == "internal/reflectlite.rtype")).map (·.2) = some 229 := by kernel_rfl
theorem gOne:((List.range Tryz.prog.types.size).filter fun t=>Tryz.prog.rowNamed t [101,114,114,111,114])=[89]:=by kernel_rfl
theorem gStar : "*" ++ "errors.errorString" = "*errors.errorString" := by decide
theorem gRow (u : TypeId) (h : Tryz.prog.typeName? 3 u = some "*errors.errorString") : u = 324 :=
 typeName_ptr_named (nm := "errors.errorString") (by rw [gStar]; kernel_rfl) (by kernel_rfl) (by decide) u (by rw [gStar]; exact h)
theorem gCells:Tryz.prog.cellsOf 344=1:=by kernel_rfl
theorem gCells2:Tryz.prog.cellsOf 9=1:=by kernel_rfl
abbrev pV : List (String × DataW Unit) := [("math/bits.deBruijn32tab", Rows.laid_math_bits_deBruijn32tab), ("math/bits.deBruijn64tab", Rows.laid_math_bits_deBruijn64tab), ("internal/strconv.uint64pow10", Rows.laid_internal_strconv_uint64pow10), ("unicode/utf8.acceptRanges", Rows.laid_unicode_utf8_acceptRanges), ("tesserae/filter.errNone", Rows.laid_tesserae_filter_errNone), ("tesserae/filter.errGrain", Rows.laid_tesserae_filter_errGrain), ("strconv.isGraphic", Rows.laid_strconv_isGraphic), ("strconv.isNotPrint16", Rows.laid_strconv_isNotPrint16), ("strconv.isNotPrint32", Rows.laid_strconv_isNotPrint32), ("strconv.isPrint16", Rows.laid_strconv_isPrint16), ("strconv.isPrint32", Rows.laid_strconv_isPrint32), ("unicode/utf8.first", Rows.laid_unicode_utf8_first)]
abbrev lV : List (String × DataW Unit) := [("math/bits.deBruijn32tab", Rows.laid_math_bits_deBruijn32tab), ("math/bits.deBruijn64tab", Rows.laid_math_bits_deBruijn64tab), ("internal/strconv.uint64pow10", Rows.laid_internal_strconv_uint64pow10), ("unicode/utf8.acceptRanges", Rows.laid_unicode_utf8_acceptRanges), ("errors.errorType", Rows.laid_errors_errorType), ("tesserae/filter.errNone", Rows.laid_tesserae_filter_errNone), ("tesserae/filter.errGrain", Rows.laid_tesserae_filter_errGrain), ("strconv.isGraphic", Rows.laid_strconv_isGraphic), ("strconv.isNotPrint16", Rows.laid_strconv_isNotPrint16), ("strconv.isNotPrint32", Rows.laid_strconv_isNotPrint32), ("strconv.isPrint16", Rows.laid_strconv_isPrint16), ("strconv.isPrint32", Rows.laid_strconv_isPrint32), ("unicode/utf8.first", Rows.laid_unicode_utf8_first)]
theorem sl4 (W : World) : laidMetH Tryz.prog lV W ↔ laidMet Tryz.prog pV W ∧ handlesMet Tryz.prog [("errors.errorType", Rows.laid_errors_errorType)] W := by
 have e1 : (lV.filter fun x => x.2.handleName?.isSome) = [("errors.errorType", Rows.laid_errors_errorType)] := by kernel_rfl
 have e2:(lV.filter fun x=>x.2.handleName?.isNone)=pV:=by kernel_rfl
 unfold laidMetH
 rw [e1]
 simp only [e2]
theorem pow_eq:(Rows.laid_internal_strconv_uint64pow10:DataW Unit)=tabData .u64 pow10Tab:=by kernel_rfl
theorem acc_eq:(Rows.laid_unicode_utf8_acceptRanges:DataW Unit)=acceptData:=by kernel_rfl
set_option maxRecDepth 100000 in
theorem vol {W:World} (h:laidMetH Tryz.prog lV W):∃ a0 a1,Lw Lib.goPrintTabs a0 a1 W:=by
 obtain ⟨hp,hh⟩:=(sl4 W).1 h
 obtain ⟨name,u,ty,e1,e2,e3,e4,e5⟩:=hh _ (List.mem_singleton.2 rfl)
 have en:name=[101,114,114,111,114]:=(Option.some.inj e1).symm
 subst en
 obtain rfl:=Option.some.inj (gRt.symm.trans e2)
 have hm:ty ∈ (List.range Tryz.prog.types.size).filter fun t=>Tryz.prog.rowNamed t [101,114,114,111,114]:=List.mem_filter.2 ⟨List.mem_range.2 e3,e4⟩
 rw [gOne] at hm
 obtain rfl:=List.mem_singleton.1 hm
 have hh:typeHandle Tryz.prog 89 = .pointer (some ⟨14,89,none⟩):=by kernel_rfl
 rw [hh] at e5
 have Aa : TabIs Tryz.prog W "internal/strconv.uint64pow10" .u64 pow10Tab := by
  have:=hp.tail.tail
  rw [pow_eq] at this
  exact tabIs_of_head gPow gPowT Tryz.underlying298 Tryz.underlying58 (by kernel_rfl) (by kernel_rfl) this
 have Ab:=Go.Proofs.utf8Tabs_of_reads (ρ:=Tryz.lr3) { Tryz.lays177 with } ⟨by kernel_rfl,by kernel_rfl,by kernel_rfl,by kernel_rfl,by kernel_rfl,by kernel_rfl,by kernel_rfl⟩ (w:=W) (by rw [← Pinned.utf8First_eq];exact laidMet.reads hp (List.mem_of_getElem? (i:=11) rfl)) (by rw [← acc_eq];exact laidMet.reads hp (List.mem_of_getElem? (i:=3) rfl))
 have Ac:=Go.Proofs.printTabs_of_reads (ρ:=Tryz.lr3) { Tryz.lays177 with } ⟨by kernel_rfl,by kernel_rfl,by kernel_rfl,by kernel_rfl,by kernel_rfl,by kernel_rfl,by kernel_rfl,by kernel_rfl,by kernel_rfl,by kernel_rfl⟩ (w:=W) (by rw [← Pinned.isPrint16_eq];exact laidMet.reads hp (List.mem_of_getElem? (i:=9) rfl)) (by rw [← Pinned.isNotPrint16_eq];exact laidMet.reads hp (List.mem_of_getElem? (i:=7) rfl)) (by rw [← Pinned.isPrint32_eq];exact laidMet.reads hp (List.mem_of_getElem? (i:=10) rfl)) (by rw [← Pinned.isNotPrint32_eq];exact laidMet.reads hp (List.mem_of_getElem? (i:=8) rfl))
 obtain ⟨b0,b1,s0,s1,c0,c1,t0,t1,Ad,Af,_,_,_,_,_,_,Ae,Ah,Ag⟩:=laid_sentinels2 hp.tail.tail.tail.tail gNone gNoneT gGrain gGrainT Tryz.underlying89 gRow Tryz.underlying324 Tryz.underlying344 rfl rfl Tryz.underlying9 gCells gCells2
 refine ⟨b0,b1,⟨Ae,by simpa using World.var?_cell gNone Ad 0,by simpa using World.var?_cell gGrain Af 0,⟨c0,t0,Ah⟩,⟨c1,t1,Ag⟩⟩,fun w' hB=>Vn.below (w:=W) ⟨fun w2 h2 => ?_,Ac,Ab⟩ hB,by simpa using World.var?_cell gEt e5 0⟩
 exact var?_below h2 gPow (World.block_lt_of_cell? W ⟨3,0,none⟩ (u:=.int .u64 1) (by simpa [pow10Tab] using World.var?_cell gPow Aa 0)) Aa
noncomputable def world0 (os:Os):World:=
 let w0:=World.holding Tryz.prog os ⟨#[],#[],[]⟩
 { w0 with heap:=w0.heap.modify 0 fun
     | .cells _ t frozen => .cells #[.iface 229 (.agg #[.pointer (some ⟨14,89,none⟩)])] t frozen
     | o=>o }
noncomputable def lW (os:Os):World:=(world0 os).layVars Tryz.prog pV
theorem lWo (os:Os):(lW os).os=os:=World.layVars_os _ _ _
set_option maxRecDepth 100000 in
theorem lWp (os:Os):laidMet Tryz.prog pV (lW os):=by
 have e1:(pV.filter fun x=>(pV.map (·.1)).contains x.1)=pV:=List.filter_eq_self.2 fun x hx=>List.contains_iff_mem.2 (List.mem_map.2 ⟨x,hx,rfl⟩)
 have e2:(pV.filter fun x => !(pV.map (·.1)).contains x.1)=[]:=List.filter_eq_nil_iff.2 fun x hx=>by rw [List.contains_iff_mem.2 (List.mem_map.2 ⟨x,hx,rfl⟩)];simp
 exact laidMet_layVars (w0:=world0 os) (pV.map (·.1)) [] (by rw [e1];rfl) (by rw [e1];kernel_rfl) (by rw [e1];kernel_rfl) (by rw [e2];exact LaidIn.none)
set_option maxRecDepth 100000 in
theorem laidWorld_et (os : Os) (args : Array Value) : ((lW os).forCall (fun _ _ => 0) ⟨#[], args, []⟩).memory.var? Tryz.prog "errors.errorType" = some #[.iface 229 (.agg #[typeHandle Tryz.prog 89])] := by kernel_rfl
set_option maxRecDepth 100000 in
theorem lWm (os:Os) (args:Array Value):laidMetH Tryz.prog lV ((lW os).forCall (fun _ _=>0) ⟨#[],args,[]⟩).memory:=by
 refine (sl4 _).2 ⟨(lWp os).of_heap (by simp [World.memory,World.forCall,Input.heap]),fun x hx => ?_⟩
 obtain rfl:=List.mem_singleton.1 hx
 exact ⟨[101,114,114,111,114],229,89,rfl,gRt,of_decide_eq_true (by kernel_rfl),by kernel_rfl,laidWorld_et os args⟩
set_option maxRecDepth 100000 in
theorem lWs (os:Os) (args:Array Value):((lW os).forCall (fun _ _=>0) ⟨#[],args,[]⟩).Shaped Tryz.prog:=World.shaped_of_ZipB (by kernel_rfl) (by kernel_rfl)
end Go.Proofs.YtaddkkkchkdgkaaGreatDoor
namespace Tess
open Go Kl
abbrev ty:ByteArray:=⟨#[121]⟩
end Tess
