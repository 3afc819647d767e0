/- Joined by mergeK.py: F30, F31, F32, F36, F37, F38, F39 -/
import Derived.Test.YtaddkkkchkdgkaaGreatDoorWC12
import Derived.Test.YtaddkkkchkdgkaaGreatDoorWC07
import Derived.Test.YtaddkkkchkdgkaaGreatDoorWC08
import Derived.Lib.SliceRun
namespace Go.Proofs.YtaddkkkchkdgkaaGreatDoor
open Go.RowKit Go.Sort
open Tess (Fil)
def RowAt (p:Nat→Prop) (w:World) (v:Value) (t:Int) (l:List Tess.Val) (ns:List Int):Prop:=∃ vd a c,v = .agg #[.int .i64 t,vd,.slice a ns.length c]∧ns.length≤c∧ValsAt p w vd l∧SlP p w (.slice a ns.length c) (ns.map (.int .i64))
theorem RowAt.ag {p:Nat→Prop} {w w':World} {v:Value} {t:Int} {l:List Tess.Val} {ns:List Int} (h:RowAt p w v t l ns) (hg:Ag p w w'):RowAt p w' v t l ns:=let ⟨vd,a,c,h1,h0,h2,h3⟩:=h;⟨vd,a,c,h1,h0,h2.ag hg,h3.ag hg⟩
theorem RowAt.weak {p q:Nat→Prop} {w:World} {v:Value} {t:Int} {l:List Tess.Val} {ns:List Int} (h:RowAt p w v t l ns) (hpq:∀ b,p b→q b):RowAt q w v t l ns:=let ⟨vd,a,c,h1,h0,h2,h3⟩:=h;⟨vd,a,c,h1,h0,h2.weak hpq,h3.weak hpq⟩
theorem slp_take {p:Nat→Prop} {w:World} {a:Option Addr} {n cap:Nat} {cs:List Value} (k:Nat) (h:SlP p w (.slice a n cap) cs):SlP p w (.slice a (min k n) cap) (cs.take k):=by
 obtain ⟨⟨h0,a',cap',hv,hc⟩,hp,hn⟩:=h
 cases hv
 refine ⟨⟨by simp;omega,a,cap,by simp,fun hl => ?_⟩,fun hl b hb => ?_,fun n' c' e => ?_⟩
 ·simp at hl
  obtain ⟨b,off,ha,hb,hcell⟩:=hc (by omega)
  refine ⟨b,off,ha,hb,fun j hj => ?_⟩
  simp at hj
  rw [hcell j (by omega)];simp
 ·simp at hl
  exact hp (by omega) b (by cases a with | none=>exact hb | some x=>exact hb)
 ·cases e;exact hn _ _ rfl
def isVals (N:Nat) (l:List Tess.Val) (v:Value) (W:World):Prop:=ValsAt (fun b=>N≤b) W v l
theorem isVals_mono (N:Nat) (l:List Tess.Val):Flow.Spec.mono (.inr (isVals N l)):=fun _ _ _ h hb=>ValsAt.ag h (Ag.new _ hb)
def isRow (N:Nat) (t:Int) (l:List Tess.Val) (vn:Value) (v:Value) (W:World):Prop:=∃ vd,v = .agg #[.int .i64 t,vd,vn]∧ValsAt (fun b=>N≤b) W vd l
theorem isRow_mono (N:Nat) (t:Int) (l:List Tess.Val) (vn:Value):Flow.Spec.mono (.inr (isRow N t l vn)):=fun _ _ _ ⟨vd,h1,h⟩ hb=>⟨vd,h1,ValsAt.ag h (Ag.new _ hb)⟩
set_option maxRecDepth 100000 in
set_option maxHeartbeats 2000000 in
theorem fewRow_any (p:Nat→Prop) (v:Value) (t:Int) (l:List Tess.Val) (ns:List Int) (w:World) (hv:RowAt p w v t l ns) :
  Calls Tryz.prog 29 #[v] w fun e w' => ∃ v',e = .returned v'∧RowAt (fun b=>p b∨w.heap.size≤b) w' v' t (cutVals l) (ns.take 10)∧(∃ vd n,v' = .agg #[.int .i64 t,vd,n]∧ValsAt (fun b=>w.heap.size≤b) w' vd (cutVals l))∧Below w.heap.size w w':=by
 obtain ⟨vd,na,nc,rfl,hnc,hd,hn⟩:=hv
 have HVD:=Lib.hid (fun W (hB:Below w.heap.size w W)=>vals_any p vd l W (hd.ag (Ag.new p hB)))
 obtain ⟨da,dc,rfl,_,_,_,_⟩:=hd
 have HN:=Lib.hid (slp_take 10 hn)
 have hnn:ns.length≤9223372036854775807:=by have:=hn.1.1;simp at this;unfold maxLen at this;omega
 obtain ⟨m,hm⟩:∃ m,m=min 10 ns.length:=⟨_,rfl⟩
 have hmi:min (ns.length:Int) 10=(m:Int):=by omega
 have hmc:(m:Int)≤(nc:Int):=by omega
 have HM:=Lib.hid hm
 clear hn hm
 obtain ⟨W0,hW0⟩:∃ W0,(w.alloc (.cells #[.int .i64 t,.slice da l.length dc,.slice na ns.length nc] 74)).alloc (.cells #[.int .i64 0,.slice none 0 0,.slice none 0 0] 74)=W0:=⟨_,rfl⟩
 obtain ⟨h0,h1,hS,hB⟩:=laid2 w (.cells #[.int .i64 t,.slice da l.length dc,.slice na ns.length nc] 74) (.cells #[.int .i64 0,.slice none 0 0,.slice none 0 0] 74)
 rw [hW0] at h0 h1 hS hB
 go_enter Tryz.func29,Tryz.ntmps29
 go_wp2
 clear hW0
 have c0:=cell_of_row W0 w.heap.size 0 _ _ _ h0
 have c1:=cell_of_row W0 w.heap.size 1 _ _ _ h0
 have c2:=cell_of_row W0 w.heap.size 2 _ _ _ h0
 simp only [List.getElem?_toArray,List.getElem?_cons_succ,List.getElem?_cons_zero] at c0 c1 c2
 have s0:w.heap.size < W0.heap.size:=by omega
 have HB:=Lib.hid hB
 have HS:=Lib.hid hS
 have H1:=Lib.hid h1
 clear h0 h1 hS hB
 refine Flow.wp_region_flow_tail 13 (Flow.specs [.inl ?_,.inl ?_,.inl ?_,.inl ?_,.inr (isVals W0.heap.size (cutVals l)),.inl ?_,.inl ?_,.inl ?_,.inl ?_,.inl ?_,.inl ?_,.inl ?_,.inr (isRow W0.heap.size t (cutVals l) (.slice na m nc))]) (by kernel_rfl) (by kernel_rfl) ?_ ?_
 rotate_left 11
 ·refine Flow.specs_mono ?_
  repeat (first | exact Flow.lmono_nil | refine Flow.lmono_inl ?_ | refine Flow.lmono_inr (isVals_mono _ _) ?_ | refine Flow.lmono_inr (isRow_mono _ _ _ _) ?_)
 all_goals try simp only [List.take_succ_cons,List.take_zero,List.drop_succ_cons,List.drop_zero]
 iterate 4 (refine Flow.tree_valK rfl (fun K hK=>⟨fun w hw hG => ?_,?_⟩);(have hcl:=Flow.bcell hw;clear hG hw;unfold Flow.Runs Flow.yields;go_simp;try rfl);go_simp;refine hK _ ?_;clear hK K)
 (refine Flow.tree_varK rfl (fun K hK=>⟨fun w hw hG => ?_,?_⟩);(have HW:=Lib.hid hw;clear hG hw;unfold Flow.Runs Flow.yields;go_simp;refine (HVD.out _ (Bt HB.out HW.out)).mono ?_;rintro e w3 ⟨v3,rfl,hf3,hb3⟩;exact ⟨v3,rfl,hb3,hf3.weak fun b hb=>Nat.le_trans HW.out.size hb⟩);intro vz;go_simp;refine hK _ _ ?_;clear hK K)
 iterate 7 (refine Flow.tree_valK rfl (fun K hK=>⟨fun w hw hG => ?_,?_⟩);(have hcl:=Flow.bcell hw;clear hG hw;unfold Flow.Runs Flow.yields;go_simp;try rfl);go_simp;refine hK _ ?_;clear hK K)
 (refine Flow.tree_varK rfl (fun K hK=>⟨fun w hw hG => ?_,?_⟩);(have hvz:=(show isVals W0.heap.size (cutVals l) vz w by simpa [Flow.upd] using hG 4 (by kernel_rfl));have HVZ:=Lib.hid hvz;clear hG;obtain ⟨y0,y1,rfl,_⟩:=hvz;unfold Flow.Runs Flow.yields;go_simp;exact ⟨_,rfl,HVZ.out⟩);intro vy;go_simp;refine hK _ _ ?_;clear hK K)
 refine Flow.tree_nil fun w2 hw2 hG => ?_
 obtain ⟨vd',rfl,hvd⟩:=(show isRow W0.heap.size t (cutVals l) (.slice na m nc) vy w2 by simpa [Flow.upd] using hG 12)
 have HVD':=Lib.hid hvd
 obtain ⟨y0,y1,rfl,_⟩:=hvd
 clear hG
 have h1':=(hw2.block _ (by have:=HS.out;omega)).trans H1.out
 have HB2:=Lib.hid (Bt HB.out hw2)
 have z0:=frozen_of_row w2 (w.heap.size + 1) 0 _ _ h1'
 have z1:=frozen_of_row w2 (w.heap.size + 1) 1 _ _ h1'
 have z2:=frozen_of_row w2 (w.heap.size + 1) 2 _ _ h1'
 have e0:=cell_of_row w2 (w.heap.size + 1) 0 _ _ _ h1'
 have e1:=cell_of_row w2 (w.heap.size + 1) 1 _ _ _ h1'
 have e2:=cell_of_row w2 (w.heap.size + 1) 2 _ _ _ h1'
 simp only [List.getElem?_toArray,List.getElem?_cons_succ,List.getElem?_cons_zero] at e0 e1 e2
 clear h1' hw2
 go_wp2
 have hAg:∀ q:Nat→Prop,¬ q (w.heap.size + 1)→Ag q w2 (((w2.setCell ⟨w.heap.size + 1,0,none⟩ (.int .i64 t)).setCell ⟨w.heap.size + 1,1,none⟩ (.slice y0 (cutVals l).length y1)).setCell ⟨w.heap.size + 1,2,none⟩ (.slice na m nc)):=
  fun q h1=>((Ag.set q _ _ h1).trans (Ag.set q _ _ h1)).trans (Ag.set q _ _ h1)
 have hlen:(ns.take 10).length=m:=by rw [List.length_take,HM.out]
 have hS:=HS.out
 refine bodyPost_ret (v:=.agg #[.int .i64 t,.slice y0 (cutVals l).length y1,.slice na m nc]) (by simp [results,Tryz.results29,go_sem,e0,e1,e2]) rfl ⟨_,rfl,⟨_,na,nc,by rw [hlen],by omega,?_,?_⟩,⟨_,⟨_,rfl⟩,((HVD'.out.ag (hAg _ (by omega))).weak fun b hb=>by omega)⟩,?_⟩
 ·exact ((HVD'.out.ag (hAg _ (by omega))).weak fun b hb => .inr (by omega))
 ·have h:=(HN.out.lt.ag (Ag.new _ HB2.out)).ag (hAg _ (by rintro ⟨_,h⟩;omega))
  rw [← HM.out] at h
  rw [hlen,List.map_take]
  exact h.weak fun b hb => .inl hb.1
 ·exact ((HB2.out.setCell (by show _≤w.heap.size + 1;omega) _).setCell (by show _≤w.heap.size + 1;omega) _).setCell (by show _≤w.heap.size + 1;omega) _
end Go.Proofs.YtaddkkkchkdgkaaGreatDoor
namespace Go.Proofs.YtaddkkkchkdgkaaGreatDoor
open Go.RowKit
open Tess (Fil)
theorem kinds_cut:∀ (d:Nat) (f:Fil),kindsOk f→kindsOk (Fil.cut d f):=by
 intro d
 induction d with
 | zero=>
   intro f h
   unfold kindsOk at *
   rw [Fil.allP_eq,Bool.and_eq_true] at h
   rw [Fil.allP_eq,Bool.and_eq_true]
   refine ⟨h.1,?_⟩
   simp [Fil.cut,Fil.l]
 | succ d ih=>
   intro f h
   unfold kindsOk at *
   rw [Fil.allP_eq,Bool.and_eq_true,List.all_eq_true] at h
   rw [Fil.allP_eq,Bool.and_eq_true,List.all_eq_true]
   refine ⟨h.1,fun x hx => ?_⟩
   simp only [Fil.cut,Fil.l] at hx
   obtain ⟨y,hy,rfl⟩:=List.mem_map.1 hx
   exact ih y (h.2 y (List.mem_of_mem_take hy))
theorem kinds_few (f:Fil) (h:kindsOk f):kindsOk (Fil.few f):=by
 have hc:=kinds_cut 7 f h
 unfold Fil.few
 split
 ·unfold kindsOk at *
  rw [Fil.allP_eq,Bool.and_eq_true] at hc
  rw [Fil.allP_eq,Bool.and_eq_true]
  exact ⟨hc.1,by simp [Fil.l]⟩
 ·exact hc
end Go.Proofs.YtaddkkkchkdgkaaGreatDoor
namespace Go.Proofs.YtaddkkkchkdgkaaGreatDoor
open Go.RowKit Go.Sort
open Tess (Fil)
theorem box6 {w W:World} {B:Nat} {t:TypeId} {x0 x1 x2 x3 x4 x5:Value} (y0 y1 y2 y3 y4 y5:Value) (h:W.heap[B]? = some (.cells #[x0,x1,x2,x3,x4,x5] t (0,0))) (hb:Below w.heap.size w W) (hB:w.heap.size≤B) :
  ∃ W3,((((((W.setCell ⟨B,0,none⟩ y0).setCell ⟨B,1,none⟩ y1).setCell ⟨B,2,none⟩ y2).setCell ⟨B,3,none⟩ y3).setCell ⟨B,4,none⟩ y4).setCell ⟨B,5,none⟩ y5)=W3∧W3.heap[B]? = some (.cells #[y0,y1,y2,y3,y4,y5] t (0,0))∧(∀ k,k≠B→W3.heap[k]? = W.heap[k]?)∧W3.heap.size=W.heap.size∧Below w.heap.size w W3:=
 ⟨_,rfl,set6 _ _ _ _ _ _ h,fun _ hk=>set6_other _ _ _ _ _ _ hk,set6_size _ _ _ _ _ _,set6_below _ _ _ _ _ _ hb hB⟩
structure Bx (w:World) (c0 c1 c2 c3:Array Value) (W:World):Prop where
 k0:W.heap[w.heap.size]? = some (.cells c0 24 (0,0))
 k1:W.heap[w.heap.size + 1]? = some (.cells c1 31 (0,0))
 k2:W.heap[w.heap.size + 1 + 1]? = some (.cells c2 31 (0,0))
 k3:W.heap[w.heap.size + 1 + 1 + 1]? = some (.cells c3 74 (0,0))
 below:Below w.heap.size w W
 size:w.heap.size + 4≤W.heap.size
def But4 (w W W':World):Prop:=Ag (fun b=>w.heap.size + 4≤b) W W'
theorem Bx.later {w W W':World} {c0 c1 c2 c3:Array Value} (h:Bx w c0 c1 c2 c3 W) (hb:Below W.heap.size W W'):Bx w c0 c1 c2 c3 W':=
 have:=h.size
 ⟨(hb.block _ (by omega)).trans h.k0,(hb.block _ (by omega)).trans h.k1,(hb.block _ (by omega)).trans h.k2,(hb.block _ (by omega)).trans h.k3,Bt h.below hb,Nat.le_trans h.size hb.size⟩
theorem Bx.set0 {w W:World} {x0 x1 x2:Value} {c1 c2 c3:Array Value} (y0 y1 y2:Value) (h:Bx w #[x0,x1,x2] c1 c2 c3 W) :
  ∃ W3,(((W.setCell ⟨w.heap.size,0,none⟩ y0).setCell ⟨w.heap.size,1,none⟩ y1).setCell ⟨w.heap.size,2,none⟩ y2)=W3∧Bx w #[y0,y1,y2] c1 c2 c3 W3∧But4 w W W3:=by
 obtain ⟨W3,e,q0,qo,qs,qB⟩:=box3 y0 y1 y2 h.k0 h.below (Nat.le_refl _)
 exact ⟨W3,e,⟨q0,(qo _ (by omega)).trans h.k1,(qo _ (by omega)).trans h.k2,(qo _ (by omega)).trans h.k3,qB,by rw [qs];exact h.size⟩,by rw [qs];exact Nat.le_refl _,fun b _ hb=>qo b (by omega)⟩
theorem Bx.set1 {w W:World} {x0 x1 x2 x3 x4 x5:Value} {c0 c2 c3:Array Value} (y0 y1 y2 y3 y4 y5:Value) (h:Bx w c0 #[x0,x1,x2,x3,x4,x5] c2 c3 W) :
  ∃ W3,((((((W.setCell ⟨w.heap.size + 1,0,none⟩ y0).setCell ⟨w.heap.size + 1,1,none⟩ y1).setCell ⟨w.heap.size + 1,2,none⟩ y2).setCell ⟨w.heap.size + 1,3,none⟩ y3).setCell ⟨w.heap.size + 1,4,none⟩ y4).setCell ⟨w.heap.size + 1,5,none⟩ y5)=W3∧Bx w c0 #[y0,y1,y2,y3,y4,y5] c2 c3 W3∧But4 w W W3:=by
 obtain ⟨W3,e,q0,qo,qs,qB⟩:=box6 y0 y1 y2 y3 y4 y5 h.k1 h.below (by omega)
 exact ⟨W3,e,⟨(qo _ (by omega)).trans h.k0,q0,(qo _ (by omega)).trans h.k2,(qo _ (by omega)).trans h.k3,qB,by rw [qs];exact h.size⟩,by rw [qs];exact Nat.le_refl _,fun b _ hb=>qo b (by omega)⟩
theorem Bx.set2 {w W:World} {x0 x1 x2 x3 x4 x5:Value} {c0 c1 c3:Array Value} (y0 y1 y2 y3 y4 y5:Value) (h:Bx w c0 c1 #[x0,x1,x2,x3,x4,x5] c3 W) :
  ∃ W3,((((((W.setCell ⟨w.heap.size + 1 + 1,0,none⟩ y0).setCell ⟨w.heap.size + 1 + 1,1,none⟩ y1).setCell ⟨w.heap.size + 1 + 1,2,none⟩ y2).setCell ⟨w.heap.size + 1 + 1,3,none⟩ y3).setCell ⟨w.heap.size + 1 + 1,4,none⟩ y4).setCell ⟨w.heap.size + 1 + 1,5,none⟩ y5)=W3∧Bx w c0 c1 #[y0,y1,y2,y3,y4,y5] c3 W3∧But4 w W W3:=by
 obtain ⟨W3,e,q0,qo,qs,qB⟩:=box6 y0 y1 y2 y3 y4 y5 h.k2 h.below (by omega)
 exact ⟨W3,e,⟨(qo _ (by omega)).trans h.k0,(qo _ (by omega)).trans h.k1,q0,(qo _ (by omega)).trans h.k3,qB,by rw [qs];exact h.size⟩,by rw [qs];exact Nat.le_refl _,fun b _ hb=>qo b (by omega)⟩
theorem Bx.set3 {w W:World} {x0 x1 x2:Value} {c0 c1 c2:Array Value} (y0 y1 y2:Value) (h:Bx w c0 c1 c2 #[x0,x1,x2] W) :
  ∃ W3,(((W.setCell ⟨w.heap.size + 1 + 1 + 1,0,none⟩ y0).setCell ⟨w.heap.size + 1 + 1 + 1,1,none⟩ y1).setCell ⟨w.heap.size + 1 + 1 + 1,2,none⟩ y2)=W3∧Bx w c0 c1 c2 #[y0,y1,y2] W3∧But4 w W W3:=by
 obtain ⟨W3,e,q0,qo,qs,qB⟩:=box3 y0 y1 y2 h.k3 h.below (by omega)
 exact ⟨W3,e,⟨(qo _ (by omega)).trans h.k0,(qo _ (by omega)).trans h.k1,(qo _ (by omega)).trans h.k2,q0,qB,by rw [qs];exact h.size⟩,by rw [qs];exact Nat.le_refl _,fun b _ hb=>qo b (by omega)⟩
end Go.Proofs.YtaddkkkchkdgkaaGreatDoor
namespace Go.Proofs.YtaddkkkchkdgkaaGreatDoor
open Go.RowKit Go.Sort
open Tess (Fil)
set_option maxRecDepth 100000 in
theorem isValue_any (x:ByteArray) (b:Bool) (w:World):Calls Tryz.prog 88 #[.agg #[.string x,.bool b]] w fun e w'=>e = .returned (.bool (Tess.valOk ⟨x,b⟩))∧Below w.heap.size w w':=by
 obtain ⟨W0,hW0⟩:∃ W0,w.alloc (.cells #[.string x,.bool b] 72)=W0:=⟨_,rfl⟩
 obtain ⟨h0,hS,hB⟩:=laid1 w (.cells #[.string x,.bool b] 72)
 rw [hW0] at h0 hS hB
 have c0:=cell_of_row W0 w.heap.size 0 _ _ _ h0
 have c1:=cell_of_row W0 w.heap.size 1 _ _ _ h0
 simp only [List.getElem?_toArray,List.getElem?_cons_succ,List.getElem?_cons_zero] at c0 c1
 have HB:=Lib.hid hB
 clear h0 hB hS
 have e:decide ((x.size:Int)≤100)=decide (x.size≤100):=decide_eq_decide.2 (by omega)
 cases b
 ·go_enter Tryz.func88,Tryz.ntmps88
  go_wp2
  go_ret
  exact ⟨by simp only [Tess.valOk];rfl,HB.out⟩
 ·clear e
  have hE:ByteArray.empty.toList=[]:=by rw [ByteArray.toList_eq];rfl
  by_cases hx:x.toList=[]
  ·have HX:=Lib.hid (show x=ByteArray.empty from str_inj (hx.trans hE.symm))
   clear hE
   go_enter Tryz.func88,Tryz.ntmps88
   go_wp2
   go_ret
   exact ⟨by simp [Tess.valOk,HX.out],HB.out⟩
  ·have HX:=Lib.hid (show x≠ByteArray.empty from fun e=>hx (by rw [e];exact hE))
   clear hE
   go_enter Tryz.func88,Tryz.ntmps88
   go_wp2
   go_ret
   exact ⟨by simp [Tess.valOk,HX.out],HB.out⟩
theorem isOther_any (x:ByteArray) (b:Bool) (w:World):Calls Tryz.prog 87 #[.agg #[.string x,.bool b]] w fun e w'=>e = .returned (.bool (!Tess.valOk ⟨x,b⟩))∧Below w.heap.size w w':=by
 obtain ⟨W0,hW0⟩:∃ W0,w.alloc (.cells #[.string x,.bool b] 72)=W0:=⟨_,rfl⟩
 obtain ⟨h0,hS,hB⟩:=laid1 w (.cells #[.string x,.bool b] 72)
 rw [hW0] at h0 hS hB
 have c0:=cell_of_row W0 w.heap.size 0 _ _ _ h0
 have c1:=cell_of_row W0 w.heap.size 1 _ _ _ h0
 simp only [List.getElem?_toArray,List.getElem?_cons_succ,List.getElem?_cons_zero] at c0 c1
 have HB:=Lib.hid hB
 have HI:=Lib.hid (isValue_any x b W0)
 clear h0 hB hS
 generalize Tess.valOk ⟨x,b⟩=r at *
 go_enter Tryz.func87,Tryz.ntmps87
 go_wp2_with (go_at_call 88;refine HI.out.mono ?_;rintro e w2 ⟨rfl,hB2⟩;have HB2:=Lib.hid (Bt HB.out hB2);clear hB2)
 go_ret
 exact ⟨rfl,HB2.out⟩
set_option maxHeartbeats 1000000 in
theorem index_other (p:Nat→Prop) (v:Value) (l:List Tess.Val) (w:World) (hv:ValsAt p w v l) :
  Calls Tryz.prog 136 #[v,.func (.func 87) #[] #[]] w fun e w' => ∃ i:Int,e = .returned (.int .i64 i)∧decide (0≤i)=(l.any fun x => !Tess.valOk x)∧Below w.heap.size w w':=by
 obtain ⟨a,cap,rfl,hmx,_,_,hc⟩:=hv
 have HC:=Lib.hid hc
 have hmx:l.length≤9223372036854775807:=by unfold maxLen at hmx;omega
 clear hc
 go_enter Tryz.func136,Tryz.ntmps136
 go_wp2
 go_loopw [8] (fun i wr => ∃ k:Nat,k≤l.length∧i = .int .i64 k∧(∀ j (hj:j < l.length),j < k→(!Tess.valOk l[j])=false)∧Below w.heap.size w wr) (fun i _=>l.length - (intOf i).toNat)
 case atStart=>exact ⟨0,Nat.zero_le _,rfl,fun j _ h=>absurd h (Nat.not_lt_zero _),Below.refl _ _⟩
 case round=>
  obtain ⟨k,hk,rfl,hall,hB⟩:=hrel
  have HA:=Lib.hid hall
  have HB:=Lib.hid hB
  clear hall hB
  by_cases hlt:k < l.length
  ·obtain ⟨b,off,rfl,hb,_,hg⟩:=HC.out (by omega)
   have e0:wr.cell? ⟨b,off + k * 2,none⟩=some (.string l[k].s):=(HB.out.cell (p:=⟨b,off + k * 2,none⟩) hb).trans (hg k hlt).1
   have e1:wr.cell? ⟨b,off + k * 2 + 1,none⟩=some (.bool l[k].null):=(HB.out.cell (p:=⟨b,off + k * 2 + 1,none⟩) hb).trans (hg k hlt).2
   clear hg
   have HX:=Lib.hid (fun W=>isOther_any l[k].s l[k].null W)
   have hki:(k:Int) < (l.length:Int):=by omega
   cases hyx : !Tess.valOk l[k]
   ·rw [show (!Tess.valOk ⟨l[k].s,l[k].null⟩)=_ from hyx] at HX
    have HY:=Lib.hid hyx
    clear hyx
    go_wp2_with (go_at_call 87;refine (HX.out _).mono ?_;rintro e w2 ⟨rfl,hb2⟩;have HB2:=Lib.hid hb2;clear hb2)
    go_roundw
    case rel=>
     refine ⟨k + 1,by omega,by go_num,fun j hj hjk => ?_,Bt HB.out HB2.out⟩
     by_cases hjk':j < k
     ·exact HA.out j hj hjk'
     ·obtain rfl:j=k:=by omega
      exact HY.out
    case measure=>simp [intOf];omega
   ·rw [show (!Tess.valOk ⟨l[k].s,l[k].null⟩)=_ from hyx] at HX
    have HY:=Lib.hid hyx
    clear hyx
    go_wp2_with (go_at_call 87;refine (HX.out _).mono ?_;rintro e w2 ⟨rfl,hb2⟩;have HB2:=Lib.hid hb2;clear hb2)
    go_ret
    refine ⟨(k:Int),rfl,?_,Bt HB.out HB2.out⟩
    rw [decide_eq_true (by omega),eq_comm,List.any_eq_true]
    exact ⟨l[k],List.getElem_mem hlt,HY.out⟩
  ·have hki:¬ (k:Int) < (l.length:Int):=by omega
   go_wp2
   go_ret
   refine ⟨-1,rfl,?_,HB.out⟩
   rw [decide_eq_false (by omega),eq_comm,List.any_eq_false]
   intro y hy
   obtain ⟨j,hj,rfl⟩:=List.getElem_of_mem hy
   rw [HA.out j hj (by omega)];simp
theorem contains_other (p:Nat→Prop) (v:Value) (l:List Tess.Val) (w:World) (hv:ValsAt p w v l) :
  Calls Tryz.prog 89 #[v,.func (.func 87) #[] #[]] w fun e w'=>e = .returned (.bool (!l.all Tess.valOk))∧Below w.heap.size w w':=by
 have HI:=Lib.hid (index_other p v l w hv)
 obtain ⟨a,cap,rfl,_⟩:=hv
 go_enter Tryz.func89,Tryz.ntmps89
 go_wp2_with (go_at_call 136;refine HI.out.mono ?_;rintro e w2 ⟨i,rfl,hi,hB⟩;have HH:=Lib.hid hi;have HB:=Lib.hid hB;clear hi hB)
 go_ret
 refine ⟨?_,HB.out⟩
 rw [show (!l.all Tess.valOk)=l.any fun x => !Tess.valOk x by simp [List.all_eq_not_any_not],← HH.out];rfl
end Go.Proofs.YtaddkkkchkdgkaaGreatDoor
namespace Go.Proofs.YtaddkkkchkdgkaaGreatDoor
open Go.RowKit Go.Sort
open Tess (Fil)
set_option maxRecDepth 100000 in
set_option maxHeartbeats 2000000 in
theorem sFits_any (p:Nat→Prop) (vs vr:Value) (s:Tess.Sch) (t:Int) (l:List Tess.Val) (ns:List Int) (w:World) (hs:SchAt p w vs s) (hr:RowAt p w vr t l ns) :
  Calls Tryz.prog 54 #[vs,vr] w fun e w'=>e = .returned (.bool (Tess.rowFits s t l ns.length))∧Below w.heap.size w w':=by
 have HR:=Lib.hid (fun W (hB:Below w.heap.size w W)=>schRight_any vs s p W (hs.ag (Ag.new p hB)))
 obtain ⟨vd,vm,rfl,hd,hm,_,_⟩:=hs
 obtain ⟨ad,capd,rfl,_⟩:=slp_len hd
 obtain ⟨am,capm,rfl,_⟩:=slp_len hm
 obtain ⟨vdr,na,nc,rfl,_,hv,_⟩:=hr
 have HC:=Lib.hid (fun W (hB:Below w.heap.size w W)=>contains_other p vdr l W (hv.ag (Ag.new p hB)))
 obtain ⟨da,dc,rfl,_⟩:=hv
 clear hd hm
 obtain ⟨W0,hW0⟩:∃ W0,(w.alloc (.cells #[.slice ad s.dims.length capd,.slice am s.mets.length capm,.int .i64 s.grain] 24)).alloc (.cells #[.int .i64 t,.slice da l.length dc,.slice na ns.length nc] 74)=W0:=⟨_,rfl⟩
 obtain ⟨h0,h1,hS,hB⟩:=laid2 w (.cells #[.slice ad s.dims.length capd,.slice am s.mets.length capm,.int .i64 s.grain] 24) (.cells #[.int .i64 t,.slice da l.length dc,.slice na ns.length nc] 74)
 rw [hW0] at h0 h1 hS hB
 obtain ⟨⟨x0,x1,x2⟩,_⟩:=can3 h0
 have H0:=Lib.hid h0
 have H1:=Lib.hid h1
 have HB:=Lib.hid hB
 have HS:=Lib.hid hS
 have hCells:∀ W,Below W0.heap.size W0 W→W.heap[w.heap.size]? = _∧W.heap[w.heap.size + 1]? = _:=fun W hW=>⟨(hW.block _ (by omega)).trans h0,(hW.block _ (by omega)).trans h1⟩
 have HCE:=Lib.hid hCells
 clear h0 h1 hS hB hCells
 have HE:RowKit.Hid (Tess.rowFits s t l ns.length=(Tess.schOk s && decide (0≤t) && decide (t≤1000000000000) && decide (l.length=s.dims.length) && decide (ns.length=s.mets.length) && l.all Tess.valOk)):=Lib.hid rfl
 cases hok:Tess.schOk s
 ·rw [hok] at HR HE
  go_enter Tryz.func54,Tryz.ntmps54
  go_wp2_with (go_at_call 30;refine (HR.out _ HB.out).mono ?_;rintro e w2 ⟨rfl,hB2⟩;have HB2:=Lib.hid (Bt HB.out hB2);clear hB2)
  go_ret
  exact ⟨by rw [HE.out];rfl,HB2.out⟩
 ·rw [hok,Bool.true_and] at HE
  rw [hok] at HR
  go_enter Tryz.func54,Tryz.ntmps54
  go_wp2_with (fail)
  go_at_call 30
  refine (HR.out _ HB.out).mono ?_
  rintro e w2 ⟨rfl,hB2⟩
  obtain ⟨q0,q1⟩:=HCE.out w2 hB2
  have HB2:=Lib.hid (Bt HB.out hB2)
  clear hB2 x0 x1 x2 hok HR
  obtain ⟨⟨x0,x1,x2⟩,_⟩:=can3 q0
  obtain ⟨⟨y0,y1,y2⟩,_⟩:=can3 q1
  clear q0 q1
  by_cases h1:0≤t
  ·have d1:decide (0≤t)=true:=decide_eq_true h1
   rw [d1] at HE
   by_cases h2:t≤1000000000000
   ·have d2:decide (t≤1000000000000)=true:=decide_eq_true h2
    rw [d2] at HE
    by_cases h3:l.length=s.dims.length
    ·have d3:((l.length:Int) == (s.dims.length:Int))=true:=beq_iff_eq.2 (by omega)
     rw [decide_eq_true h3] at HE
     by_cases h4:ns.length=s.mets.length
     ·have d4:((ns.length:Int) == (s.mets.length:Int))=true:=beq_iff_eq.2 (by omega)
      rw [decide_eq_true h4] at HE
      clear h3 h4
      generalize l.all Tess.valOk=r at HC HE
      go_wp2_with (go_at_call 89;refine (HC.out _ HB2.out).mono ?_;rintro e w3 ⟨rfl,hB3⟩;have HB3:=Lib.hid (Bt HB2.out hB3);clear hB3)
      go_ret
      exact ⟨by rw [HE.out];simp,HB3.out⟩
     ·have d4:((ns.length:Int) == (s.mets.length:Int))=false:=beq_eq_false_iff_ne.2 (by omega)
      rw [decide_eq_false h4] at HE
      clear h3 h4
      go_wp2
      go_ret
      exact ⟨by rw [HE.out];simp,HB2.out⟩
    ·have d3:((l.length:Int) == (s.dims.length:Int))=false:=beq_eq_false_iff_ne.2 (by omega)
     rw [decide_eq_false h3] at HE
     clear h3
     go_wp2
     go_ret
     exact ⟨by rw [HE.out];simp,HB2.out⟩
   ·have d2:decide (t≤1000000000000)=false:=decide_eq_false h2
    rw [d2] at HE
    go_wp2
    go_ret
    exact ⟨by rw [HE.out];simp,HB2.out⟩
  ·have d1:decide (0≤t)=false:=decide_eq_false h1
   rw [d1] at HE
   go_wp2
   go_ret
   exact ⟨by rw [HE.out];simp,HB2.out⟩
end Go.Proofs.YtaddkkkchkdgkaaGreatDoor
namespace Go.Proofs.YtaddkkkchkdgkaaGreatDoor
open Go.RowKit Go.Sort
open Tess (Fil)
open Tess.Fil (spanOk grainOk spanFits spanHas)
set_option maxRecDepth 100000 in
theorem isTime_any (t:Int) (w:World):Calls Tryz.prog 90 #[.int .i64 t] w fun e w'=>e = .returned (.bool (decide (0≤t) && decide (t < 1000000000001)))∧w=w':=by
 by_cases h1:0≤t
 ·have d1:decide (0≤t)=true:=decide_eq_true h1
  rw [d1,Bool.true_and]
  generalize hr:decide (t < 1000000000001)=r
  go_enter Tryz.func90,Tryz.ntmps90
  go_wp2
  go_ret
  exact ⟨rfl,rfl⟩
 ·have d1:decide (0≤t)=false:=decide_eq_false h1
  rw [d1,Bool.false_and]
  go_enter Tryz.func90,Tryz.ntmps90
  go_wp2
  go_ret
  exact ⟨rfl,rfl⟩
set_option maxRecDepth 100000 in
theorem gCut_any (t g:Int) (w:World) (ht:0≤t∧t≤1000000000000) (hg:1≤g∧g≤1000000000):Calls Tryz.prog 55 #[.int .i64 t,.int .i64 g] w fun e w'=>e = .returned (.tuple #[.int .i64 (t - t % g),.int .i64 0])∧Below w.heap.size w w':=by
 have HT:=Lib.hid (isTime_any t w)
 rw [decide_eq_true ht.1,decide_eq_true (show t < 1000000000001 by omega)] at HT
 have HG:=Lib.hid (areGrains1 w.heap.size g (w.alloc (.cells #[.int .i64 g] 2)) (cell_of_box (laid1 w _).1).1)
 rw [show grainOk g=true by unfold grainOk;rw [decide_eq_true hg.1,decide_eq_true hg.2];rfl] at HG
 have HB:=Lib.hid (laid1 w (.cells #[.int .i64 g] 2)).2.2
 obtain ⟨ht1,ht2⟩:=ht
 obtain ⟨hg1,hg2⟩:=hg
 have hm0:0≤t % g:=Int.emod_nonneg _ (by omega)
 have hm1:t % g≤t:=by
  have:=Int.mul_nonneg (show 0≤g by omega) (Int.ediv_nonneg ht1 (show 0≤g by omega))
  rw [Int.emod_def];omega
 have hne:(g == 0)=false:=beq_eq_false_iff_ne.2 (by omega)
 go_enter Tryz.func55,Tryz.ntmps55
 go_wp2_with (first | (go_at_call 90;refine HT.out.mono ?_;rintro e w2 ⟨rfl,rfl⟩) | (go_at_call 91;refine HG.out.mono ?_;rintro e w2 ⟨rfl,rfl⟩))
 refine bodyPost_ret (v:=.tuple #[.int .i64 (t - t % g),.int .i64 0]) (by simp [results,Tryz.results55,go_sem]) rfl ⟨rfl,HB.out⟩
theorem infoI64:(Tryz.prog.info? 2).map (fun i=>(i.zero,i.size,i.bytes))=some (some (.int .i64 0),1,8):=by kernel_rfl
theorem infoWide:(Tryz.prog.info? 60).map (fun i=>(i.zero,i.size,i.bytes))=some (some (.agg #[.int .i64 0,.int .u64 0]),2,16):=by kernel_rfl
set_option maxRecDepth 100000 in
theorem cloneInts_any (a:Option Addr) (n cap:Nat) (xs:List Value) (w:World) (hn:n≤1000000) (hx:xs.length=n * 1) (hnil:a=none→n=0∧cap=0) (hc:∀ ad,a=some ad→∀ j u,xs[j]? = some u→w.cell? (ad.add j)=some u) (h1:∀ u ∈ xs,u.oneCell'=true) :
  Calls Tryz.prog 94 #[.slice a n cap] w fun e w' => ∃ v',e = .returned v'∧w'.ownsRow w.heap.size 2 1 v' n xs∧(v' = .slice none 0 0∨∃ g c,v' = .slice (some ⟨g,0,none⟩) n c)∧Below w.heap.size w w':=by
 obtain ⟨i0,hi,hz0,hz1,hz2⟩:=info_parts infoI64
 have q:∀ (w:World) (a:Option Addr) (n c n' c':Nat),(binOp .eql 54 (.slice a n c) (.slice none n' c')).run Tryz.prog w = .ok (.bool a.isNone) w:=fun w a n c n' c'=>Lib.run_eql_slice_nil w _ _ a n c n' c' Tryz.underlying54
 cases a with
 | none=>
   obtain ⟨rfl,rfl⟩:=hnil rfl
   have hxs:xs=[]:=List.eq_nil_of_length_eq_zero (by simpa using hx)
   subst hxs
   clear hc h1 hnil hx
   go_enter Tryz.func94,Tryz.ntmps94
   go_wp2
   go_ret
   exact ⟨_,rfl,World.ownsRow_nil _ _ _ _,.inl rfl,Below.refl _ _⟩
 | some ad=>
   obtain ⟨hA,hS,hB⟩:=laid1 w (.cells #[] 2)
   have HO:=Lib.hid (show (w.alloc (.cells #[] 2)).ownsRow w.heap.size 2 1 (.slice (some ⟨w.heap.size,0,none⟩) 0 0) 0 [] from ⟨rfl,.inr ⟨w.heap.size,0,#[],rfl,Nat.le_refl _,hA,Nat.le_refl _,by decide,rfl,rfl⟩⟩)
   have HC:=Lib.hid (show ∀ j u,xs[j]? = some u→(w.alloc (.cells #[] 2)).cell? (ad.add j)=some u from fun j u hj=>by
    have h:=hc ad rfl j u hj
    rw [← h]
    exact hB.cell (World.block_lt_of_cell? w _ h))
   have HB:=Lib.hid hB
   have HX:=Lib.hid hx
   have HH:=Lib.hid h1
   clear hA hS hB hc hnil hx h1
   go_enter Tryz.func94,Tryz.ntmps94
   go_wp2_with (have hxx:=HO;clear hxx;at_builtin;refine wpList_append_own_at _ rfl _ _ 54 rfl w.heap.size 2 i0 _ 1 8 Tryz.underlying54 hi hz0 hz1 hz2 rfl (by decide) _ 0 [] rfl HO.out ad n cap xs rfl HX.out HC.out HH.out ?_ ?_ ?_ ?_)
   ·unfold maxLen;omega
   ·omega
   ·simp
   intro v3 w3 hown3 hgrow3 _ hat
   try simp only [Nat.zero_add,List.nil_append] at hown3
   have HO3:=Lib.hid hown3
   have HB3:=Lib.hid (HB.out.grown hgrow3 (by simp) (fun g e=>(HO.out.lt g e).1))
   have HS3:=Lib.hid (show v3 = .slice none 0 0∨∃ g c,v3 = .slice (some ⟨g,0,none⟩) n c from by
    rcases hown3.2 with ⟨e,_⟩ | ⟨g,c,_,e,_⟩
    ·exact .inl e
    ·exact .inr ⟨g,c,e⟩)
   clear hown3 hgrow3 hat
   go_wp2
   go_ret
   exact ⟨_,rfl,HO3.out,HS3.out,HB3.out⟩
set_option maxRecDepth 100000 in
theorem cloneWides_any (a:Option Addr) (n cap:Nat) (xs:List Value) (w:World) (hn:n≤1000000) (hx:xs.length=n * 2) (hnil:a=none→n=0∧cap=0) (hc:∀ ad,a=some ad→∀ j u,xs[j]? = some u→w.cell? (ad.add j)=some u) (h1:∀ u ∈ xs,u.oneCell'=true) :
  Calls Tryz.prog 93 #[.slice a n cap] w fun e w' => ∃ v',e = .returned v'∧w'.ownsRow w.heap.size 60 2 v' n xs∧(v' = .slice none 0 0∨∃ g c,v' = .slice (some ⟨g,0,none⟩) n c)∧Below w.heap.size w w':=by
 obtain ⟨i0,hi,hz0,hz1,hz2⟩:=info_parts infoWide
 have q:∀ (w:World) (a:Option Addr) (n c n' c':Nat),(binOp .eql 53 (.slice a n c) (.slice none n' c')).run Tryz.prog w = .ok (.bool a.isNone) w:=fun w a n c n' c'=>Lib.run_eql_slice_nil w _ _ a n c n' c' Tryz.underlying53
 cases a with
 | none=>
   obtain ⟨rfl,rfl⟩:=hnil rfl
   have hxs:xs=[]:=List.eq_nil_of_length_eq_zero (by simpa using hx)
   subst hxs
   clear hc h1 hnil hx
   go_enter Tryz.func93,Tryz.ntmps93
   go_wp2
   go_ret
   exact ⟨_,rfl,World.ownsRow_nil _ _ _ _,.inl rfl,Below.refl _ _⟩
 | some ad=>
   obtain ⟨hA,hS,hB⟩:=laid1 w (.cells #[] 60)
   have HO:=Lib.hid (show (w.alloc (.cells #[] 60)).ownsRow w.heap.size 60 2 (.slice (some ⟨w.heap.size,0,none⟩) 0 0) 0 [] from ⟨rfl,.inr ⟨w.heap.size,0,#[],rfl,Nat.le_refl _,hA,Nat.le_refl _,by decide,rfl,rfl⟩⟩)
   have HC:=Lib.hid (show ∀ j u,xs[j]? = some u→(w.alloc (.cells #[] 60)).cell? (ad.add j)=some u from fun j u hj=>by
    have h:=hc ad rfl j u hj
    rw [← h]
    exact hB.cell (World.block_lt_of_cell? w _ h))
   have HB:=Lib.hid hB
   have HX:=Lib.hid hx
   have HH:=Lib.hid h1
   clear hA hS hB hc hnil hx h1
   go_enter Tryz.func93,Tryz.ntmps93
   go_wp2_with (have hxx:=HO;clear hxx;at_builtin;refine wpList_append_own_at _ rfl _ _ 53 rfl w.heap.size 60 i0 _ 2 16 Tryz.underlying53 hi hz0 hz1 hz2 rfl (by decide) _ 0 [] rfl HO.out ad n cap xs rfl HX.out HC.out HH.out ?_ ?_ ?_ ?_)
   ·unfold maxLen;omega
   ·omega
   ·simp
   intro v3 w3 hown3 hgrow3 _ hat
   try simp only [Nat.zero_add,List.nil_append] at hown3
   have HO3:=Lib.hid hown3
   have HB3:=Lib.hid (HB.out.grown hgrow3 (by simp) (fun g e=>(HO.out.lt g e).1))
   have HS3:=Lib.hid (show v3 = .slice none 0 0∨∃ g c,v3 = .slice (some ⟨g,0,none⟩) n c from by
    rcases hown3.2 with ⟨e,_⟩ | ⟨g,c,_,e,_⟩
    ·exact .inl e
    ·exact .inr ⟨g,c,e⟩)
   clear hown3 hgrow3 hat
   go_wp2
   go_ret
   exact ⟨_,rfl,HO3.out,HS3.out,HB3.out⟩
set_option maxRecDepth 100000 in
theorem cloneVals_any (a:Option Addr) (n cap:Nat) (xs:List Value) (w:World) (hn:n≤1000000) (hx:xs.length=n * 2) (hnil:a=none→n=0∧cap=0) (hc:∀ ad,a=some ad→∀ j u,xs[j]? = some u→w.cell? (ad.add j)=some u) (h1:∀ u ∈ xs,u.oneCell'=true) :
  Calls Tryz.prog 92 #[.slice a n cap] w fun e w' => ∃ v',e = .returned v'∧w'.ownsRow w.heap.size 72 2 v' n xs∧(v' = .slice none 0 0∨∃ g c,v' = .slice (some ⟨g,0,none⟩) n c)∧Below w.heap.size w w':=by
 obtain ⟨i0,hi,hz0,hz1,hz2⟩:=info_parts infoVal
 have q:∀ (w:World) (a:Option Addr) (n c n' c':Nat),(binOp .eql 52 (.slice a n c) (.slice none n' c')).run Tryz.prog w = .ok (.bool a.isNone) w:=fun w a n c n' c'=>Lib.run_eql_slice_nil w _ _ a n c n' c' Tryz.underlying52
 cases a with
 | none=>
   obtain ⟨rfl,rfl⟩:=hnil rfl
   have hxs:xs=[]:=List.eq_nil_of_length_eq_zero (by simpa using hx)
   subst hxs
   clear hc h1 hnil hx
   go_enter Tryz.func92,Tryz.ntmps92
   go_wp2
   go_ret
   exact ⟨_,rfl,World.ownsRow_nil _ _ _ _,.inl rfl,Below.refl _ _⟩
 | some ad=>
   obtain ⟨hA,hS,hB⟩:=laid1 w (.cells #[] 72)
   have HO:=Lib.hid (show (w.alloc (.cells #[] 72)).ownsRow w.heap.size 72 2 (.slice (some ⟨w.heap.size,0,none⟩) 0 0) 0 [] from ⟨rfl,.inr ⟨w.heap.size,0,#[],rfl,Nat.le_refl _,hA,Nat.le_refl _,by decide,rfl,rfl⟩⟩)
   have HC:=Lib.hid (show ∀ j u,xs[j]? = some u→(w.alloc (.cells #[] 72)).cell? (ad.add j)=some u from fun j u hj=>by
    have h:=hc ad rfl j u hj
    rw [← h]
    exact hB.cell (World.block_lt_of_cell? w _ h))
   have HB:=Lib.hid hB
   have HX:=Lib.hid hx
   have HH:=Lib.hid h1
   clear hA hS hB hc hnil hx h1
   go_enter Tryz.func92,Tryz.ntmps92
   go_wp2_with (have hxx:=HO;clear hxx;at_builtin;refine wpList_append_own_at _ rfl _ _ 52 rfl w.heap.size 72 i0 _ 2 24 Tryz.underlying52 hi hz0 hz1 hz2 rfl (by decide) _ 0 [] rfl HO.out ad n cap xs rfl HX.out HC.out HH.out ?_ ?_ ?_ ?_)
   ·unfold maxLen;omega
   ·omega
   ·simp
   intro v3 w3 hown3 hgrow3 _ hat
   try simp only [Nat.zero_add,List.nil_append] at hown3
   have HO3:=Lib.hid hown3
   have HB3:=Lib.hid (HB.out.grown hgrow3 (by simp) (fun g e=>(HO.out.lt g e).1))
   have HS3:=Lib.hid (show v3 = .slice none 0 0∨∃ g c,v3 = .slice (some ⟨g,0,none⟩) n c from by
    rcases hown3.2 with ⟨e,_⟩ | ⟨g,c,_,e,_⟩
    ·exact .inl e
    ·exact .inr ⟨g,c,e⟩)
   clear hown3 hgrow3 hat
   go_wp2
   go_ret
   exact ⟨_,rfl,HO3.out,HS3.out,HB3.out⟩
end Go.Proofs.YtaddkkkchkdgkaaGreatDoor
namespace Go.Proofs.YtaddkkkchkdgkaaGreatDoor
open Go.RowKit Go.Sort
open Tess (Fil)
def CloneOk (w:World) (size:Nat) (v:Value):Prop:=∃ (a:Option Addr) (n cap:Nat) (xs:List Value),v = .slice a n cap∧n≤1000000∧xs.length=n * size∧(a=none→n=0∧cap=0)∧(∀ ad,a=some ad→∀ j u,xs[j]? = some u→w.cell? (ad.add j)=some u)∧∀ u ∈ xs,u.oneCell'=true
theorem CloneOk.below {w w':World} {size:Nat} {v:Value} (h:CloneOk w size v) (hb:Below w.heap.size w w'):CloneOk w' size v:=by
 obtain ⟨a,n,cap,xs,h1,h2,h3,h4,h5,h6⟩:=h
 exact ⟨a,n,cap,xs,h1,h2,h3,h4,fun ad e j u hj=>(hb.cell (World.block_lt_of_cell? w _ (h5 ad e j u hj))).trans (h5 ad e j u hj),h6⟩
theorem CloneOk.shape {w:World} {size:Nat} {v:Value} (h:CloneOk w size v):∃ a n c,v = .slice a n c:=let ⟨a,n,c,_,h1,_⟩:=h;⟨a,n,c,h1⟩
theorem CloneOk.nil (w:World) (size:Nat):CloneOk w size (.slice none 0 0):=⟨none,0,0,[],rfl,Nat.zero_le _,by simp,(fun _=>⟨rfl,rfl⟩),(fun _ e=>by cases e),(fun u hu=>by cases hu)⟩
theorem vals_clone {w:World} {base:Nat} {t:TypeId} {v:Value} {l:List Tess.Val} (h:w.ownsRow base t 2 v l.length (valCells l)) (hs:∀ x ∈ l,x.s.size≤maxLen) (hl:l.length≤maxLen) (hsh:v = .slice none 0 0∨∃ g c,v = .slice (some ⟨g,0,none⟩) l.length c):ValsAt (fun b=>base≤b) w v l:=by
 rcases Nat.eq_zero_or_pos l.length with h0 | h0
 ·rcases hsh with rfl | ⟨g,c,rfl⟩
  ·exact ⟨none,0,by rw [h0],hl,hs,fun _=>rfl,fun h=>by omega⟩
  ·exact ⟨_,c,rfl,hl,hs,(fun e=>by cases e),fun h=>by omega⟩
 ·obtain ⟨g,cap,hv,hb,hg,_,_,hc⟩:=owns_cell_any h h0
  refine ⟨_,_,hv,hl,hs,(fun e=>by cases e),fun _=>⟨g,0,rfl,hg,hb,fun j hj => ?_⟩⟩
  have:=valCells_at l j hj
  exact ⟨by rw [Nat.zero_add,hc _ (by omega)];exact this.1,by rw [Nat.zero_add,hc _ (by omega)];exact this.2⟩
theorem valCells_get (l:List Tess.Val):∀ (j:Nat) (u:Value),(valCells l)[j]? = some u→∃ k,∃ h:k < l.length,(j=k * 2∧u = .string l[k].s)∨(j=k * 2 + 1∧u = .bool l[k].null):=by
 intro j u hj
 have hlt:j < l.length * 2:=by
  obtain ⟨h,_⟩:=List.getElem?_eq_some_iff.1 hj
  rwa [valCells_len] at h
 refine ⟨j / 2,by omega,?_⟩
 have:=valCells_at l (j / 2) (by omega)
 rcases Nat.mod_two_eq_zero_or_one j with h | h
 ·refine .inl ⟨by omega,?_⟩
  rw [show j=j / 2 * 2 by omega,this.1] at hj
  exact (Option.some.inj hj).symm
 ·refine .inr ⟨by omega,?_⟩
  rw [show j=j / 2 * 2 + 1 by omega,this.2] at hj
  exact (Option.some.inj hj).symm
theorem cloneV_any (p:Nat→Prop) (v:Value) (l:List Tess.Val) (w:World) (hv:ValsAt p w v l) (hl:l.length≤1000000) :
  Calls Tryz.prog 92 #[v] w fun e w' => ∃ v',e = .returned v'∧ValsAt (fun b=>w.heap.size≤b) w' v' l∧Below w.heap.size w w':=by
 obtain ⟨a,cap,rfl,hlm,hs,hnil,hc⟩:=hv
 refine (cloneVals_any a l.length cap (valCells l) w hl (valCells_len l) (fun e=>⟨?_,hnil e⟩) (fun ad e j u hj => ?_) (fun u hu => ?_)).mono ?_
 ·rcases Nat.eq_zero_or_pos l.length with h | h
  ·exact h
  ·obtain ⟨b,off,ha,_⟩:=hc h
   rw [e] at ha;cases ha
 ·obtain ⟨k,hk,h⟩:=valCells_get l j u hj
  obtain ⟨b,off,ha,_,_,hcell⟩:=hc (by omega)
  rw [e] at ha
  cases ha
  rw [show (⟨b,off,none⟩:Addr).add j=⟨b,off + j,none⟩ by unfold Addr.add;split <;> simp_all]
  rcases h with ⟨rfl,rfl⟩ | ⟨rfl,rfl⟩
  ·exact (hcell k hk).1
  ·exact (hcell k hk).2
 ·obtain ⟨j,hj⟩:=List.getElem?_of_mem hu
  obtain ⟨k,hk,h⟩:=valCells_get l j u hj
  rcases h with ⟨_,rfl⟩ | ⟨_,rfl⟩ <;> rfl
 ·rintro e w' ⟨v',rfl,h1,h2,h3⟩
  exact ⟨v',rfl,vals_clone h1 hs hlm h2,h3⟩
theorem two13 {w W:World} {B:Nat} {t:TypeId} {x0 x1 x2 x3 x4 x5:Value} (y1 y3:Value) (h:W.heap[B]? = some (.cells #[x0,x1,x2,x3,x4,x5] t (0,0))) (hb:Below w.heap.size w W) (hB:w.heap.size≤B) :
  ∃ W3,((W.setCell ⟨B,1,none⟩ y1).setCell ⟨B,3,none⟩ y3)=W3∧W3.heap[B]? = some (.cells #[x0,y1,x2,y3,x4,x5] t (0,0))∧(∀ k,k≠B→W3.heap[k]? = W.heap[k]?)∧W3.heap.size=W.heap.size∧Below w.heap.size w W3:=
 ⟨_,rfl,heap_setCell_same _ _ _ _ _ _ (heap_setCell_same _ _ _ _ _ _ h),fun _ hk=>(heap_setCell_other _ _ _ _ hk).trans (heap_setCell_other _ _ _ _ hk),by simp [World.setCell],(hb.setCell hB _).setCell hB _⟩
theorem two45 {w W:World} {B:Nat} {t:TypeId} {x0 x1 x2 x3 x4 x5:Value} (y4 y5:Value) (h:W.heap[B]? = some (.cells #[x0,x1,x2,x3,x4,x5] t (0,0))) (hb:Below w.heap.size w W) (hB:w.heap.size≤B) :
  ∃ W3,((W.setCell ⟨B,4,none⟩ y4).setCell ⟨B,5,none⟩ y5)=W3∧W3.heap[B]? = some (.cells #[x0,x1,x2,x3,y4,y5] t (0,0))∧(∀ k,k≠B→W3.heap[k]? = W.heap[k]?)∧W3.heap.size=W.heap.size∧Below w.heap.size w W3:=
 ⟨_,rfl,heap_setCell_same _ _ _ _ _ _ (heap_setCell_same _ _ _ _ _ _ h),fun _ hk=>(heap_setCell_other _ _ _ _ hk).trans (heap_setCell_other _ _ _ _ hk),by simp [World.setCell],(hb.setCell hB _).setCell hB _⟩
end Go.Proofs.YtaddkkkchkdgkaaGreatDoor
