/- Joined by mergeQ.py: Q1, Q2, Q3, Q4 -/
import Derived.Test.YtbbgjjjeecfnoaaGreatDoorXFB
import Derived.Test.YtbbgjjjeecfnoaaGreatDoorXPB
import Derived.Test.YtbbgjjjeecfnoaaGreatDoorXFA
namespace Go.Proofs.YtbbgjjjeecfnoaaGreatDoor
open Go.RowKit Go.Sort
open Tess (Fil Tok Prs.next Prs.skip)
def tkF (t:Tok):List Value:=[.int .i64 t.kind,.int .i64 t.pos,.int .i64 t.size,.string t.text,.int .i64 t.n]
def TkOk (t:Tok):Prop:=t.kind≤6∧t.pos≤maxLen∧t.size≤maxLen∧t.text.size≤maxLen∧(-9223372036854775808:Int)≤t.n∧t.n≤9223372036854775807
section
variable {B:Nat} {w w' w'':World}
theorem grB_below (h:Below w.heap.size w w'):w.grownBy w' (some B):=⟨h.os,h.tape,h.output,h.size,fun k hk _=>h.block k hk⟩
theorem grB_set (w:World) (B i:Nat) (v:Value) (_h:B < w.heap.size):w.grownBy (w.setCell ⟨B,i,none⟩ v) (some B):=⟨rfl,rfl,rfl,by simp [World.setCell],fun k _ e=>heap_setCell_other _ _ _ _ (fun h=>e (by rw [h]))⟩
theorem _root_.Go.World.grownBy.transB (h:w.grownBy w' (some B)) (k:w'.grownBy w'' (some B)):w.grownBy w'' (some B):=
 ⟨k.os.trans h.os,k.tape.trans h.tape,k.output.trans h.output,Nat.le_trans h.size k.size,fun i hi e=>(k.block i (Nat.lt_of_lt_of_le hi h.size) e).trans (h.block i hi e)⟩
theorem _root_.Go.World.grownBy.trans_below (h:w.grownBy w' (some B)) (k:Below w'.heap.size w' w''):w.grownBy w'' (some B):=h.transB (grB_below k)
theorem grB_refl (w:World) (B:Nat):w.grownBy w (some B):=grB_below (Below.refl _ _)
end
theorem box5 {W:World} {B:Nat} {t:TypeId} {x0 x1 x2 x3 x4:Value} (y0 y1 y2 y3 y4:Value) (h:W.heap[B]? = some (.cells #[x0,x1,x2,x3,x4] t (0,0))) :
  ∃ W3,(((((W.setCell ⟨B,0,none⟩ y0).setCell ⟨B,1,none⟩ y1).setCell ⟨B,2,none⟩ y2).setCell ⟨B,3,none⟩ y3).setCell ⟨B,4,none⟩ y4)=W3∧W3.heap[B]? = some (.cells #[y0,y1,y2,y3,y4] t (0,0))∧(∀ k,k≠B→W3.heap[k]? = W.heap[k]?)∧W3.heap.size=W.heap.size∧∀ w:World,Below w.heap.size w W→w.heap.size≤B→Below w.heap.size w W3:=
 ⟨_,rfl,heap_setCell_same _ _ _ _ _ _ (heap_setCell_same _ _ _ _ _ _ (heap_setCell_same _ _ _ _ _ _ (heap_setCell_same _ _ _ _ _ _ (heap_setCell_same _ _ _ _ _ _ h)))),
   fun k hk=>((((heap_setCell_other _ _ _ _ hk).trans (heap_setCell_other _ _ _ _ hk)).trans (heap_setCell_other _ _ _ _ hk)).trans (heap_setCell_other _ _ _ _ hk)).trans (heap_setCell_other _ _ _ _ hk),by simp [World.setCell],
   fun w hb hB=>((((hb.setCell hB _).setCell hB _).setCell hB _).setCell hB _).setCell hB _⟩
theorem can5 {W:World} {B:Nat} {t:TypeId} {x0 x1 x2 x3 x4:Value} (h:W.heap[B]? = some (.cells #[x0,x1,x2,x3,x4] t (0,0))) :
  (W.cell? ⟨B,0,none⟩=some x0∧W.cell? ⟨B,1,none⟩=some x1∧W.cell? ⟨B,2,none⟩=some x2∧W.cell? ⟨B,3,none⟩=some x3∧W.cell? ⟨B,4,none⟩=some x4) ∧
   W.frozen? ⟨B,0,none⟩=false∧W.frozen? ⟨B,1,none⟩=false∧W.frozen? ⟨B,2,none⟩=false∧W.frozen? ⟨B,3,none⟩=false∧W.frozen? ⟨B,4,none⟩=false:=
 ⟨⟨cell_of_row _ _ 0 _ _ _ h,cell_of_row _ _ 1 _ _ _ h,cell_of_row _ _ 2 _ _ _ h,cell_of_row _ _ 3 _ _ _ h,cell_of_row _ _ 4 _ _ _ h⟩,frozen_of_row _ _ 0 _ _ h,frozen_of_row _ _ 1 _ _ h,frozen_of_row _ _ 2 _ _ h,frozen_of_row _ _ 3 _ _ h,frozen_of_row _ _ 4 _ _ h⟩
structure PsAt (p:Nat→Prop) (B:Nat) (ts:List Tok) (v:Value) (qs:List Value) (w:World):Prop where
 k:w.heap[B]? = some (.cells (v :: qs).toArray 135 (0,0))
 n:qs.length=14
 t:RowsAt 5 tkF p w v ts
 ok:∀ t ∈ ts,TkOk t
 ne:ts≠[]
 b:¬ p B
abbrev errF (pos:Nat):Value:=.iface 137 (.agg #[.int .i64 pos])
section
variable {p:Nat→Prop} {B:Nat} {ts:List Tok} {v:Value} {qs:List Value} {w w':World}
theorem PsAt.lt (h:PsAt p B ts v qs w):B < w.heap.size:=(Array.getElem?_eq_some_iff.1 h.k).1
theorem PsAt.below (h:PsAt p B ts v qs w) (hb:Below w.heap.size w w'):PsAt p B ts v qs w':=⟨(hb.block _ h.lt).trans h.k,h.n,h.t.ag (Ag.new p hb),h.ok,h.ne,h.b⟩
theorem PsAt.open (h:PsAt p B ts v qs w):∃ b off cap,v = .slice (some ⟨b,off,none⟩) ts.length cap∧0 < ts.length∧ts.length≤maxLen∧ts.length≤cap∧b < w.heap.size∧p b ∧
  (w.cell? ⟨b,off,none⟩=some (.int .i64 (Prs.next ts).kind)∧w.cell? ⟨b,off + 1,none⟩=some (.int .i64 (Prs.next ts).pos)∧w.cell? ⟨b,off + 2,none⟩=some (.int .i64 (Prs.next ts).size)∧w.cell? ⟨b,off + 3,none⟩=some (.string (Prs.next ts).text)∧w.cell? ⟨b,off + 4,none⟩=some (.int .i64 (Prs.next ts).n)):=by
 obtain ⟨a,cap,hv,h1,h2,h3,h4⟩:=h.t
 have hne:0 < ts.length:=List.length_pos_iff.2 h.ne
 obtain ⟨b,off,rfl,hb,hp,hc⟩:=h4 hne
 have e:ts[0]=Prs.next ts:=by
  cases ts with
  | nil=>exact absurd rfl h.ne
  | cons a r=>rfl
 refine ⟨b,off,cap,hv,hne,h1,h2,hb,hp,?_⟩
 have:=fun i hi=>hc 0 hne i hi
 rw [e] at this
 refine ⟨?_,?_,?_,?_,?_⟩
 ·have:=this 0 (by omega);simpa [tkF] using this
 ·have:=this 1 (by omega);simpa [tkF] using this
 ·have:=this 2 (by omega);simpa [tkF] using this
 ·have:=this 3 (by omega);simpa [tkF] using this
 ·have:=this 4 (by omega);simpa [tkF] using this
end
theorem infoTok:(Tryz.prog.info? 128).map (fun i=>(i.zero,i.size,i.bytes))=some (some (.agg #[.int .i64 0,.int .i64 0,.int .i64 0,.string ⟨#[]⟩,.int .i64 0]),5,48):=by kernel_rfl
section
variable (a b c d e:Value) (w:World)
@[go_sem] theorem tok_f0:(Instr.field 128 (.agg #[a,b,c,d,e]) 0).run Tryz.prog w = .ok a w:=by kernel_rfl
@[go_sem] theorem tok_f1:(Instr.field 128 (.agg #[a,b,c,d,e]) 1).run Tryz.prog w = .ok b w:=by kernel_rfl
@[go_sem] theorem tok_f3:(Instr.field 128 (.agg #[a,b,c,d,e]) 3).run Tryz.prog w = .ok d w:=by kernel_rfl
@[go_sem] theorem tok_f4:(Instr.field 128 (.agg #[a,b,c,d,e]) 4).run Tryz.prog w = .ok e w:=by kernel_rfl
end
def tkV (t:Tok):Value:=.agg (tkF t).toArray
set_option maxRecDepth 100000 in
set_option maxHeartbeats 2000000 in
theorem pnext_any {p:Nat→Prop} {B:Nat} {ts:List Tok} {v:Value} {qs:List Value} (w:World) (h:PsAt p B ts v qs w) :
  Calls Tryz.prog 216 #[.pointer (some ⟨B,0,none⟩)] w fun e w'=>e = .returned (tkV (Prs.next ts))∧Below w.heap.size w w':=by
 obtain ⟨b,off,cap,rfl,hl,hl2,hcap,hb,hpb,c0,c1,c2,c3,c4⟩:=h.open
 have HB:=Lib.hid h.lt
 have cb:=cell_of_row w B 0 _ _ _ h.k
 simp only [List.getElem?_toArray,List.getElem?_cons_zero] at cb
 have hlt:=h.lt
 generalize Prs.next ts=x at *
 obtain ⟨k,po,sz,tx,n⟩:=x
 simp only at c0 c1 c2 c3 c4
 generalize ts.length=L at *
 go_enter Tryz.func216,Tryz.ntmps216
 go_wp2
 obtain ⟨a1,a2,a3⟩:=laid1 w (.cells #[.int .i64 k,.int .i64 po,.int .i64 sz,.string tx,.int .i64 n] 128)
 obtain ⟨⟨e0,e1,e2,e3,e4⟩,_⟩:=can5 a1
 refine bodyPost_ret (v:=.agg #[.int .i64 k,.int .i64 po,.int .i64 sz,.string tx,.int .i64 n]) (by simp [results,Tryz.results216,go_sem,e0,e1,e2,e3,e4]) rfl ⟨rfl,a3⟩
set_option maxRecDepth 100000 in
set_option maxHeartbeats 2000000 in
theorem fail_any {p:Nat→Prop} {B:Nat} {ts:List Tok} {v:Value} {qs:List Value} (w:World) (h:PsAt p B ts v qs w) :
  Calls Tryz.prog 215 #[.pointer (some ⟨B,0,none⟩)] w fun e w'=>e = .returned (errF (Prs.next ts).pos)∧Below w.heap.size w w':=by
 have HN:=Lib.hid (pnext_any w h)
 clear h
 unfold tkV tkF errF at *
 generalize Prs.next ts=x at *
 obtain ⟨k,po,sz,tx,n⟩:=x
 simp only at HN
 go_enter Tryz.func215,Tryz.ntmps215
 go_wp2_with (go_at_call 216;refine HN.out.mono ?_;rintro e w2 ⟨rfl,hB2⟩;have HB:=Lib.hid hB2;clear hB2)
 go_ret
 exact ⟨rfl,HB.out⟩
theorem PsAt.skipped {p:Nat→Prop} {B:Nat} {ts:List Tok} {b off cap:Nat} {qs:List Value} {w:World} (h:PsAt p B ts (.slice (some ⟨b,off,none⟩) ts.length cap) qs w) (hl:1 < ts.length) :
  PsAt p B (Prs.skip ts) (.slice (some ⟨b,off + 5,none⟩) (ts.length - 1) (cap - 1)) qs (w.setCell ⟨B,0,none⟩ (.slice (some ⟨b,off + 5,none⟩) (ts.length - 1) (cap - 1)))∧Ag p w (w.setCell ⟨B,0,none⟩ (.slice (some ⟨b,off + 5,none⟩) (ts.length - 1) (cap - 1))):=by
 have hA:Ag p w (w.setCell ⟨B,0,none⟩ (.slice (some ⟨b,off + 5,none⟩) (ts.length - 1) (cap - 1))):=Ag.set _ _ _ h.b
 have e:Prs.skip ts=ts.tail:=by unfold Prs.skip;rw [if_pos hl]
 refine ⟨⟨heap_setCell_same _ _ _ _ _ _ h.k,h.n,?_,?_,?_,h.b⟩,hA⟩
 ·rw [e]
  obtain ⟨a,c,hv,h1,h2,h3,h4⟩:=h.t
  cases hv
  obtain ⟨b',off',he,hb,hp,hc⟩:=h4 (by omega)
  cases he
  refine RowsAt.ag (w:=w) ⟨some ⟨b,off + 5,none⟩,cap - 1,by rw [List.length_tail],by rw [List.length_tail];omega,by rw [List.length_tail];omega,(fun e=>by cases e),fun _=>⟨b,off + 5,rfl,hb,hp,fun j hj i hi => ?_⟩⟩ hA
  rw [List.length_tail] at hj
  have:=hc (j + 1) (by omega) i hi
  rw [show off + 5 + j * 5 + i=off + (j + 1) * 5 + i by omega,this]
  simp
 ·rw [e];exact fun t ht=>h.ok t (List.mem_of_mem_tail ht)
 ·rw [e]
  intro he
  have:=congrArg List.length he
  rw [List.length_tail] at this
  simp at this
  omega
set_option maxRecDepth 100000 in
set_option maxHeartbeats 2000000 in
theorem skip_any {p:Nat→Prop} {B:Nat} {ts:List Tok} {v:Value} {qs:List Value} (w:World) (h:PsAt p B ts v qs w) :
  Calls Tryz.prog 217 #[.pointer (some ⟨B,0,none⟩)] w fun e w'=>e = .returned (tkV (Prs.next ts))∧∃ v',PsAt p B (Prs.skip ts) v' qs w'∧w.grownBy w' (some B):=by
 obtain ⟨b,off,cap,rfl,hl,hl2,hcap,hb,hpb,c0,c1,c2,c3,c4⟩:=h.open
 have cb:=cell_of_row w B 0 _ _ _ h.k
 have zb:=frozen_of_row w B 0 _ _ h.k
 simp only [List.getElem?_toArray,List.getElem?_cons_zero] at cb
 have hlt:=h.lt
 have HH:=Lib.hid h
 clear h
 have hB:Below w.heap.size w w:=Below.refl _ _
 generalize hx:Prs.next ts=x at *
 obtain ⟨k,po,sz,tx,n⟩:=x
 simp only at c0 c1 c2 c3 c4
 rcases (show 1 < ts.length∨ts.length=1 by omega) with h1 | h1
 ·generalize hL:ts.length=L at *
  go_enter Tryz.func217,Tryz.ntmps217
  go_wp2
  obtain ⟨hs1,hs2⟩:=PsAt.skipped (cap:=cap) (b:=b) (off:=off) (ts:=ts) (by rw [hL];exact HH.out) (by rw [hL];omega)
  rw [hL] at hs1 hs2
  obtain ⟨W1,hW1⟩:∃ W1,w.setCell ⟨B,0,none⟩ (.slice (some ⟨b,off + 5,none⟩) (L - 1) (cap - 1))=W1:=⟨_,rfl⟩
  have hS1:W1.heap.size=w.heap.size:=by rw [← hW1];simp [World.setCell]
  have hG:w.grownBy W1 (some B):=hW1 ▸ grB_set w B 0 _ hlt
  rw [hW1] at hs1 hs2 ⊢
  obtain ⟨a1,a2,a3,a4⟩:=laid2 W1 (.cells #[.int .i64 k,.int .i64 po,.int .i64 sz,.string tx,.int .i64 n] 128) (.cells #[.int .i64 k,.int .i64 po,.int .i64 sz,.string tx,.int .i64 n] 128)
  obtain ⟨⟨e0,e1,e2,e3,e4⟩,_⟩:=can5 a1
  rw [hS1] at e0 e1 e2 e3 e4
  refine bodyPost_ret (v:=.agg #[.int .i64 k,.int .i64 po,.int .i64 sz,.string tx,.int .i64 n]) (by simp [results,Tryz.results217,go_sem,e0,e1,e2,e3,e4]) rfl ⟨rfl,_,hs1.below a4,hG.trans_below a4⟩
 ·have hsk:Prs.skip ts=ts:=by unfold Prs.skip;rw [if_neg (by omega)]
  go_enter Tryz.func217,Tryz.ntmps217
  go_wp2
  obtain ⟨a1,a2,a3,a4⟩:=laid2 w (.cells #[.int .i64 k,.int .i64 po,.int .i64 sz,.string tx,.int .i64 n] 128) (.cells #[.int .i64 k,.int .i64 po,.int .i64 sz,.string tx,.int .i64 n] 128)
  obtain ⟨⟨e0,e1,e2,e3,e4⟩,_⟩:=can5 a1
  rw [hsk]
  refine bodyPost_ret (v:=.agg #[.int .i64 k,.int .i64 po,.int .i64 sz,.string tx,.int .i64 n]) (by simp [results,Tryz.results217,go_sem,e0,e1,e2,e3,e4]) rfl ⟨rfl,_,HH.out.below a4,grB_below a4⟩
end Go.Proofs.YtbbgjjjeecfnoaaGreatDoor
namespace Go.Proofs.YtbbgjjjeecfnoaaGreatDoor
open Go.RowKit Go.Sort
open Tess (Fil Tok Prs.next Prs.skip Prs.isT)
theorem isT_some {l:List ByteArray} {ts:List Tok} (h:(((Prs.next ts).kind == 1 || (Prs.next ts).kind == 5) && Tess.hasW l (Prs.next ts).text)=true):Prs.isT l ts=some (Prs.skip ts):=by unfold Prs.isT;rw [if_pos h]
theorem isT_none {l:List ByteArray} {ts:List Tok} (h:(((Prs.next ts).kind == 1 || (Prs.next ts).kind == 5) && Tess.hasW l (Prs.next ts).text)=false):Prs.isT l ts=none:=by unfold Prs.isT;rw [if_neg (by rw [h];decide)]
set_option maxRecDepth 100000 in
set_option maxHeartbeats 2000000 in
theorem pis_any {p:Nat→Prop} {B:Nat} {ts:List Tok} {v:Value} {qs:List Value} (vl:Value) (l:List ByteArray) (w:World) (h:PsAt p B ts v qs w) (hl:∀ W:World,w.grownBy W (some B)→SlOf W vl (l.map .string)) :
  Calls Tryz.prog 144 #[.pointer (some ⟨B,0,none⟩),vl] w fun e w'=>e = .returned (.bool (Prs.isT l ts).isSome)∧∃ v',PsAt p B ((Prs.isT l ts).getD ts) v' qs w'∧w.grownBy w' (some B):=by
 have HN:=Lib.hid (pnext_any w h)
 have HC:=Lib.hid (fun (W:World) (hB:w.grownBy W (some B)) (x:ByteArray)=>contains_any vl l x W (hl W hB))
 have HS:=Lib.hid (fun (W:World) (hB:Below w.heap.size w W)=>skip_any W (h.below hB))
 have HH:=Lib.hid h
 clear h hl
 have e1:=@isT_some l ts
 have e2:=@isT_none l ts
 unfold tkV tkF at *
 generalize hx:Prs.next ts=x at *
 obtain ⟨k,po,sz,tx,n⟩:=x
 simp only at HN HS e1 e2
 have hk:(k=1∨k=5)∨(k≠1∧k≠5):=by omega
 rcases hk with hk | ⟨hk1,hk5⟩
 ·have hk':(k == 1 || k == 5)=true:=by rcases hk with rfl | rfl <;> rfl
  rw [hk',Bool.true_and] at e1 e2
  cases hw:Tess.hasW l tx with
  | true=>
    have ew:=e1 hw
    rw [ew]
    have HW:=Lib.hid hw
    clear e1 e2 hw hk' ew
    rcases hk with rfl | rfl
    all_goals
     go_enter Tryz.func144,Tryz.ntmps144
     go_wp2_with (first
      | (go_at_call 216;refine HN.out.mono ?_;rintro e w2 ⟨rfl,hB2⟩;have HB:=Lib.hid hB2;clear hB2)
      | (go_at_call 224;refine (HC.out _ (grB_below (Bt HB.out ((Below.refl _ _).alloc (Nat.le_refl _) _))) _).mono ?_;rintro e w3 ⟨rfl,rfl⟩;rw [HW.out])
      | (go_at_call 217;refine (HS.out _ (Bt HB.out ((Below.refl _ _).alloc (Nat.le_refl _) _))).mono ?_;rintro e w4 ⟨rfl,hP4⟩;have HP:=Lib.hid hP4;clear hP4))
     go_ret
     obtain ⟨v',hP',hG'⟩:=HP.out
     exact ⟨rfl,v',hP',(grB_below (Bt HB.out ((Below.refl _ _).alloc (Nat.le_refl _) _))).transB hG'⟩
  | false=>
    have ew:=e2 hw
    rw [ew]
    have HW:=Lib.hid hw
    clear e1 e2 hw hk' ew
    rcases hk with rfl | rfl
    all_goals
     go_enter Tryz.func144,Tryz.ntmps144
     go_wp2_with (first
      | (go_at_call 216;refine HN.out.mono ?_;rintro e w2 ⟨rfl,hB2⟩;have HB:=Lib.hid hB2;clear hB2)
      | (go_at_call 224;refine (HC.out _ (grB_below (Bt HB.out ((Below.refl _ _).alloc (Nat.le_refl _) _))) _).mono ?_;rintro e w3 ⟨rfl,rfl⟩;rw [HW.out]))
     go_ret
     exact ⟨rfl,v,HH.out.below (Bt HB.out ((Below.refl _ _).alloc (Nat.le_refl _) _)),grB_below (Bt HB.out ((Below.refl _ _).alloc (Nat.le_refl _) _))⟩
 ·have hk':(k == 1 || k == 5)=false:=by
   rw [Bool.or_eq_false_iff]
   exact ⟨beq_eq_false_iff_ne.2 hk1,beq_eq_false_iff_ne.2 hk5⟩
  have ew:=e2 (by rw [hk'];rfl)
  rw [ew]
  have g1:((k:Int) == 1)=false:=by rw [beq_eq_false_iff_ne];omega
  have g5:((k:Int) == 5)=false:=by rw [beq_eq_false_iff_ne];omega
  clear e1 e2 hk' ew hk1 hk5
  go_enter Tryz.func144,Tryz.ntmps144
  go_wp2_with (go_at_call 216;refine HN.out.mono ?_;rintro e w2 ⟨rfl,hB2⟩;have HB:=Lib.hid hB2;clear hB2)
  go_ret
  exact ⟨rfl,v,HH.out.below (Bt HB.out ((Below.refl _ _).alloc (Nat.le_refl _) _)),grB_below (Bt HB.out ((Below.refl _ _).alloc (Nat.le_refl _) _))⟩
section
variable {p q:Nat→Prop} {B:Nat} {ts:List Tok} {v:Value} {qs:List Value} {w w' W:World}
theorem PsAt.ltP (h:PsAt p B ts v qs w):PsAt (fun b=>p b∧b < w.heap.size) B ts v qs w:=⟨h.k,h.n,h.t.lt,h.ok,h.ne,fun hb=>h.b hb.1⟩
theorem PsAt.weak (hpq:∀ b,p b→q b) (hB:¬ q B) (h:PsAt p B ts v qs w):PsAt q B ts v qs w:=⟨h.k,h.n,RowsAt.weak hpq h.t,h.ok,h.ne,hB⟩
theorem PsAt.set (h:PsAt p B ts v qs w) {g:Nat} (i:Nat) (x:Value) (hg:g≠B) (hp:¬ p g):PsAt p B ts v qs (w.setCell ⟨g,i,none⟩ x):=
 ⟨(heap_setCell_other _ _ _ _ (fun e=>hg e.symm)).trans h.k,h.n,h.t.ag (Ag.set _ _ _ hp),h.ok,h.ne,h.b⟩
theorem _root_.Go.World.grownBy.setN (h:w.grownBy W (some B)) {g:Nat} (i:Nat) (x:Value) (hg:w.heap.size≤g):w.grownBy (W.setCell ⟨g,i,none⟩ x) (some B):=
 ⟨h.os,h.tape,h.output,by have:=h.size;simpa [World.setCell] using this,fun k hk e=>(heap_setCell_other _ _ _ _ (by show k≠g;omega)).trans (h.block k hk e)⟩
theorem PsAt.set5 (h:PsAt (fun b=>p b∧b < w.heap.size) B ts v qs W) (hG:w.grownBy W (some B)) (hb:B < w.heap.size) {t:TypeId} {x0 x1 x2 x3 x4:Value} (y0 y1 y2 y3 y4:Value) (hx:W.heap[w.heap.size]? = some (.cells #[x0,x1,x2,x3,x4] t (0,0))) :
  ∃ W3,(((((W.setCell ⟨w.heap.size,0,none⟩ y0).setCell ⟨w.heap.size,1,none⟩ y1).setCell ⟨w.heap.size,2,none⟩ y2).setCell ⟨w.heap.size,3,none⟩ y3).setCell ⟨w.heap.size,4,none⟩ y4)=W3∧PsAt p B ts v qs W3∧w.grownBy W3 (some B)∧W3.heap[w.heap.size]? = some (.cells #[y0,y1,y2,y3,y4] t (0,0)):=by
 obtain ⟨W3,e,q0,_⟩:=box5 y0 y1 y2 y3 y4 hx
 have n1:w.heap.size≠B:=by omega
 have n2:¬ ((fun b=>p b∧b < w.heap.size) w.heap.size):=fun h=>Nat.lt_irrefl _ h.2
 refine ⟨W3,e,?_,?_,q0⟩
 ·rw [← e]
  exact PsAt.weak (fun b hb=>hb.1) (fun hq=>h.b ⟨hq,hb⟩) (((((h.set 0 y0 n1 n2).set 1 y1 n1 n2).set 2 y2 n1 n2).set 3 y3 n1 n2).set 4 y4 n1 n2)
 ·rw [← e]
  exact ((((hG.setN 0 y0 (Nat.le_refl _)).setN 1 y1 (Nat.le_refl _)).setN 2 y2 (Nat.le_refl _)).setN 3 y3 (Nat.le_refl _)).setN 4 y4 (Nat.le_refl _)
end
set_option maxRecDepth 100000 in
set_option maxHeartbeats 2000000 in
theorem take_any {p:Nat→Prop} {B:Nat} {ts:List Tok} {v:Value} {qs:List Value} (K:Nat) (w:World) (h:PsAt p B ts v qs w) :
  Calls Tryz.prog 145 #[.pointer (some ⟨B,0,none⟩),.int .i64 K] w fun e w'=>
   ((Prs.next ts).kind=K∧e = .returned (.tuple #[tkV (Prs.next ts),.nilIface])∧∃ v',PsAt p B (Prs.skip ts) v' qs w'∧w.grownBy w' (some B)) ∨
   ((Prs.next ts).kind≠K∧e = .returned (.tuple #[.agg #[.int .i64 0,.int .i64 0,.int .i64 0,.string ⟨#[]⟩,.int .i64 0],errF (Prs.next ts).pos])∧PsAt p B ts v qs w'∧w.grownBy w' (some B)):=by
 have HN:=Lib.hid (fun (W:World) (hB:Below w.heap.size w W)=>pnext_any W (h.below hB))
 have HF:=Lib.hid (fun (W:World) (hB:Below w.heap.size w W)=>fail_any W (h.below hB))
 have HS:=Lib.hid (fun (W:World) (hB:Below w.heap.size w W)=>skip_any W (h.ltP.below hB))
 have HH:=Lib.hid h.ltP
 clear h
 unfold tkV tkF at *
 generalize hx:Prs.next ts=x at *
 obtain ⟨k,po,sz,tx,n⟩:=x
 simp only at HN HS HF ⊢
 have hlt:=HH.out.lt
 obtain ⟨a1,a2,a3⟩:=laid1 w (.cells #[.int .i64 0,.int .i64 0,.int .i64 0,.string ⟨#[]⟩,.int .i64 0] 128)
 have HA1:=Lib.hid a1
 have HA2:=Lib.hid a2
 have HA3:=Lib.hid a3
 clear a1 a2 a3
 by_cases hk:k=K
 ·subst hk
  go_enter Tryz.func145,Tryz.ntmps145
  go_wp2_with (first
   | (go_at_call 216;refine (HN.out _ HA3.out).mono ?_;rintro e w2 ⟨rfl,hB2⟩;have HB:=Lib.hid hB2;clear hB2)
   | (go_at_call 217;refine (HS.out _ (Bt HA3.out HB.out)).mono ?_;rintro e w3 ⟨rfl,hP3⟩;have HP:=Lib.hid hP3;clear hP3;
       have hb3:w3.heap[w.heap.size]? = some (.cells #[.int .i64 0,.int .i64 0,.int .i64 0,.string ⟨#[]⟩,.int .i64 0] 128 (0,0)):=(let ⟨_,_,hG⟩:=HP.out;(hG.block _ (by have h1:=HB.out.size;have h2:=HA2.out;omega) (by intro e;have h1:=Option.some.inj e;omega)).trans ((HB.out.block _ (by have h2:=HA2.out;omega)).trans HA1.out));
       obtain ⟨_,z0,z1,z2,z3,z4⟩:=can5 hb3;have h3s:w.heap.size < w3.heap.size:=(Array.getElem?_eq_some_iff.1 hb3).1;have HB3:=Lib.hid hb3;clear hb3))
  obtain ⟨v',hP',hG'⟩:=HP.out
  obtain ⟨W3,eW,hP3,hG3,hx3⟩:=hP'.set5 ((grB_below (Bt HA3.out HB.out)).transB hG') hlt (.int .i64 k) (.int .i64 po) (.int .i64 sz) (.string tx) (.int .i64 n) HB3.out
  rw [eW]
  obtain ⟨⟨e0,e1,e2,e3,e4⟩,_⟩:=can5 hx3
  refine bodyPost_ret (v:=.tuple #[.agg #[.int .i64 k,.int .i64 po,.int .i64 sz,.string tx,.int .i64 n],.nilIface]) (by simp [results,Tryz.results145,go_sem,e0,e1,e2,e3,e4]) rfl (Or.inl ⟨trivial,rfl,v',hP3,hG3⟩)
 ·have g1:(((k:Nat):Int) != ((K:Nat):Int))=true:=by rw [bne_iff_ne];omega
  go_enter Tryz.func145,Tryz.ntmps145
  go_wp2_with (first
   | (go_at_call 216;refine (HN.out _ HA3.out).mono ?_;rintro e w2 ⟨rfl,hB2⟩;have HB:=Lib.hid hB2;clear hB2)
   | (go_at_call 215;refine (HF.out _ (Bt HA3.out HB.out)).mono ?_;rintro e w3 ⟨rfl,hB3⟩;have HP:=Lib.hid hB3;clear hB3;
       have hb3:w3.heap[w.heap.size]? = some (.cells #[.int .i64 0,.int .i64 0,.int .i64 0,.string ⟨#[]⟩,.int .i64 0] 128 (0,0)):=(HP.out.block _ (by have h1:=HB.out.size;have h2:=HA2.out;omega)).trans ((HB.out.block _ (by have h2:=HA2.out;omega)).trans HA1.out);
       obtain ⟨_,z0,z1,z2,z3,z4⟩:=can5 hb3;have h3s:w.heap.size < w3.heap.size:=(Array.getElem?_eq_some_iff.1 hb3).1;have HB3:=Lib.hid hb3;clear hb3))
  have hG':=grB_below (B:=B) (Bt (Bt HA3.out HB.out) HP.out)
  have hP':=HH.out.below (Bt (Bt HA3.out HB.out) HP.out)
  obtain ⟨W3,eW,hP3,hG3,hx3⟩:=hP'.set5 hG' hlt (.int .i64 0) (.int .i64 0) (.int .i64 0) (.string ⟨#[]⟩) (.int .i64 0) HB3.out
  rw [eW]
  obtain ⟨⟨e0,e1,e2,e3,e4⟩,_⟩:=can5 hx3
  refine bodyPost_ret (v:=.tuple #[.agg #[.int .i64 0,.int .i64 0,.int .i64 0,.string ⟨#[]⟩,.int .i64 0],errF po]) (by simp [results,Tryz.results145,go_sem,e0,e1,e2,e3,e4]) rfl (Or.inr ⟨hk,rfl,hP3,hG3⟩)
end Go.Proofs.YtbbgjjjeecfnoaaGreatDoor
namespace Go.Proofs.YtbbgjjjeecfnoaaGreatDoor
open Go.RowKit Go.Sort
open Tess (Fil Tok Prs.next Prs.skip Prs.isT)
set_option maxRecDepth 100000 in
set_option maxHeartbeats 2000000 in
theorem pnum_any {p:Nat→Prop} {B:Nat} {ts:List Tok} {v:Value} {qs:List Value} (lo hi:Int) (w:World) (h:PsAt p B ts v qs w) :
  Calls Tryz.prog 268 #[.pointer (some ⟨B,0,none⟩),.int .i64 lo,.int .i64 hi] w fun e w'=>
   (((Prs.next ts).kind=3∧lo≤(Prs.next ts).n∧(Prs.next ts).n≤hi)∧e = .returned (.tuple #[.int .i64 (Prs.next ts).n,.nilIface])∧∃ v',PsAt p B (Prs.skip ts) v' qs w'∧w.grownBy w' (some B)) ∨
   (¬ ((Prs.next ts).kind=3∧lo≤(Prs.next ts).n∧(Prs.next ts).n≤hi)∧e = .returned (.tuple #[.int .i64 0,errF (Prs.next ts).pos])∧PsAt p B ts v qs w'∧w.grownBy w' (some B)):=by
 have HN:=Lib.hid (pnext_any w h)
 have HF:=Lib.hid (fun (W:World) (hB:Below w.heap.size w W)=>fail_any W (h.below hB))
 have HS:=Lib.hid (fun (W:World) (hB:Below w.heap.size w W)=>skip_any W (h.below hB))
 have HH:=Lib.hid h
 clear h
 unfold tkV tkF at *
 generalize hx:Prs.next ts=x at *
 obtain ⟨k,po,sz,tx,n⟩:=x
 simp only at HN HS HF ⊢
 rcases (show k≠3∨(k=3∧n < lo)∨(k=3∧¬ n < lo∧hi < n)∨(k=3∧¬ n < lo∧¬ hi < n) by omega) with hk | ⟨rfl,h1⟩ | ⟨rfl,h1,h2⟩ | ⟨rfl,h1,h2⟩
 ·have g1:((k:Int) != 3)=true:=by rw [bne_iff_ne];omega
  go_enter Tryz.func268,Tryz.ntmps268
  go_wp2_with (first
   | (go_at_call 216;refine HN.out.mono ?_;rintro e w2 ⟨rfl,hB2⟩;have HB:=Lib.hid hB2;clear hB2)
   | (go_at_call 215;refine (HF.out _ (Bt HB.out ((Below.refl _ _).alloc (Nat.le_refl _) _))).mono ?_;rintro e w3 ⟨rfl,hB3⟩;have HP:=Lib.hid (Bt (Bt HB.out ((Below.refl _ _).alloc (Nat.le_refl _) _)) hB3);clear hB3))
  go_ret2
  exact Or.inr ⟨by rintro ⟨h,_⟩;exact hk h,rfl,HH.out.below HP.out,grB_below HP.out⟩
 ·go_enter Tryz.func268,Tryz.ntmps268
  go_wp2_with (first
   | (go_at_call 216;refine HN.out.mono ?_;rintro e w2 ⟨rfl,hB2⟩;have HB:=Lib.hid hB2;clear hB2)
   | (go_at_call 215;refine (HF.out _ (Bt HB.out ((Below.refl _ _).alloc (Nat.le_refl _) _))).mono ?_;rintro e w3 ⟨rfl,hB3⟩;have HP:=Lib.hid (Bt (Bt HB.out ((Below.refl _ _).alloc (Nat.le_refl _) _)) hB3);clear hB3))
  go_ret2
  exact Or.inr ⟨by rintro ⟨_,h,_⟩;omega,rfl,HH.out.below HP.out,grB_below HP.out⟩
 ·go_enter Tryz.func268,Tryz.ntmps268
  go_wp2_with (first
   | (go_at_call 216;refine HN.out.mono ?_;rintro e w2 ⟨rfl,hB2⟩;have HB:=Lib.hid hB2;clear hB2)
   | (go_at_call 215;refine (HF.out _ (Bt HB.out ((Below.refl _ _).alloc (Nat.le_refl _) _))).mono ?_;rintro e w3 ⟨rfl,hB3⟩;have HP:=Lib.hid (Bt (Bt HB.out ((Below.refl _ _).alloc (Nat.le_refl _) _)) hB3);clear hB3))
  go_ret2
  exact Or.inr ⟨by rintro ⟨_,_,h⟩;omega,rfl,HH.out.below HP.out,grB_below HP.out⟩
 ·go_enter Tryz.func268,Tryz.ntmps268
  go_wp2_with (first
   | (go_at_call 216;refine HN.out.mono ?_;rintro e w2 ⟨rfl,hB2⟩;have HB:=Lib.hid hB2;clear hB2)
   | (go_at_call 217;refine (HS.out _ (Bt HB.out ((Below.refl _ _).alloc (Nat.le_refl _) _))).mono ?_;rintro e w3 ⟨rfl,hP3⟩;have HP:=Lib.hid hP3;clear hP3))
  go_ret2
  obtain ⟨v',hP',hG'⟩:=HP.out
  exact Or.inl ⟨⟨trivial,by omega,by omega⟩,rfl,v',hP',(grB_below (Bt HB.out ((Below.refl _ _).alloc (Nat.le_refl _) _))).transB hG'⟩
end Go.Proofs.YtbbgjjjeecfnoaaGreatDoor
namespace Go.Proofs.YtbbgjjjeecfnoaaGreatDoor
open Go.RowKit Go.Sort
open Tess (Fil Tok Prs.next Prs.skip Prs.isT)
theorem one_text (x:ByteArray) (B:Nat) (w:World) (hB:B < w.heap.size) (W':World) (h:(w.alloc (.cells #[.string x] 9)).grownBy W' (some B)):SlOf W' (.slice (some ⟨w.heap.size,0,none⟩) 1 1) ([x].map .string):=by
 obtain ⟨a1,a2,a3⟩:=laid1 w (.cells #[.string x] 9)
 have hb:=(h.block w.heap.size (by omega) (by intro e;have:=Option.some.inj e;omega)).trans a1
 refine ⟨by show 1≤maxLen;decide,_,_,rfl,fun _=>⟨_,_,rfl,(Array.getElem?_eq_some_iff.1 hb).1,fun j hj => ?_⟩⟩
 obtain rfl:j=0:=by simp at hj;omega
 exact cell_of_row _ _ 0 _ _ _ hb
set_option maxRecDepth 100000 in
set_option maxHeartbeats 2000000 in
theorem must_any {p:Nat→Prop} {B:Nat} {ts:List Tok} {v:Value} {qs:List Value} (c o cap:Nat) (x:ByteArray) (w:World) (h:PsAt p B ts v qs w) (hc:w.cell? ⟨c,o,none⟩=some (.string x)) :
  Calls Tryz.prog 140 #[.pointer (some ⟨B,0,none⟩),.slice (some ⟨c,o,none⟩) 1 cap] w fun e w'=>
   (∃ r,Prs.isT [x] ts=some r∧e = .returned .nilIface∧∃ v',PsAt p B r v' qs w'∧w.grownBy w' (some B)) ∨
   (Prs.isT [x] ts=none∧e = .returned (errF (Prs.next ts).pos)∧∃ v',PsAt p B ts v' qs w'∧w.grownBy w' (some B)):=by
 have hlt:=h.lt
 have HI:=Lib.hid (fun (vl:Value) (W:World) (hB:Below w.heap.size w W) (hl:∀ W':World,W.grownBy W' (some B)→SlOf W' vl ([x].map .string))=>pis_any vl [x] W (h.below hB) hl)
 have HF:=Lib.hid (fun (v':Value) (W:World) (h':PsAt p B ts v' qs W)=>fail_any W h')
 have HH:=Lib.hid h
 clear h
 cases hT:Prs.isT [x] ts with
 | some r=>
   rw [hT] at HI
   go_enter Tryz.func140,Tryz.ntmps140
   go_wp2
   refine wp_loop_rounds 2 ?_
   rw [rounds_succ]
   go_wp2_with (go_at_call 144;refine (HI.out _ _ ((Below.refl _ _).alloc (Nat.le_refl _) _) (one_text x B w hlt)).mono ?_;rintro e w2 ⟨rfl,hP2⟩;have HP:=Lib.hid hP2;clear hP2)
   rw [rounds_succ]
   go_wp2
   go_ret
   obtain ⟨v',hP',hG'⟩:=HP.out
   exact Or.inl ⟨r,rfl,rfl,v',hP',(grB_below ((Below.refl _ _).alloc (Nat.le_refl _) _)).transB hG'⟩
 | none=>
   rw [hT] at HI
   go_enter Tryz.func140,Tryz.ntmps140
   go_wp2
   refine wp_loop_rounds 2 ?_
   rw [rounds_succ]
   go_wp2_with (first
    | (go_at_call 144;refine (HI.out _ _ ((Below.refl _ _).alloc (Nat.le_refl _) _) (one_text x B w hlt)).mono ?_;rintro e w2 ⟨rfl,v2,hP2,hG2⟩;have HP:=Lib.hid hP2;have HG:=Lib.hid hG2;clear hP2 hG2)
    | (go_at_call 215;refine (HF.out _ _ HP.out).mono ?_;rintro e w3 ⟨rfl,hB3⟩;have HB:=Lib.hid hB3;clear hB3))
   go_ret
   exact Or.inr ⟨trivial,rfl,_,HP.out.below HB.out,((grB_below ((Below.refl _ _).alloc (Nat.le_refl _) _)).transB HG.out).trans_below HB.out⟩
end Go.Proofs.YtbbgjjjeecfnoaaGreatDoor
