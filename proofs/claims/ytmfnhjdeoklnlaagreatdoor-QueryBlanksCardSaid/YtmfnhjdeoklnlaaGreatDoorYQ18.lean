/- The parser's several: walked. Written by genQ18.py. -/
import Derived.Test.YtmfnhjdeoklnlaaGreatDoorYQD
namespace Go.Proofs.YtmfnhjdeoklnlaaGreatDoor
open Go.RowKit Go.Sort
open Tess (Fil Tok Prs.next Prs.skip Prs.isT Prs.Endd Prs.Keeps)
theorem resultAt {p:Nat→Prop} {B R:Nat} {w X W9:World} {t:TypeId} {z0 z1 z2 z3 z4 z5 y0 y1 y2 y3 y4 y5:Value} (hR:X.heap[R]? = some (.cells #[z0,z1,z2,z3,z4,z5] t (0,0))) (hG:w.grownBy X (some B)) (hlt:B < w.heap.size) (hwR:w.heap.size≤R) (hb:¬ p B)
  (hW:((((((X.setCell ⟨R,0,none⟩ y0).setCell ⟨R,1,none⟩ y1).setCell ⟨R,2,none⟩ y2).setCell ⟨R,3,none⟩ y3).setCell ⟨R,4,none⟩ y4).setCell ⟨R,5,none⟩ y5)=W9) :
  W9.heap[R]? = some (.cells #[y0,y1,y2,y3,y4,y5] t (0,0))∧w.grownBy W9 (some B) ∧
   (∀ ts v qs,PsAt (fun b=>p b∧b < w.heap.size) B ts v qs X→PsAt p B ts v qs W9)∧(∀ n v f,FilAt (fun b=>R + 1≤b) n X v f→FilAt (fun b=>w.heap.size≤b) n W9 v f):=by
 refine ⟨hW ▸ set6 _ _ _ _ _ _ hR,hW ▸ (((((hG.setN 0 _ hwR).setN 1 _ hwR).setN 2 _ hwR).setN 3 _ hwR).setN 4 _ hwR).setN 5 _ hwR,fun ts v qs h => ?_,fun n v f h => ?_⟩
 ·have n1:R≠B:=by omega
  have n2:¬ ((fun b=>p b∧b < w.heap.size) R):=fun h=>by have:=h.2;omega
  exact hW ▸ PsAt.weak (fun b hb=>hb.1) hb ((((((h.set 0 _ n1 n2).set 1 _ n1 n2).set 2 _ n1 n2).set 3 _ n1 n2).set 4 _ n1 n2).set 5 _ n1 n2)
 ·exact hW ▸ (h.ag (set6_ag _ _ _ _ _ _ _ (by show ¬ (R + 1≤R);omega))).weak fun b hb=>by have:R + 1≤b:=hb;omega
theorem fil_list {q:Nat→Prop} {N d:Nat} {W:World} {lv:Value} {us:List Value} {fs:List Fil} {p:Nat→Prop} (k:Int) (h:Fils N p d W lv us fs) (hpq:∀ b,p b→q b) (hN:∀ b,N≤b→q b) :
  FilAt q (d + 1) W (.agg #[.int .i64 k,.string ⟨#[]⟩,.slice none 0 0,.int .i64 0,.int .i64 0,lv]) (.mk k ByteArray.empty [] 0 0 fs):=by
 obtain ⟨a,cap,rfl,h1,h2,h3⟩:=h.listed hpq hN
 exact ⟨.slice none 0 0,a,cap,rfl,Nat.zero_le _,SlP.nil q W,fun x hx=>(by cases hx),h1,h2,h3⟩
def sevR (f:Nat) (ts:List Tok):Tess.Prs.R Fil:=Tess.Prs.bindR (Tess.Prs.filter f ts) fun x r2=>Tess.Prs.several (Tess.Prs.filter f) x r2
section
variable {f:Nat} {ts r r2:List Tok} {x:Fil}
theorem sevR_err {k:Nat} (h:Tess.Prs.filter f ts = .error k):sevR f ts = .error k:=by unfold sevR;rw [bindR_err h]
theorem sevR_no (h:Tess.Prs.filter f ts = .ok (x,r)) (h2:Prs.isT [Tess.Prs.wAnd,Tess.Prs.wOr] r=none):sevR f ts = .error (Prs.next r).pos:=by
 unfold sevR Tess.Prs.several Tess.Prs.isR;rw [bindR_ok h,h2];rfl
theorem sevR_more (h:Tess.Prs.filter f ts = .ok (x,r)) (h2:Prs.isT [Tess.Prs.wAnd,Tess.Prs.wOr] r=some r2) :
  sevR f ts=Tess.Prs.bindR (Tess.Prs.list (Prs.next r).text (Tess.Prs.filter f) r2.length r2) fun l r4=>Tess.Prs.must Tess.Prs.wClose r4 fun r5 => .ok (.mk (if (Prs.next r).text=Tess.Prs.wOr then 9 else 8) ByteArray.empty [] 0 0 (x :: l),r5):=by
 unfold sevR Tess.Prs.several Tess.Prs.isR;rw [bindR_ok h,h2]
end
theorem two_texts (x y:ByteArray) (B:Nat) (w:World) (hB:B < w.heap.size) (W':World) (h:(w.alloc (.cells #[.string x,.string y] 9)).grownBy W' (some B)):SlOf W' (.slice (some ⟨w.heap.size,0,none⟩) 2 2) ([x,y].map .string):=by
 obtain ⟨a1,a2,a3⟩:=laid1 w (.cells #[.string x,.string y] 9)
 have hb:=(h.block w.heap.size (by omega) (by intro e;have:=Option.some.inj e;omega)).trans a1
 refine ⟨by show 2≤maxLen;decide,_,_,rfl,fun _=>⟨_,_,rfl,(Array.getElem?_eq_some_iff.1 hb).1,fun j hj => ?_⟩⟩
 have hj:j < 2:=hj
 rw [cell_of_row _ _ (0 + j) _ _ _ hb]
 rcases (show j=0∨j=1 by omega) with rfl | rfl <;> rfl
theorem isAO_any {p:Nat→Prop} {B:Nat} {ts:List Tok} {v:Value} {qs:List Value} (x y:ByteArray) {c:Nat} (w:World) (hc:c=w.heap.size) (h:PsAt p B ts v qs w) :
  Calls Tryz.prog 74 #[.pointer (some ⟨B,0,none⟩),.slice (some ⟨c,0,none⟩) 2 2] (w.alloc (.cells #[.string x,.string y] 9)) fun e w'=>w.grownBy w' (some B) ∧
   ((∃ r v',Prs.isT [x,y] ts=some r∧e = .returned (.bool true)∧PsAt p B r v' qs w')∨(Prs.isT [x,y] ts=none∧e = .returned (.bool false)∧∃ v',PsAt p B ts v' qs w')):=by
 subst hc
 refine (pis_any (.slice (some ⟨w.heap.size,0,none⟩) 2 2) [x,y] (w.alloc (.cells #[.string x,.string y] 9)) (h.below ((Below.refl _ _).alloc (Nat.le_refl _) _)) (two_texts x y B w h.lt)).mono ?_
 rintro e w' ⟨rfl,v',hP,hG⟩
 refine ⟨(grB_alloc w _ B).transB hG,?_⟩
 cases hT:Prs.isT [x,y] ts with
 | some r=>rw [hT] at hP;exact Or.inl ⟨r,v',rfl,rfl,hP⟩
 | none=>rw [hT] at hP;exact Or.inr ⟨rfl,rfl,v',hP⟩
set_option maxRecDepth 100000 in
set_option maxHeartbeats 8000000 in
theorem several_any {f:Nat} (IH:Filts f) (hf:f≤1000000) {p:Nat→Prop} {B:Nat} {ts:List Tok} {v:Value} {qs:List Value} (w:World) (h:PsAt p B ts v qs w) (he:Prs.Endd ts) (hL:ts.length≤f) :
  Calls Tryz.prog 223 #[.pointer (some ⟨B,0,none⟩)] w fun e w'=>w.grownBy w' (some B)∧FilOut p B w.heap.size (f + 1) qs (sevR f) ts e w':=by
 have hlt:=h.lt
 have HNB:=Lib.hid h.b
 have HL:=Lib.hid (laid3 w (.cells #[.pointer (some ⟨B,0,none⟩)] 57) (.cells #[.int .i64 0,.string ⟨#[]⟩,.slice none 0 0,.int .i64 0,.int .i64 0,.slice none 0 0] 29) (.cells #[.int .i64 8,.string ⟨#[]⟩,.slice none 0 0,.int .i64 0,.int .i64 0,.slice none 0 0] 29))
 have HB:=HL.out.2.2.2.2
 have HS:=HL.out.2.2.2.1
 have HF0:=Lib.hid (⟨HL.out.1,HL.out.2.1,HL.out.2.2.1⟩:SvF w.heap.size B 8 (.slice none 0 0) _)
 have HR1:=Lib.hid (several1_any (p:=fun b=>p b∧b < w.heap.size) (k:=8) (qs0:=qs) (L:=f) IH w (fun b hb=>hb.2) hlt hf (Nat.le_refl _) rfl [] ts v qs _ (h.ltP.below HB) he (grB_below HB) ⟨rfl,none,0,[],HF0.out,⟨World.ownsRow_nil _ _ _ _,rfl,fun j hj=>absurd hj (Nat.not_lt_zero _)⟩⟩ (by simpa using hL))
 have HE:=Lib.hid he
 have HKP:=Lib.hid (Tess.Prs.filter_keeps f)
 clear h he HB HS
 go_enter Tryz.func223,Tryz.ntmps223
 go_wp2_with (first
  | (go_at_call 243;refine HR1.out.mono ?_;clear HR1;rintro e w2 ⟨hG2,⟨x,r,v2,qs2,ht,rfl,hP2,hE2⟩ | ⟨k,ht,rfl,⟨ya,yn,yc,hF2⟩,ts2,v2,qs2,hP2⟩⟩ <;>
      (try (obtain ⟨hqx,ya,yc,us,hF2,hS2⟩:=hE2;rw [hqx] at hP2;clear hqx)
       have cF:=(box6k hF2.f).1;have zF:=(box6k hF2.f).2;have zR:=(box6k hF2.r).2;have cR:=(box6k hF2.r).1
       have hFs:=hF2.lt;have hRs:w.heap.size + 1 < w2.heap.size:=by omega
       have ca:=cell_of_row w2 w.heap.size 0 _ _ _ hF2.a
       simp only [List.getElem?_toArray,List.getElem?_cons_zero] at ca
       have HF2:=Lib.hid hF2;have HP2:=Lib.hid hP2;have HG2:=Lib.hid hG2;have HT2:=Lib.hid ht;clear hF2 hP2 hG2 ht))
  | (go_at_call 135;refine (pnext_any _ HP2.out).mono ?_;rintro e w3 ⟨rfl,hB3⟩;unfold tkV tkF;
       have hF3:=HF2.out.stepB (grB_below (B:=B) hB3) hlt;
       have hS3:=hS2.below hB3;
       have hP3:=HP2.out.below hB3;
       have hG3:=HG2.out.trans_below hB3;
       have h3a:=hF3.lt;
       rcases (Decidable.em ((Prs.next r).text=⟨#[111,114]⟩)) with hor | hor <;> first
        | (rw [hor]
           have HX:=Lib.hid hor
           have HP4:=Lib.hid (hP3.set (g:=w.heap.size + 2) 0 (.int .i64 9) (by omega) (fun h=>by have:=h.2;omega))
           have HF4:=Lib.hid (hF3.kind 9)
           have HG4:=Lib.hid (hG3.setN (g:=w.heap.size + 2) 0 (.int .i64 9) (by omega))
           have HS4:=Lib.hid (hS3.set (g:=w.heap.size + 2) (i:=0) (by omega) (fun b hb=>hb.1) (.int .i64 9))
           have cF:=(box6k hF3.f).1;have zF:=(box6k hF3.f).2;have zR:=(box6k hF3.r).2;have cR:=(box6k hF3.r).1
           have hFs:=hF3.lt;have hRs:w.heap.size + 1 < w3.heap.size:=by omega
           have hFs2:w.heap.size + 2 < w3.heap.size:=by omega
           have hNs:w.heap.size < w3.heap.size:=by omega
           have ca:=cell_of_row w3 w.heap.size 0 _ _ _ hF3.a
           simp only [List.getElem?_toArray,List.getElem?_cons_zero] at ca
           clear hF3 hP3 hG3 hS3 hor)
        | (have hne:((Prs.next r).text.toList == [111,114])=false:=by
             rw [beq_eq_false_iff_ne]
             intro e
             exact hor (str_inj (by rw [e,ByteArray.toList_eq]))
           have HX:=Lib.hid hor
           have HP4:=Lib.hid hP3
           have HF4:=Lib.hid hF3
           have HG4:=Lib.hid hG3
           have HS4:=Lib.hid hS3
           have cF:=(box6k hF3.f).1;have zF:=(box6k hF3.f).2;have zR:=(box6k hF3.r).2;have cR:=(box6k hF3.r).1
           have hFs:=hF3.lt;have hRs:w.heap.size + 1 < w3.heap.size:=by omega
           have hFs2:w.heap.size + 2 < w3.heap.size:=by omega
           have hNs:w.heap.size < w3.heap.size:=by omega
           have ca:=cell_of_row w3 w.heap.size 0 _ _ _ hF3.a
           simp only [List.getElem?_toArray,List.getElem?_cons_zero] at ca
           clear hF3 hP3 hG3 hS3 hor)))
 ·go_wp2_with (
   go_at_call 74;refine (isAO_any Tess.Prs.wAnd Tess.Prs.wOr _ (by rw [setSize]) HP4.out).mono ?_;rintro e w5 ⟨hG5,⟨r5,v5,hT5,rfl,hP5⟩ | ⟨hT5,rfl,v5,hP5⟩⟩ <;>
    (have hF5:=HF4.out.stepB hG5 hlt
     have hS5:=HS4.out.grB hG5 (by omega) (fun b hb=>hb.1)
     have cF:=(box6k hF5.f).1;have zF:=(box6k hF5.f).2;have zR:=(box6k hF5.r).2;have cR:=(box6k hF5.r).1
     have hFs:=hF5.lt;have hRs:w.heap.size + 1 < w5.heap.size:=by omega
     have hFs2:w.heap.size + 2 < w5.heap.size:=by omega
     have hNs:w.heap.size < w5.heap.size:=by omega
     have ca:=cell_of_row w5 w.heap.size 0 _ _ _ hF5.a
     simp only [List.getElem?_toArray,List.getElem?_cons_zero] at ca
     have HF5:=Lib.hid hF5;have HP5:=Lib.hid hP5;have HG5:=Lib.hid (HG4.out.transB hG5);have HT5:=Lib.hid hT5;have HS5:=Lib.hid hS5;clear hF5 hP5 hG5 hT5 hS5))
  ·have k2:=HKP.out ts x r HE.out HT2.out
   have k3:=k2.1.isT HT5.out
   have kl:=k2.2.length_le
   have HM:=Lib.hid (list_several (p:=fun b=>p b∧b < w.heap.size) ⟨#[111,114]⟩ (Tess.Prs.filter f) (.pointer (some ⟨w.heap.size,0,none⟩)) (.pointer (some ⟨w.heap.size + 2,0,none⟩)) (fun acc=>SvEx w.heap.size B 9 f qs (x :: acc)) (fun W => ∃ x n c,SvF w.heap.size B 9 (.slice x n c) W) (f - 1) w w5
    HP5.out k3.1 HKP.out HG5.out ⟨rfl,ya,yc,us,HF5.out,HS5.out⟩ (by have:=k3.2.1;omega) (fun acc=>SvEx.steady hlt (x :: acc))
    (fun acc us' v' qs' W' a1 a2 a3 a4 a5=>several1_any (p:=fun b=>p b∧b < w.heap.size) (k:=9) (qs0:=qs) (L:=f) IH w (fun b hb=>hb.2) hlt hf (Nat.le_refl _) rfl (x :: acc) us' v' qs' W' a1 a2 a3 a4 (by have:=List.length_pos_iff.2 a1.ne;simp only [List.length_cons];omega)))
   have HQ:=Lib.hid (sevR_more HT2.out HT5.out)
   have hnk:Int:=9
   clear k2 k3 kl hnk
   go_wp2_with (
    go_at_call 71;refine HM.out.mono ?_;clear HM;rintro e w6 ⟨hG6,⟨l,r6,v6,qs6,hl6,rfl,hP6,hE6⟩ | ⟨k,hl6,rfl,⟨za,zn,zc,hF6⟩,ts6,v6,qs6,hP6⟩⟩ <;>
     (try (obtain ⟨hqx,za,zc,us6,hF6,hS6⟩:=hE6;rw [hqx] at hP6;clear hqx)
      have cF:=(box6k hF6.f).1;have zF:=(box6k hF6.f).2;have zR:=(box6k hF6.r).2;have cR:=(box6k hF6.r).1
      have hFs:=hF6.lt;have hRs:w.heap.size + 1 < w6.heap.size:=by omega
      have hFs2:w.heap.size + 2 < w6.heap.size:=by omega
      have hNs:w.heap.size < w6.heap.size:=by omega
      have ca:=cell_of_row w6 w.heap.size 0 _ _ _ hF6.a
      simp only [List.getElem?_toArray,List.getElem?_cons_zero] at ca
      have HF6:=Lib.hid hF6;have HP6:=Lib.hid hP6;have HG6:=Lib.hid hG6;have HT6:=Lib.hid hl6;clear hF6 hP6 hG6 hl6))
   rotate_left
   ·obtain ⟨W9,hW9⟩:∃ W9,((((((w6.setCell ⟨w.heap.size + 1,0,none⟩ (.int .i64 9)).setCell ⟨w.heap.size + 1,1,none⟩ (.string ⟨#[]⟩)).setCell ⟨w.heap.size + 1,2,none⟩ (.slice none 0 0)).setCell ⟨w.heap.size + 1,3,none⟩ (.int .i64 0)).setCell ⟨w.heap.size + 1,4,none⟩ (.int .i64 0)).setCell ⟨w.heap.size + 1,5,none⟩ (.slice za zn zc))=W9:=⟨_,rfl⟩
    obtain ⟨k9,g9,p9,s9⟩:=resultAt (p:=p) (R:=w.heap.size + 1) HF6.out.r HG6.out hlt (Nat.le_succ _) HNB.out hW9
    rw [hW9]
    obtain ⟨⟨e0,e1,e2,e3,e4,e5⟩,_⟩:=box6k k9
    refine bodyPost_ret (v:=.tuple #[.agg #[.int .i64 9,.string ⟨#[]⟩,.slice none 0 0,.int .i64 0,.int .i64 0,.slice za zn zc],errF k]) (by simp [results,Tryz.results223,go_sem,e0,e1,e2,e3,e4,e5]) rfl ⟨g9,_,_,_,_,_,_,_,_,_,_,_,rfl,?_⟩
    exact Or.inr ⟨k,by rw [HQ.out,HX.out,bindR_err HT6.out],rfl,_,_,_,p9 _ _ _ HP6.out⟩
   have HS6:=Lib.hid hS6
   clear hS6
   refine FlowQ.wp_region 3 [3,4,5] (.agg #[.int .i64 9,.string ⟨#[]⟩,.slice none 0 0,.int .i64 0,.int .i64 0,.slice za us6.length zc]) (Flow.specs [.inl undef,.inl (.pointer (some ⟨B,0,none⟩)),.inr (newRow [.string Tess.Prs.wClose])]) (by kernel_rfl) (by kernel_rfl) ?_ rfl (fun w' hw=>by have hcl:=Flow.bcell hw;clear hw;go_simp) ?_
   ·refine Flow.specs_mono ?_
    repeat (first | exact Flow.lmono_nil | refine Flow.lmono_inl ?_ | refine Flow.lmono_inr (newRow_mono _) ?_)
   simp only [Nat.reduceSub,List.take_succ_cons,List.take_zero]
   (refine Flow.tree_valK rfl (fun K hK=>⟨fun w hw hG => ?_,?_⟩);(have hcl:=Flow.bcell hw;clear hG hw;unfold Flow.Runs Flow.yields;go_simp;try rfl);go_simp;refine hK _ ?_;clear hK K)
   (refine Flow.tree_varK rfl (fun K hK=>⟨fun w hw hG => ?_,?_⟩);(clear hG hw;unfold Flow.Runs Flow.yields;go_simp;refine ⟨(Below.refl _ _).alloc (Nat.le_refl _) _,?_⟩);rotate_left;intro vz;go_simp;refine hK _ _ ?_;clear hK K;rotate_left)
   ·exact newRow_mk _ _ _
   refine Flow.tree_nil fun w8 hw8 hG => ?_
   obtain ⟨gn,rfl,hgn,hcn⟩:=(show newRow [.string Tess.Prs.wClose] vz w8 by simpa [Flow.upd] using hG 2)
   have HMU:=Lib.hid (must_any gn 0 1 Tess.Prs.wClose w8 (HP6.out.below hw8) (hcn 0 _ rfl))
   have HF8:=Lib.hid (HF6.out.stepB (grB_below (B:=B) hw8) hlt)
   have HG8:=Lib.hid (HG6.out.trans_below hw8)
   have HS8:=Lib.hid (HS6.out.below hw8)
   clear hG hw8 hcn
   refine ⟨?_,?_⟩
   all_goals
    go_wp2_with (
     go_at_call 70;refine HMU.out.mono ?_;clear HMU;rintro e w9 (⟨r9,hT9,rfl,v9,hP9,hG9⟩ | ⟨hT9,rfl,v9,hP9,hG9⟩) <;>
      (have hF9:=HF8.out.stepB hG9 hlt
       have cF:=(box6k hF9.f).1;have zF:=(box6k hF9.f).2;have zR:=(box6k hF9.r).2;have cR:=(box6k hF9.r).1
       have hFs:=hF9.lt;have hRs:w.heap.size + 1 < w9.heap.size:=by omega
       have hFs2:w.heap.size + 2 < w9.heap.size:=by omega
       have hNs:w.heap.size < w9.heap.size:=by omega
       have ca:=cell_of_row w9 w.heap.size 0 _ _ _ hF9.a
       simp only [List.getElem?_toArray,List.getElem?_cons_zero] at ca
       have HF9:=Lib.hid hF9;have HP9:=Lib.hid hP9;have HG9:=Lib.hid (HG8.out.transB hG9);have HS9:=Lib.hid (HS8.out.grB hG9 (by omega) (fun b hb=>hb.1));clear hF9 hP9 hG9))
    ·refine ⟨rfl,?_⟩
     go_wp2
     obtain ⟨W9,hW9⟩:∃ W9,((((((w9.setCell ⟨w.heap.size + 1,0,none⟩ (.int .i64 9)).setCell ⟨w.heap.size + 1,1,none⟩ (.string ⟨#[]⟩)).setCell ⟨w.heap.size + 1,2,none⟩ (.slice none 0 0)).setCell ⟨w.heap.size + 1,3,none⟩ (.int .i64 0)).setCell ⟨w.heap.size + 1,4,none⟩ (.int .i64 0)).setCell ⟨w.heap.size + 1,5,none⟩ (.slice za us6.length zc))=W9:=⟨_,rfl⟩
     obtain ⟨k9,g9,p9,s9⟩:=resultAt (p:=p) (R:=w.heap.size + 1) HF9.out.r HG9.out hlt (Nat.le_succ _) HNB.out hW9
     rw [hW9]
     obtain ⟨⟨e0,e1,e2,e3,e4,e5⟩,_⟩:=box6k k9
     refine bodyPost_ret (v:=.tuple #[.agg #[.int .i64 9,.string ⟨#[]⟩,.slice none 0 0,.int .i64 0,.int .i64 0,.slice za us6.length zc],.nilIface]) (by simp [results,Tryz.results223,go_sem,e0,e1,e2,e3,e4,e5]) rfl ⟨g9,_,_,_,_,_,_,_,_,_,_,_,rfl,?_⟩
     exact Or.inl ⟨.mk 9 ByteArray.empty [] 0 0 (x :: l),r9,v9,by rw [HQ.out,HX.out,if_pos (show (⟨#[111,114]⟩:ByteArray)=Tess.Prs.wOr from rfl),bindR_ok HT6.out,must_ok hT9],rfl,p9 _ _ _ HP9.out,s9 _ _ _ (fil_list 9 HS9.out (fun b hb=>by have:=hb.1;omega) (fun b hb=>by omega))⟩
    ·refine ⟨rfl,?_⟩
     go_wp2
     obtain ⟨W9,hW9⟩:∃ W9,((((((w9.setCell ⟨w.heap.size + 1,0,none⟩ (.int .i64 9)).setCell ⟨w.heap.size + 1,1,none⟩ (.string ⟨#[]⟩)).setCell ⟨w.heap.size + 1,2,none⟩ (.slice none 0 0)).setCell ⟨w.heap.size + 1,3,none⟩ (.int .i64 0)).setCell ⟨w.heap.size + 1,4,none⟩ (.int .i64 0)).setCell ⟨w.heap.size + 1,5,none⟩ (.slice za us6.length zc))=W9:=⟨_,rfl⟩
     obtain ⟨k9,g9,p9,s9⟩:=resultAt (p:=p) (R:=w.heap.size + 1) HF9.out.r HG9.out hlt (Nat.le_succ _) HNB.out hW9
     rw [hW9]
     obtain ⟨⟨e0,e1,e2,e3,e4,e5⟩,_⟩:=box6k k9
     refine bodyPost_ret (v:=.tuple #[.agg #[.int .i64 9,.string ⟨#[]⟩,.slice none 0 0,.int .i64 0,.int .i64 0,.slice za us6.length zc],errF (Prs.next r6).pos]) (by simp [results,Tryz.results223,go_sem,e0,e1,e2,e3,e4,e5]) rfl ⟨g9,_,_,_,_,_,_,_,_,_,_,_,rfl,?_⟩
     exact Or.inr ⟨_,by rw [HQ.out,HX.out,bindR_ok HT6.out,must_no hT9],rfl,_,_,_,p9 _ _ _ HP9.out⟩
  ·refine FlowQ.wp_region 2 [2,3,4] (.agg #[.int .i64 9,.string ⟨#[]⟩,.slice none 0 0,.int .i64 0,.int .i64 0,.slice ya us.length yc]) (Flow.specs [.inl undef,.inl (.pointer (some ⟨B,0,none⟩))]) (by kernel_rfl) (by kernel_rfl) ?_ rfl (fun w' hw=>by have hcl:=Flow.bcell hw;clear hw;go_simp) ?_
   ·refine Flow.specs_mono ?_
    repeat (first | exact Flow.lmono_nil | refine Flow.lmono_inl ?_)
   simp only [Nat.reduceSub,List.take_succ_cons,List.take_zero]
   (refine Flow.tree_valK rfl (fun K hK=>⟨fun w hw hG => ?_,?_⟩);(have hcl:=Flow.bcell hw;clear hG hw;unfold Flow.Runs Flow.yields;go_simp;try rfl);go_simp;refine hK _ ?_;clear hK K)
   refine Flow.tree_nil fun w8 hw8 hG => ?_
   have HFA:=Lib.hid (fail_any w8 (HP5.out.below hw8))
   have HF8:=Lib.hid (HF5.out.stepB (grB_below (B:=B) hw8) hlt)
   have HG8:=Lib.hid (HG5.out.trans_below hw8)
   have HP8:=Lib.hid (HP5.out.below hw8)
   clear hG hw8
   refine ⟨?_,?_⟩
   all_goals
    go_wp2_with (
     go_at_call 134;refine HFA.out.mono ?_;clear HFA;rintro e w9 ⟨rfl,hB9⟩;
       have hF9:=HF8.out.stepB (grB_below (B:=B) hB9) hlt;
       have cF:=(box6k hF9.f).1;have zF:=(box6k hF9.f).2;have zR:=(box6k hF9.r).2;have cR:=(box6k hF9.r).1;
       have hFs:=hF9.lt;have hRs:w.heap.size + 1 < w9.heap.size:=(by omega);
       have hFs2:w.heap.size + 2 < w9.heap.size:=(by omega);
       have hNs:w.heap.size < w9.heap.size:=(by omega);
       have ca:=cell_of_row w9 w.heap.size 0 _ _ _ hF9.a;
       simp only [List.getElem?_toArray,List.getElem?_cons_zero] at ca;
       have HF9:=Lib.hid hF9;have HP9:=Lib.hid (HP8.out.below hB9);have HG9:=Lib.hid (HG8.out.trans_below hB9);clear hF9 hB9)
    refine ⟨rfl,?_⟩
    go_wp2
    obtain ⟨W9,hW9⟩:∃ W9,((((((w9.setCell ⟨w.heap.size + 1,0,none⟩ (.int .i64 9)).setCell ⟨w.heap.size + 1,1,none⟩ (.string ⟨#[]⟩)).setCell ⟨w.heap.size + 1,2,none⟩ (.slice none 0 0)).setCell ⟨w.heap.size + 1,3,none⟩ (.int .i64 0)).setCell ⟨w.heap.size + 1,4,none⟩ (.int .i64 0)).setCell ⟨w.heap.size + 1,5,none⟩ (.slice ya us.length yc))=W9:=⟨_,rfl⟩
    obtain ⟨k9,g9,p9,s9⟩:=resultAt (p:=p) (R:=w.heap.size + 1) HF9.out.r HG9.out hlt (Nat.le_succ _) HNB.out hW9
    rw [hW9]
    obtain ⟨⟨e0,e1,e2,e3,e4,e5⟩,_⟩:=box6k k9
    refine bodyPost_ret (v:=.tuple #[.agg #[.int .i64 9,.string ⟨#[]⟩,.slice none 0 0,.int .i64 0,.int .i64 0,.slice ya us.length yc],errF (Prs.next r).pos]) (by simp [results,Tryz.results223,go_sem,e0,e1,e2,e3,e4,e5]) rfl ⟨g9,_,_,_,_,_,_,_,_,_,_,_,rfl,?_⟩
    exact Or.inr ⟨_,sevR_no HT2.out HT5.out,rfl,_,_,_,p9 _ _ _ HP9.out⟩
 ·go_wp2_with (
   go_at_call 74;refine (isAO_any Tess.Prs.wAnd Tess.Prs.wOr _ rfl HP4.out).mono ?_;rintro e w5 ⟨hG5,⟨r5,v5,hT5,rfl,hP5⟩ | ⟨hT5,rfl,v5,hP5⟩⟩ <;>
    (have hF5:=HF4.out.stepB hG5 hlt
     have hS5:=HS4.out.grB hG5 (by omega) (fun b hb=>hb.1)
     have cF:=(box6k hF5.f).1;have zF:=(box6k hF5.f).2;have zR:=(box6k hF5.r).2;have cR:=(box6k hF5.r).1
     have hFs:=hF5.lt;have hRs:w.heap.size + 1 < w5.heap.size:=by omega
     have hFs2:w.heap.size + 2 < w5.heap.size:=by omega
     have hNs:w.heap.size < w5.heap.size:=by omega
     have ca:=cell_of_row w5 w.heap.size 0 _ _ _ hF5.a
     simp only [List.getElem?_toArray,List.getElem?_cons_zero] at ca
     have HF5:=Lib.hid hF5;have HP5:=Lib.hid hP5;have HG5:=Lib.hid (HG4.out.transB hG5);have HT5:=Lib.hid hT5;have HS5:=Lib.hid hS5;clear hF5 hP5 hG5 hT5 hS5))
  ·have k2:=HKP.out ts x r HE.out HT2.out
   have k3:=k2.1.isT HT5.out
   have kl:=k2.2.length_le
   have HM:=Lib.hid (list_several (p:=fun b=>p b∧b < w.heap.size) (Prs.next r).text (Tess.Prs.filter f) (.pointer (some ⟨w.heap.size,0,none⟩)) (.pointer (some ⟨w.heap.size + 2,0,none⟩)) (fun acc=>SvEx w.heap.size B 8 f qs (x :: acc)) (fun W => ∃ x n c,SvF w.heap.size B 8 (.slice x n c) W) (f - 1) w w5
    HP5.out k3.1 HKP.out HG5.out ⟨rfl,ya,yc,us,HF5.out,HS5.out⟩ (by have:=k3.2.1;omega) (fun acc=>SvEx.steady hlt (x :: acc))
    (fun acc us' v' qs' W' a1 a2 a3 a4 a5=>several1_any (p:=fun b=>p b∧b < w.heap.size) (k:=8) (qs0:=qs) (L:=f) IH w (fun b hb=>hb.2) hlt hf (Nat.le_refl _) rfl (x :: acc) us' v' qs' W' a1 a2 a3 a4 (by have:=List.length_pos_iff.2 a1.ne;simp only [List.length_cons];omega)))
   have HQ:=Lib.hid (sevR_more HT2.out HT5.out)
   have hnk:Int:=8
   clear k2 k3 kl hnk
   go_wp2_with (
    go_at_call 71;refine HM.out.mono ?_;clear HM;rintro e w6 ⟨hG6,⟨l,r6,v6,qs6,hl6,rfl,hP6,hE6⟩ | ⟨k,hl6,rfl,⟨za,zn,zc,hF6⟩,ts6,v6,qs6,hP6⟩⟩ <;>
     (try (obtain ⟨hqx,za,zc,us6,hF6,hS6⟩:=hE6;rw [hqx] at hP6;clear hqx)
      have cF:=(box6k hF6.f).1;have zF:=(box6k hF6.f).2;have zR:=(box6k hF6.r).2;have cR:=(box6k hF6.r).1
      have hFs:=hF6.lt;have hRs:w.heap.size + 1 < w6.heap.size:=by omega
      have hFs2:w.heap.size + 2 < w6.heap.size:=by omega
      have hNs:w.heap.size < w6.heap.size:=by omega
      have ca:=cell_of_row w6 w.heap.size 0 _ _ _ hF6.a
      simp only [List.getElem?_toArray,List.getElem?_cons_zero] at ca
      have HF6:=Lib.hid hF6;have HP6:=Lib.hid hP6;have HG6:=Lib.hid hG6;have HT6:=Lib.hid hl6;clear hF6 hP6 hG6 hl6))
   rotate_left
   ·obtain ⟨W9,hW9⟩:∃ W9,((((((w6.setCell ⟨w.heap.size + 1,0,none⟩ (.int .i64 8)).setCell ⟨w.heap.size + 1,1,none⟩ (.string ⟨#[]⟩)).setCell ⟨w.heap.size + 1,2,none⟩ (.slice none 0 0)).setCell ⟨w.heap.size + 1,3,none⟩ (.int .i64 0)).setCell ⟨w.heap.size + 1,4,none⟩ (.int .i64 0)).setCell ⟨w.heap.size + 1,5,none⟩ (.slice za zn zc))=W9:=⟨_,rfl⟩
    obtain ⟨k9,g9,p9,s9⟩:=resultAt (p:=p) (R:=w.heap.size + 1) HF6.out.r HG6.out hlt (Nat.le_succ _) HNB.out hW9
    rw [hW9]
    obtain ⟨⟨e0,e1,e2,e3,e4,e5⟩,_⟩:=box6k k9
    refine bodyPost_ret (v:=.tuple #[.agg #[.int .i64 8,.string ⟨#[]⟩,.slice none 0 0,.int .i64 0,.int .i64 0,.slice za zn zc],errF k]) (by simp [results,Tryz.results223,go_sem,e0,e1,e2,e3,e4,e5]) rfl ⟨g9,_,_,_,_,_,_,_,_,_,_,_,rfl,?_⟩
    exact Or.inr ⟨k,by rw [HQ.out,bindR_err HT6.out],rfl,_,_,_,p9 _ _ _ HP6.out⟩
   have HS6:=Lib.hid hS6
   clear hS6
   refine FlowQ.wp_region 3 [3,4,5] (.agg #[.int .i64 8,.string ⟨#[]⟩,.slice none 0 0,.int .i64 0,.int .i64 0,.slice za us6.length zc]) (Flow.specs [.inl undef,.inl (.pointer (some ⟨B,0,none⟩)),.inr (newRow [.string Tess.Prs.wClose])]) (by kernel_rfl) (by kernel_rfl) ?_ rfl (fun w' hw=>by have hcl:=Flow.bcell hw;clear hw;go_simp) ?_
   ·refine Flow.specs_mono ?_
    repeat (first | exact Flow.lmono_nil | refine Flow.lmono_inl ?_ | refine Flow.lmono_inr (newRow_mono _) ?_)
   simp only [Nat.reduceSub,List.take_succ_cons,List.take_zero]
   (refine Flow.tree_valK rfl (fun K hK=>⟨fun w hw hG => ?_,?_⟩);(have hcl:=Flow.bcell hw;clear hG hw;unfold Flow.Runs Flow.yields;go_simp;try rfl);go_simp;refine hK _ ?_;clear hK K)
   (refine Flow.tree_varK rfl (fun K hK=>⟨fun w hw hG => ?_,?_⟩);(clear hG hw;unfold Flow.Runs Flow.yields;go_simp;refine ⟨(Below.refl _ _).alloc (Nat.le_refl _) _,?_⟩);rotate_left;intro vz;go_simp;refine hK _ _ ?_;clear hK K;rotate_left)
   ·exact newRow_mk _ _ _
   refine Flow.tree_nil fun w8 hw8 hG => ?_
   obtain ⟨gn,rfl,hgn,hcn⟩:=(show newRow [.string Tess.Prs.wClose] vz w8 by simpa [Flow.upd] using hG 2)
   have HMU:=Lib.hid (must_any gn 0 1 Tess.Prs.wClose w8 (HP6.out.below hw8) (hcn 0 _ rfl))
   have HF8:=Lib.hid (HF6.out.stepB (grB_below (B:=B) hw8) hlt)
   have HG8:=Lib.hid (HG6.out.trans_below hw8)
   have HS8:=Lib.hid (HS6.out.below hw8)
   clear hG hw8 hcn
   refine ⟨?_,?_⟩
   all_goals
    go_wp2_with (
     go_at_call 70;refine HMU.out.mono ?_;clear HMU;rintro e w9 (⟨r9,hT9,rfl,v9,hP9,hG9⟩ | ⟨hT9,rfl,v9,hP9,hG9⟩) <;>
      (have hF9:=HF8.out.stepB hG9 hlt
       have cF:=(box6k hF9.f).1;have zF:=(box6k hF9.f).2;have zR:=(box6k hF9.r).2;have cR:=(box6k hF9.r).1
       have hFs:=hF9.lt;have hRs:w.heap.size + 1 < w9.heap.size:=by omega
       have hFs2:w.heap.size + 2 < w9.heap.size:=by omega
       have hNs:w.heap.size < w9.heap.size:=by omega
       have ca:=cell_of_row w9 w.heap.size 0 _ _ _ hF9.a
       simp only [List.getElem?_toArray,List.getElem?_cons_zero] at ca
       have HF9:=Lib.hid hF9;have HP9:=Lib.hid hP9;have HG9:=Lib.hid (HG8.out.transB hG9);have HS9:=Lib.hid (HS8.out.grB hG9 (by omega) (fun b hb=>hb.1));clear hF9 hP9 hG9))
    ·refine ⟨rfl,?_⟩
     go_wp2
     obtain ⟨W9,hW9⟩:∃ W9,((((((w9.setCell ⟨w.heap.size + 1,0,none⟩ (.int .i64 8)).setCell ⟨w.heap.size + 1,1,none⟩ (.string ⟨#[]⟩)).setCell ⟨w.heap.size + 1,2,none⟩ (.slice none 0 0)).setCell ⟨w.heap.size + 1,3,none⟩ (.int .i64 0)).setCell ⟨w.heap.size + 1,4,none⟩ (.int .i64 0)).setCell ⟨w.heap.size + 1,5,none⟩ (.slice za us6.length zc))=W9:=⟨_,rfl⟩
     obtain ⟨k9,g9,p9,s9⟩:=resultAt (p:=p) (R:=w.heap.size + 1) HF9.out.r HG9.out hlt (Nat.le_succ _) HNB.out hW9
     rw [hW9]
     obtain ⟨⟨e0,e1,e2,e3,e4,e5⟩,_⟩:=box6k k9
     refine bodyPost_ret (v:=.tuple #[.agg #[.int .i64 8,.string ⟨#[]⟩,.slice none 0 0,.int .i64 0,.int .i64 0,.slice za us6.length zc],.nilIface]) (by simp [results,Tryz.results223,go_sem,e0,e1,e2,e3,e4,e5]) rfl ⟨g9,_,_,_,_,_,_,_,_,_,_,_,rfl,?_⟩
     exact Or.inl ⟨.mk 8 ByteArray.empty [] 0 0 (x :: l),r9,v9,by rw [HQ.out,if_neg (show ¬ (Prs.next r).text=Tess.Prs.wOr from HX.out),bindR_ok HT6.out,must_ok hT9],rfl,p9 _ _ _ HP9.out,s9 _ _ _ (fil_list 8 HS9.out (fun b hb=>by have:=hb.1;omega) (fun b hb=>by omega))⟩
    ·refine ⟨rfl,?_⟩
     go_wp2
     obtain ⟨W9,hW9⟩:∃ W9,((((((w9.setCell ⟨w.heap.size + 1,0,none⟩ (.int .i64 8)).setCell ⟨w.heap.size + 1,1,none⟩ (.string ⟨#[]⟩)).setCell ⟨w.heap.size + 1,2,none⟩ (.slice none 0 0)).setCell ⟨w.heap.size + 1,3,none⟩ (.int .i64 0)).setCell ⟨w.heap.size + 1,4,none⟩ (.int .i64 0)).setCell ⟨w.heap.size + 1,5,none⟩ (.slice za us6.length zc))=W9:=⟨_,rfl⟩
     obtain ⟨k9,g9,p9,s9⟩:=resultAt (p:=p) (R:=w.heap.size + 1) HF9.out.r HG9.out hlt (Nat.le_succ _) HNB.out hW9
     rw [hW9]
     obtain ⟨⟨e0,e1,e2,e3,e4,e5⟩,_⟩:=box6k k9
     refine bodyPost_ret (v:=.tuple #[.agg #[.int .i64 8,.string ⟨#[]⟩,.slice none 0 0,.int .i64 0,.int .i64 0,.slice za us6.length zc],errF (Prs.next r6).pos]) (by simp [results,Tryz.results223,go_sem,e0,e1,e2,e3,e4,e5]) rfl ⟨g9,_,_,_,_,_,_,_,_,_,_,_,rfl,?_⟩
     exact Or.inr ⟨_,by rw [HQ.out,bindR_ok HT6.out,must_no hT9],rfl,_,_,_,p9 _ _ _ HP9.out⟩
  ·refine FlowQ.wp_region 2 [2,3,4] (.agg #[.int .i64 8,.string ⟨#[]⟩,.slice none 0 0,.int .i64 0,.int .i64 0,.slice ya us.length yc]) (Flow.specs [.inl undef,.inl (.pointer (some ⟨B,0,none⟩))]) (by kernel_rfl) (by kernel_rfl) ?_ rfl (fun w' hw=>by have hcl:=Flow.bcell hw;clear hw;go_simp) ?_
   ·refine Flow.specs_mono ?_
    repeat (first | exact Flow.lmono_nil | refine Flow.lmono_inl ?_)
   simp only [Nat.reduceSub,List.take_succ_cons,List.take_zero]
   (refine Flow.tree_valK rfl (fun K hK=>⟨fun w hw hG => ?_,?_⟩);(have hcl:=Flow.bcell hw;clear hG hw;unfold Flow.Runs Flow.yields;go_simp;try rfl);go_simp;refine hK _ ?_;clear hK K)
   refine Flow.tree_nil fun w8 hw8 hG => ?_
   have HFA:=Lib.hid (fail_any w8 (HP5.out.below hw8))
   have HF8:=Lib.hid (HF5.out.stepB (grB_below (B:=B) hw8) hlt)
   have HG8:=Lib.hid (HG5.out.trans_below hw8)
   have HP8:=Lib.hid (HP5.out.below hw8)
   clear hG hw8
   refine ⟨?_,?_⟩
   all_goals
    go_wp2_with (
     go_at_call 134;refine HFA.out.mono ?_;clear HFA;rintro e w9 ⟨rfl,hB9⟩;
       have hF9:=HF8.out.stepB (grB_below (B:=B) hB9) hlt;
       have cF:=(box6k hF9.f).1;have zF:=(box6k hF9.f).2;have zR:=(box6k hF9.r).2;have cR:=(box6k hF9.r).1;
       have hFs:=hF9.lt;have hRs:w.heap.size + 1 < w9.heap.size:=(by omega);
       have hFs2:w.heap.size + 2 < w9.heap.size:=(by omega);
       have hNs:w.heap.size < w9.heap.size:=(by omega);
       have ca:=cell_of_row w9 w.heap.size 0 _ _ _ hF9.a;
       simp only [List.getElem?_toArray,List.getElem?_cons_zero] at ca;
       have HF9:=Lib.hid hF9;have HP9:=Lib.hid (HP8.out.below hB9);have HG9:=Lib.hid (HG8.out.trans_below hB9);clear hF9 hB9)
    refine ⟨rfl,?_⟩
    go_wp2
    obtain ⟨W9,hW9⟩:∃ W9,((((((w9.setCell ⟨w.heap.size + 1,0,none⟩ (.int .i64 8)).setCell ⟨w.heap.size + 1,1,none⟩ (.string ⟨#[]⟩)).setCell ⟨w.heap.size + 1,2,none⟩ (.slice none 0 0)).setCell ⟨w.heap.size + 1,3,none⟩ (.int .i64 0)).setCell ⟨w.heap.size + 1,4,none⟩ (.int .i64 0)).setCell ⟨w.heap.size + 1,5,none⟩ (.slice ya us.length yc))=W9:=⟨_,rfl⟩
    obtain ⟨k9,g9,p9,s9⟩:=resultAt (p:=p) (R:=w.heap.size + 1) HF9.out.r HG9.out hlt (Nat.le_succ _) HNB.out hW9
    rw [hW9]
    obtain ⟨⟨e0,e1,e2,e3,e4,e5⟩,_⟩:=box6k k9
    refine bodyPost_ret (v:=.tuple #[.agg #[.int .i64 8,.string ⟨#[]⟩,.slice none 0 0,.int .i64 0,.int .i64 0,.slice ya us.length yc],errF (Prs.next r).pos]) (by simp [results,Tryz.results223,go_sem,e0,e1,e2,e3,e4,e5]) rfl ⟨g9,_,_,_,_,_,_,_,_,_,_,_,rfl,?_⟩
    exact Or.inr ⟨_,sevR_no HT2.out HT5.out,rfl,_,_,_,p9 _ _ _ HP9.out⟩
 ·obtain ⟨W9,hW9⟩:∃ W9,((((((w2.setCell ⟨w.heap.size + 1,0,none⟩ (.int .i64 8)).setCell ⟨w.heap.size + 1,1,none⟩ (.string ⟨#[]⟩)).setCell ⟨w.heap.size + 1,2,none⟩ (.slice none 0 0)).setCell ⟨w.heap.size + 1,3,none⟩ (.int .i64 0)).setCell ⟨w.heap.size + 1,4,none⟩ (.int .i64 0)).setCell ⟨w.heap.size + 1,5,none⟩ (.slice ya yn yc))=W9:=⟨_,rfl⟩
  obtain ⟨k9,g9,p9,s9⟩:=resultAt (p:=p) (R:=w.heap.size + 1) HF2.out.r HG2.out hlt (Nat.le_succ _) HNB.out hW9
  rw [hW9]
  obtain ⟨⟨e0,e1,e2,e3,e4,e5⟩,_⟩:=box6k k9
  refine bodyPost_ret (v:=.tuple #[.agg #[.int .i64 8,.string ⟨#[]⟩,.slice none 0 0,.int .i64 0,.int .i64 0,.slice ya yn yc],errF k]) (by simp [results,Tryz.results223,go_sem,e0,e1,e2,e3,e4,e5]) rfl ⟨g9,_,_,_,_,_,_,_,_,_,_,_,rfl,?_⟩
  exact Or.inr ⟨k,sevR_err HT2.out,rfl,_,_,_,p9 _ _ _ HP2.out⟩
end Go.Proofs.YtmfnhjdeoklnlaaGreatDoor
