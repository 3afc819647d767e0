/- Joined by mergeQ.py: Q18, Q19, Q20 -/
import Derived.Test.YtbbgjjjeecfnoaaGreatDoorXQD
namespace Go.Proofs.YtbbgjjjeecfnoaaGreatDoor
open Go.RowKit Go.Sort
open Tess (Fil Tok Prs.next Prs.skip Prs.isT Prs.Endd Prs.Keeps)
theorem resultAt {p:Nat→Prop} {B R:Nat} {w X W9:World} {t:TypeId} {z0 z1 z2 z3 z4 z5 y0 y1 y2 y3 y4 y5:Value} (hR:X.heap[R]? = some (.cells #[z0,z1,z2,z3,z4,z5] t (0,0))) (hG:w.grownBy X (some B)) (hlt:B < w.heap.size) (hwR:w.heap.size≤R) (hb:¬ p B)
  (hW:((((((X.setCell ⟨R,0,none⟩ y0).setCell ⟨R,1,none⟩ y1).setCell ⟨R,2,none⟩ y2).setCell ⟨R,3,none⟩ y3).setCell ⟨R,4,none⟩ y4).setCell ⟨R,5,none⟩ y5)=W9) :
  W9.heap[R]? = some (.cells #[y0,y1,y2,y3,y4,y5] t (0,0))∧w.grownBy W9 (some B) ∧
   (∀ ts v qs,PsAt (fun b=>p b∧b < w.heap.size) B ts v qs X→PsAt p B ts v qs W9)∧(∀ n v f,FilAt (fun b=>R + 1≤b) n X v f→FilAt (fun b=>w.heap.size≤b) n W9 v f):=by
 refine ⟨hW ▸ set6 _ _ _ _ _ _ hR,hW ▸ (((((hG.setN 0 _ hwR).setN 1 _ hwR).setN 2 _ hwR).setN 3 _ hwR).setN 4 _ hwR).setN 5 _ hwR,fun ts v qs h => ?_,fun n v f h => ?_⟩
 ·have n1:R≠B:=by omega
  have n2:¬ ((fun b=>p b∧b < w.heap.size) R):=fun h=>by have:=h.2;omega
  exact hW ▸ PsAt.weak (fun b hb=>hb.1) hb ((((((h.set 0 _ n1 n2).set 1 _ n1 n2).set 2 _ n1 n2).set 3 _ n1 n2).set 4 _ n1 n2).set 5 _ n1 n2)
 ·exact hW ▸ (h.ag (set6_ag _ _ _ _ _ _ _ (by show ¬ (R + 1≤R);omega))).weak fun b hb=>by have:R + 1≤b:=hb;omega
theorem fil_list {q:Nat→Prop} {N d:Nat} {W:World} {lv:Value} {us:List Value} {fs:List Fil} {p:Nat→Prop} (k:Int) (h:Fils N p d W lv us fs) (hpq:∀ b,p b→q b) (hN:∀ b,N≤b→q b) :
  FilAt q (d + 1) W (.agg #[.int .i64 k,.string ⟨#[]⟩,.slice none 0 0,.int .i64 0,.int .i64 0,lv]) (.mk k ByteArray.empty [] 0 0 fs):=by
 obtain ⟨a,cap,rfl,h1,h2,h3⟩:=h.listed hpq hN
 exact ⟨.slice none 0 0,a,cap,rfl,Nat.zero_le _,SlP.nil q W,fun x hx=>(by cases hx),h1,h2,h3⟩
def sevR (f:Nat) (ts:List Tok):Tess.Prs.R Fil:=Tess.Prs.bindR (Tess.Prs.filter f ts) fun x r2=>Tess.Prs.several (Tess.Prs.filter f) x r2
section
variable {f:Nat} {ts r r2:List Tok} {x:Fil}
theorem sevR_err {k:Nat} (h:Tess.Prs.filter f ts = .error k):sevR f ts = .error k:=by unfold sevR;rw [bindR_err h]
theorem sevR_no (h:Tess.Prs.filter f ts = .ok (x,r)) (h2:Prs.isT [Tess.Prs.wAnd,Tess.Prs.wOr] r=none):sevR f ts = .error (Prs.next r).pos:=by
 unfold sevR Tess.Prs.several Tess.Prs.isR;rw [bindR_ok h,h2];rfl
theorem sevR_more (h:Tess.Prs.filter f ts = .ok (x,r)) (h2:Prs.isT [Tess.Prs.wAnd,Tess.Prs.wOr] r=some r2) :
  sevR f ts=Tess.Prs.bindR (Tess.Prs.list (Prs.next r).text (Tess.Prs.filter f) r2.length r2) fun l r4=>Tess.Prs.must Tess.Prs.wClose r4 fun r5 => .ok (.mk (if (Prs.next r).text=Tess.Prs.wOr then 9 else 8) ByteArray.empty [] 0 0 (x :: l),r5):=by
 unfold sevR Tess.Prs.several Tess.Prs.isR;rw [bindR_ok h,h2]
end
theorem two_texts (x y:ByteArray) (B:Nat) (w:World) (hB:B < w.heap.size) (W':World) (h:(w.alloc (.cells #[.string x,.string y] 9)).grownBy W' (some B)):SlOf W' (.slice (some ⟨w.heap.size,0,none⟩) 2 2) ([x,y].map .string):=by
 obtain ⟨a1,a2,a3⟩:=laid1 w (.cells #[.string x,.string y] 9)
 have hb:=(h.block w.heap.size (by omega) (by intro e;have:=Option.some.inj e;omega)).trans a1
 refine ⟨by show 2≤maxLen;decide,_,_,rfl,fun _=>⟨_,_,rfl,(Array.getElem?_eq_some_iff.1 hb).1,fun j hj => ?_⟩⟩
 have hj:j < 2:=hj
 rw [cell_of_row _ _ (0 + j) _ _ _ hb]
 rcases (show j=0∨j=1 by omega) with rfl | rfl <;> rfl
theorem isAO_any {p:Nat→Prop} {B:Nat} {ts:List Tok} {v:Value} {qs:List Value} (x y:ByteArray) {c:Nat} (w:World) (hc:c=w.heap.size) (h:PsAt p B ts v qs w) :
  Calls Tryz.prog 144 #[.pointer (some ⟨B,0,none⟩),.slice (some ⟨c,0,none⟩) 2 2] (w.alloc (.cells #[.string x,.string y] 9)) fun e w'=>w.grownBy w' (some B) ∧
   ((∃ r v',Prs.isT [x,y] ts=some r∧e = .returned (.bool true)∧PsAt p B r v' qs w')∨(Prs.isT [x,y] ts=none∧e = .returned (.bool false)∧∃ v',PsAt p B ts v' qs w')):=by
 subst hc
 refine (pis_any (.slice (some ⟨w.heap.size,0,none⟩) 2 2) [x,y] (w.alloc (.cells #[.string x,.string y] 9)) (h.below ((Below.refl _ _).alloc (Nat.le_refl _) _)) (two_texts x y B w h.lt)).mono ?_
 rintro e w' ⟨rfl,v',hP,hG⟩
 refine ⟨(grB_alloc w _ B).transB hG,?_⟩
 cases hT:Prs.isT [x,y] ts with
 | some r=>rw [hT] at hP;exact Or.inl ⟨r,v',rfl,rfl,hP⟩
 | none=>rw [hT] at hP;exact Or.inr ⟨rfl,rfl,v',hP⟩
set_option maxRecDepth 100000 in
set_option maxHeartbeats 8000000 in
theorem several_any {f:Nat} (IH:Filts f) (hf:f≤1000000) {p:Nat→Prop} {B:Nat} {ts:List Tok} {v:Value} {qs:List Value} (w:World) (h:PsAt p B ts v qs w) (he:Prs.Endd ts) (hL:ts.length≤f) :
  Calls Tryz.prog 300 #[.pointer (some ⟨B,0,none⟩)] w fun e w'=>w.grownBy w' (some B)∧FilOut p B w.heap.size (f + 1) qs (sevR f) ts e w':=by
 have hlt:=h.lt
 have HNB:=Lib.hid h.b
 have HL:=Lib.hid (laid3 w (.cells #[.pointer (some ⟨B,0,none⟩)] 124) (.cells #[.int .i64 0,.string ⟨#[]⟩,.slice none 0 0,.int .i64 0,.int .i64 0,.slice none 0 0] 31) (.cells #[.int .i64 8,.string ⟨#[]⟩,.slice none 0 0,.int .i64 0,.int .i64 0,.slice none 0 0] 31))
 have HB:=HL.out.2.2.2.2
 have HS:=HL.out.2.2.2.1
 have HF0:=Lib.hid (⟨HL.out.1,HL.out.2.1,HL.out.2.2.1⟩:SvF w.heap.size B 8 (.slice none 0 0) _)
 have HR1:=Lib.hid (several1_any (p:=fun b=>p b∧b < w.heap.size) (k:=8) (qs0:=qs) (L:=f) IH w (fun b hb=>hb.2) hlt hf (Nat.le_refl _) rfl [] ts v qs _ (h.ltP.below HB) he (grB_below HB) ⟨rfl,none,0,[],HF0.out,⟨World.ownsRow_nil _ _ _ _,rfl,fun j hj=>absurd hj (Nat.not_lt_zero _)⟩⟩ (by simpa using hL))
 have HE:=Lib.hid he
 have HKP:=Lib.hid (Tess.Prs.filter_keeps f)
 clear h he HB HS
 go_enter Tryz.func300,Tryz.ntmps300
 go_wp2_with (first
  | (go_at_call 325;refine HR1.out.mono ?_;clear HR1;rintro e w2 ⟨hG2,⟨x,r,v2,qs2,ht,rfl,hP2,hE2⟩ | ⟨k,ht,rfl,⟨ya,yn,yc,hF2⟩,ts2,v2,qs2,hP2⟩⟩ <;>
      (try (obtain ⟨hqx,ya,yc,us,hF2,hS2⟩:=hE2;rw [hqx] at hP2;clear hqx)
       have cF:=(box6k hF2.f).1;have zF:=(box6k hF2.f).2;have zR:=(box6k hF2.r).2;have cR:=(box6k hF2.r).1
       have hFs:=hF2.lt;have hRs:w.heap.size + 1 < w2.heap.size:=by omega
       have ca:=cell_of_row w2 w.heap.size 0 _ _ _ hF2.a
       simp only [List.getElem?_toArray,List.getElem?_cons_zero] at ca
       have HF2:=Lib.hid hF2;have HP2:=Lib.hid hP2;have HG2:=Lib.hid hG2;have HT2:=Lib.hid ht;clear hF2 hP2 hG2 ht))
  | (go_at_call 216;refine (pnext_any _ HP2.out).mono ?_;rintro e w3 ⟨rfl,hB3⟩;unfold tkV tkF;
       have hF3:=HF2.out.stepB (grB_below (B:=B) hB3) hlt;
       have hS3:=hS2.below hB3;
       have hP3:=HP2.out.below hB3;
       have hG3:=HG2.out.trans_below hB3;
       have h3a:=hF3.lt;
       rcases (Decidable.em ((Prs.next r).text=⟨#[111,114]⟩)) with hor | hor <;> first
        | (rw [hor]
           have HX:=Lib.hid hor
           have HP4:=Lib.hid (hP3.set (g:=w.heap.size + 2) 0 (.int .i64 9) (by omega) (fun h=>by have:=h.2;omega))
           have HF4:=Lib.hid (hF3.kind 9)
           have HG4:=Lib.hid (hG3.setN (g:=w.heap.size + 2) 0 (.int .i64 9) (by omega))
           have HS4:=Lib.hid (hS3.set (g:=w.heap.size + 2) (i:=0) (by omega) (fun b hb=>hb.1) (.int .i64 9))
           have cF:=(box6k hF3.f).1;have zF:=(box6k hF3.f).2;have zR:=(box6k hF3.r).2;have cR:=(box6k hF3.r).1
           have hFs:=hF3.lt;have hRs:w.heap.size + 1 < w3.heap.size:=by omega
           have hFs2:w.heap.size + 2 < w3.heap.size:=by omega
           have hNs:w.heap.size < w3.heap.size:=by omega
           have ca:=cell_of_row w3 w.heap.size 0 _ _ _ hF3.a
           simp only [List.getElem?_toArray,List.getElem?_cons_zero] at ca
           clear hF3 hP3 hG3 hS3 hor)
        | (have hne:((Prs.next r).text.toList == [111,114])=false:=by
             rw [beq_eq_false_iff_ne]
             intro e
             exact hor (str_inj (by rw [e,ByteArray.toList_eq]))
           have HX:=Lib.hid hor
           have HP4:=Lib.hid hP3
           have HF4:=Lib.hid hF3
           have HG4:=Lib.hid hG3
           have HS4:=Lib.hid hS3
           have cF:=(box6k hF3.f).1;have zF:=(box6k hF3.f).2;have zR:=(box6k hF3.r).2;have cR:=(box6k hF3.r).1
           have hFs:=hF3.lt;have hRs:w.heap.size + 1 < w3.heap.size:=by omega
           have hFs2:w.heap.size + 2 < w3.heap.size:=by omega
           have hNs:w.heap.size < w3.heap.size:=by omega
           have ca:=cell_of_row w3 w.heap.size 0 _ _ _ hF3.a
           simp only [List.getElem?_toArray,List.getElem?_cons_zero] at ca
           clear hF3 hP3 hG3 hS3 hor)))
 ·go_wp2_with (
   go_at_call 144;refine (isAO_any Tess.Prs.wAnd Tess.Prs.wOr _ (by rw [setSize]) HP4.out).mono ?_;rintro e w5 ⟨hG5,⟨r5,v5,hT5,rfl,hP5⟩ | ⟨hT5,rfl,v5,hP5⟩⟩ <;>
    (have hF5:=HF4.out.stepB hG5 hlt
     have hS5:=HS4.out.grB hG5 (by omega) (fun b hb=>hb.1)
     have cF:=(box6k hF5.f).1;have zF:=(box6k hF5.f).2;have zR:=(box6k hF5.r).2;have cR:=(box6k hF5.r).1
     have hFs:=hF5.lt;have hRs:w.heap.size + 1 < w5.heap.size:=by omega
     have hFs2:w.heap.size + 2 < w5.heap.size:=by omega
     have hNs:w.heap.size < w5.heap.size:=by omega
     have ca:=cell_of_row w5 w.heap.size 0 _ _ _ hF5.a
     simp only [List.getElem?_toArray,List.getElem?_cons_zero] at ca
     have HF5:=Lib.hid hF5;have HP5:=Lib.hid hP5;have HG5:=Lib.hid (HG4.out.transB hG5);have HT5:=Lib.hid hT5;have HS5:=Lib.hid hS5;clear hF5 hP5 hG5 hT5 hS5))
  ·have k2:=HKP.out ts x r HE.out HT2.out
   have k3:=k2.1.isT HT5.out
   have kl:=k2.2.length_le
   have HM:=Lib.hid (list_several (p:=fun b=>p b∧b < w.heap.size) ⟨#[111,114]⟩ (Tess.Prs.filter f) (.pointer (some ⟨w.heap.size,0,none⟩)) (.pointer (some ⟨w.heap.size + 2,0,none⟩)) (fun acc=>SvEx w.heap.size B 9 f qs (x :: acc)) (fun W => ∃ x n c,SvF w.heap.size B 9 (.slice x n c) W) (f - 1) w w5
    HP5.out k3.1 HKP.out HG5.out ⟨rfl,ya,yc,us,HF5.out,HS5.out⟩ (by have:=k3.2.1;omega) (fun acc=>SvEx.steady hlt (x :: acc))
    (fun acc us' v' qs' W' a1 a2 a3 a4 a5=>several1_any (p:=fun b=>p b∧b < w.heap.size) (k:=9) (qs0:=qs) (L:=f) IH w (fun b hb=>hb.2) hlt hf (Nat.le_refl _) rfl (x :: acc) us' v' qs' W' a1 a2 a3 a4 (by have:=List.length_pos_iff.2 a1.ne;simp only [List.length_cons];omega)))
   have HQ:=Lib.hid (sevR_more HT2.out HT5.out)
   have hnk:Int:=9
   clear k2 k3 kl hnk
   go_wp2_with (
    go_at_call 141;refine HM.out.mono ?_;clear HM;rintro e w6 ⟨hG6,⟨l,r6,v6,qs6,hl6,rfl,hP6,hE6⟩ | ⟨k,hl6,rfl,⟨za,zn,zc,hF6⟩,ts6,v6,qs6,hP6⟩⟩ <;>
     (try (obtain ⟨hqx,za,zc,us6,hF6,hS6⟩:=hE6;rw [hqx] at hP6;clear hqx)
      have cF:=(box6k hF6.f).1;have zF:=(box6k hF6.f).2;have zR:=(box6k hF6.r).2;have cR:=(box6k hF6.r).1
      have hFs:=hF6.lt;have hRs:w.heap.size + 1 < w6.heap.size:=by omega
      have hFs2:w.heap.size + 2 < w6.heap.size:=by omega
      have hNs:w.heap.size < w6.heap.size:=by omega
      have ca:=cell_of_row w6 w.heap.size 0 _ _ _ hF6.a
      simp only [List.getElem?_toArray,List.getElem?_cons_zero] at ca
      have HF6:=Lib.hid hF6;have HP6:=Lib.hid hP6;have HG6:=Lib.hid hG6;have HT6:=Lib.hid hl6;clear hF6 hP6 hG6 hl6))
   rotate_left
   ·obtain ⟨W9,hW9⟩:∃ W9,((((((w6.setCell ⟨w.heap.size + 1,0,none⟩ (.int .i64 9)).setCell ⟨w.heap.size + 1,1,none⟩ (.string ⟨#[]⟩)).setCell ⟨w.heap.size + 1,2,none⟩ (.slice none 0 0)).setCell ⟨w.heap.size + 1,3,none⟩ (.int .i64 0)).setCell ⟨w.heap.size + 1,4,none⟩ (.int .i64 0)).setCell ⟨w.heap.size + 1,5,none⟩ (.slice za zn zc))=W9:=⟨_,rfl⟩
    obtain ⟨k9,g9,p9,s9⟩:=resultAt (p:=p) (R:=w.heap.size + 1) HF6.out.r HG6.out hlt (Nat.le_succ _) HNB.out hW9
    rw [hW9]
    obtain ⟨⟨e0,e1,e2,e3,e4,e5⟩,_⟩:=box6k k9
    refine bodyPost_ret (v:=.tuple #[.agg #[.int .i64 9,.string ⟨#[]⟩,.slice none 0 0,.int .i64 0,.int .i64 0,.slice za zn zc],errF k]) (by simp [results,Tryz.results300,go_sem,e0,e1,e2,e3,e4,e5]) rfl ⟨g9,_,_,_,_,_,_,_,_,_,_,_,rfl,?_⟩
    exact Or.inr ⟨k,by rw [HQ.out,HX.out,bindR_err HT6.out],rfl,_,_,_,p9 _ _ _ HP6.out⟩
   have HS6:=Lib.hid hS6
   clear hS6
   refine FlowQ.wp_region 3 [3,4,5] (.agg #[.int .i64 9,.string ⟨#[]⟩,.slice none 0 0,.int .i64 0,.int .i64 0,.slice za us6.length zc]) (Flow.specs [.inl undef,.inl (.pointer (some ⟨B,0,none⟩)),.inr (newRow [.string Tess.Prs.wClose])]) (by kernel_rfl) (by kernel_rfl) ?_ rfl (fun w' hw=>by have hcl:=Flow.bcell hw;clear hw;go_simp) ?_
   ·refine Flow.specs_mono ?_
    repeat (first | exact Flow.lmono_nil | refine Flow.lmono_inl ?_ | refine Flow.lmono_inr (newRow_mono _) ?_)
   simp only [Nat.reduceSub,List.take_succ_cons,List.take_zero]
   (refine Flow.tree_valK rfl (fun K hK=>⟨fun w hw hG => ?_,?_⟩);(have hcl:=Flow.bcell hw;clear hG hw;unfold Flow.Runs Flow.yields;go_simp;try rfl);go_simp;refine hK _ ?_;clear hK K)
   (refine Flow.tree_varK rfl (fun K hK=>⟨fun w hw hG => ?_,?_⟩);(clear hG hw;unfold Flow.Runs Flow.yields;go_simp;refine ⟨(Below.refl _ _).alloc (Nat.le_refl _) _,?_⟩);rotate_left;intro vz;go_simp;refine hK _ _ ?_;clear hK K;rotate_left)
   ·exact newRow_mk _ _ _
   refine Flow.tree_nil fun w8 hw8 hG => ?_
   obtain ⟨gn,rfl,hgn,hcn⟩:=(show newRow [.string Tess.Prs.wClose] vz w8 by simpa [Flow.upd] using hG 2)
   have HMU:=Lib.hid (must_any gn 0 1 Tess.Prs.wClose w8 (HP6.out.below hw8) (hcn 0 _ rfl))
   have HF8:=Lib.hid (HF6.out.stepB (grB_below (B:=B) hw8) hlt)
   have HG8:=Lib.hid (HG6.out.trans_below hw8)
   have HS8:=Lib.hid (HS6.out.below hw8)
   clear hG hw8 hcn
   refine ⟨?_,?_⟩
   all_goals
    go_wp2_with (
     go_at_call 140;refine HMU.out.mono ?_;clear HMU;rintro e w9 (⟨r9,hT9,rfl,v9,hP9,hG9⟩ | ⟨hT9,rfl,v9,hP9,hG9⟩) <;>
      (have hF9:=HF8.out.stepB hG9 hlt
       have cF:=(box6k hF9.f).1;have zF:=(box6k hF9.f).2;have zR:=(box6k hF9.r).2;have cR:=(box6k hF9.r).1
       have hFs:=hF9.lt;have hRs:w.heap.size + 1 < w9.heap.size:=by omega
       have hFs2:w.heap.size + 2 < w9.heap.size:=by omega
       have hNs:w.heap.size < w9.heap.size:=by omega
       have ca:=cell_of_row w9 w.heap.size 0 _ _ _ hF9.a
       simp only [List.getElem?_toArray,List.getElem?_cons_zero] at ca
       have HF9:=Lib.hid hF9;have HP9:=Lib.hid hP9;have HG9:=Lib.hid (HG8.out.transB hG9);have HS9:=Lib.hid (HS8.out.grB hG9 (by omega) (fun b hb=>hb.1));clear hF9 hP9 hG9))
    ·refine ⟨rfl,?_⟩
     go_wp2
     obtain ⟨W9,hW9⟩:∃ W9,((((((w9.setCell ⟨w.heap.size + 1,0,none⟩ (.int .i64 9)).setCell ⟨w.heap.size + 1,1,none⟩ (.string ⟨#[]⟩)).setCell ⟨w.heap.size + 1,2,none⟩ (.slice none 0 0)).setCell ⟨w.heap.size + 1,3,none⟩ (.int .i64 0)).setCell ⟨w.heap.size + 1,4,none⟩ (.int .i64 0)).setCell ⟨w.heap.size + 1,5,none⟩ (.slice za us6.length zc))=W9:=⟨_,rfl⟩
     obtain ⟨k9,g9,p9,s9⟩:=resultAt (p:=p) (R:=w.heap.size + 1) HF9.out.r HG9.out hlt (Nat.le_succ _) HNB.out hW9
     rw [hW9]
     obtain ⟨⟨e0,e1,e2,e3,e4,e5⟩,_⟩:=box6k k9
     refine bodyPost_ret (v:=.tuple #[.agg #[.int .i64 9,.string ⟨#[]⟩,.slice none 0 0,.int .i64 0,.int .i64 0,.slice za us6.length zc],.nilIface]) (by simp [results,Tryz.results300,go_sem,e0,e1,e2,e3,e4,e5]) rfl ⟨g9,_,_,_,_,_,_,_,_,_,_,_,rfl,?_⟩
     exact Or.inl ⟨.mk 9 ByteArray.empty [] 0 0 (x :: l),r9,v9,by rw [HQ.out,HX.out,if_pos (show (⟨#[111,114]⟩:ByteArray)=Tess.Prs.wOr from rfl),bindR_ok HT6.out,must_ok hT9],rfl,p9 _ _ _ HP9.out,s9 _ _ _ (fil_list 9 HS9.out (fun b hb=>by have:=hb.1;omega) (fun b hb=>by omega))⟩
    ·refine ⟨rfl,?_⟩
     go_wp2
     obtain ⟨W9,hW9⟩:∃ W9,((((((w9.setCell ⟨w.heap.size + 1,0,none⟩ (.int .i64 9)).setCell ⟨w.heap.size + 1,1,none⟩ (.string ⟨#[]⟩)).setCell ⟨w.heap.size + 1,2,none⟩ (.slice none 0 0)).setCell ⟨w.heap.size + 1,3,none⟩ (.int .i64 0)).setCell ⟨w.heap.size + 1,4,none⟩ (.int .i64 0)).setCell ⟨w.heap.size + 1,5,none⟩ (.slice za us6.length zc))=W9:=⟨_,rfl⟩
     obtain ⟨k9,g9,p9,s9⟩:=resultAt (p:=p) (R:=w.heap.size + 1) HF9.out.r HG9.out hlt (Nat.le_succ _) HNB.out hW9
     rw [hW9]
     obtain ⟨⟨e0,e1,e2,e3,e4,e5⟩,_⟩:=box6k k9
     refine bodyPost_ret (v:=.tuple #[.agg #[.int .i64 9,.string ⟨#[]⟩,.slice none 0 0,.int .i64 0,.int .i64 0,.slice za us6.length zc],errF (Prs.next r6).pos]) (by simp [results,Tryz.results300,go_sem,e0,e1,e2,e3,e4,e5]) rfl ⟨g9,_,_,_,_,_,_,_,_,_,_,_,rfl,?_⟩
     exact Or.inr ⟨_,by rw [HQ.out,HX.out,bindR_ok HT6.out,must_no hT9],rfl,_,_,_,p9 _ _ _ HP9.out⟩
  ·refine FlowQ.wp_region 2 [2,3,4] (.agg #[.int .i64 9,.string ⟨#[]⟩,.slice none 0 0,.int .i64 0,.int .i64 0,.slice ya us.length yc]) (Flow.specs [.inl undef,.inl (.pointer (some ⟨B,0,none⟩))]) (by kernel_rfl) (by kernel_rfl) ?_ rfl (fun w' hw=>by have hcl:=Flow.bcell hw;clear hw;go_simp) ?_
   ·refine Flow.specs_mono ?_
    repeat (first | exact Flow.lmono_nil | refine Flow.lmono_inl ?_)
   simp only [Nat.reduceSub,List.take_succ_cons,List.take_zero]
   (refine Flow.tree_valK rfl (fun K hK=>⟨fun w hw hG => ?_,?_⟩);(have hcl:=Flow.bcell hw;clear hG hw;unfold Flow.Runs Flow.yields;go_simp;try rfl);go_simp;refine hK _ ?_;clear hK K)
   refine Flow.tree_nil fun w8 hw8 hG => ?_
   have HFA:=Lib.hid (fail_any w8 (HP5.out.below hw8))
   have HF8:=Lib.hid (HF5.out.stepB (grB_below (B:=B) hw8) hlt)
   have HG8:=Lib.hid (HG5.out.trans_below hw8)
   have HP8:=Lib.hid (HP5.out.below hw8)
   clear hG hw8
   refine ⟨?_,?_⟩
   all_goals
    go_wp2_with (
     go_at_call 215;refine HFA.out.mono ?_;clear HFA;rintro e w9 ⟨rfl,hB9⟩;
       have hF9:=HF8.out.stepB (grB_below (B:=B) hB9) hlt;
       have cF:=(box6k hF9.f).1;have zF:=(box6k hF9.f).2;have zR:=(box6k hF9.r).2;have cR:=(box6k hF9.r).1;
       have hFs:=hF9.lt;have hRs:w.heap.size + 1 < w9.heap.size:=(by omega);
       have hFs2:w.heap.size + 2 < w9.heap.size:=(by omega);
       have hNs:w.heap.size < w9.heap.size:=(by omega);
       have ca:=cell_of_row w9 w.heap.size 0 _ _ _ hF9.a;
       simp only [List.getElem?_toArray,List.getElem?_cons_zero] at ca;
       have HF9:=Lib.hid hF9;have HP9:=Lib.hid (HP8.out.below hB9);have HG9:=Lib.hid (HG8.out.trans_below hB9);clear hF9 hB9)
    refine ⟨rfl,?_⟩
    go_wp2
    obtain ⟨W9,hW9⟩:∃ W9,((((((w9.setCell ⟨w.heap.size + 1,0,none⟩ (.int .i64 9)).setCell ⟨w.heap.size + 1,1,none⟩ (.string ⟨#[]⟩)).setCell ⟨w.heap.size + 1,2,none⟩ (.slice none 0 0)).setCell ⟨w.heap.size + 1,3,none⟩ (.int .i64 0)).setCell ⟨w.heap.size + 1,4,none⟩ (.int .i64 0)).setCell ⟨w.heap.size + 1,5,none⟩ (.slice ya us.length yc))=W9:=⟨_,rfl⟩
    obtain ⟨k9,g9,p9,s9⟩:=resultAt (p:=p) (R:=w.heap.size + 1) HF9.out.r HG9.out hlt (Nat.le_succ _) HNB.out hW9
    rw [hW9]
    obtain ⟨⟨e0,e1,e2,e3,e4,e5⟩,_⟩:=box6k k9
    refine bodyPost_ret (v:=.tuple #[.agg #[.int .i64 9,.string ⟨#[]⟩,.slice none 0 0,.int .i64 0,.int .i64 0,.slice ya us.length yc],errF (Prs.next r).pos]) (by simp [results,Tryz.results300,go_sem,e0,e1,e2,e3,e4,e5]) rfl ⟨g9,_,_,_,_,_,_,_,_,_,_,_,rfl,?_⟩
    exact Or.inr ⟨_,sevR_no HT2.out HT5.out,rfl,_,_,_,p9 _ _ _ HP9.out⟩
 ·go_wp2_with (
   go_at_call 144;refine (isAO_any Tess.Prs.wAnd Tess.Prs.wOr _ rfl HP4.out).mono ?_;rintro e w5 ⟨hG5,⟨r5,v5,hT5,rfl,hP5⟩ | ⟨hT5,rfl,v5,hP5⟩⟩ <;>
    (have hF5:=HF4.out.stepB hG5 hlt
     have hS5:=HS4.out.grB hG5 (by omega) (fun b hb=>hb.1)
     have cF:=(box6k hF5.f).1;have zF:=(box6k hF5.f).2;have zR:=(box6k hF5.r).2;have cR:=(box6k hF5.r).1
     have hFs:=hF5.lt;have hRs:w.heap.size + 1 < w5.heap.size:=by omega
     have hFs2:w.heap.size + 2 < w5.heap.size:=by omega
     have hNs:w.heap.size < w5.heap.size:=by omega
     have ca:=cell_of_row w5 w.heap.size 0 _ _ _ hF5.a
     simp only [List.getElem?_toArray,List.getElem?_cons_zero] at ca
     have HF5:=Lib.hid hF5;have HP5:=Lib.hid hP5;have HG5:=Lib.hid (HG4.out.transB hG5);have HT5:=Lib.hid hT5;have HS5:=Lib.hid hS5;clear hF5 hP5 hG5 hT5 hS5))
  ·have k2:=HKP.out ts x r HE.out HT2.out
   have k3:=k2.1.isT HT5.out
   have kl:=k2.2.length_le
   have HM:=Lib.hid (list_several (p:=fun b=>p b∧b < w.heap.size) (Prs.next r).text (Tess.Prs.filter f) (.pointer (some ⟨w.heap.size,0,none⟩)) (.pointer (some ⟨w.heap.size + 2,0,none⟩)) (fun acc=>SvEx w.heap.size B 8 f qs (x :: acc)) (fun W => ∃ x n c,SvF w.heap.size B 8 (.slice x n c) W) (f - 1) w w5
    HP5.out k3.1 HKP.out HG5.out ⟨rfl,ya,yc,us,HF5.out,HS5.out⟩ (by have:=k3.2.1;omega) (fun acc=>SvEx.steady hlt (x :: acc))
    (fun acc us' v' qs' W' a1 a2 a3 a4 a5=>several1_any (p:=fun b=>p b∧b < w.heap.size) (k:=8) (qs0:=qs) (L:=f) IH w (fun b hb=>hb.2) hlt hf (Nat.le_refl _) rfl (x :: acc) us' v' qs' W' a1 a2 a3 a4 (by have:=List.length_pos_iff.2 a1.ne;simp only [List.length_cons];omega)))
   have HQ:=Lib.hid (sevR_more HT2.out HT5.out)
   have hnk:Int:=8
   clear k2 k3 kl hnk
   go_wp2_with (
    go_at_call 141;refine HM.out.mono ?_;clear HM;rintro e w6 ⟨hG6,⟨l,r6,v6,qs6,hl6,rfl,hP6,hE6⟩ | ⟨k,hl6,rfl,⟨za,zn,zc,hF6⟩,ts6,v6,qs6,hP6⟩⟩ <;>
     (try (obtain ⟨hqx,za,zc,us6,hF6,hS6⟩:=hE6;rw [hqx] at hP6;clear hqx)
      have cF:=(box6k hF6.f).1;have zF:=(box6k hF6.f).2;have zR:=(box6k hF6.r).2;have cR:=(box6k hF6.r).1
      have hFs:=hF6.lt;have hRs:w.heap.size + 1 < w6.heap.size:=by omega
      have hFs2:w.heap.size + 2 < w6.heap.size:=by omega
      have hNs:w.heap.size < w6.heap.size:=by omega
      have ca:=cell_of_row w6 w.heap.size 0 _ _ _ hF6.a
      simp only [List.getElem?_toArray,List.getElem?_cons_zero] at ca
      have HF6:=Lib.hid hF6;have HP6:=Lib.hid hP6;have HG6:=Lib.hid hG6;have HT6:=Lib.hid hl6;clear hF6 hP6 hG6 hl6))
   rotate_left
   ·obtain ⟨W9,hW9⟩:∃ W9,((((((w6.setCell ⟨w.heap.size + 1,0,none⟩ (.int .i64 8)).setCell ⟨w.heap.size + 1,1,none⟩ (.string ⟨#[]⟩)).setCell ⟨w.heap.size + 1,2,none⟩ (.slice none 0 0)).setCell ⟨w.heap.size + 1,3,none⟩ (.int .i64 0)).setCell ⟨w.heap.size + 1,4,none⟩ (.int .i64 0)).setCell ⟨w.heap.size + 1,5,none⟩ (.slice za zn zc))=W9:=⟨_,rfl⟩
    obtain ⟨k9,g9,p9,s9⟩:=resultAt (p:=p) (R:=w.heap.size + 1) HF6.out.r HG6.out hlt (Nat.le_succ _) HNB.out hW9
    rw [hW9]
    obtain ⟨⟨e0,e1,e2,e3,e4,e5⟩,_⟩:=box6k k9
    refine bodyPost_ret (v:=.tuple #[.agg #[.int .i64 8,.string ⟨#[]⟩,.slice none 0 0,.int .i64 0,.int .i64 0,.slice za zn zc],errF k]) (by simp [results,Tryz.results300,go_sem,e0,e1,e2,e3,e4,e5]) rfl ⟨g9,_,_,_,_,_,_,_,_,_,_,_,rfl,?_⟩
    exact Or.inr ⟨k,by rw [HQ.out,bindR_err HT6.out],rfl,_,_,_,p9 _ _ _ HP6.out⟩
   have HS6:=Lib.hid hS6
   clear hS6
   refine FlowQ.wp_region 3 [3,4,5] (.agg #[.int .i64 8,.string ⟨#[]⟩,.slice none 0 0,.int .i64 0,.int .i64 0,.slice za us6.length zc]) (Flow.specs [.inl undef,.inl (.pointer (some ⟨B,0,none⟩)),.inr (newRow [.string Tess.Prs.wClose])]) (by kernel_rfl) (by kernel_rfl) ?_ rfl (fun w' hw=>by have hcl:=Flow.bcell hw;clear hw;go_simp) ?_
   ·refine Flow.specs_mono ?_
    repeat (first | exact Flow.lmono_nil | refine Flow.lmono_inl ?_ | refine Flow.lmono_inr (newRow_mono _) ?_)
   simp only [Nat.reduceSub,List.take_succ_cons,List.take_zero]
   (refine Flow.tree_valK rfl (fun K hK=>⟨fun w hw hG => ?_,?_⟩);(have hcl:=Flow.bcell hw;clear hG hw;unfold Flow.Runs Flow.yields;go_simp;try rfl);go_simp;refine hK _ ?_;clear hK K)
   (refine Flow.tree_varK rfl (fun K hK=>⟨fun w hw hG => ?_,?_⟩);(clear hG hw;unfold Flow.Runs Flow.yields;go_simp;refine ⟨(Below.refl _ _).alloc (Nat.le_refl _) _,?_⟩);rotate_left;intro vz;go_simp;refine hK _ _ ?_;clear hK K;rotate_left)
   ·exact newRow_mk _ _ _
   refine Flow.tree_nil fun w8 hw8 hG => ?_
   obtain ⟨gn,rfl,hgn,hcn⟩:=(show newRow [.string Tess.Prs.wClose] vz w8 by simpa [Flow.upd] using hG 2)
   have HMU:=Lib.hid (must_any gn 0 1 Tess.Prs.wClose w8 (HP6.out.below hw8) (hcn 0 _ rfl))
   have HF8:=Lib.hid (HF6.out.stepB (grB_below (B:=B) hw8) hlt)
   have HG8:=Lib.hid (HG6.out.trans_below hw8)
   have HS8:=Lib.hid (HS6.out.below hw8)
   clear hG hw8 hcn
   refine ⟨?_,?_⟩
   all_goals
    go_wp2_with (
     go_at_call 140;refine HMU.out.mono ?_;clear HMU;rintro e w9 (⟨r9,hT9,rfl,v9,hP9,hG9⟩ | ⟨hT9,rfl,v9,hP9,hG9⟩) <;>
      (have hF9:=HF8.out.stepB hG9 hlt
       have cF:=(box6k hF9.f).1;have zF:=(box6k hF9.f).2;have zR:=(box6k hF9.r).2;have cR:=(box6k hF9.r).1
       have hFs:=hF9.lt;have hRs:w.heap.size + 1 < w9.heap.size:=by omega
       have hFs2:w.heap.size + 2 < w9.heap.size:=by omega
       have hNs:w.heap.size < w9.heap.size:=by omega
       have ca:=cell_of_row w9 w.heap.size 0 _ _ _ hF9.a
       simp only [List.getElem?_toArray,List.getElem?_cons_zero] at ca
       have HF9:=Lib.hid hF9;have HP9:=Lib.hid hP9;have HG9:=Lib.hid (HG8.out.transB hG9);have HS9:=Lib.hid (HS8.out.grB hG9 (by omega) (fun b hb=>hb.1));clear hF9 hP9 hG9))
    ·refine ⟨rfl,?_⟩
     go_wp2
     obtain ⟨W9,hW9⟩:∃ W9,((((((w9.setCell ⟨w.heap.size + 1,0,none⟩ (.int .i64 8)).setCell ⟨w.heap.size + 1,1,none⟩ (.string ⟨#[]⟩)).setCell ⟨w.heap.size + 1,2,none⟩ (.slice none 0 0)).setCell ⟨w.heap.size + 1,3,none⟩ (.int .i64 0)).setCell ⟨w.heap.size + 1,4,none⟩ (.int .i64 0)).setCell ⟨w.heap.size + 1,5,none⟩ (.slice za us6.length zc))=W9:=⟨_,rfl⟩
     obtain ⟨k9,g9,p9,s9⟩:=resultAt (p:=p) (R:=w.heap.size + 1) HF9.out.r HG9.out hlt (Nat.le_succ _) HNB.out hW9
     rw [hW9]
     obtain ⟨⟨e0,e1,e2,e3,e4,e5⟩,_⟩:=box6k k9
     refine bodyPost_ret (v:=.tuple #[.agg #[.int .i64 8,.string ⟨#[]⟩,.slice none 0 0,.int .i64 0,.int .i64 0,.slice za us6.length zc],.nilIface]) (by simp [results,Tryz.results300,go_sem,e0,e1,e2,e3,e4,e5]) rfl ⟨g9,_,_,_,_,_,_,_,_,_,_,_,rfl,?_⟩
     exact Or.inl ⟨.mk 8 ByteArray.empty [] 0 0 (x :: l),r9,v9,by rw [HQ.out,if_neg (show ¬ (Prs.next r).text=Tess.Prs.wOr from HX.out),bindR_ok HT6.out,must_ok hT9],rfl,p9 _ _ _ HP9.out,s9 _ _ _ (fil_list 8 HS9.out (fun b hb=>by have:=hb.1;omega) (fun b hb=>by omega))⟩
    ·refine ⟨rfl,?_⟩
     go_wp2
     obtain ⟨W9,hW9⟩:∃ W9,((((((w9.setCell ⟨w.heap.size + 1,0,none⟩ (.int .i64 8)).setCell ⟨w.heap.size + 1,1,none⟩ (.string ⟨#[]⟩)).setCell ⟨w.heap.size + 1,2,none⟩ (.slice none 0 0)).setCell ⟨w.heap.size + 1,3,none⟩ (.int .i64 0)).setCell ⟨w.heap.size + 1,4,none⟩ (.int .i64 0)).setCell ⟨w.heap.size + 1,5,none⟩ (.slice za us6.length zc))=W9:=⟨_,rfl⟩
     obtain ⟨k9,g9,p9,s9⟩:=resultAt (p:=p) (R:=w.heap.size + 1) HF9.out.r HG9.out hlt (Nat.le_succ _) HNB.out hW9
     rw [hW9]
     obtain ⟨⟨e0,e1,e2,e3,e4,e5⟩,_⟩:=box6k k9
     refine bodyPost_ret (v:=.tuple #[.agg #[.int .i64 8,.string ⟨#[]⟩,.slice none 0 0,.int .i64 0,.int .i64 0,.slice za us6.length zc],errF (Prs.next r6).pos]) (by simp [results,Tryz.results300,go_sem,e0,e1,e2,e3,e4,e5]) rfl ⟨g9,_,_,_,_,_,_,_,_,_,_,_,rfl,?_⟩
     exact Or.inr ⟨_,by rw [HQ.out,bindR_ok HT6.out,must_no hT9],rfl,_,_,_,p9 _ _ _ HP9.out⟩
  ·refine FlowQ.wp_region 2 [2,3,4] (.agg #[.int .i64 8,.string ⟨#[]⟩,.slice none 0 0,.int .i64 0,.int .i64 0,.slice ya us.length yc]) (Flow.specs [.inl undef,.inl (.pointer (some ⟨B,0,none⟩))]) (by kernel_rfl) (by kernel_rfl) ?_ rfl (fun w' hw=>by have hcl:=Flow.bcell hw;clear hw;go_simp) ?_
   ·refine Flow.specs_mono ?_
    repeat (first | exact Flow.lmono_nil | refine Flow.lmono_inl ?_)
   simp only [Nat.reduceSub,List.take_succ_cons,List.take_zero]
   (refine Flow.tree_valK rfl (fun K hK=>⟨fun w hw hG => ?_,?_⟩);(have hcl:=Flow.bcell hw;clear hG hw;unfold Flow.Runs Flow.yields;go_simp;try rfl);go_simp;refine hK _ ?_;clear hK K)
   refine Flow.tree_nil fun w8 hw8 hG => ?_
   have HFA:=Lib.hid (fail_any w8 (HP5.out.below hw8))
   have HF8:=Lib.hid (HF5.out.stepB (grB_below (B:=B) hw8) hlt)
   have HG8:=Lib.hid (HG5.out.trans_below hw8)
   have HP8:=Lib.hid (HP5.out.below hw8)
   clear hG hw8
   refine ⟨?_,?_⟩
   all_goals
    go_wp2_with (
     go_at_call 215;refine HFA.out.mono ?_;clear HFA;rintro e w9 ⟨rfl,hB9⟩;
       have hF9:=HF8.out.stepB (grB_below (B:=B) hB9) hlt;
       have cF:=(box6k hF9.f).1;have zF:=(box6k hF9.f).2;have zR:=(box6k hF9.r).2;have cR:=(box6k hF9.r).1;
       have hFs:=hF9.lt;have hRs:w.heap.size + 1 < w9.heap.size:=(by omega);
       have hFs2:w.heap.size + 2 < w9.heap.size:=(by omega);
       have hNs:w.heap.size < w9.heap.size:=(by omega);
       have ca:=cell_of_row w9 w.heap.size 0 _ _ _ hF9.a;
       simp only [List.getElem?_toArray,List.getElem?_cons_zero] at ca;
       have HF9:=Lib.hid hF9;have HP9:=Lib.hid (HP8.out.below hB9);have HG9:=Lib.hid (HG8.out.trans_below hB9);clear hF9 hB9)
    refine ⟨rfl,?_⟩
    go_wp2
    obtain ⟨W9,hW9⟩:∃ W9,((((((w9.setCell ⟨w.heap.size + 1,0,none⟩ (.int .i64 8)).setCell ⟨w.heap.size + 1,1,none⟩ (.string ⟨#[]⟩)).setCell ⟨w.heap.size + 1,2,none⟩ (.slice none 0 0)).setCell ⟨w.heap.size + 1,3,none⟩ (.int .i64 0)).setCell ⟨w.heap.size + 1,4,none⟩ (.int .i64 0)).setCell ⟨w.heap.size + 1,5,none⟩ (.slice ya us.length yc))=W9:=⟨_,rfl⟩
    obtain ⟨k9,g9,p9,s9⟩:=resultAt (p:=p) (R:=w.heap.size + 1) HF9.out.r HG9.out hlt (Nat.le_succ _) HNB.out hW9
    rw [hW9]
    obtain ⟨⟨e0,e1,e2,e3,e4,e5⟩,_⟩:=box6k k9
    refine bodyPost_ret (v:=.tuple #[.agg #[.int .i64 8,.string ⟨#[]⟩,.slice none 0 0,.int .i64 0,.int .i64 0,.slice ya us.length yc],errF (Prs.next r).pos]) (by simp [results,Tryz.results300,go_sem,e0,e1,e2,e3,e4,e5]) rfl ⟨g9,_,_,_,_,_,_,_,_,_,_,_,rfl,?_⟩
    exact Or.inr ⟨_,sevR_no HT2.out HT5.out,rfl,_,_,_,p9 _ _ _ HP9.out⟩
 ·obtain ⟨W9,hW9⟩:∃ W9,((((((w2.setCell ⟨w.heap.size + 1,0,none⟩ (.int .i64 8)).setCell ⟨w.heap.size + 1,1,none⟩ (.string ⟨#[]⟩)).setCell ⟨w.heap.size + 1,2,none⟩ (.slice none 0 0)).setCell ⟨w.heap.size + 1,3,none⟩ (.int .i64 0)).setCell ⟨w.heap.size + 1,4,none⟩ (.int .i64 0)).setCell ⟨w.heap.size + 1,5,none⟩ (.slice ya yn yc))=W9:=⟨_,rfl⟩
  obtain ⟨k9,g9,p9,s9⟩:=resultAt (p:=p) (R:=w.heap.size + 1) HF2.out.r HG2.out hlt (Nat.le_succ _) HNB.out hW9
  rw [hW9]
  obtain ⟨⟨e0,e1,e2,e3,e4,e5⟩,_⟩:=box6k k9
  refine bodyPost_ret (v:=.tuple #[.agg #[.int .i64 8,.string ⟨#[]⟩,.slice none 0 0,.int .i64 0,.int .i64 0,.slice ya yn yc],errF k]) (by simp [results,Tryz.results300,go_sem,e0,e1,e2,e3,e4,e5]) rfl ⟨g9,_,_,_,_,_,_,_,_,_,_,_,rfl,?_⟩
  exact Or.inr ⟨k,sevR_err HT2.out,rfl,_,_,_,p9 _ _ _ HP2.out⟩
end Go.Proofs.YtbbgjjjeecfnoaaGreatDoor
namespace Go.Proofs.YtbbgjjjeecfnoaaGreatDoor
open Go.RowKit Go.Sort
open Tess (Fil Tok Prs.next Prs.skip Prs.isT Prs.Endd Prs.Keeps)
theorem FilAt.succ {p:Nat→Prop}:∀ {n:Nat} {w:World} {v:Value} {f:Fil},FilAt p n w v f→FilAt p (n + 1) w v f
 | 0,_,_,_,h=>h.elim
 | n + 1,w,v,f,h=>by
   obtain ⟨vw,a,cap,hv,h1,h2,h3,h4,h5,h6⟩:=h
   refine ⟨vw,a,cap,hv,h1,h2,h3,h4,h5,fun hl => ?_⟩
   obtain ⟨b,off,ha,hb,hp,hc⟩:=h6 hl
   refine ⟨b,off,ha,hb,hp,fun j hj => ?_⟩
   obtain ⟨c0,c1,c2,c3,c4,c5,hf,e⟩:=hc j hj
   exact ⟨c0,c1,c2,c3,c4,c5,hf.succ,e⟩
theorem FilAt.up {p:Nat→Prop} {n m:Nat} {w:World} {v:Value} {f:Fil} (h:FilAt p n w v f) (hm:n≤m):FilAt p m w v f:=by
 obtain ⟨k,rfl⟩:∃ k,m=n + k:=⟨m - n,by omega⟩
 clear hm
 induction k with
 | zero=>exact h
 | succ k ih=>exact ih.succ
theorem fil_not {q:Nat→Prop} {d g cap:Nat} {W:World} {x:Fil} {c0 c1 c2 c3 c4 c5:Value} (hg:g < W.heap.size) (hq:q g) (h:FilAt q d W (.agg #[c0,c1,c2,c3,c4,c5]) x) (hk:W.heap[g]? = some (.cells #[c0,c1,c2,c3,c4,c5] 31 (0,0))) :
  FilAt q (d + 1) W (.agg #[.int .i64 7,.string ⟨#[]⟩,.slice none 0 0,.int .i64 0,.int .i64 0,.slice (some ⟨g,0,none⟩) 1 cap]) (.mk 7 ByteArray.empty [] 0 0 [x]):=by
 refine ⟨.slice none 0 0,some ⟨g,0,none⟩,cap,rfl,Nat.zero_le _,SlP.nil q W,fun x hx=>(by cases hx),by show 1≤maxLen;decide,(fun e=>by cases e),fun _=>⟨g,0,rfl,hg,hq,fun j hj => ?_⟩⟩
 have hj:j < 1:=hj
 obtain rfl:j=0:=by omega
 obtain ⟨⟨e0,e1,e2,e3,e4,e5⟩,_⟩:=box6k hk
 exact ⟨c0,c1,c2,c3,c4,c5,h,e0,e1,e2,e3,e4,e5⟩
section
variable {f:Nat} {ts r:List Tok}
theorem filter_name (h:(Prs.next ts).kind=2):Tess.Prs.filter (f + 1) ts=Tess.Prs.asked (Prs.next ts).text (Prs.skip ts):=by
 show (if (Prs.next ts).kind=2 then _ else _)=_
 rw [if_pos h]
theorem filter_all (h:(Prs.next ts).kind≠2) (h1:Prs.isT [Tess.Prs.wAll] ts=some r):Tess.Prs.filter (f + 1) ts = .ok (.mk 1 ByteArray.empty [] 0 0 [],r):=by
 show (if (Prs.next ts).kind=2 then _ else _)=_
 rw [if_neg h];unfold Tess.Prs.isR;rw [h1]
theorem filter_not (h:(Prs.next ts).kind≠2) (h1:Prs.isT [Tess.Prs.wAll] ts=none) (h2:Prs.isT [Tess.Prs.wNot] ts=some r):Tess.Prs.filter (f + 1) ts=Tess.Prs.bindR (Tess.Prs.filter f r) fun x r2 => .ok (.mk 7 ByteArray.empty [] 0 0 [x],r2):=by
 show (if (Prs.next ts).kind=2 then _ else _)=_
 rw [if_neg h];unfold Tess.Prs.isR;rw [h1];simp only;rw [h2]
theorem filter_time (h:(Prs.next ts).kind≠2) (h1:Prs.isT [Tess.Prs.wAll] ts=none) (h2:Prs.isT [Tess.Prs.wNot] ts=none) (h3:Prs.isT [Tess.Prs.wTime] ts=some r):Tess.Prs.filter (f + 1) ts=Tess.Prs.time r:=by
 show (if (Prs.next ts).kind=2 then _ else _)=_
 rw [if_neg h];unfold Tess.Prs.isR;rw [h1];simp only;rw [h2];simp only;rw [h3]
theorem filter_open (h:(Prs.next ts).kind≠2) (h1:Prs.isT [Tess.Prs.wAll] ts=none) (h2:Prs.isT [Tess.Prs.wNot] ts=none) (h3:Prs.isT [Tess.Prs.wTime] ts=none) (h4:Prs.isT [Tess.Prs.wOpen] ts=some r):Tess.Prs.filter (f + 1) ts=sevR f r:=by
 show (if (Prs.next ts).kind=2 then _ else _)=_
 rw [if_neg h];unfold Tess.Prs.isR;rw [h1];simp only;rw [h2];simp only;rw [h3];simp only;rw [h4];rfl
theorem filter_no (h:(Prs.next ts).kind≠2) (h1:Prs.isT [Tess.Prs.wAll] ts=none) (h2:Prs.isT [Tess.Prs.wNot] ts=none) (h3:Prs.isT [Tess.Prs.wTime] ts=none) (h4:Prs.isT [Tess.Prs.wOpen] ts=none):Tess.Prs.filter (f + 1) ts = .error (Prs.next ts).pos:=by
 show (if (Prs.next ts).kind=2 then _ else _)=_
 rw [if_neg h];unfold Tess.Prs.isR;rw [h1];simp only;rw [h2];simp only;rw [h3];simp only;rw [h4];rfl
end
set_option maxRecDepth 100000 in
set_option maxHeartbeats 8000000 in
theorem filter_step {f:Nat} (IH:Filts f) (hf:f≤999999):Filts (f + 1):=by
 intro p B ts v qs w h he hL
 have hlt:=h.lt
 have HNB:=Lib.hid h.b
 have HL:=Lib.hid (laid1 w (.cells #[.int .i64 0,.string ⟨#[]⟩,.slice none 0 0,.int .i64 0,.int .i64 0,.slice none 0 0] 31))
 have HP:=Lib.hid (h.ltP.below HL.out.2.2)
 have htx:=(tok_n h).2.2.2.1
 have HE:=Lib.hid he
 clear h he
 by_cases hk:(Prs.next ts).kind=2
 ·have g2:((((Prs.next ts).kind:Nat):Int) == 2)=true:=by rw [hk];rfl
  have HK:=Lib.hid (filter_name (f:=f) hk)
  clear hk
  go_enter Tryz.func269,Tryz.ntmps269
  go_wp2_with (first
   | (go_at_call 216;refine (pnext_any _ HP.out).mono ?_;rintro e w2 ⟨rfl,hB2⟩;unfold tkV tkF;have HB2:=Lib.hid hB2;clear hB2)
   | (go_at_call 217;refine (skip_any _ (HP.out.below HB2.out)).mono ?_;rintro e w3 ⟨rfl,v3,hP3,hG3⟩;unfold tkV tkF;have HP3:=Lib.hid hP3;have HG3:=Lib.hid ((grB_below HB2.out).transB hG3);clear hP3 hG3)
   | (go_at_call 298;refine (asked_any _ _ HP3.out HE.out.skip.1 (by have:=HE.out.skip.2.length_le;omega) htx).mono ?_;rintro e w4 ⟨hG4,y0,y1,a1,n1,m1,y3,y4,a2,n2,m2,err,rfl,hres⟩;
       have hR:=((HG3.out.transB hG4).block _ (by rw [HL.out.2.1];omega) (by intro e;have:=Option.some.inj e;omega)).trans HL.out.1;
       have zR:=(box6k hR).2;have cR:=(box6k hR).1;have hRs:w.heap.size < w4.heap.size:=(Array.getElem?_eq_some_iff.1 hR).1;
       have HR:=Lib.hid hR;have HG4:=Lib.hid ((grB_below HL.out.2.2).transB (HG3.out.transB hG4));have HRES:=Lib.hid hres;clear hR hG4 hres))
  ·obtain ⟨W9,hW9⟩:∃ W9,((((((w4.setCell ⟨w.heap.size,0,none⟩ (.int .i64 y0)).setCell ⟨w.heap.size,1,none⟩ (.string y1)).setCell ⟨w.heap.size,2,none⟩ (.slice a1 n1 m1)).setCell ⟨w.heap.size,3,none⟩ (.int .i64 y3)).setCell ⟨w.heap.size,4,none⟩ (.int .i64 y4)).setCell ⟨w.heap.size,5,none⟩ (.slice a2 n2 m2))=W9:=⟨_,rfl⟩
   obtain ⟨k9,g9,p9,s9⟩:=resultAt (p:=p) (R:=w.heap.size) HR.out HG4.out hlt (Nat.le_refl _) HNB.out hW9
   rw [hW9]
   obtain ⟨⟨e0,e1,e2,e3,e4,e5⟩,_⟩:=box6k k9
   refine bodyPost_ret (v:=.tuple #[.agg #[.int .i64 y0,.string y1,.slice a1 n1 m1,.int .i64 y3,.int .i64 y4,.slice a2 n2 m2],err]) (by simp [results,Tryz.results269,go_sem,e0,e1,e2,e3,e4,e5]) rfl ⟨g9,_,_,_,_,_,_,_,_,_,_,_,rfl,?_⟩
   have h3:w.heap.size < w3.heap.size:=by have:=HG3.out.size;have:=HL.out.2.1;omega
   rcases HRES.out with ⟨x,r9,v9,hx,rfl,hPx,hfx⟩ | ⟨j,hx,rfl,ts9,v9,qs9,hPx⟩
   ·exact Or.inl ⟨x,r9,v9,HK.out.trans hx,rfl,p9 _ _ _ hPx,(s9 _ _ _ (hfx.weak fun b hb=>by have h1:w3.heap.size≤b:=hb;omega)).up (by omega)⟩
   ·exact Or.inr ⟨j,HK.out.trans hx,rfl,_,_,_,p9 _ _ _ hPx⟩
 ·have g2:((((Prs.next ts).kind:Nat):Int) == 2)=false:=by rw [beq_eq_false_iff_ne];omega
  have HK:=Lib.hid hk
  clear hk
  go_enter Tryz.func269,Tryz.ntmps269
  go_wp2_with (first
   | (go_at_call 216;refine (pnext_any _ HP.out).mono ?_;rintro e w2 ⟨rfl,hB2⟩;unfold tkV tkF;
       have hR:=(hB2.block _ (by rw [HL.out.2.1];omega)).trans HL.out.1;
       have HR2:=Lib.hid hR;have HP2:=Lib.hid (HP.out.below hB2);have HG2:=Lib.hid (grB_below (B:=B) (Bt HL.out.2.2 hB2));clear hR hB2 HP)
   | (go_at_call 144;refine (is3_any Tess.Prs.wAll _ rfl HP2.out).mono ?_;rintro e w3 ⟨hGx,⟨rx,vx,hTx,rfl,hPx⟩ | ⟨hTx,rfl,vx,hPx⟩⟩ <;>
       (have hR:=(hGx.block _ (Array.getElem?_eq_some_iff.1 HR2.out).1 (by intro e;have:=Option.some.inj e;omega)).trans HR2.out
        have zR:=(box6k hR).2;have cR:=(box6k hR).1;have hRs:w.heap.size < w3.heap.size:=(Array.getElem?_eq_some_iff.1 hR).1
        have HR3:=Lib.hid hR;have HP3:=Lib.hid hPx;have HG3:=Lib.hid (HG2.out.transB hGx);have HT3:=Lib.hid hTx;clear hR hPx hGx hTx HP2))
   | (go_at_call 144;refine (is3_any Tess.Prs.wNot _ rfl HP3.out).mono ?_;rintro e w4 ⟨hGx,⟨rx,vx,hTx,rfl,hPx⟩ | ⟨hTx,rfl,vx,hPx⟩⟩ <;>
       (have hR:=(hGx.block _ (Array.getElem?_eq_some_iff.1 HR3.out).1 (by intro e;have:=Option.some.inj e;omega)).trans HR3.out
        have zR:=(box6k hR).2;have cR:=(box6k hR).1;have hRs:w.heap.size < w4.heap.size:=(Array.getElem?_eq_some_iff.1 hR).1
        have HR4:=Lib.hid hR;have HP4:=Lib.hid hPx;have HG4:=Lib.hid (HG3.out.transB hGx);have HT4:=Lib.hid hTx;clear hR hPx hGx hTx HP3))
   | (go_at_call 144;refine (is3_any Tess.Prs.wTime _ rfl HP4.out).mono ?_;rintro e w5 ⟨hGx,⟨rx,vx,hTx,rfl,hPx⟩ | ⟨hTx,rfl,vx,hPx⟩⟩ <;>
       (have hR:=(hGx.block _ (Array.getElem?_eq_some_iff.1 HR4.out).1 (by intro e;have:=Option.some.inj e;omega)).trans HR4.out
        have zR:=(box6k hR).2;have cR:=(box6k hR).1;have hRs:w.heap.size < w5.heap.size:=(Array.getElem?_eq_some_iff.1 hR).1
        have HR5:=Lib.hid hR;have HP5:=Lib.hid hPx;have HG5:=Lib.hid (HG4.out.transB hGx);have HT5:=Lib.hid hTx;clear hR hPx hGx hTx HP4))
   | (go_at_call 144;refine (is3_any Tess.Prs.wOpen _ rfl HP5.out).mono ?_;rintro e w6 ⟨hGx,⟨rx,vx,hTx,rfl,hPx⟩ | ⟨hTx,rfl,vx,hPx⟩⟩ <;>
       (have hR:=(hGx.block _ (Array.getElem?_eq_some_iff.1 HR5.out).1 (by intro e;have:=Option.some.inj e;omega)).trans HR5.out
        have zR:=(box6k hR).2;have cR:=(box6k hR).1;have hRs:w.heap.size < w6.heap.size:=(Array.getElem?_eq_some_iff.1 hR).1
        have HR6:=Lib.hid hR;have HP6:=Lib.hid hPx;have HG6:=Lib.hid (HG5.out.transB hGx);have HT6:=Lib.hid hTx;clear hR hPx hGx hTx HP5))
   | (go_at_call 269;refine (IH _ _ _ _ _ _ HP4.out (HE.out.isT HT4.out).1 (by have:=(HE.out.isT HT4.out).2.1;omega)).mono ?_;rintro e w7 ⟨hG7,y0,y1,a1,n1,m1,y3,y4,a2,n2,m2,err,rfl,hres⟩;
       have hk7:=laid2 w7 (.cells #[.int .i64 y0,.string y1,.slice a1 n1 m1,.int .i64 y3,.int .i64 y4,.slice a2 n2 m2] 31) (.cells #[.int .i64 y0,.string y1,.slice a1 n1 m1,.int .i64 y3,.int .i64 y4,.slice a2 n2 m2] 31);
       have hR:=(hk7.2.2.2.block _ (Nat.lt_of_lt_of_le (Array.getElem?_eq_some_iff.1 HR4.out).1 hG7.size)).trans ((hG7.block _ (Array.getElem?_eq_some_iff.1 HR4.out).1 (by intro e;have:=Option.some.inj e;omega)).trans HR4.out);
       have hR7:=((hG7.block _ (Array.getElem?_eq_some_iff.1 HR4.out).1 (by intro e;have:=Option.some.inj e;omega)).trans HR4.out);
       have zR:=(box6k hR7).2;have cR:=(box6k hR7).1;have hRs:w.heap.size < w7.heap.size:=(Array.getElem?_eq_some_iff.1 hR7).1;
       have HR7:=Lib.hid hR7;have HG7:=Lib.hid (HG4.out.transB hG7);have HRES:=Lib.hid hres;have HS4:=Lib.hid hG7.size;clear hR hR7 hG7 hres hk7)
   | (go_at_call 299;refine (time_any _ HP5.out).mono ?_;rintro e w7 ⟨hG7,y0,y1,a1,n1,m1,y3,y4,a2,n2,m2,err,rfl,hres⟩;
       have hR:=(hG7.block _ (Array.getElem?_eq_some_iff.1 HR5.out).1 (by intro e;have:=Option.some.inj e;omega)).trans HR5.out;
       have zR:=(box6k hR).2;have cR:=(box6k hR).1;have hRs:w.heap.size < w7.heap.size:=(Array.getElem?_eq_some_iff.1 hR).1;
       have HR7:=Lib.hid hR;have HG7:=Lib.hid (HG5.out.transB hG7);have HRES:=Lib.hid hres;clear hR hG7 hres)
   | (go_at_call 300;refine (several_any IH (by omega) _ HP6.out (HE.out.isT HT6.out).1 (by have:=(HE.out.isT HT6.out).2.1;omega)).mono ?_;rintro e w7 ⟨hG7,y0,y1,a1,n1,m1,y3,y4,a2,n2,m2,err,rfl,hres⟩;
       have hR:=(hG7.block _ (Array.getElem?_eq_some_iff.1 HR6.out).1 (by intro e;have:=Option.some.inj e;omega)).trans HR6.out;
       have zR:=(box6k hR).2;have cR:=(box6k hR).1;have hRs:w.heap.size < w7.heap.size:=(Array.getElem?_eq_some_iff.1 hR).1;
       have HR7:=Lib.hid hR;have HG7:=Lib.hid (HG6.out.transB hG7);have HRES:=Lib.hid hres;clear hR hG7 hres)
   | (go_at_call 215;refine (fail_any _ HP6.out).mono ?_;rintro e w7 ⟨rfl,hB7⟩;
       have hR:=(hB7.block _ (Array.getElem?_eq_some_iff.1 HR6.out).1).trans HR6.out;
       have zR:=(box6k hR).2;have cR:=(box6k hR).1;have hRs:w.heap.size < w7.heap.size:=(Array.getElem?_eq_some_iff.1 hR).1;
       have HR7:=Lib.hid hR;have HG7:=Lib.hid (HG6.out.trans_below hB7);have HP7:=Lib.hid (HP6.out.below hB7);clear hR hB7))
  ·obtain ⟨W9,hW9⟩:∃ W9,((((((w3.setCell ⟨w.heap.size,0,none⟩ (.int .i64 1)).setCell ⟨w.heap.size,1,none⟩ (.string ⟨#[]⟩)).setCell ⟨w.heap.size,2,none⟩ (.slice none 0 0)).setCell ⟨w.heap.size,3,none⟩ (.int .i64 0)).setCell ⟨w.heap.size,4,none⟩ (.int .i64 0)).setCell ⟨w.heap.size,5,none⟩ (.slice none 0 0))=W9:=⟨_,rfl⟩
   obtain ⟨k9,g9,p9,s9⟩:=resultAt (p:=p) (R:=w.heap.size) HR3.out HG3.out hlt (Nat.le_refl _) HNB.out hW9
   rw [hW9]
   obtain ⟨⟨e0,e1,e2,e3,e4,e5⟩,_⟩:=box6k k9
   refine bodyPost_ret (v:=.tuple #[.agg #[.int .i64 1,.string ⟨#[]⟩,.slice none 0 0,.int .i64 0,.int .i64 0,.slice none 0 0],.nilIface]) (by simp [results,Tryz.results269,go_sem,e0,e1,e2,e3,e4,e5]) rfl ⟨g9,_,_,_,_,_,_,_,_,_,_,_,rfl,?_⟩
   exact Or.inl ⟨.mk 1 ByteArray.empty [] 0 0 [],_,_,filter_all HK.out HT3.out,rfl,p9 _ _ _ HP3.out,s9 _ _ _ ((fil_none _ _ _ _ _).up (by omega))⟩
  ·obtain ⟨W9,hW9⟩:∃ W9,((((((w7.setCell ⟨w.heap.size,0,none⟩ (.int .i64 7)).setCell ⟨w.heap.size,1,none⟩ (.string ⟨#[]⟩)).setCell ⟨w.heap.size,2,none⟩ (.slice none 0 0)).setCell ⟨w.heap.size,3,none⟩ (.int .i64 0)).setCell ⟨w.heap.size,4,none⟩ (.int .i64 0)).setCell ⟨w.heap.size,5,none⟩ (.slice (some ⟨w7.heap.size + 1,0,none⟩) 1 1))=W9:=⟨_,rfl⟩
   have hsz:W9.heap.size=w7.heap.size:=hW9 ▸ set6_size _ _ _ _ _ _
   obtain ⟨k9,g9,p9,s9⟩:=resultAt (p:=p) (R:=w.heap.size) HR7.out HG7.out hlt (Nat.le_refl _) HNB.out hW9
   rw [hW9]
   obtain ⟨l0,l1,lS,lB⟩:=laid2 W9 (.cells #[.int .i64 y0,.string y1,.slice a1 n1 m1,.int .i64 y3,.int .i64 y4,.slice a2 n2 m2] 31) (.cells #[.int .i64 y0,.string y1,.slice a1 n1 m1,.int .i64 y3,.int .i64 y4,.slice a2 n2 m2] 31)
   have kf:=(lB.block _ (Array.getElem?_eq_some_iff.1 k9).1).trans k9
   obtain ⟨⟨e0,e1,e2,e3,e4,e5⟩,_⟩:=box6k kf
   refine bodyPost_ret (v:=.tuple #[.agg #[.int .i64 7,.string ⟨#[]⟩,.slice none 0 0,.int .i64 0,.int .i64 0,.slice (some ⟨w7.heap.size + 1,0,none⟩) 1 1],err]) (by simp [results,Tryz.results269,go_sem,e0,e1,e2,e3,e4,e5]) rfl ⟨g9.trans_below lB,_,_,_,_,_,_,_,_,_,_,_,rfl,?_⟩
   rcases HRES.out with ⟨x,r9,v9,hx,rfl,hPx,hfx⟩ | ⟨j,hx,rfl,ts9,v9,qs9,hPx⟩
   ·have h4:w.heap.size < w4.heap.size:=(Array.getElem?_eq_some_iff.1 HR4.out).1
    have hf9:=(s9 _ _ _ (hfx.weak fun b hb=>by have h1:w4.heap.size≤b:=hb;omega)).ag (Ag.new _ lB)
    have h7:=HS4.out
    refine Or.inl ⟨.mk 7 ByteArray.empty [] 0 0 [x],r9,v9,by rw [filter_not HK.out HT3.out HT4.out,bindR_ok hx],rfl,(p9 _ _ _ hPx).below lB,?_⟩
    rw [← hsz]
    exact fil_not (by rw [lS];omega) (by show w.heap.size≤W9.heap.size + 1;omega) hf9 l1
   ·exact Or.inr ⟨j,by rw [filter_not HK.out HT3.out HT4.out,bindR_err hx],rfl,_,_,_,(p9 _ _ _ hPx).below lB⟩
  ·obtain ⟨W9,hW9⟩:∃ W9,((((((w7.setCell ⟨w.heap.size,0,none⟩ (.int .i64 y0)).setCell ⟨w.heap.size,1,none⟩ (.string y1)).setCell ⟨w.heap.size,2,none⟩ (.slice a1 n1 m1)).setCell ⟨w.heap.size,3,none⟩ (.int .i64 y3)).setCell ⟨w.heap.size,4,none⟩ (.int .i64 y4)).setCell ⟨w.heap.size,5,none⟩ (.slice a2 n2 m2))=W9:=⟨_,rfl⟩
   obtain ⟨k9,g9,p9,s9⟩:=resultAt (p:=p) (R:=w.heap.size) HR7.out HG7.out hlt (Nat.le_refl _) HNB.out hW9
   rw [hW9]
   obtain ⟨⟨e0,e1,e2,e3,e4,e5⟩,_⟩:=box6k k9
   refine bodyPost_ret (v:=.tuple #[.agg #[.int .i64 y0,.string y1,.slice a1 n1 m1,.int .i64 y3,.int .i64 y4,.slice a2 n2 m2],err]) (by simp [results,Tryz.results269,go_sem,e0,e1,e2,e3,e4,e5]) rfl ⟨g9,_,_,_,_,_,_,_,_,_,_,_,rfl,?_⟩
   have h3:w.heap.size < w5.heap.size:=(Array.getElem?_eq_some_iff.1 HR5.out).1
   rcases HRES.out with ⟨x,r9,v9,hx,rfl,hPx,hfx⟩ | ⟨j,hx,rfl,ts9,v9,qs9,hPx⟩
   ·exact Or.inl ⟨x,r9,v9,(filter_time HK.out HT3.out HT4.out HT5.out).trans hx,rfl,p9 _ _ _ hPx,(s9 _ _ _ (hfx.weak fun b hb=>by have h1:w5.heap.size≤b:=hb;omega)).up (by omega)⟩
   ·exact Or.inr ⟨j,(filter_time HK.out HT3.out HT4.out HT5.out).trans hx,rfl,_,_,_,p9 _ _ _ hPx⟩
  ·obtain ⟨W9,hW9⟩:∃ W9,((((((w7.setCell ⟨w.heap.size,0,none⟩ (.int .i64 y0)).setCell ⟨w.heap.size,1,none⟩ (.string y1)).setCell ⟨w.heap.size,2,none⟩ (.slice a1 n1 m1)).setCell ⟨w.heap.size,3,none⟩ (.int .i64 y3)).setCell ⟨w.heap.size,4,none⟩ (.int .i64 y4)).setCell ⟨w.heap.size,5,none⟩ (.slice a2 n2 m2))=W9:=⟨_,rfl⟩
   obtain ⟨k9,g9,p9,s9⟩:=resultAt (p:=p) (R:=w.heap.size) HR7.out HG7.out hlt (Nat.le_refl _) HNB.out hW9
   rw [hW9]
   obtain ⟨⟨e0,e1,e2,e3,e4,e5⟩,_⟩:=box6k k9
   refine bodyPost_ret (v:=.tuple #[.agg #[.int .i64 y0,.string y1,.slice a1 n1 m1,.int .i64 y3,.int .i64 y4,.slice a2 n2 m2],err]) (by simp [results,Tryz.results269,go_sem,e0,e1,e2,e3,e4,e5]) rfl ⟨g9,_,_,_,_,_,_,_,_,_,_,_,rfl,?_⟩
   have h3:w.heap.size < w6.heap.size:=(Array.getElem?_eq_some_iff.1 HR6.out).1
   rcases HRES.out with ⟨x,r9,v9,hx,rfl,hPx,hfx⟩ | ⟨j,hx,rfl,ts9,v9,qs9,hPx⟩
   ·exact Or.inl ⟨x,r9,v9,(filter_open HK.out HT3.out HT4.out HT5.out HT6.out).trans hx,rfl,p9 _ _ _ hPx,(s9 _ _ _ (hfx.weak fun b hb=>by have h1:w6.heap.size≤b:=hb;omega))⟩
   ·exact Or.inr ⟨j,(filter_open HK.out HT3.out HT4.out HT5.out HT6.out).trans hx,rfl,_,_,_,p9 _ _ _ hPx⟩
  ·obtain ⟨W9,hW9⟩:∃ W9,((((((w7.setCell ⟨w.heap.size,0,none⟩ (.int .i64 0)).setCell ⟨w.heap.size,1,none⟩ (.string ⟨#[]⟩)).setCell ⟨w.heap.size,2,none⟩ (.slice none 0 0)).setCell ⟨w.heap.size,3,none⟩ (.int .i64 0)).setCell ⟨w.heap.size,4,none⟩ (.int .i64 0)).setCell ⟨w.heap.size,5,none⟩ (.slice none 0 0))=W9:=⟨_,rfl⟩
   obtain ⟨k9,g9,p9,s9⟩:=resultAt (p:=p) (R:=w.heap.size) HR7.out HG7.out hlt (Nat.le_refl _) HNB.out hW9
   rw [hW9]
   obtain ⟨⟨e0,e1,e2,e3,e4,e5⟩,_⟩:=box6k k9
   refine bodyPost_ret (v:=.tuple #[.agg #[.int .i64 0,.string ⟨#[]⟩,.slice none 0 0,.int .i64 0,.int .i64 0,.slice none 0 0],errF (Prs.next ts).pos]) (by simp [results,Tryz.results269,go_sem,e0,e1,e2,e3,e4,e5]) rfl ⟨g9,_,_,_,_,_,_,_,_,_,_,_,rfl,?_⟩
   exact Or.inr ⟨_,filter_no HK.out HT3.out HT4.out HT5.out HT6.out,rfl,_,_,_,p9 _ _ _ HP7.out⟩
theorem filts (f:Nat) (hf:f≤1000000):Filts f:=by
 induction f with
 | zero=>
   intro p B ts v qs W h _ hL
   exact absurd (List.length_eq_zero_iff.1 (Nat.le_zero.1 hL)) h.ne
 | succ f ih=>exact filter_step (ih (by omega)) (by omega)
set_option maxRecDepth 100000 in
set_option maxHeartbeats 8000000 in
theorem where_any {p:Nat→Prop} {B:Nat} {ts:List Tok} {v x0 x1 x2 x3 x4 x5 x6 x7 x8 x9 xa xb xc xd:Value} (w:World) (h:PsAt p B ts v [x0,x1,x2,x3,x4,x5,x6,x7,x8,x9,xa,xb,xc,xd] w) (he:Prs.Endd ts) (hL:ts.length≤1000000) :
  Calls Tryz.prog 220 #[.pointer (some ⟨B,0,none⟩)] w fun e w'=>w.grownBy w' (some B) ∧
   ((∃ f r v' y0 y1 y2 y3 y4 y5,Tess.Prs.filter ts.length ts = .ok (f,r)∧e = .returned .nilIface∧PsAt p B r v' [x0,x1,x2,x3,x4,y0,y1,y2,y3,y4,y5,xb,xc,xd] w'∧FilAt (fun b=>w.heap.size≤b) ts.length w' (.agg #[y0,y1,y2,y3,y4,y5]) f) ∨
    (∃ k,Tess.Prs.filter ts.length ts = .error k∧e = .returned (errF k))):=by
 have hlt:=h.lt
 have HI:=Lib.hid (filts ts.length hL p B ts v _ w h he (Nat.le_refl _))
 have HNB:=Lib.hid h.b
 clear h he
 go_enter Tryz.func220,Tryz.ntmps220
 go_wp2_with (
  go_at_call 269;refine HI.out.mono ?_;rintro e w2 ⟨hG2,y0,y1,a1,n1,m1,y3,y4,a2,n2,m2,err,rfl,hres⟩;
   obtain ⟨tsx,vx,qsx,hPx⟩:∃ tsx vx qsx,PsAt p B tsx vx qsx w2:=(by rcases hres with ⟨_,r,v',_,_,h,_⟩ | ⟨_,_,_,h⟩;exact ⟨_,_,_,h⟩;exact h);
   obtain ⟨q6,f6⟩:=hPx.some_ 6 (by decide);obtain ⟨q7,f7⟩:=hPx.some_ 7 (by decide);obtain ⟨q8,f8⟩:=hPx.some_ 8 (by decide);obtain ⟨q9,f9⟩:=hPx.some_ 9 (by decide);obtain ⟨q10,f10⟩:=hPx.some_ 10 (by decide);obtain ⟨q11,f11⟩:=hPx.some_ 11 (by decide);
   have z6:=frozen_of_row w2 B 6 _ _ hPx.k;have z7:=frozen_of_row w2 B 7 _ _ hPx.k;have z8:=frozen_of_row w2 B 8 _ _ hPx.k;have z9:=frozen_of_row w2 B 9 _ _ hPx.k;have z10:=frozen_of_row w2 B 10 _ _ hPx.k;have z11:=frozen_of_row w2 B 11 _ _ hPx.k;
   have h2B:=hPx.lt;
   have HG2:=Lib.hid hG2;have HRES:=Lib.hid hres;clear hG2 hres hPx)
 go_ret
 have hset:w2.grownBy ((((((w2.setCell ⟨B,6,none⟩ (.int .i64 y0)).setCell ⟨B,7,none⟩ (.string y1)).setCell ⟨B,8,none⟩ (.slice a1 n1 m1)).setCell ⟨B,9,none⟩ (.int .i64 y3)).setCell ⟨B,10,none⟩ (.int .i64 y4)).setCell ⟨B,11,none⟩ (.slice a2 n2 m2)) (some B):=by
  refine ((((((grB_set w2 B 6 _ h2B).transB (grB_set _ B 7 _ ?_)).transB (grB_set _ B 8 _ ?_)).transB (grB_set _ B 9 _ ?_)).transB (grB_set _ B 10 _ ?_)).transB (grB_set _ B 11 _ ?_)) <;> (simp only [setSize];exact h2B)
 refine ⟨(HG2.out.transB hset).transB (grB_alloc _ _ _),?_⟩
 rcases HRES.out with ⟨f,r,v',hf,rfl,hP,hfil⟩ | ⟨k,hf,rfl,_⟩
 ·refine Or.inl ⟨f,r,v',_,_,_,_,_,_,hf,rfl,((((((hP.put 6 (.int .i64 y0) rfl rfl).put 7 (.string y1) rfl rfl).put 8 (.slice a1 n1 m1) rfl rfl).put 9 (.int .i64 y3) rfl rfl).put 10 (.int .i64 y4) rfl rfl).put 11 (.slice a2 n2 m2) rfl rfl).below ((Below.refl _ _).alloc (Nat.le_refl _) _),?_⟩
  exact (hfil.ag (Ag.grown hset fun g e=>by have:=Option.some.inj e;show ¬ (w.heap.size≤g);omega)).ag (Ag.new _ ((Below.refl _ _).alloc (Nat.le_refl _) _))
 ·exact Or.inr ⟨k,hf,rfl⟩
end Go.Proofs.YtbbgjjjeecfnoaaGreatDoor
namespace Go.Proofs.YtbbgjjjeecfnoaaGreatDoor
open Go.RowKit Go.Sort Go.Maps
open Tess (Fil Tok Prs.next Prs.skip Prs.isT Prs.Endd Prs.Keeps)
theorem owns_le {w:World} {N:Nat} {e:TypeId} {size:Nat} {v:Value} {n:Nat} {xs:List Value} (h:w.ownsRow N e size v n xs):n≤maxLen:=by
 rcases h.2 with ⟨_,h0⟩ | ⟨g,cap,cur,_,_,_,h1,h2,_⟩
 ·rw [h0];exact Nat.zero_le _
 ·exact Nat.le_trans h1 h2
section
variable {p:Nat→Prop} {B:Nat} {ts:List Tok} {v x0 x1 x2 x3 x4 x5 x6 x7 x8 x9 xa xb xc xd:Value}
set_option maxRecDepth 100000 in
theorem having_any (w:World) (h:PsAt p B ts v [x0,x1,x2,x3,x4,x5,x6,x7,x8,x9,xa,.slice none 0 0,xc,xd] w) (he:Prs.Endd ts) (hL:ts.length≤1000000) :
  Calls Tryz.prog 221 #[.pointer (some ⟨B,0,none⟩)] w fun e w'=>w.grownBy w' (some B) ∧
   ((∃ l r v' vb,Tess.Prs.list Tess.Prs.wComma Tess.Prs.cond ts.length ts = .ok (l,r)∧e = .returned .nilIface∧PsAt p B r v' [x0,x1,x2,x3,x4,x5,x6,x7,x8,x9,xa,vb,xc,xd] w'∧RowsAt 3 condF (fun b=>w.heap.size≤b) w' vb l) ∨
    (∃ k,Tess.Prs.list Tess.Prs.wComma Tess.Prs.cond ts.length ts = .error k∧e = .returned (errF k))):=by
 have hlt:=h.lt
 have HNB:=Lib.hid h.b
 have HM:=Lib.hid (list_cond (p:=fun b=>p b∧b < w.heap.size) Tess.Prs.wComma Tess.Prs.cond (CdEx w.heap.size x0 x1 x2 x3 x4 x5 x6 x7 x8 x9 xa xc xd) (fun _=>True) 1000000 w w h.ltP he Tess.Prs.cond_keeps (grB_refl w B) ⟨_,rfl,World.ownsRow_nil _ _ _ _,fun _=>rfl⟩ hL (CdEx.steady hlt) (cond_any w (fun b hb=>hb.2) hlt (Nat.le_refl _)))
 clear h he
 go_enter Tryz.func221,Tryz.ntmps221
 go_wp2_with (
  go_at_call 141;refine HM.out.mono ?_;clear HM;rintro e w2 ⟨hG2,⟨l,r,v2,qs2,hl,rfl,hP2,hE2⟩ | ⟨k,hl,rfl,_,_⟩⟩ <;> (have HG2:=Lib.hid hG2;have HT:=Lib.hid hl;clear hG2 hl))
 ·go_ret
  obtain ⟨vb,rfl,hown,hnil⟩:=hE2.o
  exact ⟨HG2.out,Or.inl ⟨l,r,v2,vb,HT.out,rfl,hP2.weak (fun b hb=>hb.1) HNB.out,rows_owned (fun x _=>rfl) hown (owns_le hown) hnil⟩⟩
 ·go_ret
  exact ⟨HG2.out,Or.inr ⟨k,HT.out,rfl⟩⟩
set_option maxRecDepth 100000 in
theorem order_any (names:List ByteArray) (w:World) (h:PsAt p B ts v [x0,x1,x2,x3,x4,x5,x6,x7,x8,x9,xa,xb,.slice none 0 0,xd] w) (he:Prs.Endd ts) (hL:ts.length≤1000000) (hN:∀ W,w.grownBy W (some B)→SlOf W x1 (names.map .string)) :
  Calls Tryz.prog 222 #[.pointer (some ⟨B,0,none⟩)] w fun e w'=>w.grownBy w' (some B) ∧
   ((∃ l r v' vb,Tess.Prs.list Tess.Prs.wComma (Tess.Prs.key names) ts.length ts = .ok (l,r)∧e = .returned .nilIface∧PsAt p B r v' [x0,x1,x2,x3,x4,x5,x6,x7,x8,x9,xa,xb,vb,xd] w'∧RowsAt 3 keyF (fun b=>w.heap.size≤b) w' vb l) ∨
    (∃ k,Tess.Prs.list Tess.Prs.wComma (Tess.Prs.key names) ts.length ts = .error k∧e = .returned (errF k))):=by
 have hlt:=h.lt
 have HNB:=Lib.hid h.b
 have HM:=Lib.hid (list_key (p:=fun b=>p b∧b < w.heap.size) Tess.Prs.wComma (Tess.Prs.key names) (KyEx w.heap.size x0 x1 x2 x3 x4 x5 x6 x7 x8 x9 xa xb xd) (fun _=>True) 1000000 w w h.ltP he (Tess.Prs.key_keeps names) (grB_refl w B) ⟨_,rfl,World.ownsRow_nil _ _ _ _,fun _=>rfl⟩ hL (KyEx.steady hlt) (key_any names w (fun b hb=>hb.2) hlt (Nat.le_refl _) hN))
 clear h he
 go_enter Tryz.func222,Tryz.ntmps222
 go_wp2_with (
  go_at_call 141;refine HM.out.mono ?_;clear HM;rintro e w2 ⟨hG2,⟨l,r,v2,qs2,hl,rfl,hP2,hE2⟩ | ⟨k,hl,rfl,_,_⟩⟩ <;> (have HG2:=Lib.hid hG2;have HT:=Lib.hid hl;clear hG2 hl))
 ·go_ret
  obtain ⟨vb,rfl,hown,hnil⟩:=hE2.o
  exact ⟨HG2.out,Or.inl ⟨l,r,v2,vb,HT.out,rfl,hP2.weak (fun b hb=>hb.1) HNB.out,rows_owned (fun x _=>rfl) hown (owns_le hown) hnil⟩⟩
 ·go_ret
  exact ⟨HG2.out,Or.inr ⟨k,HT.out,rfl⟩⟩
end
def partF (B:Nat) (f:FuncId):Value:=.func (.func f) #[.pointer (some ⟨B,0,none⟩)] #[]
def partsD (B:Nat):DataW Value:=((((((DataW.map []).put (.string Tess.Prs.wBy.data.toList) (.held (partF B 218))).put (.string Tess.Prs.wEvery.data.toList) (.held (partF B 219))).put (.string Tess.Prs.wWhere.data.toList) (.held (partF B 220))).put (.string Tess.Prs.wHaving.data.toList) (.held (partF B 221))).put (.string Tess.Prs.wOrder.data.toList) (.held (partF B 222))).put (.string Tess.Prs.wLimit.data.toList) (.held (partF B 223))
def PartsAt (B:Nat) (w:World) (b:Nat):Prop:=w.ownsMap Tryz.prog 9 asIs b 6 (partsD B)
set_option maxRecDepth 100000 in
set_option maxHeartbeats 4000000 in
theorem parts_any (B:Nat) (w:World):Calls Tryz.prog 143 #[.pointer (some ⟨B,0,none⟩)] w fun e w'=>e = .returned (.map (some w.heap.size))∧PartsAt B w' w.heap.size∧Below w.heap.size w w':=by
 have hmm:=@run_makeMap Tryz.prog
 have HO:=Lib.hid (World.ownsMap_made (H:=Value) w Tryz.prog 9 asIs)
 have HB:=Lib.hid ((Below.refl w.heap.size w).alloc (Nat.le_refl _) (.map #[] 0))
 go_enter Tryz.func143,Tryz.ntmps143
 go_wp2_with (refine wpList_insert_own _ rfl _ _ _ 232 rfl 9 139 lawStr Tryz.underlying232 asIs w.heap.size _ _ rfl HO.out (by decide) _ _ _ rfl rfl (WideMaps.keyOf_string_mk Tryz.underlying9 (by decide)) _ _ rfl ?_;intro w1 hown1 hg1;have HB':=Lib.hid (HB.out.grown hg1 HB.out.size (fun j e=>by cases e;omega));have HO':=Lib.hid hown1;clear hown1 hg1 HO HB;have HO:=HO';have HB:=HB';clear HO' HB')
 go_ret
 exact ⟨rfl,HO.out,HB.out⟩
end Go.Proofs.YtbbgjjjeecfnoaaGreatDoor
