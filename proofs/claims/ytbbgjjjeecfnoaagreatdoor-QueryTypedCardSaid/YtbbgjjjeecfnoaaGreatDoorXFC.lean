/- Joined by mergeQ.py: F12, F13, F14 -/
import Derived.Test.YtbbgjjjeecfnoaaGreatDoorXFB
namespace Go.Proofs.YtbbgjjjeecfnoaaGreatDoor
open Go.RowKit Go.Sort
open Tess (Fil)
abbrev zeroFil:Array Value:=#[.int .i64 0,.string ⟨#[]⟩,.slice none 0 0,.int .i64 0,.int .i64 0,.slice none 0 0]
def CutC (d:Nat):Prop:=∀ (p:Nat→Prop) (n:Nat) (v:Value) (f:Fil) (w:World),FilAt p n w v f →
 Calls Tryz.prog 67 #[v,.int .i64 ((d + 1:Nat):Int)] w fun e w' => ∃ v',e = .returned v'∧FilAt (fun b=>w.heap.size≤b) (d + 1) w' v' (Fil.cut d f)∧Below w.heap.size w w'
set_option maxRecDepth 100000 in
set_option maxHeartbeats 4000000 in
theorem cut_step (d:Nat) (hd7:d≤100) (hrec:d=0∨∃ e,d=e + 1∧CutC e):CutC d:=by
 intro p n v f w hv
 have HREC:=Lib.hid hrec
 clear hrec
 cases n with
 | zero=>exact hv.elim
 | succ n=>
 obtain ⟨vw,al,capl,rfl,hnm,hw,hws,hll,_,hel⟩:=hv
 obtain ⟨aw,capw,rfl,hlw,hcw⟩:=sls_open hw.1
 have HW:=Lib.hid hcw
 have HWS:=Lib.hid hws
 have HEL:=Lib.hid hel
 have hnm':f.name.size≤9223372036854775807:=by unfold maxLen at hnm;omega
 have hll':f.l.length≤9223372036854775807:=by unfold maxLen at hll;omega
 clear hcw hw hws hel hnm hll
 obtain ⟨i0,hi,hz0,hz1,hz2⟩:=info_parts infoStr
 obtain ⟨j0,ji,jz0,jz1,jz2⟩:=info_parts infoFil
 go_enter Tryz.func67,Tryz.ntmps67
 go_wp2
 obtain ⟨W0,hW0⟩:∃ W0,(w.alloc (.cells #[.int .i64 f.kind,.string f.name,.slice aw f.words.length capw,.int .i64 f.frm,.int .i64 f.to,.slice al f.l.length capl] 31)).alloc (.cells zeroFil 31)=W0:=⟨_,rfl⟩
 obtain ⟨hk1,hk2,hS0,hB0⟩:W0.heap[w.heap.size]? = some (.cells #[.int .i64 f.kind,.string f.name,.slice aw f.words.length capw,.int .i64 f.frm,.int .i64 f.to,.slice al f.l.length capl] 31 (0,0))∧W0.heap[w.heap.size + 1]? = some (.cells zeroFil 31 (0,0))∧W0.heap.size=w.heap.size + 2∧Below w.heap.size w W0:=by rw [← hW0];exact laid2 w _ _
 rw [hW0]
 clear hW0
 have s0:w.heap.size < W0.heap.size:=by omega
 have HS0:=Lib.hid hS0
 clear hS0
 have c0:=cell_of_row W0 w.heap.size 0 _ _ _ hk1
 have c1:=cell_of_row W0 w.heap.size 1 _ _ _ hk1
 have c3:=cell_of_row W0 w.heap.size 3 _ _ _ hk1
 have c4:=cell_of_row W0 w.heap.size 4 _ _ _ hk1
 simp only [List.getElem?_toArray,List.getElem?_cons_succ,List.getElem?_cons_zero] at c0 c1 c3 c4
 rcases (show ((30:Int) < (f.name.size:Int)∧(¬ (f.name.size:Int)≤30∧(30:Int)≤(f.name.size:Int)))∨(¬ (30:Int) < (f.name.size:Int)∧(f.name.size:Int)≤30) by omega) with ⟨h3i,h3j⟩ | ⟨h3i,h3j⟩
 all_goals
  refine Flow.wp_region_flow_tail 13 (Flow.specs [.inl ?_,.inl ?_,.inl ?_,.inl ?_,.inl ?_,.inl ?_,.inl ?_,.inl ?_,.inl ?_,.inl ?_,.inl ?_,.inl ?_,.inr (newAt (w.heap.size + 2) zeroFil 31)]) (by kernel_rfl) (by kernel_rfl) ?_ ?_
  rotate_left 12
  ·refine Flow.specs_mono ?_
   repeat (first | exact Flow.lmono_nil | refine Flow.lmono_inl ?_ | refine Flow.lmono_inr (newAt_mono _ _ _) ?_)
  simp only [List.take_succ_cons,List.take_zero,List.drop_succ_cons,List.drop_zero]
  iterate 12 (refine Flow.tree_valK rfl (fun K hK=>⟨fun w hw hG => ?_,?_⟩);(have hcl:=Flow.bcell hw;clear hG hw;unfold Flow.Runs Flow.yields;go_simp;try rfl);go_simp;refine hK _ ?_;clear hK K)
  (refine Flow.tree_varK rfl (fun K hK=>⟨fun w hw hG => ?_,?_⟩);(clear hG;unfold Flow.Runs Flow.yields;go_simp;refine ⟨(Below.refl _ _).alloc (Nat.le_refl _) _,?_⟩);rotate_left;intro vz;go_simp;refine hK _ _ ?_;clear hK K;rotate_left)
  ·exact ⟨_,rfl,by have:=hw.size;have:=HS0.out;omega,heap_alloc_new _ _⟩
  refine Flow.tree_nil fun w2 hw2 hG => ?_
  obtain ⟨g,rfl,hgb,hk3⟩:=(show newAt (w.heap.size + 2) zeroFil 31 vz w2 by simpa [Flow.upd] using hG 12)
  clear hG
  have z0:=frozen_of_row w2 g 0 _ _ hk3
  have z1:=frozen_of_row w2 g 1 _ _ hk3
  have z2:=frozen_of_row w2 g 2 _ _ hk3
  have z3:=frozen_of_row w2 g 3 _ _ hk3
  have z4:=frozen_of_row w2 g 4 _ _ hk3
  have z5:=frozen_of_row w2 g 5 _ _ hk3
  have e0:=cell_of_row w2 g 0 _ _ _ hk3
  have e1:=cell_of_row w2 g 1 _ _ _ hk3
  have e2:=cell_of_row w2 g 2 _ _ _ hk3
  have e3:=cell_of_row w2 g 3 _ _ _ hk3
  have e4:=cell_of_row w2 g 4 _ _ _ hk3
  have e5:=cell_of_row w2 g 5 _ _ _ hk3
  simp only [List.getElem?_toArray,List.getElem?_cons_succ,List.getElem?_cons_zero] at e0 e1 e2 e3 e4 e5
  clear c0 c1 c3 c4
  go_wp2
  obtain ⟨bx,hbx⟩:∃ bx:Array Value,bx=#[.int .i64 f.kind,.string f.name,.slice aw f.words.length capw,.int .i64 f.frm,.int .i64 f.to,.slice al f.l.length capl]:=⟨_,rfl⟩
  have HBX:=Lib.hid hbx
  rw [← hbx] at hk1
  clear hbx
  first
   | (obtain ⟨W1,hW1,hC1⟩:=cf_start (k:=f.kind) (fr:=f.frm) (to:=f.to) (f.name.extract 0 30) (cutN 30 f.name) rfl hB0 HS0.out hw2 hk1 hk2 hgb hk3;rw [hW1])
   | (obtain ⟨W1,hW1,hC1⟩:=cf_start (k:=f.kind) (fr:=f.frm) (to:=f.to) f.name (cutN 30 f.name) (cutN_self 30 f.name (by omega)).symm hB0 HS0.out hw2 hk1 hk2 hgb hk3;rw [hW1])
  clear hW1 z0 z1 z2 z3 z4 z5 e0 e1 e2 e3 e4 e5 hk1 hk2 hk3 s0 hB0 hgb hw2
  go_loopw [6] (fun i wr => ∃ (k:Nat) (wv:Value),k≤f.words.length∧k≤10∧i = .int .i64 k∧Cf w g bx f.kind (cutN 30 f.name) wv f.frm f.to (.slice none 0 0) wr∧wr.ownsRow (g + 1) 9 1 wv k (namesV 110 10 f.words k)) (fun i _=>10 - (intOf i).toNat)
  case atStart=>exact ⟨0,_,Nat.zero_le _,Nat.zero_le _,rfl,hC1,by simpa [namesV] using World.ownsRow_nil W1 (g + 1) 9 1⟩
  case round=>
   obtain ⟨k,wv,hk,hk10,rfl,hC,hown⟩:=hrel
   have HC:=Lib.hid hC
   have HO:=Lib.hid hown
   clear hC hown hC1
   have hg2:=HC.out.hg
   have hgl:=HC.out.lt
   have hsw:w.heap.size < wr.heap.size:=by omega
   have c1:=cell_of_row wr w.heap.size 2 _ _ _ HC.out.k1
   have c3:=cell_of_row wr g 2 _ _ _ HC.out.k3
   have z3:=frozen_of_row wr g 2 _ _ HC.out.k3
   rw [HBX.out] at c1
   simp only [List.getElem?_toArray,List.getElem?_cons_succ,List.getElem?_cons_zero] at c1 c3
   by_cases hlt:k < f.words.length∧k < 10
   ·obtain ⟨h1,h2⟩:=hlt
    obtain ⟨b,off,rfl,hb,hcell⟩:=HW.out k h1
    have hck:wr.cell? ⟨b,off + k,none⟩=some (.string f.words[k]):=(HC.out.below.cell (p:=⟨b,off + k,none⟩) hb).trans hcell
    have hdk:f.words[k].size≤9223372036854775807:=HWS.out _ (List.getElem_mem h1)
    have hbw:b < wr.heap.size:=Nat.lt_of_lt_of_le hb HC.out.below.size
    clear hcell hb
    go_wp2
    obtain ⟨x,hx⟩:∃ x,x=cutN 110 f.words[k]:=⟨_,rfl⟩
    have HX:=Lib.hid hx
    clear hx
    rcases (show ((110:Int) < (f.words[k].size:Int)∧(¬ (f.words[k].size:Int)≤110∧(110:Int)≤(f.words[k].size:Int)))∨(¬ (110:Int) < (f.words[k].size:Int)∧(f.words[k].size:Int)≤110) by omega) with ⟨h3i,h3j⟩ | ⟨h3i,h3j⟩
    all_goals
     refine Flow.wp_region_flow_tail 16 (Flow.specs [.inl ?_,.inl ?_,.inl ?_,.inl ?_,.inl ?_,.inl ?_,.inl ?_,.inl ?_,.inl ?_,.inl ?_,.inl ?_,.inl ?_,.inl ?_,.inl ?_,.inl ?_,.inr (newOne (.string x))]) (by kernel_rfl) (by kernel_rfl) ?_ ?_
     rotate_left 15
     ·refine Flow.specs_mono ?_
      repeat (first | exact Flow.lmono_nil | refine Flow.lmono_inl ?_ | refine Flow.lmono_inr (newOne_mono _) ?_)
     all_goals try simp only [List.take_succ_cons,List.take_zero,List.drop_succ_cons,List.drop_zero]
     iterate 15 (refine Flow.tree_valK rfl (fun K hK=>⟨fun w hw hG => ?_,?_⟩);(have hcl:=Flow.bcell hw;clear hG hw;unfold Flow.Runs Flow.yields;go_simp;try rfl);go_simp;refine hK _ ?_;clear hK K)
     (refine Flow.tree_varK rfl (fun K hK=>⟨fun w hw hG => ?_,?_⟩);(clear hG hw;unfold Flow.Runs Flow.yields;go_simp;refine ⟨(Below.refl _ _).alloc (Nat.le_refl _) _,?_⟩;rw [HX.out]);rotate_left;intro vz;go_simp;refine hK _ _ ?_;clear hK K;rotate_left)
     ·first | exact newOne_mk _ _ _ | (rw [cutN_self _ _ (by omega)];exact newOne_mk _ _ _)
     refine Flow.tree_nil fun w2 hw2 hG => ?_
     obtain ⟨gn,rfl,hgn,hcn⟩:=(show newOne (.string x) vz w2 by simpa [Flow.upd] using hG 15)
     clear hG
     have HO2:=Lib.hid (owns_below HO.out hw2)
     have HE:=Lib.hid (names_snoc 110 10 f.words k h1 x HX.out.symm)
     have HC2:=Lib.hid (HC.out.later hw2)
     have hsz2:=hw2.size
     go_wp2_with (at_builtin;refine wpList_append_own _ rfl _ _ 22 rfl (g + 1) 9 i0 (.string ByteArray.empty) 1 16 Tryz.underlying22 hi hz0 hz1 hz2 rfl (by decide) _ _ _ rfl HO2.out ⟨gn,0,none⟩ 1 1 [.string x] rfl rfl ?_ ?_ ?_ ?_ ?_ ?_)
     ·intro j u hj;rcases j with _ | j <;> simp at hj;subst hj;simpa [Addr.add] using hcn
     ·simp [Value.oneCell']
     ·unfold maxLen;omega
     ·omega
     ·omega
     intro v' w3 hown3 hgrow _
     obtain ⟨gg,cp,rfl,_⟩:=owns_cell hown3 (by omega)
     have HC3:=Lib.hid (HC2.out.grown hgrow (fun j e=>by have:=(HO2.out.lt j e).1;omega))
     have HO3:=Lib.hid (joinl_owned hown3 HE.out)
     clear hown3 hgrow
     have z3:=frozen_of_row w3 g 2 _ _ HC3.out.k3
     have c3:=cell_of_row w3 g 2 _ _ _ HC3.out.k3
     simp only [List.getElem?_toArray,List.getElem?_cons_succ,List.getElem?_cons_zero] at c3
     go_wp2
     go_roundw
     case rel=>exact ⟨k + 1,_,by omega,by omega,by go_num,HC3.out.set2 _,ownsRow_setCell_below HO3.out (by show g < _;omega) _⟩
     case measure=>simp [intOf];omega
   ·have HE:=Lib.hid (names_end 110 10 f.words k (by omega) hk hk10)
    have HP0:=Lib.hid ((SlP.owned (HE.out ▸ HO.out)).lt)
    obtain ⟨N1,hN1⟩:∃ N1,N1=wr.heap.size:=⟨_,rfl⟩
    rw [← hN1] at HP0
    have hgN:g < N1:=by omega
    have hNB:N1≤wr.heap.size:=by omega
    clear hN1
    obtain ⟨wo,rfl⟩:∃ wo:World,wo=wr:=⟨_,rfl⟩
    have HCo:=Lib.hid HC.out
    clear HO HE HC
    rcases (show (¬ (k:Int) < (f.words.length:Int))∨((k:Int) < (f.words.length:Int)∧¬ (k:Int) < 10) by omega) with hni | ⟨hkl,hni⟩
    all_goals
     clear hlt
     go_wp2
     go_loopw [7] (fun i wq => ∃ (k:Nat) (lv:Value) (us:List Value),k≤f.l.length∧k≤10∧(d=0→k=0)∧i = .int .i64 k∧Cf w g bx f.kind (cutN 30 f.name) wv f.frm f.to lv wq∧SlP (fun b=>g + 1≤b∧b < N1) wq wv (((f.words.take 10).map (cutN 110)).map .string)∧Fils N1 (fun b=>N1≤b∧lv.ownBlock≠some b) d wq lv us ((f.l.take k).map (Fil.cut (d - 1)))∧N1≤wq.heap.size) (fun i _=>10 - (intOf i).toNat)
     case atStart=>exact ⟨0,_,[],Nat.zero_le _,Nat.zero_le _,fun _=>rfl,rfl,HCo.out,HP0.out,⟨World.ownsRow_nil wo N1 31 6,rfl,fun j h=>absurd h (by simp)⟩,hNB⟩
     case round=>
      clear HP0 HCo hni c1 c3 z3 hsw hgl hNB
      obtain ⟨k,lv,us,hk,hk10,hkd,rfl,hC,hP,hF,hszq⟩:=hrel
      have HC:=Lib.hid hC
      have HP:=Lib.hid hP
      have HF:=Lib.hid hF
      have HKD:=Lib.hid hkd
      clear hC hP hF hkd
      have hgl:=HC.out.lt
      have hsw:w.heap.size < wr.heap.size:=by omega
      have c1:=cell_of_row wr w.heap.size 5 _ _ _ HC.out.k1
      have c3:=cell_of_row wr g 5 _ _ _ HC.out.k3
      have z3:=frozen_of_row wr g 5 _ _ HC.out.k3
      rw [HBX.out] at c1
      simp only [List.getElem?_toArray,List.getElem?_cons_succ,List.getElem?_cons_zero] at c1 c3
      by_cases hlt:k < f.l.length∧k < 10∧0 < d
      ·obtain ⟨h1,h2,h3⟩:=hlt
       obtain ⟨e,hde,HCC⟩:∃ e,d=e + 1∧RowKit.Hid (CutC e):=by
        rcases HREC.out with h | ⟨e,h,hc⟩
        ·omega
        ·exact ⟨e,h,Lib.hid hc⟩
       have hdi:(1:Int) < (d:Int) + 1:=by omega
       have hwr:IntKind.i64.wrap (d:Int)=(d:Int):=by rw [IntKind.wrap_i64];omega
       obtain ⟨b,off,rfl,hb,hp,hel⟩:=HEL.out (by omega)
       obtain ⟨x0,x1,x2,x3,x4,x5,hfe,q0,q1,q2,q3,q4,q5⟩:=hel k h1
       have HFE:=Lib.hid hfe
       have r0:=(HC.out.below.cell (p:=⟨b,off + k * 6,none⟩) hb).trans q0
       have r1:=(HC.out.below.cell (p:=⟨b,off + k * 6 + 1,none⟩) hb).trans q1
       have r2:=(HC.out.below.cell (p:=⟨b,off + k * 6 + 2,none⟩) hb).trans q2
       have r3:=(HC.out.below.cell (p:=⟨b,off + k * 6 + 3,none⟩) hb).trans q3
       have r4:=(HC.out.below.cell (p:=⟨b,off + k * 6 + 4,none⟩) hb).trans q4
       have r5:=(HC.out.below.cell (p:=⟨b,off + k * 6 + 5,none⟩) hb).trans q5
       have hbw:b < wr.heap.size:=Nat.lt_of_lt_of_le hb HC.out.below.size
       have HDE:=Lib.hid hde
       clear hel q0 q1 q2 q3 q4 q5 hfe hb hde
       go_wp2
       have HBW:=Lib.hid HC.out.below
       refine Flow.wp_region_flow_tail 11 (Flow.specs [.inl ?_,.inl ?_,.inl ?_,.inl ?_,.inl ?_,.inl ?_,.inl ?_,.inl ?_,.inl ?_,.inr (isFil wr.heap.size d (Fil.cut (d - 1) f.l[k])),.inr (newFil wr.heap.size d (Fil.cut (d - 1) f.l[k]))]) (by kernel_rfl) (by kernel_rfl) ?_ ?_
       rotate_left 9
       ·refine Flow.specs_mono ?_
        repeat (first | exact Flow.lmono_nil | refine Flow.lmono_inl ?_ | refine Flow.lmono_inr (isFil_mono _ _ _) ?_ | refine Flow.lmono_inr (newFil_mono _ _ _) ?_)
       all_goals try simp only [List.take_succ_cons,List.take_zero,List.drop_succ_cons,List.drop_zero]
       iterate 9 (refine Flow.tree_valK rfl (fun K hK=>⟨fun w hw hG => ?_,?_⟩);(have hcl:=Flow.bcell hw;clear hG hw;unfold Flow.Runs Flow.yields;go_simp;try rfl);go_simp;refine hK _ ?_;clear hK K)
       (refine Flow.tree_varK rfl (fun K hK=>⟨fun w hw hG => ?_,?_⟩);(clear hG;unfold Flow.Runs Flow.yields;go_simp);rotate_left;intro vz;go_simp;refine hK _ _ ?_;clear hK K;rotate_left)
       ·have hde:=HDE.out
        subst hde
        refine (HCC.out p n _ _ _ (HFE.out.ag (Ag.new p (HBW.out.trans (hw.mono HBW.out.size))))).mono ?_
        rintro e3 w3 ⟨v3,rfl,hf3,hb3⟩
        exact ⟨v3,rfl,hb3,hf3.weak fun b hb=>Nat.le_trans hw.size hb⟩
       (refine Flow.tree_varK rfl (fun K hK=>⟨fun w hw hG => ?_,?_⟩);(have hvz:=(show isFil wr.heap.size d (Fil.cut (d - 1) f.l[k]) vz w by simpa [Flow.upd] using hG 9 (by kernel_rfl));clear hG;obtain ⟨y0,y1,y2,rfl⟩:=FilAt.shape hvz;unfold Flow.Runs Flow.yields;go_simp;refine ⟨(Below.refl _ _).alloc (Nat.le_refl _) _,?_⟩);rotate_left;intro vy;go_simp;refine hK _ _ ?_;clear hK K;rotate_left)
       ·refine ⟨w.heap.size,_,rfl,by simp,FilAt.ag hvz (Ag.new _ ((Below.refl _ _).alloc (Nat.le_refl _) _)),fun j u hj => ?_⟩
        rw [cell_of_row _ _ _ _ _ _ (heap_alloc_new _ _)]
        simpa [cells6] using hj
       refine Flow.tree_nil fun w2 hw2 hG => ?_
       obtain ⟨gn,x,rfl,hgn,hx,hxc⟩:=(show newFil wr.heap.size d (Fil.cut (d - 1) f.l[k]) vy w2 by simpa [Flow.upd] using hG 10)
       clear hG
       have HO2:=Lib.hid (owns_below HF.out.own hw2)
       have HC2:=Lib.hid (HC.out.later hw2)
       have HX:=Lib.hid hx
       have HXC:=Lib.hid hxc
       have HW2:=Lib.hid hw2
       have hsz2:=hw2.size
       have husl:us.length≤10:=by have:=HF.out.len;simp at this;omega
       clear hx hxc hw2
       go_wp2_with (at_builtin;refine wpList_append_own_at _ rfl _ _ 29 rfl N1 31 j0 _ 6 88 Tryz.underlying29 ji jz0 jz1 jz2 rfl (by decide) _ us.length _ rfl HO2.out ⟨gn,0,none⟩ 1 1 (cells6 x) rfl ?_ ?_ ?_ ?_ ?_ ?_ ?_)
       ·rw [cells6_len HX.out]
       ·intro j u hj
        rw [show (⟨gn,0,none⟩:Addr).add j=⟨gn,j,none⟩ by unfold Addr.add;split <;> simp_all]
        exact HXC.out j u hj
       ·exact cells6_one HX.out
       ·unfold maxLen;omega
       ·omega
       ·omega
       intro v' w3 hown3 hgrow _ hloc
       have HF3:=Lib.hid (Fils.more (HF.out.below HW2.out) HX.out (fun g' e=>(HF.out.own.lt g' e).2) hszq hown3 hgrow hloc)
       have HP3:=Lib.hid ((HP.out.ag (Ag.new _ HW2.out)).ag (Ag.grown hgrow (fun j e=>by have:=(HO2.out.lt j e).1;rintro ⟨_,h⟩;omega)))
       obtain ⟨gg,cp,rfl,_⟩:=owns_cell_any hown3 (by omega)
       have HC3:=Lib.hid (HC2.out.grown hgrow (fun j e=>by have:=(HO2.out.lt j e).1;omega))
       have hsz3:=hgrow.size
       clear hown3 hgrow hloc
       have z3:=frozen_of_row w3 g 5 _ _ HC3.out.k3
       have c3:=cell_of_row w3 g 5 _ _ _ HC3.out.k3
       simp only [List.getElem?_toArray,List.getElem?_cons_succ,List.getElem?_cons_zero] at c3
       go_wp2
       go_roundw
       case rel=>
        refine ⟨k + 1,_,us ++ [x],by omega,by omega,fun h=>by omega,by go_num,HC3.out.set5 _,HP3.out.ag (Ag.set _ _ _ (by rintro ⟨h,_⟩;have:g + 1≤g:=h;omega)),?_,by simp [World.setCell];omega⟩
        rw [List.take_succ_eq_append_getElem h1,List.map_append,List.map_singleton]
        exact HF3.out.set hgN (fun b hb=>hb.1) _
       case measure=>simp [intOf];omega
      ·have HCT:RowKit.Hid (Fil.cut d f=Fil.mk f.kind (cutN 30 f.name) ((f.words.take 10).map (cutN 110)) f.frm f.to ((f.l.take k).map (Fil.cut (d - 1)))):=Lib.hid (by
        rcases Nat.eq_zero_or_pos d with h0 | h0
        ·have hk0:=HKD.out h0
         subst h0 hk0;rfl
        ·obtain ⟨e,rfl⟩:∃ e,d=e + 1:=⟨d - 1,by omega⟩
         have:f.l.take k=f.l.take 10:=by
          by_cases e10:k=10
          ·rw [e10]
          ·rw [List.take_of_length_le (by omega),List.take_of_length_le (by omega)]
         rw [this];rfl)
       have hFl:=HF.out.listed (q:=fun b=>w.heap.size + 2≤b∧b≠g) (fun b hb=>⟨by have:=hb.1;omega,by have:=hb.1;omega⟩) (fun b hb=>⟨by omega,by omega⟩)
       obtain ⟨la,lc,rfl,hl1,hl2,hl3⟩:=hFl
       obtain ⟨wa,wn,wc,rfl⟩:=HP.out.shape
       have HL3:=Lib.hid hl3
       have HL2:=Lib.hid hl2
       clear hl3 hl2
       have d0:=cell_of_row wr g 0 _ _ _ HC.out.k3
       have d1:=cell_of_row wr g 1 _ _ _ HC.out.k3
       have d2:=cell_of_row wr g 2 _ _ _ HC.out.k3
       have d3:=cell_of_row wr g 3 _ _ _ HC.out.k3
       have d4:=cell_of_row wr g 4 _ _ _ HC.out.k3
       have e0:=cell_of_row wr (w.heap.size + 1) 0 _ _ _ HC.out.k2
       have e1:=cell_of_row wr (w.heap.size + 1) 1 _ _ _ HC.out.k2
       have e2:=cell_of_row wr (w.heap.size + 1) 2 _ _ _ HC.out.k2
       have e3:=cell_of_row wr (w.heap.size + 1) 3 _ _ _ HC.out.k2
       have e4:=cell_of_row wr (w.heap.size + 1) 4 _ _ _ HC.out.k2
       have e5:=cell_of_row wr (w.heap.size + 1) 5 _ _ _ HC.out.k2
       have y0:=frozen_of_row wr (w.heap.size + 1) 0 _ _ HC.out.k2
       have y1:=frozen_of_row wr (w.heap.size + 1) 1 _ _ HC.out.k2
       have y2:=frozen_of_row wr (w.heap.size + 1) 2 _ _ HC.out.k2
       have y3:=frozen_of_row wr (w.heap.size + 1) 3 _ _ HC.out.k2
       have y4:=frozen_of_row wr (w.heap.size + 1) 4 _ _ HC.out.k2
       have y5:=frozen_of_row wr (w.heap.size + 1) 5 _ _ HC.out.k2
       simp only [List.getElem?_toArray,List.getElem?_cons_succ,List.getElem?_cons_zero] at d0 d1 d2 d3 d4 e0 e1 e2 e3 e4 e5
       rcases (show (¬ (k:Int) < (f.l.length:Int))∨((k:Int) < (f.l.length:Int)∧¬ (k:Int) < 10)∨((k:Int) < (f.l.length:Int)∧(k:Int) < 10∧¬ (1:Int) < (d:Int) + 1) by omega) with hni | ⟨hkl,hni⟩ | ⟨hkl,hk10',hni⟩
       all_goals
        clear hlt
        go_wp2
        refine bodyPost_ret (v:=.agg #[.int .i64 f.kind,.string (cutN 30 f.name),.slice wa wn wc,.int .i64 f.frm,.int .i64 f.to,.slice la k lc]) (by simp [results,Tryz.results67,go_sem,e0,e1,e2,e3,e4,e5]) rfl ⟨_,rfl,?_,set6_below _ _ _ _ _ _ HC.out.below (by omega)⟩
        rw [HCT.out]
        refine FilAt.weak (p:=fun b=>w.heap.size + 2≤b∧b≠g) (fun b hb=>by have:=hb.1;omega) ?_
        refine FilAt.ag ?_ (set6_ag _ _ _ _ _ _ _ (by rintro ⟨h,_⟩;omega))
        refine cut_fil (by simp;omega) (by have:=cutN_size 30 f.name;unfold maxLen;omega) (HP.out.weak fun b hb=>⟨by have:=hb.1;omega,by have:=hb.1;omega⟩) (names_small 110 10 f.words (by omega)) hl1 HL2.out HL3.out
end Go.Proofs.YtbbgjjjeecfnoaaGreatDoor
namespace Tess
namespace Fil
def few (f:Fil):Fil:=if 100 < (cut 7 f).count then mk (cut 7 f).kind (cut 7 f).name (cut 7 f).words (cut 7 f).frm (cut 7 f).to [] else cut 7 f
end Fil
end Tess
namespace Go.Proofs.YtbbgjjjeecfnoaaGreatDoor
open Go.RowKit Go.Sort
open Tess (Fil)
theorem cut_any (d:Nat) (hd:d≤100):CutC d:=by
 induction d with
 | zero=>exact cut_step 0 hd (.inl rfl)
 | succ d ih=>exact cut_step (d + 1) hd (.inr ⟨d,rfl,ih (by omega)⟩)
set_option maxRecDepth 100000 in
set_option maxHeartbeats 2000000 in
theorem few_any (p:Nat→Prop) (n:Nat) (v:Value) (f:Fil) (w:World) (hv:FilAt p n w v f) :
  Calls Tryz.prog 34 #[v] w fun e w' => ∃ v',e = .returned v'∧FilAt (fun b=>w.heap.size≤b) 8 w' v' (Fil.few f)∧Below w.heap.size w w':=by
 have HV:=Lib.hid hv
 obtain ⟨xw,a,cap,rfl⟩:=hv.shape
 cases n with
 | zero=>exact hv.elim
 | succ n=>
 obtain ⟨vw,a',cap',heq,_,hvw,_⟩:=hv
 obtain ⟨wa,wn,wc,rfl⟩:=hvw.shape
 obtain ⟨rfl,rfl,rfl⟩:xw = .slice wa wn wc∧a=a'∧cap=cap':=by simpa using heq
 clear heq hvw
 obtain ⟨c,hc⟩:∃ c,c=Fil.cut 7 f:=⟨_,rfl⟩
 have hcc:c.count≤1000000000:=by rw [hc];exact Nat.le_trans (Fil.cut_count 7 f) (by decide)
 have HCUT:=Lib.hid (fun W (hB:Below w.heap.size w W)=>hc ▸ cut_any 7 (by omega) p (n + 1) _ f W (HV.out.ag (Ag.new p hB)))
 have HCC:=Lib.hid hcc
 have HFEW:RowKit.Hid (Fil.few f=if 100 < c.count then Fil.mk c.kind c.name c.words c.frm c.to [] else c):=Lib.hid (by rw [hc];rfl)
 clear hc hcc HV
 go_enter Tryz.func34,Tryz.ntmps34
 go_wp2_with fail
 obtain ⟨W0,hW0⟩:∃ W0,(w.alloc (.cells #[.int .i64 f.kind,.string f.name,.slice wa wn wc,.int .i64 f.frm,.int .i64 f.to,.slice a f.l.length cap] 31)).alloc (.cells zeroFil 31)=W0:=⟨_,rfl⟩
 obtain ⟨hk1,hk2,hS0,hB0⟩:W0.heap[w.heap.size]? = some (.cells #[.int .i64 f.kind,.string f.name,.slice wa wn wc,.int .i64 f.frm,.int .i64 f.to,.slice a f.l.length cap] 31 (0,0))∧W0.heap[w.heap.size + 1]? = some (.cells zeroFil 31 (0,0))∧W0.heap.size=w.heap.size + 2∧Below w.heap.size w W0:=by rw [← hW0];exact laid2 w _ _
 rw [hW0]
 clear hW0
 have HS0:=Lib.hid hS0
 have HB0:=Lib.hid hB0
 have HK1:=Lib.hid hk1
 have HK2:=Lib.hid hk2
 clear hS0 hB0 hk1 hk2
 refine (HCUT.out W0 HB0.out).mono ?_
 rintro e1 w1 ⟨v1,rfl,hf1,hB1⟩
 obtain ⟨u2,ua,uc,rfl⟩:=hf1.shape
 obtain ⟨vw1,a1,cap1,heq,_,hvw1,_⟩:=(show FilAt _ (7 + 1) _ _ _ from hf1)
 obtain ⟨va,vn,vc,rfl⟩:=hvw1.shape
 obtain ⟨rfl,rfl,rfl⟩:u2 = .slice va vn vc∧ua=a1∧uc=cap1:=by simpa using heq
 have HF1:=Lib.hid hf1
 have HB1:=Lib.hid hB1
 have hk1:=(hB1.block _ (by have:=HS0.out;omega)).trans HK1.out
 have hk2:=(hB1.block _ (by have:=HS0.out;omega)).trans HK2.out
 have z0:=frozen_of_row w1 w.heap.size 0 _ _ hk1
 have z1:=frozen_of_row w1 w.heap.size 1 _ _ hk1
 have z2:=frozen_of_row w1 w.heap.size 2 _ _ hk1
 have z3:=frozen_of_row w1 w.heap.size 3 _ _ hk1
 have z4:=frozen_of_row w1 w.heap.size 4 _ _ hk1
 have z5:=frozen_of_row w1 w.heap.size 5 _ _ hk1
 have e0:=cell_of_row w1 w.heap.size 0 _ _ _ hk1
 have e1:=cell_of_row w1 w.heap.size 1 _ _ _ hk1
 have e2:=cell_of_row w1 w.heap.size 2 _ _ _ hk1
 have e3:=cell_of_row w1 w.heap.size 3 _ _ _ hk1
 have e4:=cell_of_row w1 w.heap.size 4 _ _ _ hk1
 have e5:=cell_of_row w1 w.heap.size 5 _ _ _ hk1
 simp only [List.getElem?_toArray,List.getElem?_cons_succ,List.getElem?_cons_zero] at e0 e1 e2 e3 e4 e5
 have HK1':=Lib.hid hk1
 have HK2':=Lib.hid hk2
 clear heq hvw1 hf1 hB1 HCUT hk1 hk2 HK1 HK2
 go_wp2_with fail
 clear z0 z1 z2 z3 z4 z5 e0 e1 e2 e3 e4 e5
 obtain ⟨W2,hW2,hk1,hk2,hf2,hB2⟩:∃ W2,((((((w1.setCell ⟨w.heap.size,0,none⟩ (.int .i64 c.kind)).setCell ⟨w.heap.size,1,none⟩ (.string c.name)).setCell ⟨w.heap.size,2,none⟩ (.slice va vn vc)).setCell ⟨w.heap.size,3,none⟩ (.int .i64 c.frm)).setCell ⟨w.heap.size,4,none⟩ (.int .i64 c.to)).setCell ⟨w.heap.size,5,none⟩ (.slice ua c.l.length uc))=W2 ∧
   W2.heap[w.heap.size]? = some (.cells #[.int .i64 c.kind,.string c.name,.slice va vn vc,.int .i64 c.frm,.int .i64 c.to,.slice ua c.l.length uc] 31 (0,0))∧W2.heap[w.heap.size + 1]? = some (.cells zeroFil 31 (0,0)) ∧
   FilAt (fun b=>w.heap.size + 2≤b) 8 W2 (.agg #[.int .i64 c.kind,.string c.name,.slice va vn vc,.int .i64 c.frm,.int .i64 c.to,.slice ua c.l.length uc]) c∧Below w.heap.size w W2:=by
  have:=HS0.out
  refine ⟨_,rfl,set6 _ _ _ _ _ _ HK1'.out,?_,?_,set6_below _ _ _ _ _ _ (HB0.out.trans (HB1.out.mono (by omega))) (Nat.le_refl _)⟩
  ·rw [set6_other _ _ _ _ _ _ (by omega)];exact HK2'.out
  ·rw [← this]
   exact HF1.out.ag (set6_ag _ _ _ _ _ _ _ (by omega))
 rw [hW2]
 clear hW2 HK1' HK2' HB0 HB1 HF1
 have HF2:=Lib.hid hf2
 have HCNT:=Lib.hid (count_any _ 8 _ c W2 hf2 HCC.out)
 have HB2:=Lib.hid hB2
 have HK1:=Lib.hid hk1
 have HK2:=Lib.hid hk2
 clear hf2 hB2 hk1 hk2
 refine HCNT.out.mono ?_
 rintro e3 w3 ⟨rfl,hB3⟩
 have hs1:w.heap.size + 1 < W2.heap.size:=(Array.getElem?_eq_some_iff.1 HK2.out).1
 have hk1:=(hB3.block _ (by omega)).trans HK1.out
 have hk2:=(hB3.block _ (by omega)).trans HK2.out
 have z5:=frozen_of_row w3 w.heap.size 5 _ _ hk1
 have e0:=cell_of_row w3 w.heap.size 0 _ _ _ hk1
 have e1:=cell_of_row w3 w.heap.size 1 _ _ _ hk1
 have e2:=cell_of_row w3 w.heap.size 2 _ _ _ hk1
 have e3:=cell_of_row w3 w.heap.size 3 _ _ _ hk1
 have e4:=cell_of_row w3 w.heap.size 4 _ _ _ hk1
 have e5:=cell_of_row w3 w.heap.size 5 _ _ _ hk1
 have d0:=cell_of_row w3 (w.heap.size + 1) 0 _ _ _ hk2
 have d1:=cell_of_row w3 (w.heap.size + 1) 1 _ _ _ hk2
 have d2:=cell_of_row w3 (w.heap.size + 1) 2 _ _ _ hk2
 have d3:=cell_of_row w3 (w.heap.size + 1) 3 _ _ _ hk2
 have d4:=cell_of_row w3 (w.heap.size + 1) 4 _ _ _ hk2
 have d5:=cell_of_row w3 (w.heap.size + 1) 5 _ _ _ hk2
 have y0:=frozen_of_row w3 (w.heap.size + 1) 0 _ _ hk2
 have y1:=frozen_of_row w3 (w.heap.size + 1) 1 _ _ hk2
 have y2:=frozen_of_row w3 (w.heap.size + 1) 2 _ _ hk2
 have y3:=frozen_of_row w3 (w.heap.size + 1) 3 _ _ hk2
 have y4:=frozen_of_row w3 (w.heap.size + 1) 4 _ _ hk2
 have y5:=frozen_of_row w3 (w.heap.size + 1) 5 _ _ hk2
 simp only [List.getElem?_toArray,List.getElem?_cons_succ,List.getElem?_cons_zero] at e0 e1 e2 e3 e4 e5 d0 d1 d2 d3 d4 d5
 have HB3:=Lib.hid hB3
 have HF3:=Lib.hid (HF2.out.ag (Ag.new _ hB3))
 have hsz:=hB3.size
 clear hB3 hk1 hk2
 by_cases hc:100 < c.count
 ·have hci:(100:Int) < (c.count:Int):=by omega
  go_wp2
  refine bodyPost_ret (v:=.agg #[.int .i64 c.kind,.string c.name,.slice va vn vc,.int .i64 c.frm,.int .i64 c.to,.slice none 0 0]) (by simp [results,Tryz.results34,go_sem,d0,d1,d2,d3,d4,d5]) rfl ⟨_,rfl,?_,set6_below _ _ _ _ _ _ ((Bt HB2.out HB3.out).setCell (Nat.le_refl _) _) (by omega)⟩
  rw [HFEW.out,if_pos hc]
  refine FilAt.weak (p:=fun b=>w.heap.size + 2≤b) (fun b hb=>by omega) ?_
  refine FilAt.ag ?_ ((Ag.set _ _ _ (by show ¬ w.heap.size + 2≤w.heap.size;omega)).trans (set6_ag _ _ _ _ _ _ _ (by omega)))
  obtain ⟨vw,a2,cap2,heq,h1,h2,h3,_⟩:=(show FilAt _ (7 + 1) _ _ _ from HF3.out)
  obtain ⟨rfl,_⟩ : .slice va vn vc=vw∧ua=a2:=by simp at heq;exact ⟨heq.1,heq.2.1⟩
  exact cut_fil rfl h1 h2 h3 (Nat.zero_le _) (fun _=>rfl) (fun h=>absurd h (by simp))
 ·have hci:¬ (100:Int) < (c.count:Int):=by omega
  go_wp2
  refine bodyPost_ret (v:=.agg #[.int .i64 c.kind,.string c.name,.slice va vn vc,.int .i64 c.frm,.int .i64 c.to,.slice ua c.l.length uc]) (by simp [results,Tryz.results34,go_sem,d0,d1,d2,d3,d4,d5]) rfl ⟨_,rfl,?_,set6_below _ _ _ _ _ _ (Bt HB2.out HB3.out) (by omega)⟩
  rw [HFEW.out,if_neg hc]
  refine FilAt.weak (p:=fun b=>w.heap.size + 2≤b) (fun b hb=>by omega) ?_
  exact FilAt.ag HF3.out (set6_ag _ _ _ _ _ _ _ (by omega))
end Go.Proofs.YtbbgjjjeecfnoaaGreatDoor
namespace Go
open Go.RowKit
theorem wpList_insert_own {H:Type} {P:Program} (w:World) {ops:Array Oper} {rest:List Oper} {o:Oper} {a:Act} {Q:Exit→Act→World→Prop}
  (hg:o.guard=none) (m x v:Operand) (t:TypeId) (hop:o.op=Op.insert t m x v)
  (k e:TypeId) (K:Maps.Keyed P k) (ht:P.underlying t=some (.map k e)) (R:Value→Option (DataW H×List MemPlace)) (b n:Nat) (D:DataW H)
  (hm:a.eval m = .map (some b)) (hown:w.ownsMap P k R b n D) (hn:n < maxLen) (key val:Value) (kl:Lit) (hx:a.eval x=key) (hv:a.eval v=val) (hkey:keyOf P k key=some kl)
  (d:DataW H) (ps:List MemPlace) (hval:R val=some (d,ps))
  (hK:∀ w',w'.ownsMap P k R b (n + 1) (D.put kl d)→w.grownBy w' (some b)→wpList P ops Q rest (a.put o.dst undef) w') :
  wpList P ops Q (o :: rest) a w:=by
 refine wpList_plain hg fun K' hK' => ?_
 obtain ⟨w',hrun,r1,r2⟩:=hown.update K ht hn hkey hval
 unfold Oper.wp
 simp [execOp,hop,hm,hx,hv,hrun,Result.andThen]
 exact hK' _ _ (hK w' r1 r2)
def asIs (v:Value):Option (DataW Value×List MemPlace):=some (.held v,[])
end Go
namespace Go.Proofs.YtbbgjjjeecfnoaaGreatDoor
open Go.RowKit Go.Sort Go.Maps
open Tess (Fil)
def formV (x:Bool×Bool×(Nat×Nat)×(Nat×Nat)):Value:=.agg #[.bool x.1,.bool x.2.1,.int .i64 (x.2.2.1.1:Nat),.int .i64 (x.2.2.1.2:Nat),.int .i64 (x.2.2.2.1:Nat),.int .i64 (x.2.2.2.2:Nat)]
def zeroForm:Bool×Bool×(Nat×Nat)×(Nat×Nat):=(false,false,(0,0),(0,0))
def formsD:DataW Value:=
 (((((((((DataW.map []).put (.int .i64 1) (.held (formV (false,false,(0,0),(0,0))))).put (.int .i64 2) (.held (formV (true,false,(1,8),(0,0))))).put (.int .i64 3) (.held (formV (true,false,(0,0),(0,0))))).put (.int .i64 4) (.held (formV (true,false,(1,1),(0,0))))).put (.int .i64 5) (.held (formV (true,false,(2,2),(0,0))))).put (.int .i64 6) (.held (formV (false,true,(0,0),(0,0))))).put (.int .i64 7) (.held (formV (false,false,(0,0),(1,1))))).put (.int .i64 8) (.held (formV (false,false,(0,0),(2,8))))).put (.int .i64 9) (.held (formV (false,false,(0,0),(2,8))))
theorem lawInt:Keyed Tryz.prog 3:=int_keyed Tryz.underlying3
theorem zeroFormV (w:World):(zeroValue 329).run Tryz.prog w = .ok (formV zeroForm) w:=by kernel_rfl
def FormsAt (w:World) (b:Nat):Prop:=w.ownsMap Tryz.prog 3 asIs b 9 formsD
theorem forms_at (k:Int):formsD.atKey (.int .i64 k) (.held (formV zeroForm)) = .held (formV ((Fil.form k).getD zeroForm))∧Maps.has formsD (.int .i64 k)=(Fil.form k).isSome:=by
 by_cases h1:k=1
 ·subst h1;exact ⟨rfl,rfl⟩
 by_cases h2:k=2
 ·subst h2;exact ⟨rfl,rfl⟩
 by_cases h3:k=3
 ·subst h3;exact ⟨rfl,rfl⟩
 by_cases h4:k=4
 ·subst h4;exact ⟨rfl,rfl⟩
 by_cases h5:k=5
 ·subst h5;exact ⟨rfl,rfl⟩
 by_cases h6:k=6
 ·subst h6;exact ⟨rfl,rfl⟩
 by_cases h7:k=7
 ·subst h7;exact ⟨rfl,rfl⟩
 by_cases h8:k=8
 ·subst h8;exact ⟨rfl,rfl⟩
 by_cases h9:k=9
 ·subst h9;exact ⟨rfl,rfl⟩
 have hf:Fil.form k=none:=by unfold Fil.form;simp [h1,h2,h3,h4,h5,h6,h7,h8,h9]
 have ne:∀ m:Int,k≠m→(Lit.int .i64 k) ≠ .int .i64 m:=fun m h e=>h (by cases e;rfl)
 rw [hf]
 unfold formsD
 constructor
 ·rw [atKey_put_other (ne 9 h9),atKey_put_other (ne 8 h8),atKey_put_other (ne 7 h7),atKey_put_other (ne 6 h6),atKey_put_other (ne 5 h5),atKey_put_other (ne 4 h4),atKey_put_other (ne 3 h3),atKey_put_other (ne 2 h2),atKey_put_other (ne 1 h1)]
  rfl
 ·rw [has_put_other (ne 9 h9),has_put_other (ne 8 h8),has_put_other (ne 7 h7),has_put_other (ne 6 h6),has_put_other (ne 5 h5),has_put_other (ne 4 h4),has_put_other (ne 3 h3),has_put_other (ne 2 h2),has_put_other (ne 1 h1)]
  rfl
theorem FormsAt.look {w:World} {b:Nat} (h:FormsAt w b) (k:Int) (hk : -9223372036854775808≤k∧k≤9223372036854775807) :
  (Instr.lookup 331 (.map (some b)) (.int .i64 k) true).run Tryz.prog w = .ok (.tuple #[formV ((Fil.form k).getD zeroForm),.bool (Fil.form k).isSome]) w:=by
 obtain ⟨v,ps,hrun,hv⟩:=World.ownsMap.look_ok h lawInt Tryz.underlying331 (zeroFormV w) (zd:=.held (formV zeroForm)) (zp:=[]) rfl (keyOf_int_mk Tryz.underlying3 (WalkArith.wf_i64 hk))
 rw [(forms_at k).1] at hv
 rw [(forms_at k).2] at hrun
 unfold asIs at hv
 have:v=formV ((Fil.form k).getD zeroForm):=by simpa using (Prod.ext_iff.1 (Option.some.inj hv)).1
 rw [hrun,this]
set_option maxRecDepth 100000 in
set_option maxHeartbeats 4000000 in
theorem forms_any (w:World) :
  Calls Tryz.prog 256 #[] w fun e w' => ∃ b,e = .returned (.map (some b))∧FormsAt w' b∧Below w.heap.size w w':=by
 have hmm:=@run_makeMap Tryz.prog
 have HO0:=Lib.hid (World.ownsMap_made (H:=Value) (w.alloc (.cells #[.int .i64 2,.int .i64 8] 327)) Tryz.prog 3 asIs)
 have HB0:=Lib.hid (((Below.refl w.heap.size w).alloc (Nat.le_refl _) (.cells #[.int .i64 2,.int .i64 8] 327)).alloc (by simp) (.map #[] 0))
 have HC0:=Lib.hid (show ((w.alloc (.cells #[.int .i64 2,.int .i64 8] 327)).alloc (.map #[] 0)).heap[w.heap.size]? = some (.cells #[.int .i64 2,.int .i64 8] 327 (0,0)) from (laid2 w _ _).1)
 rw [show (w.alloc (.cells #[.int .i64 2,.int .i64 8] 327)).heap.size=w.heap.size + 1 by simp] at HO0
 go_enter Tryz.func256,Tryz.ntmps256
 have HO:=HO0
 have HB:=HB0
 have HC:=HC0
 clear HO0 HB0 HC0
 go_wp2_with (refine wpList_insert_own _ rfl _ _ _ 331 rfl 3 329 lawInt Tryz.underlying331 asIs (w.heap.size + 1) _ _ rfl HO.out (by decide) _ _ _ rfl rfl (keyOf_int_mk Tryz.underlying3 (by decide)) _ _ rfl ?_;intro w1 hown1 hg1;have hc1:=(hg1.block w.heap.size (by have:=HB.out;have:=(Array.getElem?_eq_some_iff.1 HC.out).1;exact this) (by simp)).trans HC.out;have HB':=Lib.hid (HB.out.grown hg1 HB.out.size (fun j e=>by cases e;omega));have HO':=Lib.hid hown1;have HC':=Lib.hid hc1;have q0:=cell_of_row w1 w.heap.size 0 _ _ _ hc1;have q1:=cell_of_row w1 w.heap.size 1 _ _ _ hc1;simp only [List.getElem?_toArray,List.getElem?_cons_succ,List.getElem?_cons_zero] at q0 q1;clear hown1 hg1 hc1 HO HB HC;have HO:=HO';have HB:=HB';have HC:=HC';clear HO' HB' HC')
 go_ret
 exact ⟨_,rfl,HO.out,HB.out⟩
end Go.Proofs.YtbbgjjjeecfnoaaGreatDoor
