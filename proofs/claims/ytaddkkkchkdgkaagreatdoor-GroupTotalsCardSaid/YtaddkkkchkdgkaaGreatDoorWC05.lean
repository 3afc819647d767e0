/- Joined by mergeK.py: F16, F17, F18, Rf -/
import Derived.Test.YtaddkkkchkdgkaaGreatDoorWC04
import Derived.RangeFuncRecord
import Derived.RangeFuncIn
import Derived.RangeFuncLeaves
import Derived.RangeFuncCalls
import Derived.Below
import Derived.Test.YtaddkkkchkdgkaaGreatDoorWC01
namespace Go.Proofs.YtaddkkkchkdgkaaGreatDoor
open Go.RowKit Go.Sort
open Tess (Fil)
def isForms (v:Value) (w:World):Prop:=∃ b,v = .map (some b)∧FormsAt w b
theorem FormsAt.below {w w':World} {b:Nat} (h:FormsAt w b) (hb:Below w.heap.size w w'):FormsAt w' b:=World.ownsMap.kept h (Below.grownNone hb) (by simp)
theorem isFormsR_mono {B:Nat} {t:TypeId} {Z Y:Array Value}:FlowR.Spec.mono (FlowR.once B t Z Y) (.inr isForms):=by
 rintro v a b ⟨g,h1,es,clock,hb,hf⟩ hr
 refine ⟨g,h1,es,clock,?_,hf⟩
 rcases hr.2.2.2.2.2 g (Array.getElem?_eq_some_iff.1 hb).1 with e | ⟨e,_⟩
 ·exact e.trans hb
 ·rw [hb] at e;cases e
theorem once_set6 {B:Nat} {t:TypeId} {Z:Array Value} {w:World} {g:Nat} {x0 x1 x2 x3 x4 x5 y0 y1 y2 y3 y4 y5:Value} (v:Value) (h:w.heap[g]? = some (.cells #[x0,x1,x2,x3,x4,x5] t (0,0))) (hx : #[x0,x1,x2,x3,x4,x5]=Z∨#[x0,x1,x2,x3,x4,x5]=#[y0,y1,y2,y3,y4,y5]) (hB:B≤g) :
  (FlowR.once B t Z #[y0,y1,y2,y3,y4,y5]).r w ((((((w.setCell ⟨g,0,none⟩ y0).setCell ⟨g,1,none⟩ y1).setCell ⟨g,2,none⟩ y2).setCell ⟨g,3,none⟩ y3).setCell ⟨g,4,none⟩ y4).setCell ⟨g,5,none⟩ y5) ∧
   FlowR.Done B t #[y0,y1,y2,y3,y4,y5] (.pointer (some ⟨g,0,none⟩)) v ((((((w.setCell ⟨g,0,none⟩ y0).setCell ⟨g,1,none⟩ y1).setCell ⟨g,2,none⟩ y2).setCell ⟨g,3,none⟩ y3).setCell ⟨g,4,none⟩ y4).setCell ⟨g,5,none⟩ y5):=by
 have hb:=set6_below y0 y1 y2 y3 y4 y5 (Below.refl B w) hB
 have hs:=set6 y0 y1 y2 y3 y4 y5 h
 have ho:∀ k,k≠g→_:=fun k e=>set6_other (W:=w) (g:=g) (k:=k) y0 y1 y2 y3 y4 y5 e
 generalize ((((((w.setCell ⟨g,0,none⟩ y0).setCell ⟨g,1,none⟩ y1).setCell ⟨g,2,none⟩ y2).setCell ⟨g,3,none⟩ y3).setCell ⟨g,4,none⟩ y4).setCell ⟨g,5,none⟩ y5)=W at *
 refine ⟨⟨hb.os,hb.tape,hb.output,hb.size,hb.block,fun k hk => ?_⟩,g,rfl,hB,hs⟩
 by_cases e:k=g
 ·subst e
  rcases hx with hx | hx
  ·exact .inr ⟨hx ▸ h,hs⟩
  ·exact .inl (hs.trans (hx ▸ h).symm)
 ·exact .inl (ho k e)
theorem right_cells {w w':World} {g b:Nat} {x0 x1 x2 x3 x4 x5 y0 y1 y2 y3 y4 y5:Value} {t u:TypeId} (hB:Below w.heap.size w w') (hg:w.heap[g]? = some (.cells #[x0,x1,x2,x3,x4,x5] t (0,0))) (hb:w.heap[b]? = some (.cells #[y0,y1,y2,y3,y4,y5] u (0,0))) :
  w'.cell? ⟨g,0,none⟩=some x0∧w'.cell? ⟨g,1,none⟩=some x1∧w'.cell? ⟨g,2,none⟩=some x2∧w'.cell? ⟨g,3,none⟩=some x3∧w'.cell? ⟨g,4,none⟩=some x4∧w'.cell? ⟨g,5,none⟩=some x5 ∧
   w'.cell? ⟨b,1,none⟩=some y1∧w'.cell? ⟨b,2,none⟩=some y2∧w'.cell? ⟨b,3,none⟩=some y3∧w'.cell? ⟨b,4,none⟩=some y4∧w'.cell? ⟨b,5,none⟩=some y5:=by
 have hg':=(hB.block _ (Array.getElem?_eq_some_iff.1 hg).1).trans hg
 have hb':=(hB.block _ (Array.getElem?_eq_some_iff.1 hb).1).trans hb
 exact ⟨cell_of_row _ _ 0 _ _ _ hg',cell_of_row _ _ 1 _ _ _ hg',cell_of_row _ _ 2 _ _ _ hg',cell_of_row _ _ 3 _ _ _ hg',cell_of_row _ _ 4 _ _ _ hg',cell_of_row _ _ 5 _ _ _ hg',cell_of_row _ _ 1 _ _ _ hb',cell_of_row _ _ 2 _ _ _ hb',cell_of_row _ _ 3 _ _ _ hb',cell_of_row _ _ 4 _ _ _ hb',cell_of_row _ _ 5 _ _ _ hb'⟩
theorem forms_run (w:World):Calls Tryz.prog 207 #[] w fun e w' => ∃ v,e = .returned v∧Below w.heap.size w w'∧isForms v w':=
 (forms_any w).mono fun _ _ ⟨b,h1,h2,h3⟩=>⟨_,h1,h3,b,rfl,h2⟩
set_option maxRecDepth 100000 in
set_option maxHeartbeats 4000000 in
theorem isRight_any (p:Nat→Prop) (n:Nat) (vs v:Value) (s:Tess.Sch) (f:Fil) (w:World) (hs:SchAt p w vs s) (hv:FilAt p n w v f) (hk : -9223372036854775808≤f.kind∧f.kind≤9223372036854775807) :
  Calls Tryz.prog 176 #[vs,v] w fun e w'=>e = .returned (.bool (Fil.own s f))∧Below w.heap.size w w':=by
 have HDIM:=Lib.hid (fun W (hB:Below w.heap.size w W)=>dim_any vs s f.name p W (hs.ag (Ag.new p hB)))
 obtain ⟨vd,vm,rfl,hd,hm,_,_⟩:=hs
 obtain ⟨ad,capd,rfl,_⟩:=slp_len hd
 obtain ⟨am,capm,rfl,_⟩:=slp_len hm
 cases n with
 | zero=>exact hv.elim
 | succ n=>
 obtain ⟨vw,a,cap,rfl,hnm,hw,_,hll,_,_⟩:=hv
 have HCL:=Lib.hid (fun W (hB:Below w.heap.size w W)=>contains_long vw f.words W (hw.1.below hB))
 obtain ⟨aw,capw,rfl,hwl⟩:=slp_len hw
 obtain ⟨x,hx⟩:∃ x,x=(Fil.form f.kind).getD zeroForm:=⟨_,rfl⟩
 obtain ⟨ok,hok⟩:∃ ok,ok=(Fil.form f.kind).isSome:=⟨_,rfl⟩
 have HLOOK:RowKit.Hid (∀ (W:World) (b:Nat),FormsAt W b→(Instr.lookup 282 (.map (some b)) (.int .i64 f.kind) true).run Tryz.prog W = .ok (.tuple #[formV x,.bool ok]) W):=Lib.hid (fun W b h=>by rw [hx,hok];exact h.look f.kind hk)
 have HOWN:RowKit.Hid (Fil.own s f=(ok && ((Tess.dimW s f.name).2 == x.1) && ((Tess.dimW s f.name).2 || f.name.size == 0) && (x.2.1 || (decide (f.frm=0) && decide (f.to=0))) && Fil.inW f.words.length x.2.2.1 && Fil.inW f.l.length x.2.2.2 && !f.words.any Tess.isLong)):=Lib.hid (by
  rw [hx,hok]
  unfold Fil.own
  cases Fil.form f.kind with
  | none=>rfl
  | some y=>obtain ⟨y1,y2,y3,y4⟩:=y;simp only [Option.getD_some,Option.isSome_some,Bool.true_and];rfl)
 clear hd hm hw hx hok
 obtain ⟨hn,hsp,⟨w0,w1⟩,l0,l1⟩:=x
 have HW:=Lib.hid (fun w=>fwithin_any f.words.length w0 w1 w)
 have HL:=Lib.hid (fun w=>fwithin_any f.l.length l0 l1 w)
 simp only [formV] at HLOOK
 simp only at HOWN
 generalize Fil.own s f=ow at *
 generalize Tess.dimW s f.name=dm at *
 obtain ⟨di,isD⟩:=dm
 simp only at HDIM HOWN
 go_enter Tryz.func176,Tryz.ntmps176
 go_wp2
 obtain ⟨W0,hW0⟩:∃ W0,(w.alloc (.cells #[.slice ad s.dims.length capd,.slice am s.mets.length capm,.int .i64 s.grain] 24)).alloc (.cells #[.int .i64 f.kind,.string f.name,.slice aw f.words.length capw,.int .i64 f.frm,.int .i64 f.to,.slice a f.l.length cap] 31)=W0:=⟨_,rfl⟩
 obtain ⟨hk1,hk2,hS0,hB0⟩:W0.heap[w.heap.size]? = some (.cells #[.slice ad s.dims.length capd,.slice am s.mets.length capm,.int .i64 s.grain] 24 (0,0))∧W0.heap[w.heap.size + 1]? = some (.cells #[.int .i64 f.kind,.string f.name,.slice aw f.words.length capw,.int .i64 f.frm,.int .i64 f.to,.slice a f.l.length cap] 31 (0,0))∧W0.heap.size=w.heap.size + 2∧Below w.heap.size w W0:=by rw [← hW0];exact laid2 w _ _
 rw [hW0]
 clear hW0
 have s1:w.heap.size + 1 < W0.heap.size:=by omega
 have c0:=cell_of_row W0 (w.heap.size + 1) 0 _ _ _ hk2
 simp only [List.getElem?_toArray,List.getElem?_cons_zero] at c0
 have HS0:=Lib.hid hS0
 have HB0:=Lib.hid hB0
 have HK1:=Lib.hid hk1
 have HK2:=Lib.hid hk2
 clear hS0 hB0 hk1 hk2
 obtain ⟨Z,hZ⟩:∃ Z:Array Value,Z=#[.bool false,.bool false,.int .i64 0,.int .i64 0,.int .i64 0,.int .i64 0]:=⟨_,rfl⟩
 obtain ⟨Y,hY⟩:∃ Y:Array Value,Y=#[.bool hn,.bool hsp,.int .i64 (w0:Nat),.int .i64 (w1:Nat),.int .i64 (l0:Nat),.int .i64 (l1:Nat)]:=⟨_,rfl⟩
 have HZ:=Lib.hid hZ
 have HY:=Lib.hid hY
 clear hZ hY
 refine FlowR.wp_region_flow (R:=FlowR.once (w.heap.size + 2) 280 Z Y) (FlowR.specs 8 (fun x => .inr (FlowR.Done (w.heap.size + 2) 280 Y x)) [.inr isForms,.inl ?_,.inl ?_,.inl ?_,.inl ?_,.inl ?_,.inl ?_,.inr (FlowR.One (w.heap.size + 2) 280 Z Y),.inl undef,.inl ?_]) (fun _=>5) (FlowR.specs_ok (by kernel_rfl)) (by kernel_rfl) (by kernel_rfl) ?_ ?_
 rotate_left 7
 ·refine FlowR.specs_mono (fun x=>FlowR.done_mono x) ?_
  repeat (first | exact FlowR.lmono_nil | refine FlowR.lmono_inl ?_ | refine FlowR.lmono_inr isFormsR_mono ?_ | refine FlowR.lmono_inr FlowR.one_mono ?_)
 (refine FlowR.tree_varK rfl (fun K hK=>⟨fun w hw hG => ?_,?_⟩);(have hws:=hw.2.2.2.1;rw [HS0.out] at hws;clear hG hw;unfold FlowR.Runs FlowR.yields;go_simp;exact (forms_run w).mono fun e w' ⟨v,h1,h2,h3⟩=>⟨v,h1,FlowR.once_of h2 hws,h3⟩);intro vb;go_simp;refine hK _ _ ?_;clear hK K)
 iterate 2 (refine FlowR.tree_valK rfl (fun K hK=>⟨fun w hw hG => ?_,?_⟩);(have hcl:=Flow.bcell (HS0.out ▸ FlowR.once_below hw);clear hG hw;unfold FlowR.Runs FlowR.yields;go_simp;try rfl);go_simp;refine hK _ ?_;clear hK K)
 (refine FlowR.tree_valK rfl (fun K hK=>⟨fun w hw hG => ?_,?_⟩);(obtain ⟨b3,rfl,hf3⟩:=(show isForms vb w by simpa [FlowR.upd] using hG 0 (by kernel_rfl));have hlk:=HLOOK.out w b3 hf3;clear hG hw;unfold FlowR.Runs FlowR.yields;go_simp;try rfl);go_simp;refine hK _ ?_;clear hK K)
 iterate 3 (refine FlowR.tree_valK rfl (fun K hK=>⟨fun w hw hG => ?_,?_⟩);(clear hG hw;unfold FlowR.Runs FlowR.yields;go_simp;try rfl);go_simp;refine hK _ ?_;clear hK K)
 (refine FlowR.tree_varK rfl (fun K hK=>⟨fun w hw hG => ?_,?_⟩);(have hws:=hw.2.2.2.1;rw [HS0.out] at hws;clear hG hw;unfold FlowR.Runs FlowR.yields;go_simp;exact ⟨FlowR.once_of ((Below.refl _ _).alloc (Nat.le_refl _) _) hws,_,rfl,hws,.inl (by rw [HZ.out];exact heap_alloc_new _ _)⟩);intro vz;go_simp;refine hK _ _ ?_;clear hK K)
 (refine FlowR.tree_varK rfl (fun K hK=>⟨fun w hw hG => ?_,?_⟩);(obtain ⟨g,rfl,hgb,hg⟩:=(show FlowR.One _ _ Z Y vz w by simpa [FlowR.upd] using hG 7 (by kernel_rfl));obtain ⟨x0,x1,x2,x3,x4,x5,hg1,hg2⟩:∃ x0 x1 x2 x3 x4 x5,w.heap[g]? = some (.cells #[x0,x1,x2,x3,x4,x5] 280 (0,0))∧(#[x0,x1,x2,x3,x4,x5]=Z∨#[x0,x1,x2,x3,x4,x5]=Y):=(by rcases hg with hg | hg;exact ⟨_,_,_,_,_,_,by rw [hg,HZ.out],.inl HZ.out.symm⟩;exact ⟨_,_,_,_,_,_,by rw [hg,HY.out],.inr HY.out.symm⟩);have HG2:=Lib.hid hg2;have z0:=frozen_of_row w g 0 _ _ hg1;have z1:=frozen_of_row w g 1 _ _ hg1;have z2:=frozen_of_row w g 2 _ _ hg1;have z3:=frozen_of_row w g 3 _ _ hg1;have z4:=frozen_of_row w g 4 _ _ hg1;have z5:=frozen_of_row w g 5 _ _ hg1;have e0:=cell_of_row w g 0 _ _ _ hg1;have e1:=cell_of_row w g 1 _ _ _ hg1;have e2:=cell_of_row w g 2 _ _ _ hg1;have e3:=cell_of_row w g 3 _ _ _ hg1;have e4:=cell_of_row w g 4 _ _ _ hg1;have e5:=cell_of_row w g 5 _ _ _ hg1;simp only [List.getElem?_toArray,List.getElem?_cons_succ,List.getElem?_cons_zero] at e0 e1 e2 e3 e4 e5;have HG1:=Lib.hid hg1;clear hG hw hg hg1 hg2;unfold FlowR.Runs FlowR.yields;go_simp;rw [HY.out];exact once_set6 undef HG1.out (by rw [← HY.out];exact HG2.out) hgb);intro vs;go_simp;refine hK _ _ ?_;clear hK K)
 (refine FlowR.tree_valK rfl (fun K hK=>⟨fun w hw hG => ?_,?_⟩);(clear hG hw;unfold FlowR.Runs FlowR.yields;go_simp;try rfl);go_simp;refine hK _ ?_;clear hK K)
 refine FlowR.tree_nil fun w2 hw2 hG => ?_
 obtain ⟨g,rfl,hgb,hg⟩:=(show FlowR.Done (w.heap.size + 2) 280 Y vz vs w2 by simpa [FlowR.upd] using hG 8)
 rw [HY.out] at hg
 have hB2:=FlowR.once_below hw2
 rw [← HS0.out] at hB2
 have hk1:=(hB2.block _ (by omega)).trans HK1.out
 have hk2:=(hB2.block _ (by omega)).trans HK2.out
 have HBW:=Lib.hid (HB0.out.trans (hB2.mono (by omega)))
 have HKG:=Lib.hid hg
 have HK1':=Lib.hid hk1
 have HK2':=Lib.hid hk2
 have c0:=cell_of_row w2 w.heap.size 0 _ _ _ hk1
 have c1:=cell_of_row w2 w.heap.size 1 _ _ _ hk1
 have c2:=cell_of_row w2 w.heap.size 2 _ _ _ hk1
 have d1:=cell_of_row w2 (w.heap.size + 1) 1 _ _ _ hk2
 simp only [List.getElem?_toArray,List.getElem?_cons_succ,List.getElem?_cons_zero] at c0 c1 c2 d1
 clear hG hw2 hg hB2 hk1 hk2 HK1 HK2 HB0
 obtain ⟨b3,hb3⟩:∃ b3,f.name.toList.isEmpty=b3:=⟨_,rfl⟩
 have hb3':(f.name.size == 0)=b3:=by
  rw [← hb3,Tess.tl,Bool.eq_iff_iff,beq_iff_eq,List.isEmpty_iff,Array.toList_eq_nil_iff]
  exact ⟨fun h=>Array.eq_empty_of_size_eq_zero h,fun h=>by show f.name.data.size=0;rw [h];rfl⟩
 obtain ⟨b5,hb5⟩:∃ b5,Fil.inW f.words.length (w0,w1)=b5:=⟨_,rfl⟩
 obtain ⟨b6,hb6⟩:∃ b6,Fil.inW f.l.length (l0,l1)=b6:=⟨_,rfl⟩
 obtain ⟨b7,hb7⟩:∃ b7,f.words.any Tess.isLong=b7:=⟨_,rfl⟩
 rw [hb3',hb5,hb6,hb7] at HOWN
 rw [hb5] at HW
 rw [hb6] at HL
 rw [hb7] at HCL
 clear hb3' hb5 hb6 hb7
 cases ok
 ·go_wp2_with (first
   | (go_at_call 104;refine (HDIM.out _ HBW.out).mono ?_;rintro e3 w3 ⟨rfl,hB3⟩;obtain ⟨g0,g1,g2,g3,g4,g5,f1,f2,f3,f4,f5⟩:=right_cells hB3 HKG.out HK2'.out;have HB23:=Lib.hid hB3;clear hB3)
   | (go_at_call 209;((with_reducible refine (HW.out _).mono ?_);rintro e4 w4 ⟨rfl,hB4⟩;obtain ⟨g0,g1,g2,g3,g4,g5,f1,f2,f3,f4,f5⟩:=right_cells (Bt HB23.out hB4) HKG.out HK2'.out;have HBX:=Lib.hid (Bt HB23.out hB4);clear hB4 HB23;have HB23:=HBX;clear HBX))
   | (go_at_call 209;((with_reducible refine (HL.out _).mono ?_);rintro e4 w4 ⟨rfl,hB4⟩;obtain ⟨g0,g1,g2,g3,g4,g5,f1,f2,f3,f4,f5⟩:=right_cells (Bt HB23.out hB4) HKG.out HK2'.out;have HBX:=Lib.hid (Bt HB23.out hB4);clear hB4 HB23;have HB23:=HBX;clear HBX))
   | (go_at_call 166;refine (HCL.out _ (Bt HBW.out HB23.out)).mono ?_;rintro e4 w4 ⟨rfl,hB4⟩;have HBX:=Lib.hid (Bt HB23.out hB4);clear hB4 HB23;have HB23:=HBX;clear HBX))
  go_ret
  exact ⟨ret_bool' (by rw [HOWN.out];simp),Bt HBW.out HB23.out⟩
 ·cases isD
  ·cases hn
   ·cases b3
    ·go_wp2_with (first
      | (go_at_call 104;refine (HDIM.out _ HBW.out).mono ?_;rintro e3 w3 ⟨rfl,hB3⟩;obtain ⟨g0,g1,g2,g3,g4,g5,f1,f2,f3,f4,f5⟩:=right_cells hB3 HKG.out HK2'.out;have HB23:=Lib.hid hB3;clear hB3)
      | (go_at_call 209;((with_reducible refine (HW.out _).mono ?_);rintro e4 w4 ⟨rfl,hB4⟩;obtain ⟨g0,g1,g2,g3,g4,g5,f1,f2,f3,f4,f5⟩:=right_cells (Bt HB23.out hB4) HKG.out HK2'.out;have HBX:=Lib.hid (Bt HB23.out hB4);clear hB4 HB23;have HB23:=HBX;clear HBX))
      | (go_at_call 209;((with_reducible refine (HL.out _).mono ?_);rintro e4 w4 ⟨rfl,hB4⟩;obtain ⟨g0,g1,g2,g3,g4,g5,f1,f2,f3,f4,f5⟩:=right_cells (Bt HB23.out hB4) HKG.out HK2'.out;have HBX:=Lib.hid (Bt HB23.out hB4);clear hB4 HB23;have HB23:=HBX;clear HBX))
      | (go_at_call 166;refine (HCL.out _ (Bt HBW.out HB23.out)).mono ?_;rintro e4 w4 ⟨rfl,hB4⟩;have HBX:=Lib.hid (Bt HB23.out hB4);clear hB4 HB23;have HB23:=HBX;clear HBX))
     go_ret
     exact ⟨ret_bool' (by rw [HOWN.out];simp),Bt HBW.out HB23.out⟩
    ·cases hsp
     ·by_cases hz1:f.frm=0
      ·by_cases hz2:f.to=0
       ·cases b5
        ·go_wp2_with (first
          | (go_at_call 104;refine (HDIM.out _ HBW.out).mono ?_;rintro e3 w3 ⟨rfl,hB3⟩;obtain ⟨g0,g1,g2,g3,g4,g5,f1,f2,f3,f4,f5⟩:=right_cells hB3 HKG.out HK2'.out;have HB23:=Lib.hid hB3;clear hB3)
          | (go_at_call 209;((with_reducible refine (HW.out _).mono ?_);rintro e4 w4 ⟨rfl,hB4⟩;obtain ⟨g0,g1,g2,g3,g4,g5,f1,f2,f3,f4,f5⟩:=right_cells (Bt HB23.out hB4) HKG.out HK2'.out;have HBX:=Lib.hid (Bt HB23.out hB4);clear hB4 HB23;have HB23:=HBX;clear HBX))
          | (go_at_call 209;((with_reducible refine (HL.out _).mono ?_);rintro e4 w4 ⟨rfl,hB4⟩;obtain ⟨g0,g1,g2,g3,g4,g5,f1,f2,f3,f4,f5⟩:=right_cells (Bt HB23.out hB4) HKG.out HK2'.out;have HBX:=Lib.hid (Bt HB23.out hB4);clear hB4 HB23;have HB23:=HBX;clear HBX))
          | (go_at_call 166;refine (HCL.out _ (Bt HBW.out HB23.out)).mono ?_;rintro e4 w4 ⟨rfl,hB4⟩;have HBX:=Lib.hid (Bt HB23.out hB4);clear hB4 HB23;have HB23:=HBX;clear HBX))
         go_ret
         exact ⟨ret_bool' (by rw [HOWN.out];simp [hz1,hz2]),Bt HBW.out HB23.out⟩
        ·cases b6
         ·go_wp2_with (first
           | (go_at_call 104;refine (HDIM.out _ HBW.out).mono ?_;rintro e3 w3 ⟨rfl,hB3⟩;obtain ⟨g0,g1,g2,g3,g4,g5,f1,f2,f3,f4,f5⟩:=right_cells hB3 HKG.out HK2'.out;have HB23:=Lib.hid hB3;clear hB3)
           | (go_at_call 209;((with_reducible refine (HW.out _).mono ?_);rintro e4 w4 ⟨rfl,hB4⟩;obtain ⟨g0,g1,g2,g3,g4,g5,f1,f2,f3,f4,f5⟩:=right_cells (Bt HB23.out hB4) HKG.out HK2'.out;have HBX:=Lib.hid (Bt HB23.out hB4);clear hB4 HB23;have HB23:=HBX;clear HBX))
           | (go_at_call 209;((with_reducible refine (HL.out _).mono ?_);rintro e4 w4 ⟨rfl,hB4⟩;obtain ⟨g0,g1,g2,g3,g4,g5,f1,f2,f3,f4,f5⟩:=right_cells (Bt HB23.out hB4) HKG.out HK2'.out;have HBX:=Lib.hid (Bt HB23.out hB4);clear hB4 HB23;have HB23:=HBX;clear HBX))
           | (go_at_call 166;refine (HCL.out _ (Bt HBW.out HB23.out)).mono ?_;rintro e4 w4 ⟨rfl,hB4⟩;have HBX:=Lib.hid (Bt HB23.out hB4);clear hB4 HB23;have HB23:=HBX;clear HBX))
          go_ret
          exact ⟨ret_bool' (by rw [HOWN.out];simp [hz1,hz2]),Bt HBW.out HB23.out⟩
         ·go_wp2_with (first
           | (go_at_call 104;refine (HDIM.out _ HBW.out).mono ?_;rintro e3 w3 ⟨rfl,hB3⟩;obtain ⟨g0,g1,g2,g3,g4,g5,f1,f2,f3,f4,f5⟩:=right_cells hB3 HKG.out HK2'.out;have HB23:=Lib.hid hB3;clear hB3)
           | (go_at_call 209;((with_reducible refine (HW.out _).mono ?_);rintro e4 w4 ⟨rfl,hB4⟩;obtain ⟨g0,g1,g2,g3,g4,g5,f1,f2,f3,f4,f5⟩:=right_cells (Bt HB23.out hB4) HKG.out HK2'.out;have HBX:=Lib.hid (Bt HB23.out hB4);clear hB4 HB23;have HB23:=HBX;clear HBX))
           | (go_at_call 209;((with_reducible refine (HL.out _).mono ?_);rintro e4 w4 ⟨rfl,hB4⟩;obtain ⟨g0,g1,g2,g3,g4,g5,f1,f2,f3,f4,f5⟩:=right_cells (Bt HB23.out hB4) HKG.out HK2'.out;have HBX:=Lib.hid (Bt HB23.out hB4);clear hB4 HB23;have HB23:=HBX;clear HBX))
           | (go_at_call 166;refine (HCL.out _ (Bt HBW.out HB23.out)).mono ?_;rintro e4 w4 ⟨rfl,hB4⟩;have HBX:=Lib.hid (Bt HB23.out hB4);clear hB4 HB23;have HB23:=HBX;clear HBX))
          go_ret
          exact ⟨ret_bool' (by rw [HOWN.out];simp [hz1,hz2]),Bt HBW.out HB23.out⟩
       ·go_wp2_with (first
         | (go_at_call 104;refine (HDIM.out _ HBW.out).mono ?_;rintro e3 w3 ⟨rfl,hB3⟩;obtain ⟨g0,g1,g2,g3,g4,g5,f1,f2,f3,f4,f5⟩:=right_cells hB3 HKG.out HK2'.out;have HB23:=Lib.hid hB3;clear hB3)
         | (go_at_call 209;((with_reducible refine (HW.out _).mono ?_);rintro e4 w4 ⟨rfl,hB4⟩;obtain ⟨g0,g1,g2,g3,g4,g5,f1,f2,f3,f4,f5⟩:=right_cells (Bt HB23.out hB4) HKG.out HK2'.out;have HBX:=Lib.hid (Bt HB23.out hB4);clear hB4 HB23;have HB23:=HBX;clear HBX))
         | (go_at_call 209;((with_reducible refine (HL.out _).mono ?_);rintro e4 w4 ⟨rfl,hB4⟩;obtain ⟨g0,g1,g2,g3,g4,g5,f1,f2,f3,f4,f5⟩:=right_cells (Bt HB23.out hB4) HKG.out HK2'.out;have HBX:=Lib.hid (Bt HB23.out hB4);clear hB4 HB23;have HB23:=HBX;clear HBX))
         | (go_at_call 166;refine (HCL.out _ (Bt HBW.out HB23.out)).mono ?_;rintro e4 w4 ⟨rfl,hB4⟩;have HBX:=Lib.hid (Bt HB23.out hB4);clear hB4 HB23;have HB23:=HBX;clear HBX))
        go_ret
        exact ⟨ret_bool' (by rw [HOWN.out];simp [hz2]),Bt HBW.out HB23.out⟩
      ·go_wp2_with (first
        | (go_at_call 104;refine (HDIM.out _ HBW.out).mono ?_;rintro e3 w3 ⟨rfl,hB3⟩;obtain ⟨g0,g1,g2,g3,g4,g5,f1,f2,f3,f4,f5⟩:=right_cells hB3 HKG.out HK2'.out;have HB23:=Lib.hid hB3;clear hB3)
        | (go_at_call 209;((with_reducible refine (HW.out _).mono ?_);rintro e4 w4 ⟨rfl,hB4⟩;obtain ⟨g0,g1,g2,g3,g4,g5,f1,f2,f3,f4,f5⟩:=right_cells (Bt HB23.out hB4) HKG.out HK2'.out;have HBX:=Lib.hid (Bt HB23.out hB4);clear hB4 HB23;have HB23:=HBX;clear HBX))
        | (go_at_call 209;((with_reducible refine (HL.out _).mono ?_);rintro e4 w4 ⟨rfl,hB4⟩;obtain ⟨g0,g1,g2,g3,g4,g5,f1,f2,f3,f4,f5⟩:=right_cells (Bt HB23.out hB4) HKG.out HK2'.out;have HBX:=Lib.hid (Bt HB23.out hB4);clear hB4 HB23;have HB23:=HBX;clear HBX))
        | (go_at_call 166;refine (HCL.out _ (Bt HBW.out HB23.out)).mono ?_;rintro e4 w4 ⟨rfl,hB4⟩;have HBX:=Lib.hid (Bt HB23.out hB4);clear hB4 HB23;have HB23:=HBX;clear HBX))
       go_ret
       exact ⟨ret_bool' (by rw [HOWN.out];simp [hz1]),Bt HBW.out HB23.out⟩
     ·cases b5
      ·go_wp2_with (first
        | (go_at_call 104;refine (HDIM.out _ HBW.out).mono ?_;rintro e3 w3 ⟨rfl,hB3⟩;obtain ⟨g0,g1,g2,g3,g4,g5,f1,f2,f3,f4,f5⟩:=right_cells hB3 HKG.out HK2'.out;have HB23:=Lib.hid hB3;clear hB3)
        | (go_at_call 209;((with_reducible refine (HW.out _).mono ?_);rintro e4 w4 ⟨rfl,hB4⟩;obtain ⟨g0,g1,g2,g3,g4,g5,f1,f2,f3,f4,f5⟩:=right_cells (Bt HB23.out hB4) HKG.out HK2'.out;have HBX:=Lib.hid (Bt HB23.out hB4);clear hB4 HB23;have HB23:=HBX;clear HBX))
        | (go_at_call 209;((with_reducible refine (HL.out _).mono ?_);rintro e4 w4 ⟨rfl,hB4⟩;obtain ⟨g0,g1,g2,g3,g4,g5,f1,f2,f3,f4,f5⟩:=right_cells (Bt HB23.out hB4) HKG.out HK2'.out;have HBX:=Lib.hid (Bt HB23.out hB4);clear hB4 HB23;have HB23:=HBX;clear HBX))
        | (go_at_call 166;refine (HCL.out _ (Bt HBW.out HB23.out)).mono ?_;rintro e4 w4 ⟨rfl,hB4⟩;have HBX:=Lib.hid (Bt HB23.out hB4);clear hB4 HB23;have HB23:=HBX;clear HBX))
       go_ret
       exact ⟨ret_bool' (by rw [HOWN.out];simp),Bt HBW.out HB23.out⟩
      ·cases b6
       ·go_wp2_with (first
         | (go_at_call 104;refine (HDIM.out _ HBW.out).mono ?_;rintro e3 w3 ⟨rfl,hB3⟩;obtain ⟨g0,g1,g2,g3,g4,g5,f1,f2,f3,f4,f5⟩:=right_cells hB3 HKG.out HK2'.out;have HB23:=Lib.hid hB3;clear hB3)
         | (go_at_call 209;((with_reducible refine (HW.out _).mono ?_);rintro e4 w4 ⟨rfl,hB4⟩;obtain ⟨g0,g1,g2,g3,g4,g5,f1,f2,f3,f4,f5⟩:=right_cells (Bt HB23.out hB4) HKG.out HK2'.out;have HBX:=Lib.hid (Bt HB23.out hB4);clear hB4 HB23;have HB23:=HBX;clear HBX))
         | (go_at_call 209;((with_reducible refine (HL.out _).mono ?_);rintro e4 w4 ⟨rfl,hB4⟩;obtain ⟨g0,g1,g2,g3,g4,g5,f1,f2,f3,f4,f5⟩:=right_cells (Bt HB23.out hB4) HKG.out HK2'.out;have HBX:=Lib.hid (Bt HB23.out hB4);clear hB4 HB23;have HB23:=HBX;clear HBX))
         | (go_at_call 166;refine (HCL.out _ (Bt HBW.out HB23.out)).mono ?_;rintro e4 w4 ⟨rfl,hB4⟩;have HBX:=Lib.hid (Bt HB23.out hB4);clear hB4 HB23;have HB23:=HBX;clear HBX))
        go_ret
        exact ⟨ret_bool' (by rw [HOWN.out];simp),Bt HBW.out HB23.out⟩
       ·go_wp2_with (first
         | (go_at_call 104;refine (HDIM.out _ HBW.out).mono ?_;rintro e3 w3 ⟨rfl,hB3⟩;obtain ⟨g0,g1,g2,g3,g4,g5,f1,f2,f3,f4,f5⟩:=right_cells hB3 HKG.out HK2'.out;have HB23:=Lib.hid hB3;clear hB3)
         | (go_at_call 209;((with_reducible refine (HW.out _).mono ?_);rintro e4 w4 ⟨rfl,hB4⟩;obtain ⟨g0,g1,g2,g3,g4,g5,f1,f2,f3,f4,f5⟩:=right_cells (Bt HB23.out hB4) HKG.out HK2'.out;have HBX:=Lib.hid (Bt HB23.out hB4);clear hB4 HB23;have HB23:=HBX;clear HBX))
         | (go_at_call 209;((with_reducible refine (HL.out _).mono ?_);rintro e4 w4 ⟨rfl,hB4⟩;obtain ⟨g0,g1,g2,g3,g4,g5,f1,f2,f3,f4,f5⟩:=right_cells (Bt HB23.out hB4) HKG.out HK2'.out;have HBX:=Lib.hid (Bt HB23.out hB4);clear hB4 HB23;have HB23:=HBX;clear HBX))
         | (go_at_call 166;refine (HCL.out _ (Bt HBW.out HB23.out)).mono ?_;rintro e4 w4 ⟨rfl,hB4⟩;have HBX:=Lib.hid (Bt HB23.out hB4);clear hB4 HB23;have HB23:=HBX;clear HBX))
        go_ret
        exact ⟨ret_bool' (by rw [HOWN.out];simp),Bt HBW.out HB23.out⟩
   ·go_wp2_with (first
     | (go_at_call 104;refine (HDIM.out _ HBW.out).mono ?_;rintro e3 w3 ⟨rfl,hB3⟩;obtain ⟨g0,g1,g2,g3,g4,g5,f1,f2,f3,f4,f5⟩:=right_cells hB3 HKG.out HK2'.out;have HB23:=Lib.hid hB3;clear hB3)
     | (go_at_call 209;((with_reducible refine (HW.out _).mono ?_);rintro e4 w4 ⟨rfl,hB4⟩;obtain ⟨g0,g1,g2,g3,g4,g5,f1,f2,f3,f4,f5⟩:=right_cells (Bt HB23.out hB4) HKG.out HK2'.out;have HBX:=Lib.hid (Bt HB23.out hB4);clear hB4 HB23;have HB23:=HBX;clear HBX))
     | (go_at_call 209;((with_reducible refine (HL.out _).mono ?_);rintro e4 w4 ⟨rfl,hB4⟩;obtain ⟨g0,g1,g2,g3,g4,g5,f1,f2,f3,f4,f5⟩:=right_cells (Bt HB23.out hB4) HKG.out HK2'.out;have HBX:=Lib.hid (Bt HB23.out hB4);clear hB4 HB23;have HB23:=HBX;clear HBX))
     | (go_at_call 166;refine (HCL.out _ (Bt HBW.out HB23.out)).mono ?_;rintro e4 w4 ⟨rfl,hB4⟩;have HBX:=Lib.hid (Bt HB23.out hB4);clear hB4 HB23;have HB23:=HBX;clear HBX))
    go_ret
    exact ⟨ret_bool' (by rw [HOWN.out];simp),Bt HBW.out HB23.out⟩
  ·cases hn
   ·go_wp2_with (first
     | (go_at_call 104;refine (HDIM.out _ HBW.out).mono ?_;rintro e3 w3 ⟨rfl,hB3⟩;obtain ⟨g0,g1,g2,g3,g4,g5,f1,f2,f3,f4,f5⟩:=right_cells hB3 HKG.out HK2'.out;have HB23:=Lib.hid hB3;clear hB3)
     | (go_at_call 209;((with_reducible refine (HW.out _).mono ?_);rintro e4 w4 ⟨rfl,hB4⟩;obtain ⟨g0,g1,g2,g3,g4,g5,f1,f2,f3,f4,f5⟩:=right_cells (Bt HB23.out hB4) HKG.out HK2'.out;have HBX:=Lib.hid (Bt HB23.out hB4);clear hB4 HB23;have HB23:=HBX;clear HBX))
     | (go_at_call 209;((with_reducible refine (HL.out _).mono ?_);rintro e4 w4 ⟨rfl,hB4⟩;obtain ⟨g0,g1,g2,g3,g4,g5,f1,f2,f3,f4,f5⟩:=right_cells (Bt HB23.out hB4) HKG.out HK2'.out;have HBX:=Lib.hid (Bt HB23.out hB4);clear hB4 HB23;have HB23:=HBX;clear HBX))
     | (go_at_call 166;refine (HCL.out _ (Bt HBW.out HB23.out)).mono ?_;rintro e4 w4 ⟨rfl,hB4⟩;have HBX:=Lib.hid (Bt HB23.out hB4);clear hB4 HB23;have HB23:=HBX;clear HBX))
    go_ret
    exact ⟨ret_bool' (by rw [HOWN.out];simp),Bt HBW.out HB23.out⟩
   ·cases hsp
    ·by_cases hz1:f.frm=0
     ·by_cases hz2:f.to=0
      ·cases b5
       ·go_wp2_with (first
         | (go_at_call 104;refine (HDIM.out _ HBW.out).mono ?_;rintro e3 w3 ⟨rfl,hB3⟩;obtain ⟨g0,g1,g2,g3,g4,g5,f1,f2,f3,f4,f5⟩:=right_cells hB3 HKG.out HK2'.out;have HB23:=Lib.hid hB3;clear hB3)
         | (go_at_call 209;((with_reducible refine (HW.out _).mono ?_);rintro e4 w4 ⟨rfl,hB4⟩;obtain ⟨g0,g1,g2,g3,g4,g5,f1,f2,f3,f4,f5⟩:=right_cells (Bt HB23.out hB4) HKG.out HK2'.out;have HBX:=Lib.hid (Bt HB23.out hB4);clear hB4 HB23;have HB23:=HBX;clear HBX))
         | (go_at_call 209;((with_reducible refine (HL.out _).mono ?_);rintro e4 w4 ⟨rfl,hB4⟩;obtain ⟨g0,g1,g2,g3,g4,g5,f1,f2,f3,f4,f5⟩:=right_cells (Bt HB23.out hB4) HKG.out HK2'.out;have HBX:=Lib.hid (Bt HB23.out hB4);clear hB4 HB23;have HB23:=HBX;clear HBX))
         | (go_at_call 166;refine (HCL.out _ (Bt HBW.out HB23.out)).mono ?_;rintro e4 w4 ⟨rfl,hB4⟩;have HBX:=Lib.hid (Bt HB23.out hB4);clear hB4 HB23;have HB23:=HBX;clear HBX))
        go_ret
        exact ⟨ret_bool' (by rw [HOWN.out];simp [hz1,hz2]),Bt HBW.out HB23.out⟩
       ·cases b6
        ·go_wp2_with (first
          | (go_at_call 104;refine (HDIM.out _ HBW.out).mono ?_;rintro e3 w3 ⟨rfl,hB3⟩;obtain ⟨g0,g1,g2,g3,g4,g5,f1,f2,f3,f4,f5⟩:=right_cells hB3 HKG.out HK2'.out;have HB23:=Lib.hid hB3;clear hB3)
          | (go_at_call 209;((with_reducible refine (HW.out _).mono ?_);rintro e4 w4 ⟨rfl,hB4⟩;obtain ⟨g0,g1,g2,g3,g4,g5,f1,f2,f3,f4,f5⟩:=right_cells (Bt HB23.out hB4) HKG.out HK2'.out;have HBX:=Lib.hid (Bt HB23.out hB4);clear hB4 HB23;have HB23:=HBX;clear HBX))
          | (go_at_call 209;((with_reducible refine (HL.out _).mono ?_);rintro e4 w4 ⟨rfl,hB4⟩;obtain ⟨g0,g1,g2,g3,g4,g5,f1,f2,f3,f4,f5⟩:=right_cells (Bt HB23.out hB4) HKG.out HK2'.out;have HBX:=Lib.hid (Bt HB23.out hB4);clear hB4 HB23;have HB23:=HBX;clear HBX))
          | (go_at_call 166;refine (HCL.out _ (Bt HBW.out HB23.out)).mono ?_;rintro e4 w4 ⟨rfl,hB4⟩;have HBX:=Lib.hid (Bt HB23.out hB4);clear hB4 HB23;have HB23:=HBX;clear HBX))
         go_ret
         exact ⟨ret_bool' (by rw [HOWN.out];simp [hz1,hz2]),Bt HBW.out HB23.out⟩
        ·go_wp2_with (first
          | (go_at_call 104;refine (HDIM.out _ HBW.out).mono ?_;rintro e3 w3 ⟨rfl,hB3⟩;obtain ⟨g0,g1,g2,g3,g4,g5,f1,f2,f3,f4,f5⟩:=right_cells hB3 HKG.out HK2'.out;have HB23:=Lib.hid hB3;clear hB3)
          | (go_at_call 209;((with_reducible refine (HW.out _).mono ?_);rintro e4 w4 ⟨rfl,hB4⟩;obtain ⟨g0,g1,g2,g3,g4,g5,f1,f2,f3,f4,f5⟩:=right_cells (Bt HB23.out hB4) HKG.out HK2'.out;have HBX:=Lib.hid (Bt HB23.out hB4);clear hB4 HB23;have HB23:=HBX;clear HBX))
          | (go_at_call 209;((with_reducible refine (HL.out _).mono ?_);rintro e4 w4 ⟨rfl,hB4⟩;obtain ⟨g0,g1,g2,g3,g4,g5,f1,f2,f3,f4,f5⟩:=right_cells (Bt HB23.out hB4) HKG.out HK2'.out;have HBX:=Lib.hid (Bt HB23.out hB4);clear hB4 HB23;have HB23:=HBX;clear HBX))
          | (go_at_call 166;refine (HCL.out _ (Bt HBW.out HB23.out)).mono ?_;rintro e4 w4 ⟨rfl,hB4⟩;have HBX:=Lib.hid (Bt HB23.out hB4);clear hB4 HB23;have HB23:=HBX;clear HBX))
         go_ret
         exact ⟨ret_bool' (by rw [HOWN.out];simp [hz1,hz2]),Bt HBW.out HB23.out⟩
      ·go_wp2_with (first
        | (go_at_call 104;refine (HDIM.out _ HBW.out).mono ?_;rintro e3 w3 ⟨rfl,hB3⟩;obtain ⟨g0,g1,g2,g3,g4,g5,f1,f2,f3,f4,f5⟩:=right_cells hB3 HKG.out HK2'.out;have HB23:=Lib.hid hB3;clear hB3)
        | (go_at_call 209;((with_reducible refine (HW.out _).mono ?_);rintro e4 w4 ⟨rfl,hB4⟩;obtain ⟨g0,g1,g2,g3,g4,g5,f1,f2,f3,f4,f5⟩:=right_cells (Bt HB23.out hB4) HKG.out HK2'.out;have HBX:=Lib.hid (Bt HB23.out hB4);clear hB4 HB23;have HB23:=HBX;clear HBX))
        | (go_at_call 209;((with_reducible refine (HL.out _).mono ?_);rintro e4 w4 ⟨rfl,hB4⟩;obtain ⟨g0,g1,g2,g3,g4,g5,f1,f2,f3,f4,f5⟩:=right_cells (Bt HB23.out hB4) HKG.out HK2'.out;have HBX:=Lib.hid (Bt HB23.out hB4);clear hB4 HB23;have HB23:=HBX;clear HBX))
        | (go_at_call 166;refine (HCL.out _ (Bt HBW.out HB23.out)).mono ?_;rintro e4 w4 ⟨rfl,hB4⟩;have HBX:=Lib.hid (Bt HB23.out hB4);clear hB4 HB23;have HB23:=HBX;clear HBX))
       go_ret
       exact ⟨ret_bool' (by rw [HOWN.out];simp [hz2]),Bt HBW.out HB23.out⟩
     ·go_wp2_with (first
       | (go_at_call 104;refine (HDIM.out _ HBW.out).mono ?_;rintro e3 w3 ⟨rfl,hB3⟩;obtain ⟨g0,g1,g2,g3,g4,g5,f1,f2,f3,f4,f5⟩:=right_cells hB3 HKG.out HK2'.out;have HB23:=Lib.hid hB3;clear hB3)
       | (go_at_call 209;((with_reducible refine (HW.out _).mono ?_);rintro e4 w4 ⟨rfl,hB4⟩;obtain ⟨g0,g1,g2,g3,g4,g5,f1,f2,f3,f4,f5⟩:=right_cells (Bt HB23.out hB4) HKG.out HK2'.out;have HBX:=Lib.hid (Bt HB23.out hB4);clear hB4 HB23;have HB23:=HBX;clear HBX))
       | (go_at_call 209;((with_reducible refine (HL.out _).mono ?_);rintro e4 w4 ⟨rfl,hB4⟩;obtain ⟨g0,g1,g2,g3,g4,g5,f1,f2,f3,f4,f5⟩:=right_cells (Bt HB23.out hB4) HKG.out HK2'.out;have HBX:=Lib.hid (Bt HB23.out hB4);clear hB4 HB23;have HB23:=HBX;clear HBX))
       | (go_at_call 166;refine (HCL.out _ (Bt HBW.out HB23.out)).mono ?_;rintro e4 w4 ⟨rfl,hB4⟩;have HBX:=Lib.hid (Bt HB23.out hB4);clear hB4 HB23;have HB23:=HBX;clear HBX))
      go_ret
      exact ⟨ret_bool' (by rw [HOWN.out];simp [hz1]),Bt HBW.out HB23.out⟩
    ·cases b5
     ·go_wp2_with (first
       | (go_at_call 104;refine (HDIM.out _ HBW.out).mono ?_;rintro e3 w3 ⟨rfl,hB3⟩;obtain ⟨g0,g1,g2,g3,g4,g5,f1,f2,f3,f4,f5⟩:=right_cells hB3 HKG.out HK2'.out;have HB23:=Lib.hid hB3;clear hB3)
       | (go_at_call 209;((with_reducible refine (HW.out _).mono ?_);rintro e4 w4 ⟨rfl,hB4⟩;obtain ⟨g0,g1,g2,g3,g4,g5,f1,f2,f3,f4,f5⟩:=right_cells (Bt HB23.out hB4) HKG.out HK2'.out;have HBX:=Lib.hid (Bt HB23.out hB4);clear hB4 HB23;have HB23:=HBX;clear HBX))
       | (go_at_call 209;((with_reducible refine (HL.out _).mono ?_);rintro e4 w4 ⟨rfl,hB4⟩;obtain ⟨g0,g1,g2,g3,g4,g5,f1,f2,f3,f4,f5⟩:=right_cells (Bt HB23.out hB4) HKG.out HK2'.out;have HBX:=Lib.hid (Bt HB23.out hB4);clear hB4 HB23;have HB23:=HBX;clear HBX))
       | (go_at_call 166;refine (HCL.out _ (Bt HBW.out HB23.out)).mono ?_;rintro e4 w4 ⟨rfl,hB4⟩;have HBX:=Lib.hid (Bt HB23.out hB4);clear hB4 HB23;have HB23:=HBX;clear HBX))
      go_ret
      exact ⟨ret_bool' (by rw [HOWN.out];simp),Bt HBW.out HB23.out⟩
     ·cases b6
      ·go_wp2_with (first
        | (go_at_call 104;refine (HDIM.out _ HBW.out).mono ?_;rintro e3 w3 ⟨rfl,hB3⟩;obtain ⟨g0,g1,g2,g3,g4,g5,f1,f2,f3,f4,f5⟩:=right_cells hB3 HKG.out HK2'.out;have HB23:=Lib.hid hB3;clear hB3)
        | (go_at_call 209;((with_reducible refine (HW.out _).mono ?_);rintro e4 w4 ⟨rfl,hB4⟩;obtain ⟨g0,g1,g2,g3,g4,g5,f1,f2,f3,f4,f5⟩:=right_cells (Bt HB23.out hB4) HKG.out HK2'.out;have HBX:=Lib.hid (Bt HB23.out hB4);clear hB4 HB23;have HB23:=HBX;clear HBX))
        | (go_at_call 209;((with_reducible refine (HL.out _).mono ?_);rintro e4 w4 ⟨rfl,hB4⟩;obtain ⟨g0,g1,g2,g3,g4,g5,f1,f2,f3,f4,f5⟩:=right_cells (Bt HB23.out hB4) HKG.out HK2'.out;have HBX:=Lib.hid (Bt HB23.out hB4);clear hB4 HB23;have HB23:=HBX;clear HBX))
        | (go_at_call 166;refine (HCL.out _ (Bt HBW.out HB23.out)).mono ?_;rintro e4 w4 ⟨rfl,hB4⟩;have HBX:=Lib.hid (Bt HB23.out hB4);clear hB4 HB23;have HB23:=HBX;clear HBX))
       go_ret
       exact ⟨ret_bool' (by rw [HOWN.out];simp),Bt HBW.out HB23.out⟩
      ·go_wp2_with (first
        | (go_at_call 104;refine (HDIM.out _ HBW.out).mono ?_;rintro e3 w3 ⟨rfl,hB3⟩;obtain ⟨g0,g1,g2,g3,g4,g5,f1,f2,f3,f4,f5⟩:=right_cells hB3 HKG.out HK2'.out;have HB23:=Lib.hid hB3;clear hB3)
        | (go_at_call 209;((with_reducible refine (HW.out _).mono ?_);rintro e4 w4 ⟨rfl,hB4⟩;obtain ⟨g0,g1,g2,g3,g4,g5,f1,f2,f3,f4,f5⟩:=right_cells (Bt HB23.out hB4) HKG.out HK2'.out;have HBX:=Lib.hid (Bt HB23.out hB4);clear hB4 HB23;have HB23:=HBX;clear HBX))
        | (go_at_call 209;((with_reducible refine (HL.out _).mono ?_);rintro e4 w4 ⟨rfl,hB4⟩;obtain ⟨g0,g1,g2,g3,g4,g5,f1,f2,f3,f4,f5⟩:=right_cells (Bt HB23.out hB4) HKG.out HK2'.out;have HBX:=Lib.hid (Bt HB23.out hB4);clear hB4 HB23;have HB23:=HBX;clear HBX))
        | (go_at_call 166;refine (HCL.out _ (Bt HBW.out HB23.out)).mono ?_;rintro e4 w4 ⟨rfl,hB4⟩;have HBX:=Lib.hid (Bt HB23.out hB4);clear hB4 HB23;have HB23:=HBX;clear HBX))
       go_ret
       exact ⟨ret_bool' (by rw [HOWN.out];simp),Bt HBW.out HB23.out⟩
end Go.Proofs.YtaddkkkchkdgkaaGreatDoor
namespace Go.Proofs.YtaddkkkchkdgkaaGreatDoor
open Go.RowKit Go.Sort
open Tess (Fil)
open Tess.Fil (spanOk grainOk spanFits spanHas)
set_option maxHeartbeats 1000000 in
theorem gRight_any (a b:Int) (w:World):Calls Tryz.prog 210 #[.agg #[.int .i64 a,.int .i64 b]] w fun e w'=>e = .returned (.bool (spanOk a b))∧Below w.heap.size w w':=by
 unfold spanOk
 by_cases h1:0≤a
 ·have d1:decide (0≤a)=true:=decide_eq_true h1
  by_cases h2:a≤b
  ·have d2:decide (a≤b)=true:=decide_eq_true h2
   obtain ⟨r,hr⟩:∃ r,decide (b≤1000000000001)=r:=⟨_,rfl⟩
   rw [d1,d2,hr]
   go_enter Tryz.func210,Tryz.ntmps210
   go_wp2
   go_ret
   exact ⟨rfl,(Below.refl _ _).alloc (Nat.le_refl _) _⟩
  ·have d2:decide (a≤b)=false:=decide_eq_false h2
   rw [d1,d2,Bool.true_and,Bool.false_and]
   go_enter Tryz.func210,Tryz.ntmps210
   go_wp2
   go_ret
   exact ⟨rfl,(Below.refl _ _).alloc (Nat.le_refl _) _⟩
 ·have d1:decide (0≤a)=false:=decide_eq_false h1
  rw [d1,Bool.false_and,Bool.false_and]
  go_enter Tryz.func210,Tryz.ntmps210
  go_wp2
  go_ret
  exact ⟨rfl,(Below.refl _ _).alloc (Nat.le_refl _) _⟩
set_option maxRecDepth 100000 in
set_option maxHeartbeats 1000000 in
theorem areGrains1 (b:Nat) (g:Int) (w:World) (hc:w.cell? ⟨b,0,none⟩=some (.int .i64 g)) :
  Calls Tryz.prog 91 #[.slice (some ⟨b,0,none⟩) 1 1] w fun e w'=>e = .returned (.bool (grainOk g))∧w=w':=by
 unfold grainOk
 by_cases h1:1≤g
 ·have d1:decide (1≤g)=true:=decide_eq_true h1
  have d1':decide (g < 1)=false:=decide_eq_false (by omega)
  by_cases h2:g≤1000000000
  ·have d2:decide (g≤1000000000)=true:=decide_eq_true h2
   have d2':decide (1000000000 < g)=false:=decide_eq_false (by omega)
   rw [d1,d2]
   go_enter Tryz.func91,Tryz.ntmps91
   go_wp2
   refine wp_loop_rounds 2 ?_
   rw [rounds_succ]
   go_wp2
   rw [rounds_succ]
   go_wp2
   go_ret
   exact ⟨rfl,rfl⟩
  ·have d2:decide (g≤1000000000)=false:=decide_eq_false h2
   have d2':decide (1000000000 < g)=true:=decide_eq_true (by omega)
   rw [d1,d2]
   go_enter Tryz.func91,Tryz.ntmps91
   go_wp2
   refine wp_loop_rounds 2 ?_
   rw [rounds_succ]
   go_wp2
   go_ret
   exact ⟨rfl,rfl⟩
 ·have d1:decide (1≤g)=false:=decide_eq_false h1
  have d1':decide (g < 1)=true:=decide_eq_true (by omega)
  rw [d1,Bool.false_and]
  go_enter Tryz.func91,Tryz.ntmps91
  go_wp2
  refine wp_loop_rounds 2 ?_
  rw [rounds_succ]
  go_wp2
  go_ret
  exact ⟨rfl,rfl⟩
set_option maxRecDepth 100000 in
set_option maxHeartbeats 1000000 in
theorem gHas_any (a b t:Int) (w:World):Calls Tryz.prog 187 #[.agg #[.int .i64 a,.int .i64 b],.int .i64 t] w fun e w'=>e = .returned (.bool (spanHas a b t))∧Below w.heap.size w w':=by
 have HR:=Lib.hid (fun w=>gRight_any a b w)
 unfold spanHas
 cases hok:spanOk a b
 ·rw [hok] at HR
  rw [Bool.false_and,Bool.false_and]
  go_enter Tryz.func187,Tryz.ntmps187
  go_wp2_with (go_at_call 210;refine (HR.out _).mono ?_;rintro e w2 ⟨rfl,hB⟩;have HB:=Lib.hid (((Below.refl _ _).alloc (Nat.le_refl _) _).trans (hB.mono (by simp)));clear hB)
  go_ret
  exact ⟨rfl,HB.out⟩
 ·rw [hok] at HR
  by_cases h1:a≤t
  ·have d1:decide (a≤t)=true:=decide_eq_true h1
   obtain ⟨r,hr⟩:∃ r,decide (t < b)=r:=⟨_,rfl⟩
   rw [d1,hr]
   go_enter Tryz.func187,Tryz.ntmps187
   go_wp2_with (go_at_call 210;refine (HR.out _).mono ?_;rintro e w2 ⟨rfl,hB⟩;have c0:=hB.cell (p:=⟨w.heap.size,0,none⟩) (by simp);have c1:=hB.cell (p:=⟨w.heap.size,1,none⟩) (by simp);simp at c0 c1;have HB:=Lib.hid (((Below.refl _ _).alloc (Nat.le_refl _) _).trans (hB.mono (by simp)));clear hB)
   go_ret
   exact ⟨rfl,HB.out⟩
  ·have d1:decide (a≤t)=false:=decide_eq_false h1
   rw [d1,Bool.and_false,Bool.false_and]
   go_enter Tryz.func187,Tryz.ntmps187
   go_wp2_with (go_at_call 210;refine (HR.out _).mono ?_;rintro e w2 ⟨rfl,hB⟩;have c0:=hB.cell (p:=⟨w.heap.size,0,none⟩) (by simp);have c1:=hB.cell (p:=⟨w.heap.size,1,none⟩) (by simp);simp at c0 c1;have HB:=Lib.hid (((Below.refl _ _).alloc (Nat.le_refl _) _).trans (hB.mono (by simp)));clear hB)
   go_ret
   exact ⟨rfl,HB.out⟩
end Go.Proofs.YtaddkkkchkdgkaaGreatDoor
namespace Go.Proofs.YtaddkkkchkdgkaaGreatDoor
open Go.RowKit Go.Sort
open Tess (Fil)
open Tess.Fil (spanOk grainOk spanFits spanHas)
set_option maxRecDepth 100000 in
set_option maxHeartbeats 2000000 in
theorem gFits_any (a b g:Int) (w:World):Calls Tryz.prog 177 #[.agg #[.int .i64 a,.int .i64 b],.int .i64 g] w fun e w'=>e = .returned (.bool (spanFits a b g))∧Below w.heap.size w w':=by
 have HR:=Lib.hid (fun w=>gRight_any a b w)
 have HG:=Lib.hid (fun (b:Nat) (w:World) h=>areGrains1 b g w h)
 have HF:RowKit.Hid (spanFits a b g=(spanOk a b && grainOk g && decide (a % g=0) && (decide (b=1000000000001) || decide (b % g=0)))):=Lib.hid rfl
 cases hok:spanOk a b
 ·rw [hok] at HR HF
  rw [HF.out,Bool.false_and,Bool.false_and,Bool.false_and]
  clear HF
  go_enter Tryz.func177,Tryz.ntmps177
  go_wp2_with (go_at_call 210;refine (HR.out _).mono ?_;rintro e w2 ⟨rfl,hB⟩;have HB:=Lib.hid (((Below.refl _ _).alloc (Nat.le_refl _) _).trans (hB.mono (by simp)));clear hB)
  go_ret
  exact ⟨rfl,HB.out⟩
 ·have hab:0≤a∧a≤b∧b≤1000000000001:=by unfold spanOk at hok;simp at hok;omega
  obtain ⟨ha,hab,hb⟩:=hab
  rw [hok] at HR HF
  cases hg:grainOk g
  ·rw [hg] at HG HF
   rw [HF.out,Bool.true_and,Bool.false_and,Bool.false_and]
   clear HF
   go_enter Tryz.func177,Tryz.ntmps177
   go_wp2_with (first
    | (go_at_call 210;refine (HR.out _).mono ?_;rintro e w2 ⟨rfl,hB⟩;have HB:=Lib.hid (((Below.refl _ _).alloc (Nat.le_refl _) _).trans (hB.mono (by simp)));clear hB)
    | (go_at_call 91;refine (HG.out _ _ (by simp)).mono ?_;rintro e w3 ⟨rfl,rfl⟩;have HB3:=Lib.hid (HB.out.alloc HB.out.size (.cells #[.int .i64 g] 2))))
   go_ret
   exact ⟨rfl,HB3.out⟩
  ·have hg1:1≤g∧g≤1000000000:=by unfold grainOk at hg;simpa using hg
   obtain ⟨hg1,hg2⟩:=hg1
   rw [hg] at HG HF
   obtain ⟨r1,hr1⟩:∃ r,((a % g:Int) == 0)=r:=⟨_,rfl⟩
   obtain ⟨r2,hr2⟩:∃ r,((b:Int) == 1000000000001)=r:=⟨_,rfl⟩
   obtain ⟨r3,hr3⟩:∃ r,((b % g:Int) == 0)=r:=⟨_,rfl⟩
   have e1:decide (a % g=0)=r1:=by rw [← hr1];rfl
   have e2:decide (b=1000000000001)=r2:=by rw [← hr2];rfl
   have e3:decide (b % g=0)=r3:=by rw [← hr3];rfl
   rw [e1,e2,e3,Bool.true_and,Bool.true_and] at HF
   have hb0:0≤b:=by omega
   clear e1 e2 e3 hok hg
   rw [HF.out]
   clear HF
   cases r1 <;> cases r2
   all_goals
    go_enter Tryz.func177,Tryz.ntmps177
    go_wp2_with (first
     | (go_at_call 210;refine (HR.out _).mono ?_;rintro e w2 ⟨rfl,hB⟩;have c0:=hB.cell (p:=⟨w.heap.size,0,none⟩) (by simp);have c1:=hB.cell (p:=⟨w.heap.size,1,none⟩) (by simp);simp at c0 c1;have hsz:=hB.size;simp at hsz;have hlt:w.heap.size < w2.heap.size:=(by omega);have HB:=Lib.hid (((Below.refl _ _).alloc (Nat.le_refl _) _).trans (hB.mono (by simp)));clear hB)
     | (go_at_call 91;refine (HG.out _ _ (by simp)).mono ?_;rintro e w3 ⟨rfl,rfl⟩;have HB3:=Lib.hid (HB.out.alloc HB.out.size (.cells #[.int .i64 g] 2))))
    go_ret
    exact ⟨rfl,HB3.out⟩
end Go.Proofs.YtaddkkkchkdgkaaGreatDoor
namespace Go.Rf
open Go Go.RowKit
variable {P:Program} {n:Nat}
structure SameBut (l:Nat) (W W':World):Prop where
 os:W'.os=W.os
 tape:W'.tape=W.tape
 output:W'.output=W.output
 size:W'.heap.size=W.heap.size
 block:∀ k,k≠l→W'.heap[k]? = W.heap[k]?
theorem SameBut.put (W:World) (l:Nat) (o:Obj):SameBut l W (W.putObj l o):=⟨rfl,rfl,rfl,by simp,fun k hk=>World.putObj_heap_other hk⟩
theorem SameBut.below {l B:Nat} {W W':World} (h:SameBut l W W') (hl:B≤l):Below B W W':=⟨h.os,h.tape,h.output,Nat.le_of_eq h.size.symm,fun k hk=>h.block k (by omega)⟩
theorem SameBut.cell {l:Nat} {W W':World} (h:SameBut l W W') {a:Addr} (ha:a.block≠l):W'.cell? a=W.cell? a:=World.cell?_of_block (h.block _ ha)
theorem SameBut.frozen {l:Nat} {W W':World} (h:SameBut l W W') {a:Addr} (ha:a.block≠l):W'.frozen? a=W.frozen? a:=World.frozen?_of_block (h.block _ ha)
theorem SameBut.owns {l:Nat} {W W':World} (h:SameBut l W W') {base:Nat} {e:TypeId} {size:Nat} {v:Value} {m:Nat} {xs:List Value} {o:Obj} (ho:W.ownsRow base e size v m xs) (hl:W.heap[l]? = some o) (hc:o.isCells=false):W'.ownsRow base e size v m xs:=by
 obtain ⟨h1,h2⟩:=ho
 refine ⟨h1,?_⟩
 rcases h2 with h2 | ⟨g,cap,cur,hv,hb,hg,r⟩
 ·exact .inl h2
 ·refine .inr ⟨g,cap,cur,hv,hb,?_,r⟩
  rw [h.block g (fun e=>by subst e;rw [hl] at hg;cases hg;cases hc)];exact hg
theorem range_wide {g:Operand} {ps:Array Tmp} {assign body:Code} {Q:Exit→Act→World→Prop} {a:Act} {w:World} {gf:Nat} {lb:Array Value}
  (hg:a.eval g = .func (.func gf) #[] lb) (eg:∀ args w,(callFunc gf args).run P w = .ok (.enter gf args) w)
  (h:∀ (fn:Nat) (W1:World),W1.heap[w.heap.size + 1]? = some (.loop { state:=.ready,pending:=none,fn,tmps:=a.tmps,params:=ps,assign,body,defers:=w.heap.size })→W1.heap[w.heap.size]? = some (.deferred (some [])) →
    Below w.heap.size w W1→W1.heap.size=w.heap.size + 2 →
    CallsIn Fence.wide (n - 1) P gf (#[.func (.yield (w.heap.size + 1)) #[] #[]] ++ lb) W1 fun e W3=>(∃ v,e = .returned v)∧∃ r:Loop,W3.heap[w.heap.size + 1]? = some (.loop r)∧r.state ≠ .busy ∧
     ∀ W4,SameBut (w.heap.size + 1) W3 W4→match r.pending with
       | none=>Q .normal { a with defers:={ target:=.collected w.heap.size,args:=#[] } :: a.defers } W4
       | some c=>c.wpIn Fence.wide n P Q { a with defers:={ target:=.collected w.heap.size,args:=#[] } :: a.defers } W4) :
  (Code.rangeFunc g ps assign body).wpIn Fence.wide n P Q a w:=by
 refine wpIn_rangeFunc ?_
 intro fn _
 obtain ⟨W1,hW1⟩:∃ W1,(w.alloc (.deferred (some []))).alloc (.loop { state:=.ready,pending:=none,fn,tmps:=a.tmps,params:=ps,assign,body,defers:=w.heap.size })=W1:=⟨_,rfl⟩
 have hL1:W1.heap[w.heap.size + 1]? = some (.loop { state:=.ready,pending:=none,fn,tmps:=a.tmps,params:=ps,assign,body,defers:=w.heap.size }):=by
  rw [← hW1];have:=World.alloc_heap_new (w.alloc (.deferred (some []))) (.loop { state:=.ready,pending:=none,fn,tmps:=a.tmps,params:=ps,assign,body,defers:=w.heap.size });rwa [World.size_alloc] at this
 have hK1:W1.heap[w.heap.size]? = some (.deferred (some [])):=by
  rw [← hW1];exact (Below.heap_alloc _ _ _ (by simp)).trans (World.alloc_heap_new w _)
 have hB1:Below w.heap.size w W1:=by rw [← hW1];exact ((Below.refl _ w).alloc (Nat.le_refl _) _).alloc (by simp) _
 have hS1:W1.heap.size=w.heap.size + 2:=by rw [← hW1];simp
 have H:=h fn _ hL1 hK1 hB1 hS1
 refine ⟨w.heap.size + 1,[{ target:=.collected w.heap.size,args:=#[] }],W1,{ target:=.fn (.func gf) lb,args:=#[.func (.yield (w.heap.size + 1)) #[] #[]] },W1,gf,
  #[.func (.yield (w.heap.size + 1)) #[] #[]] ++ lb,W1,?_,?_,?_,?_,(fun hd=>by cases hd),?_⟩
 ·rw [← hW1];exact run_enterLoop_outer _ _ _ _ _
 ·simp only [resolve,hg]
  simp [go_sem]
 ·intro f' _;trivial
 ·simp [invoke,go_sem,eg]
 ·refine H.mono ?_
  rintro e W3 ⟨⟨v,rfl⟩,r,hr,hb,hq⟩
  refine ⟨r.pending,_,run_endLoop hr hb,?_⟩
  have:=hq _ (SameBut.put W3 (w.heap.size + 1) (.loop { r with state:=.exhausted }))
  cases hp:r.pending with
  | none=>rw [hp] at this;exact this
  | some c=>rw [hp] at this;exact this
def roundQ (l:Nat) (r:Loop) (R:Ending→World→Prop):Exit→Act→World→Prop
 | .normal,_,W3=>W3.heap[l]? = some (.loop { r with state:=.busy })∧∀ W4,SameBut l W3 W4→W4.heap[l]? = some (.loop { r with state:=.ready,pending:=none })→R (.returned (.bool true)) W4
 | .ret,_,W3=>W3.heap[l]? = some (.loop { r with state:=.busy })∧∀ W4,SameBut l W3 W4→W4.heap[l]? = some (.loop { r with state:=.done,pending:=some .ret })→R (.returned (.bool false)) W4
 | .exit id,_,W3=>W3.heap[l]? = some (.loop { r with state:=.busy })∧∀ W4,SameBut l W3 W4→W4.heap[l]? = some (.loop { r with state:=.done,pending:=some (.exit id) })→R (.returned (.bool false)) W4
 | .goto t,_,W3=>W3.heap[l]? = some (.loop { r with state:=.busy })∧∀ W4,SameBut l W3 W4→W4.heap[l]? = some (.loop { r with state:=.done,pending:=some (.goto t) })→R (.returned (.bool false)) W4
 | .panic _,_,_=>False
 | .outgrown,_,_=>False
theorem round_wide {l:Nat} {f:FuncId} {tmps:Array Value} {assign body:Code} {W:World} {R:Ending→World→Prop} {r:Loop}
  (h:assign.wpIn (Fence.wide.inRound l) n P (Exit.then (fun a₁ W₁=>W₁.heap[l]? = some (.loop r)∧r.state = .ready∧∀ W₂,SameBut l W₁ W₂→W₂.heap[l]? = some (.loop { r with state:=.busy })→body.wpIn (Fence.wide.inRound l) n P (roundQ l r R) a₁ W₂) (fun _ _ _=>False))
    { tmps:=tmps,defers:=[] } W):RoundIn Fence.wide n P l f tmps assign body W R:=by
 refine roundIn_of_wpIn trivial (wpIn_mono h ?_)
 intro e a₁ W₁ hq
 cases e with
 | normal=>
   obtain ⟨hl,hr,hb⟩:=hq
   refine ⟨_,run_beginRound hl hr,?_⟩
   have hlt:l < W₁.heap.size:=(Array.getElem?_eq_some_iff.1 hl).1
   refine wpIn_mono (hb _ (SameBut.put _ _ _) (World.putObj_heap_same hlt)) ?_
   have fin:∀ (jump:Option Code) (W3:World),W3.heap[l]? = some (.loop { r with state:=.busy })→∃ W4,(Instr.endRound l jump).run P W3 = .ok (.bool jump.isNone) W4∧SameBut l W3 W4 ∧
     W4.heap[l]? = some (.loop { r with state:=if jump.isNone then .ready else .done,pending:=jump }):=fun jump W3 h3=>
    ⟨_,run_endRound jump h3,SameBut.put _ _ _,World.putObj_heap_same (Array.getElem?_eq_some_iff.1 h3).1⟩
   intro e2 a3 W3 hp
   cases e2 with
   | normal=>obtain ⟨h3,hp⟩:=hp;obtain ⟨W4,e4,s4,l4⟩:=fin none W3 h3;exact ⟨_,_,e4,hp W4 s4 l4⟩
   | ret=>obtain ⟨h3,hp⟩:=hp;obtain ⟨W4,e4,s4,l4⟩:=fin (some .ret) W3 h3;exact ⟨_,_,e4,hp W4 s4 l4⟩
   | exit id=>obtain ⟨h3,hp⟩:=hp;obtain ⟨W4,e4,s4,l4⟩:=fin (some (.exit id)) W3 h3;exact ⟨_,_,e4,hp W4 s4 l4⟩
   | goto t=>obtain ⟨h3,hp⟩:=hp;obtain ⟨W4,e4,s4,l4⟩:=fin (some (.goto t)) W3 h3;exact ⟨_,_,e4,hp W4 s4 l4⟩
   | panic _=>exact hp.elim
   | outgrown=>exact hp.elim
 | ret=>exact hq.elim
 | exit id=>exact hq.elim
 | goto t=>exact hq.elim
 | panic _=>exact hq.elim
 | outgrown=>exact hq.elim
theorem stepR_scope {b:Frame} {a:Act} {k:List Item} {cs:List Frame} {w:World} {c:Code}:step P (lone (b.atR a (.code (.scope c) :: k)) cs w) = .next (lone (b.atR a (.code c :: .inScope c :: k)) cs w):=
 step_lone_go (by simp [stepG,stepG.exec,Frame.atR])
theorem stepR_inScope {b:Frame} {a:Act} {k:List Item} {cs:List Frame} {w:World} {c:Code}:step P (lone (b.atR a (.inScope c :: k)) cs w) = .next (lone (b.atR a k) cs w):=
 step_lone_go (by simp [stepG,stepG.exec,Frame.atR])
theorem wpIn_scope_straight {F:Fence} {c:Code} {Q:Exit→Act→World→Prop} {a:Act} {w:World} (h:c.wpIn F n P (Exit.noGoto Q) a w):(Code.scope c).wpIn F n P Q a w:=by
 intro b k cs hro hb hr
 have h0:(lone (b.atR a (.code (.scope c) :: k)) cs w).fenced P F:=fenced_calm hb hr rfl
 obtain ⟨e,a₁,w₁,hq,harr⟩:=h b (.inScope c :: k) cs hro hb hr
 cases e with
 | normal=>exact ⟨.normal,a₁,w₁,hq,.head h0 stepR_scope (StepsIn.trans harr (.one (fenced_calm hb hr rfl) stepR_inScope))⟩
 | exit id=>
   have hx:exitTo id (.inScope c :: k)=exitTo id k:=by simp [exitTo]
   exact ⟨.exit id,a₁,w₁,hq,fun k' hk => .head h0 stepR_scope (harr.1 k' (by rw [hx];exact hk)),
    fun hr' hk=>let ⟨k₁,h1,h2⟩:=harr.2 hr' (by rw [hx];exact hk);⟨k₁,h1,.head h0 stepR_scope h2⟩⟩
 | goto l=>exact hq.elim
 | ret=>exact ⟨_,a₁,w₁,hq,.of_steps (.one h0 stepR_scope) harr⟩
 | panic ch=>exact ⟨_,a₁,w₁,hq,.of_steps (.one h0 stepR_scope) harr⟩
 | outgrown=>exact ⟨_,a₁,w₁,hq,.of_steps (.one h0 stepR_scope) harr⟩
end Go.Rf
