/- The kinds of aggs: the program's map; the parser's agg: walked. Written by genQ11.py. -/
import Derived.Test.YtbbgjjjeecfnoaaGreatDoorXQN
import Derived.Test.YtbbgjjjeecfnoaaGreatDoorXFC
import Derived.StringKeys
namespace Go.Proofs.YtbbgjjjeecfnoaaGreatDoor
open Go.RowKit Go.Sort Go.Maps
open Tess (Fil Tok Prs.next Prs.skip Prs.isT Prs.Endd Prs.Keeps)
theorem infoAg:(Tryz.prog.info? 83).map (fun i=>(i.zero,i.size,i.bytes))=some (some (.agg #[.int .i64 0,.string ⟨#[]⟩]),2,24):=by kernel_rfl
def kindsD:DataW Value:=(((((DataW.map []).put (.string Tess.Prs.wCount.data.toList) (.held (.int .i64 1))).put (.string Tess.Prs.wSum.data.toList) (.held (.int .i64 2))).put (.string Tess.Prs.wMin.data.toList) (.held (.int .i64 3))).put (.string Tess.Prs.wMax.data.toList) (.held (.int .i64 4))).put (.string Tess.Prs.wAvg.data.toList) (.held (.int .i64 5))
theorem zeroInt (w:World):(zeroValue 3).run Tryz.prog w = .ok (.int .i64 0) w:=by kernel_rfl
def KindsAt (w:World) (b:Nat):Prop:=w.ownsMap Tryz.prog 9 asIs b 5 kindsD
theorem kinds_at (x:ByteArray):kindsD.atKey (.string x.data.toList) (.held (.int .i64 0)) = .held (.int .i64 (((Tess.Prs.kindOf x).getD 0:Nat):Int))∧Maps.has kindsD (.string x.data.toList)=(Tess.Prs.kindOf x).isSome:=by
 by_cases h1:x=Tess.Prs.wCount
 ·subst h1;exact ⟨by kernel_rfl,by kernel_rfl⟩
 by_cases h2:x=Tess.Prs.wSum
 ·subst h2;exact ⟨by kernel_rfl,by kernel_rfl⟩
 by_cases h3:x=Tess.Prs.wMin
 ·subst h3;exact ⟨by kernel_rfl,by kernel_rfl⟩
 by_cases h4:x=Tess.Prs.wMax
 ·subst h4;exact ⟨by kernel_rfl,by kernel_rfl⟩
 by_cases h5:x=Tess.Prs.wAvg
 ·subst h5;exact ⟨by kernel_rfl,by kernel_rfl⟩
 have hf:Tess.Prs.kindOf x=none:=by unfold Tess.Prs.kindOf;simp [h1,h2,h3,h4,h5]
 have ne:∀ y:ByteArray,x≠y→(Lit.string x.data.toList) ≠ .string y.data.toList:=fun y h e=>h (by
  have:=Lit.string.inj e
  exact ByteArray.ext (Array.toList_inj.1 this))
 rw [hf]
 unfold kindsD
 constructor
 ·rw [atKey_put_other (ne _ h5),atKey_put_other (ne _ h4),atKey_put_other (ne _ h3),atKey_put_other (ne _ h2),atKey_put_other (ne _ h1)]
  rfl
 ·rw [has_put_other (ne _ h5),has_put_other (ne _ h4),has_put_other (ne _ h3),has_put_other (ne _ h2),has_put_other (ne _ h1)]
  rfl
theorem KindsAt.look {w:World} {b:Nat} (h:KindsAt w b) (x:ByteArray) (hx:x.size≤maxLen) :
  (Instr.lookup 271 (.map (some b)) (.string x) true).run Tryz.prog w = .ok (.tuple #[.int .i64 (((Tess.Prs.kindOf x).getD 0:Nat):Int),.bool (Tess.Prs.kindOf x).isSome]) w:=by
 obtain ⟨v,ps,hrun,hv⟩:=World.ownsMap.look_ok h lawStr Tryz.underlying271 (zeroInt w) (zd:=.held (.int .i64 0)) (zp:=[]) rfl (WideMaps.keyOf_string_mk Tryz.underlying9 hx)
 rw [(kinds_at x).1] at hv
 rw [(kinds_at x).2] at hrun
 unfold asIs at hv
 have:v = .int .i64 (((Tess.Prs.kindOf x).getD 0:Nat):Int):=by simpa using (Prod.ext_iff.1 (Option.some.inj hv)).1
 rw [hrun,this]
def isKinds (v:Value) (w:World):Prop:=∃ b,v = .map (some b)∧KindsAt w b
theorem isKinds_mono:Flow.Spec.mono (.inr isKinds):=fun _ _ _ ⟨b,h1,h2⟩ hb=>⟨b,h1,World.ownsMap.kept h2 (Below.grownNone hb) (by simp)⟩
set_option maxRecDepth 100000 in
set_option maxHeartbeats 4000000 in
theorem kinds_any (w:World):Calls Tryz.prog 196 #[] w fun e w' => ∃ b,e = .returned (.map (some b))∧KindsAt w' b∧Below w.heap.size w w':=by
 have hmm:=@run_makeMap Tryz.prog
 have HO:=Lib.hid (World.ownsMap_made (H:=Value) w Tryz.prog 9 asIs)
 have HB:=Lib.hid ((Below.refl w.heap.size w).alloc (Nat.le_refl _) (.map #[] 0))
 go_enter Tryz.func196,Tryz.ntmps196
 go_wp2_with (refine wpList_insert_own _ rfl _ _ _ 271 rfl 9 3 lawStr Tryz.underlying271 asIs w.heap.size _ _ rfl HO.out (by decide) _ _ _ rfl rfl (WideMaps.keyOf_string_mk Tryz.underlying9 (by decide)) _ _ rfl ?_;intro w1 hown1 hg1;have HB':=Lib.hid (HB.out.grown hg1 HB.out.size (fun j e=>by cases e;omega));have HO':=Lib.hid hown1;clear hown1 hg1 HO HB;have HO:=HO';have HB:=HB';clear HO' HB')
 go_ret
 exact ⟨_,rfl,HO.out,HB.out⟩
structure AgEx (N:Nat) (x1 x2 x3 x4 x5 x6 x7 x8 x9 xa xb xc xd:Value) (acc:List Tess.Agg) (qs:List Value) (W:World):Prop where
 o:∃ vb,qs=[vb,x1,x2,x3,x4,x5,x6,x7,x8,x9,xa,xb,xc,xd]∧W.ownsRow N 83 2 vb acc.length (acc.flatMap aggF)∧(acc=[]→vb = .slice none 0 0)∧∀ x ∈ acc,x.met.size≤maxLen
theorem AgEx.steady {N B:Nat} {x1 x2 x3 x4 x5 x6 x7 x8 x9 xa xb xc xd:Value} {w0:World} (hB:B < N) (acc:List Tess.Agg):Steady B w0 (AgEx N x1 x2 x3 x4 x5 x6 x7 x8 x9 xa xb xc xd acc):=by
 intro qs W W' _ h hg
 obtain ⟨vb,h1,h2,h3,h4⟩:=h.o
 exact ⟨vb,h1,owns_steady h2 hg hB,h3,h4⟩
section
variable {ts r:List Tok}
theorem agg_fail (h:(Prs.next ts).kind≠1∨Tess.Prs.kindOf (Prs.next ts).text=none):Tess.Prs.agg ts = .error (Prs.next ts).pos:=by
 unfold Tess.Prs.agg
 by_cases h1:(Prs.next ts).kind≠1
 ·rw [if_pos h1];rfl
 ·rw [if_neg h1,h.resolve_left h1];rfl
theorem agg_some {K:Nat} (h1:(Prs.next ts).kind=1) (h:Tess.Prs.kindOf (Prs.next ts).text=some K):Tess.Prs.agg ts=Tess.Prs.aggOf K (Prs.skip ts):=by
 unfold Tess.Prs.agg
 rw [if_neg (fun e=>e h1),h]
theorem aggOf_one:Tess.Prs.aggOf 1 ts = .ok (⟨1,ByteArray.empty⟩,ts):=rfl
theorem aggOf_more {K:Nat} (h:K≠1):Tess.Prs.aggOf K ts=Tess.Prs.must Tess.Prs.wOpen ts fun r=>Tess.Prs.bindR (Tess.Prs.take 2 r) fun t r2=>Tess.Prs.must Tess.Prs.wClose r2 fun r3 => .ok (⟨(K:Nat),t⟩,r3):=by
 unfold Tess.Prs.aggOf
 rw [if_neg h]
theorem must_ok {β:Type} {x:ByteArray} {k:List Tok→Tess.Prs.R β} (h:Prs.isT [x] ts=some r):Tess.Prs.must x ts k=k r:=by unfold Tess.Prs.must Tess.Prs.isR;rw [h]
theorem must_no {β:Type} {x:ByteArray} {k:List Tok→Tess.Prs.R β} (h:Prs.isT [x] ts=none):Tess.Prs.must x ts k = .error (Prs.next ts).pos:=by unfold Tess.Prs.must Tess.Prs.isR;rw [h];rfl
theorem kindOf_ne {x:ByteArray} {K:Nat} (h:Tess.Prs.kindOf x=some K):1≤K∧K≤5:=by
 unfold Tess.Prs.kindOf at h
 repeat' split at h
 all_goals first | (cases h;omega) | cases h
end
theorem box2k {W:World} {G:Nat} {t:TypeId} {y0 y1:Value} (h:W.heap[G]? = some (.cells #[y0,y1] t (0,0))):(W.cell? ⟨G,0,none⟩=some y0∧W.cell? ⟨G,1,none⟩=some y1)∧∀ i,W.frozen? ⟨G,i,none⟩=false:=
 ⟨⟨cell_of_row _ _ 0 _ _ _ h,cell_of_row _ _ 1 _ _ _ h⟩,fun i=>frozen_of_row _ _ i _ _ h⟩
theorem must2_any {p:Nat→Prop} {B:Nat} {ts:List Tok} {v:Value} {qs:List Value} (x:ByteArray) {c:Nat} (w:World) (hc:c=w.heap.size) (h:PsAt p B ts v qs w) :
  Calls Tryz.prog 140 #[.pointer (some ⟨B,0,none⟩),.slice (some ⟨c,0,none⟩) 1 1] (w.alloc (.cells #[.string x] 9)) fun e w'=>w.grownBy w' (some B) ∧
   ((∃ r v',Prs.isT [x] ts=some r∧e = .returned .nilIface∧PsAt p B r v' qs w')∨(Prs.isT [x] ts=none∧e = .returned (errF (Prs.next ts).pos)∧∃ v',PsAt p B ts v' qs w')):=by
 subst hc
 exact must1_any x w h
set_option maxRecDepth 100000 in
set_option maxHeartbeats 8000000 in
theorem agg_any {p:Nat→Prop} {B:Nat} {x1 x2 x3 x4 x5 x6 x7 x8 x9 xa xb xc xd:Value} {L:Nat} (w0:World) (hp:∀ b,p b→b < w0.heap.size) (hB:B < w0.heap.size) (hL:L≤1000000) :
  Reads 142 #[.pointer (some ⟨B,0,none⟩)] p B w0 Tess.Prs.agg (AgEx w0.heap.size x1 x2 x3 x4 x5 x6 x7 x8 x9 xa xb xc xd) (fun _=>True) L:=by
 intro acc ts v qs W h _ hG hE hlen
 obtain ⟨i0,hi,hz0,hz1,hz2⟩:=info_parts infoAg
 obtain ⟨vb,rfl,hown,hnil,hms⟩:=hE.o
 have hl0:0 < ts.length:=List.length_pos_iff.2 h.ne
 have hWs:=hG.size
 have hBW:=h.lt
 have htx:(Prs.next ts).text.size≤maxLen:=(tok_n h).2.2.2.1
 have HN:=Lib.hid (pnext_any W h)
 have HG:=Lib.hid hG
 have HW:=Lib.hid hown
 have HP:=Lib.hid h
 have HMS:=Lib.hid hms
 clear hG hown h hE hms
 unfold tkV tkF at HN
 go_enter Tryz.func142,Tryz.ntmps142
 go_wp2_with (
   go_at_call 216;refine HN.out.mono ?_;rintro e w2 ⟨rfl,hB2⟩;have HB2:=Lib.hid hB2;clear hB2)
 obtain ⟨W2,hW2⟩:∃ W2,w2.alloc (.cells #[.int .i64 (Prs.next ts).kind,.int .i64 (Prs.next ts).pos,.int .i64 (Prs.next ts).size,.string (Prs.next ts).text,.int .i64 (Prs.next ts).n] 128)=W2:=⟨_,rfl⟩
 obtain ⟨t0,tS,tB⟩:=laid1 w2 (.cells #[.int .i64 (Prs.next ts).kind,.int .i64 (Prs.next ts).pos,.int .i64 (Prs.next ts).size,.string (Prs.next ts).text,.int .i64 (Prs.next ts).n] 128)
 rw [hW2] at t0 tS tB ⊢
 have hB2:=Bt HB2.out tB
 have HB:=Lib.hid hB2
 have HT0:=Lib.hid t0
 have h2s:w2.heap.size < W2.heap.size:=by omega
 have e3:=(can5 t0).1.2.2.2.1
 clear hW2 t0 tS tB HB2 hB2
 refine Flow.wp_region_flow (Flow.specs [.inr isKinds,.inl ?_,.inl ?_,.inl (.tuple #[.int .i64 (((Tess.Prs.kindOf (Prs.next ts).text).getD 0:Nat):Int),.bool (Tess.Prs.kindOf (Prs.next ts).text).isSome]),.inl ?_,.inl ?_,.inl ?_,.inl ?_,.inl ?_]) (by kernel_rfl) (by kernel_rfl) ?_ ?_
 rotate_left 7
 ·refine Flow.specs_mono ?_
  repeat (first | exact Flow.lmono_nil | refine Flow.lmono_inl ?_ | refine Flow.lmono_inr isKinds_mono ?_)
 (refine Flow.tree_varK rfl (fun K hK=>⟨fun w hw hG => ?_,?_⟩);(clear hG hw;unfold Flow.Runs Flow.yields;go_simp;refine (kinds_any _).mono ?_;rintro e w3 ⟨b,rfl,hm,hb3⟩;exact ⟨_,rfl,hb3,b,rfl,hm⟩);intro vm';go_simp;refine hK _ _ ?_;clear hK K)
 iterate 2 (refine Flow.tree_valK rfl (fun K hK=>⟨fun w hw hG => ?_,?_⟩);(have hcl:=Flow.bcell hw;clear hG hw;unfold Flow.Runs Flow.yields;go_simp;try rfl);go_simp;refine hK _ ?_;clear hK K)
 (refine Flow.tree_valK rfl (fun K hK=>⟨fun w hw hG => ?_,?_⟩);(have hvm:=(show isKinds vm' w by simpa [Flow.upd] using hG 0 (by kernel_rfl));clear hG;obtain ⟨bm,rfl,hm⟩:=hvm;have hlk:=hm.look _ htx;clear hm;unfold Flow.Runs Flow.yields;go_simp;try rfl);go_simp;refine hK _ ?_;clear hK K)
 iterate 5 (refine Flow.tree_valK rfl (fun K hK=>⟨fun w hw hG => ?_,?_⟩);(have hcl:=Flow.bcell hw;clear hG hw;unfold Flow.Runs Flow.yields;go_simp;try rfl);go_simp;refine hK _ ?_;clear hK K)
 refine Flow.tree_nil fun W3 hW3 hG => ?_
 clear hG
 have HB3:=Lib.hid (Bt HB.out hW3)
 have t3:=(hW3.block _ h2s).trans HT0.out
 have e0:=(can5 t3).1.1
 have h3s:w2.heap.size < W3.heap.size:=(Array.getElem?_eq_some_iff.1 t3).1
 clear hW3 t3 e3
 rcases (show ((Prs.next ts).kind≠1∧((((Prs.next ts).kind:Nat):Int) != 1)=true)∨(((Prs.next ts).kind=1∧((((Prs.next ts).kind:Nat):Int) != 1)=false)∧(Tess.Prs.kindOf (Prs.next ts).text=none∨∃ K,Tess.Prs.kindOf (Prs.next ts).text=some K)) by
  by_cases h5:(Prs.next ts).kind=1
  ·refine Or.inr ⟨⟨h5,by rw [h5];rfl⟩,?_⟩
   cases Tess.Prs.kindOf (Prs.next ts).text with
   | none=>exact Or.inl rfl
   | some K=>exact Or.inr ⟨K,rfl⟩
  ·exact Or.inl ⟨h5,by rw [bne_iff_ne];omega⟩) with ⟨h5,g5⟩ | ⟨⟨h5,g5⟩,hno | ⟨K,hK⟩⟩
 ·go_wp2_with (
   go_at_call 215;refine (fail_any _ (HP.out.below HB3.out)).mono ?_;rintro e w4 ⟨rfl,hB4⟩;have HB4:=Lib.hid (Bt HB3.out hB4);clear hB4)
  go_ret
  exact ⟨HG.out.transB (grB_below HB4.out),Or.inr ⟨_,agg_fail (Or.inl h5),rfl,trivial,_,_,_,HP.out.below HB4.out⟩⟩
 ·have HNO:=Lib.hid hno
  rw [hno]
  clear hno
  go_wp2_with (
   go_at_call 215;refine (fail_any _ (HP.out.below HB3.out)).mono ?_;rintro e w4 ⟨rfl,hB4⟩;have HB4:=Lib.hid (Bt HB3.out hB4);clear hB4)
  go_ret
  exact ⟨HG.out.transB (grB_below HB4.out),Or.inr ⟨_,agg_fail (Or.inr HNO.out),rfl,trivial,_,_,_,HP.out.below HB4.out⟩⟩
 ·have HQ:=Lib.hid (agg_some h5 hK)
  have hKr:=kindOf_ne hK
  rw [hK]
  clear hK h5
  by_cases h1:K=1
  ·subst h1
   go_wp2_with (
    go_at_call 217;refine (skip_any _ (HP.out.below HB3.out)).mono ?_;rintro e w4 ⟨rfl,v4,hP4,hG4⟩;have HP4:=Lib.hid hP4;have HG4:=Lib.hid ((grB_below HB3.out).transB hG4);clear hP4 hG4)
   obtain ⟨W7,hW7⟩:∃ W7,w4.alloc (.cells #[.int .i64 1,.string ⟨#[]⟩] 83)=W7:=⟨_,rfl⟩
   obtain ⟨k7,kS,kB⟩:=laid1 w4 (.cells #[.int .i64 1,.string ⟨#[]⟩] 83)
   rw [hW7] at k7 kS kB ⊢
   have hP7:=HP4.out.below kB
   have hG7:=HG4.out.trans_below kB
   obtain ⟨e1,e2⟩:=(box2k k7).1
   have f13:=hP7.can.1.1
   have h7B:=hP7.lt
   have h7G:w4.heap.size < W7.heap.size:=by omega
   have HG7:=Lib.hid hG7
   have HP7:=Lib.hid hP7
   clear hG7 hP7 k7 kS kB hW7
   refine FlowQ.wp_region 8 [8,9,10,11,12] (.pointer (some ⟨B,0,none⟩)) (Flow.specs [.inl undef,.inl ?_,.inl ?_,.inl ?_,.inl ?_,.inl ?_,.inl ?_,.inr (newRow [.int .i64 1,.string ⟨#[]⟩])]) (by kernel_rfl) (by kernel_rfl) ?_ rfl (fun w' _=>by go_simp) ?_
   rotate_left 6
   ·refine Flow.specs_mono ?_
    repeat (first | exact Flow.lmono_nil | refine Flow.lmono_inl ?_ | refine Flow.lmono_inr (newRow_mono _) ?_)
   all_goals try simp only [Nat.reduceSub,List.take_succ_cons,List.take_zero]
   iterate 6 (refine Flow.tree_valK rfl (fun K hK=>⟨fun w hw hG => ?_,?_⟩);(have hcl:=Flow.bcell hw;clear hG hw;unfold Flow.Runs Flow.yields;go_simp;try rfl);go_simp;refine hK _ ?_;clear hK K)
   (refine Flow.tree_varK rfl (fun K hK=>⟨fun w hw hG => ?_,?_⟩);(clear hG hw;unfold Flow.Runs Flow.yields;go_simp;refine ⟨(Below.refl _ _).alloc (Nat.le_refl _) _,?_⟩);rotate_left;intro vz;go_simp;refine hK _ _ ?_;clear hK K;rotate_left)
   ·exact newRow_mk _ _ _
   refine Flow.tree_nil fun w8 hw8 hG => ?_
   obtain ⟨gn,rfl,hgn,hcn⟩:=(show newRow [.int .i64 1,.string ⟨#[]⟩] vz w8 by simpa [Flow.upd] using hG 7)
   have HW8:=Lib.hid hw8
   have HCN:=Lib.hid hcn
   have hw8s:=hw8.size
   have h07:=HG7.out.size
   clear hG hw8 hcn
   refine ⟨?_,?_⟩
   all_goals
    go_wp2_with (at_builtin;refine wpList_append_own _ rfl _ _ 25 rfl w0.heap.size 83 i0 (.agg #[.int .i64 0,.string ⟨#[]⟩]) 2 24 Tryz.underlying25 hi hz0 hz1 hz2 rfl (by decide) _ _ _ rfl (owns_below (owns_steady HW.out HG7.out hB) HW8.out) ⟨gn,0,none⟩ 1 1 [.int .i64 1,.string ⟨#[]⟩] rfl rfl ?c1 (by simp [Value.oneCell']) (by unfold maxLen;omega) (by omega) (by omega) ?_)
    case c1=>intro j u hj;rw [show (⟨gn,0,none⟩:Addr).add j=⟨gn,j,none⟩ by unfold Addr.add;split <;> simp_all];exact HCN.out j u hj
    intro v' w9 hown9 hgrow hnil9
    have hown8:=owns_steady HW.out HG7.out hB
    have hrow:∀ j,vb.ownBlock=some j→w0.heap.size≤j:=fun j e=>(hown8.lt j e).1
    have hG9:w0.grownBy w9 (some B):=((HG.out.transB HG7.out).trans_below HW8.out).row hgrow hrow
    have hP9:=(HP7.out.below HW8.out).later hp hB hgrow hrow
    have c9:=hP9.can.1.1
    have z9:=hP9.can.2 1 (by decide)
    have h9s:=hP9.lt
    have HV9:=Lib.hid hown9
    have HG9:=Lib.hid hG9
    have HP9:=Lib.hid hP9
    clear hown9 hgrow hnil9 hG9 hP9 hown8
    obtain ⟨g,cap,rfl⟩:∃ g cap,v' = .slice (some ⟨g,0,none⟩) (acc.length + 1) cap:=by
     rcases HV9.out.2 with ⟨_,h0⟩ | ⟨g,cap,cur,hv,_⟩
     ·omega
     ·exact ⟨g,cap,hv⟩
    go_wp2
    refine ⟨rfl,?_⟩
    go_wp2
    go_ret
    refine ⟨HG9.out.transB (grB_set _ _ _ _ h9s),Or.inl ⟨⟨1,ByteArray.empty⟩,Prs.skip ts,_,_,HQ.out.trans aggOf_one,rfl,HP9.out.put 1 _ rfl rfl,⟨_,rfl,?_,(fun e=>by simp at e),by intro x hx;rcases List.mem_append.1 hx with hx | hx;exact HMS.out x hx;rw [List.mem_singleton] at hx;subst hx;exact Nat.zero_le _⟩⟩⟩
    have:=ownsRow_setCell_below HV9.out (a:=⟨B,1,none⟩) (by show B < w0.heap.size;exact hB) (.slice (some ⟨g,0,none⟩) (acc.length + 1) cap)
    rw [List.length_append,List.flatMap_append]
    exact this
  ·have g1:(((K:Nat):Int) != 1)=true:=by rw [bne_iff_ne];omega
   have HQ2:=Lib.hid (HQ.out.trans (aggOf_more h1))
   clear HQ
   go_wp2_with (first
    | (go_at_call 217;refine (skip_any _ (HP.out.below HB3.out)).mono ?_;rintro e w4 ⟨rfl,v4,hP4,hG4⟩;
        have HL4:=Lib.hid (laid1 w4 (.cells #[.int .i64 K,.string ⟨#[]⟩] 83));
        have h4s:=HL4.out.2.1;
        have HP5:=Lib.hid (hP4.below HL4.out.2.2);have HG5:=Lib.hid (((grB_below HB3.out).transB hG4).trans_below HL4.out.2.2);have h4W:=(((grB_below HB3.out).transB hG4):W.grownBy w4 (some B)).size;clear hP4 hG4)
    | (go_at_call 140;first
        | (refine (must2_any Tess.Prs.wOpen _ (by rw [h4s]) HP5.out).mono ?_;rintro e w6 ⟨hG6,⟨r,v6,hT,rfl,hP6⟩ | ⟨hT,rfl,v6,hP6⟩⟩ <;>
            (have hk6:=(hG6.block w4.heap.size (by omega) (by intro e;have:=Option.some.inj e;omega)).trans HL4.out.1
             have HP6:=Lib.hid hP6;have HG6:=Lib.hid (HG5.out.transB hG6);have HT:=Lib.hid hT;have HK6:=Lib.hid hk6;clear hP6 hG6 hT hk6 HP5))
        | (refine (must2_any Tess.Prs.wClose _ HSS8.out.symm HP8.out).mono ?_;rintro e w9 ⟨hG9,⟨r9,v9,hT9,rfl,hP9⟩ | ⟨hT9,rfl,v9,hP9⟩⟩ <;>
            (have hk9:=(hG9.block w4.heap.size (by rw [HSS8.out];omega) (by intro e;have:=Option.some.inj e;omega)).trans HK8.out
             have HP9:=Lib.hid hP9;have HG9:=Lib.hid (HG8.out.transB hG9);have HT9:=Lib.hid hT9;have HK9:=Lib.hid hk9;clear hP9 hG9 hT9 hk9)))
    | (go_at_call 145;refine (take1_any 2 _ HP6.out).mono ?_;rintro e w7 ⟨y0,y1,y2,y3,y4,err,r7,v7,rfl,hP7,hG7,hy3,⟨ht,rfl⟩ | ⟨k,ht,rfl⟩⟩ <;>
        (have hk7:=(hG7.block w4.heap.size (Array.getElem?_eq_some_iff.1 HK6.out).1 (by intro e;have:=Option.some.inj e;omega)).trans HK6.out
         have hL7:=laid1 w7 (.cells #[.int .i64 y0,.int .i64 y1,.int .i64 y2,.string y3,.int .i64 y4] 128)
         have hk7b:=(hL7.2.2.block w4.heap.size (Array.getElem?_eq_some_iff.1 hk7).1).trans hk7
         have d3:=(can5 hL7.1).1.2.2.2.1
         have c7:=(box2k hk7b).1;have z7:=(box2k hk7b).2 1
         have h7s:=(Array.getElem?_eq_some_iff.1 hk7).1
         have HG7:=Lib.hid ((HG6.out.transB hG7).trans_below hL7.2.2);have HP7:=Lib.hid (hP7.below hL7.2.2)
         have hX:=(show (w7.setCell ⟨w4.heap.size,1,none⟩ (.string y3)).heap[w4.heap.size]? = some (.cells #[.int .i64 K,.string y3] 83 (0,0)) from heap_setCell_same _ _ _ _ _ _ hk7)
         have hL8:=laid1 (w7.setCell ⟨w4.heap.size,1,none⟩ (.string y3)) (.cells #[.int .i64 y0,.int .i64 y1,.int .i64 y2,.string y3,.int .i64 y4] 128)
         have hS8:=hL8.2.1.trans (by rw [setSize])
         have HG8:=Lib.hid (((HG6.out.transB hG7).setN (g:=w4.heap.size) 1 (.string y3) (by omega)).trans_below hL8.2.2)
         have HP8:=Lib.hid ((hP7.set (g:=w4.heap.size) 1 (.string y3) (by omega) (fun hq=>by have:=hp _ hq;omega)).below hL8.2.2)
         have HK8:=Lib.hid ((hL8.2.2.block w4.heap.size (by rw [setSize];exact h7s)).trans hX)
         have HSS8:=Lib.hid hS8;clear hX hL8 hS8
         have HTK:=Lib.hid ht;clear hP7 hG7 ht hk7 hk7b hL7)))
   rotate_left
   ·go_ret
    exact ⟨HG.out.transB HG9.out,Or.inr ⟨_,by rw [HQ2.out,must_ok HT.out,bindR_ok HTK.out,must_no HT9.out],rfl,trivial,_,_,_,HP9.out⟩⟩
   ·go_ret
    exact ⟨HG.out.transB HG7.out,Or.inr ⟨k,by rw [HQ2.out,must_ok HT.out,bindR_err HTK.out],rfl,trivial,_,_,_,HP7.out⟩⟩
   ·go_ret
    exact ⟨HG.out.transB HG6.out,Or.inr ⟨_,by rw [HQ2.out,must_no HT.out],rfl,trivial,_,_,_,HP6.out⟩⟩
   have hk7:=HK9.out
   have hP7:=HP9.out
   obtain ⟨e1,e2⟩:=(box2k hk7).1
   have f13:=hP7.can.1.1
   have h7B:=hP7.lt
   have h7G:=(Array.getElem?_eq_some_iff.1 hk7).1
   clear HG7 HP7 h7s
   have HG7:=HG9
   have HP7:=Lib.hid hP7
   have HY3:=Lib.hid hy3
   clear hP7 hk7 c7 z7 d3 HP6 HG6 HP8 HG8 HG5 hy3
   refine FlowQ.wp_region 8 [8,9,10,11,12] (.pointer (some ⟨B,0,none⟩)) (Flow.specs [.inl undef,.inl ?_,.inl ?_,.inl ?_,.inl ?_,.inl ?_,.inl ?_,.inr (newRow [.int .i64 K,.string y3])]) (by kernel_rfl) (by kernel_rfl) ?_ rfl (fun w' _=>by go_simp) ?_
   rotate_left 6
   ·refine Flow.specs_mono ?_
    repeat (first | exact Flow.lmono_nil | refine Flow.lmono_inl ?_ | refine Flow.lmono_inr (newRow_mono _) ?_)
   all_goals try simp only [Nat.reduceSub,List.take_succ_cons,List.take_zero]
   iterate 6 (refine Flow.tree_valK rfl (fun K hK=>⟨fun w hw hG => ?_,?_⟩);(have hcl:=Flow.bcell hw;clear hG hw;unfold Flow.Runs Flow.yields;go_simp;try rfl);go_simp;refine hK _ ?_;clear hK K)
   (refine Flow.tree_varK rfl (fun K hK=>⟨fun w hw hG => ?_,?_⟩);(clear hG hw;unfold Flow.Runs Flow.yields;go_simp;refine ⟨(Below.refl _ _).alloc (Nat.le_refl _) _,?_⟩);rotate_left;intro vz;go_simp;refine hK _ _ ?_;clear hK K;rotate_left)
   ·exact newRow_mk _ _ _
   refine Flow.tree_nil fun w8 hw8 hG => ?_
   obtain ⟨gn,rfl,hgn,hcn⟩:=(show newRow [.int .i64 K,.string y3] vz w8 by simpa [Flow.upd] using hG 7)
   have HW8:=Lib.hid hw8
   have HCN:=Lib.hid hcn
   have hw8s:=hw8.size
   have h07:=HG7.out.size
   clear hG hw8 hcn
   refine ⟨?_,?_⟩
   all_goals
    go_wp2_with (at_builtin;refine wpList_append_own _ rfl _ _ 25 rfl w0.heap.size 83 i0 (.agg #[.int .i64 0,.string ⟨#[]⟩]) 2 24 Tryz.underlying25 hi hz0 hz1 hz2 rfl (by decide) _ _ _ rfl (owns_below (owns_steady HW.out HG7.out hB) HW8.out) ⟨gn,0,none⟩ 1 1 [.int .i64 K,.string y3] rfl rfl ?c1 (by simp [Value.oneCell']) (by unfold maxLen;omega) (by omega) (by omega) ?_)
    case c1=>intro j u hj;rw [show (⟨gn,0,none⟩:Addr).add j=⟨gn,j,none⟩ by unfold Addr.add;split <;> simp_all];exact HCN.out j u hj
    intro v' w9 hown9 hgrow hnil9
    have hown8:=owns_steady HW.out HG7.out hB
    have hrow:∀ j,vb.ownBlock=some j→w0.heap.size≤j:=fun j e=>(hown8.lt j e).1
    have hG9:w0.grownBy w9 (some B):=((HG.out.transB HG7.out).trans_below HW8.out).row hgrow hrow
    have hP9:=(HP7.out.below HW8.out).later hp hB hgrow hrow
    have c9:=hP9.can.1.1
    have z9:=hP9.can.2 1 (by decide)
    have h9s:=hP9.lt
    have HV9:=Lib.hid hown9
    have HG9:=Lib.hid hG9
    have HP9:=Lib.hid hP9
    clear hown9 hgrow hnil9 hG9 hP9 hown8
    obtain ⟨g,cap,rfl⟩:∃ g cap,v' = .slice (some ⟨g,0,none⟩) (acc.length + 1) cap:=by
     rcases HV9.out.2 with ⟨_,h0⟩ | ⟨g,cap,cur,hv,_⟩
     ·omega
     ·exact ⟨g,cap,hv⟩
    go_wp2
    refine ⟨rfl,?_⟩
    go_wp2
    go_ret
    refine ⟨HG9.out.transB (grB_set _ _ _ _ h9s),Or.inl ⟨⟨(K:Nat),y3⟩,r9,_,_,by rw [HQ2.out,must_ok HT.out,bindR_ok HTK.out,must_ok HT9.out],rfl,HP9.out.put 1 _ rfl rfl,⟨_,rfl,?_,(fun e=>by simp at e),by intro x hx;rcases List.mem_append.1 hx with hx | hx;exact HMS.out x hx;rw [List.mem_singleton] at hx;subst hx;exact HY3.out⟩⟩⟩
    have:=ownsRow_setCell_below HV9.out (a:=⟨B,1,none⟩) (by show B < w0.heap.size;exact hB) (.slice (some ⟨g,0,none⟩) (acc.length + 1) cap)
    rw [List.length_append,List.flatMap_append]
    exact this
end Go.Proofs.YtbbgjjjeecfnoaaGreatDoor
