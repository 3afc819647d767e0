/- A query's text: query.written: walked. Written by genQ47.py. -/
import Derived.Test.YtbbgjjjeecfnoaaGreatDoorXQH
namespace Go.Proofs.YtbbgjjjeecfnoaaGreatDoor
open Go.RowKit Go.Sort Go.Maps
open Tess (Tok Fil Que)
def newQw (x0 x1:Value) (v:Value) (w:World):Prop:=∃ g,v = .slice (some ⟨g,0,none⟩) 2 2∧g < w.heap.size∧∀ j u,[x0,x1][j]? = some u→w.cell? ⟨g,j,none⟩=some u
theorem newQw_mono (x0 x1:Value):Flow.Spec.mono (.inr (newQw x0 x1)):=fun _ _ _ ⟨g,h1,h2,h3⟩ hb=>⟨g,h1,Nat.lt_of_lt_of_le h2 hb.size,fun j u hj=>(hb.cell (p:=⟨g,j,none⟩) h2).trans (h3 j u hj)⟩
theorem two_cells (x0 x1:Value) (w:World) (t:TypeId):∀ j u,[x0,x1][j]? = some u→(w.alloc (.cells #[x0,x1] t)).cell? ⟨w.heap.size,j,none⟩=some u:=fun j u hj=>by
 rw [cell_of_row _ _ j _ _ _ (heap_alloc_new _ _)]
 simpa using hj
theorem one_cell (x0:Value) (w:World) (t:TypeId):∀ j u,[x0][j]? = some u→(w.alloc (.cells #[x0] t)).cell? ⟨w.heap.size,j,none⟩=some u:=fun j u hj=>by
 rw [cell_of_row _ _ j _ _ _ (heap_alloc_new _ _)]
 simpa using hj
theorem newQw_mk (x0 x1:Value) (w:World) (t:TypeId):newQw x0 x1 (.slice (some ⟨w.heap.size,0,none⟩) 2 2) (w.alloc (.cells #[x0,x1] t)):=⟨_,rfl,by simp,two_cells _ _ _ _⟩
structure SmallQ (q:Que):Prop where
 a1:q.aggs.length≤10000000
 a2:∀ a ∈ q.aggs,a.met.size≤1000000000
 a3:(Tess.Wr.join Tess.Wr.sComma (q.aggs.map Tess.Wr.summing)).length≤10000000000
 n1:q.names.length≤10000000
 n2:∀ x ∈ q.names,x.size≤1000000000
 n3:(Tess.Wr.dollars q.names).length≤10000000000
 s1:q.sets.length≤10000000
 s2:∀ l ∈ q.sets,l.length≤10000000∧∀ x ∈ l,x.size≤1000000000
 s3:(Tess.Wr.join [32] (q.sets.map Tess.Wr.set)).length≤10000000000
 e : -9223372036854775808≤q.every∧q.every≤9223372036854775807
 f1:SmallF q.fil
 f2:(Tess.Wr.asking q.fil).length≤10000000000
 c1:q.conds.length≤10000000
 c2:∀ c ∈ q.conds,(-9223372036854775808≤c.pos∧c.pos≤9223372036854775807)∧(-9223372036854775808≤c.op∧c.op≤9223372036854775807)∧(-9223372036854775808≤c.n∧c.n≤9223372036854775807)
 c3:(Tess.Wr.join Tess.Wr.sComma (q.conds.map Tess.Wr.condition)).length≤10000000000
 k1:q.keys.length≤10000000
 k2:∀ k ∈ q.keys,-9223372036854775808≤k.pos∧k.pos≤9223372036854775807
 k3:(Tess.Wr.join Tess.Wr.sComma (q.keys.map (Tess.Wr.key q.names))).length≤10000000000
 l : -9223372036854775808≤q.limit∧q.limit≤9223372036854775807
 w:(Tess.Wr.written q).length≤100000000000
theorem set_part (l:List ByteArray):(Tess.Wr.dollars l).length≤(Tess.Wr.set l).length:=by
 unfold Tess.Wr.set
 split
 ·rename_i h
  have:l=[]:=by simpa using h
  rw [this];exact Nat.zero_le _
 ·simp only [List.length_append];omega
theorem isEmpty_dec {α:Type} (l:List α):decide (0 < l.length) = !l.isEmpty:=by
 cases l with
 | nil=>rfl
 | cons x r=>simp
def piecesOf (q:Que) (b:Bool) (XA XN XS XE XF XC XK XL:List UInt8):List (List UInt8):=
 (((((((([] ++ (if true then [[115,101,108,101,99,116],XA] else [])) ++ (if decide (0 < q.names.length) then [[98,121],XN] else [])) ++ (if q.mode == 2 then [[99,117,98,101]] else [])) ++ (if q.mode == 3 then [[114,111,108,108,117,112]] else [])) ++ (if q.mode == 4 then [[115,101,116,115],XS] else [])) ++ (if q.every != 0 then [[101,118,101,114,121],XE] else [])) ++ (if b then [[119,104,101,114,101],XF] else [])) ++ (if decide (0 < q.conds.length) then [[104,97,118,105,110,103],XC] else [])) ++ (if decide (0 < q.keys.length) then [[111,114,100,101,114],XK] else []) ++ (if q.limit != 0 then [[108,105,109,105,116],XL] else [])
set_option maxRecDepth 100000 in
set_option maxHeartbeats 16000000 in
theorem written_any (p:Nat→Prop) (n:Nat) (v:Value) (q:Que) (va vb vs f0 f1 f2 f3 f4 f5 vh vo:Value) (w:World) (hV:Vz w) (hq:QueAt p n w v q va vb vs f0 f1 f2 f3 f4 f5 vh vo) (hs:SmallQ q) :
  Calls Tryz.prog 56 #[v] w fun e w'=>e = .returned (.string (Tok.ofL (Tess.Wr.written q)))∧Below w.heap.size w w':=by
 have HQ:=Lib.hid hq
 have HS:=Lib.hid hs
 have hv:=hq.e
 subst hv
 obtain ⟨a1,k1,a2,k2,a3,k3,wa,wn,wc,a4,k4,a5,k5,a6,k6,rfl,rfl,rfl,rfl,rfl,rfl,rfl,rfl,rfl,rfl,rfl⟩:=hq.shapes
 clear hq hs
 have HV:=Lib.hid hV
 have HAT:=Lib.hid (fun W (h:Below w.heap.size w W)=>HQ.out.ag (Ag.new p h))
 clear hV
 have HA:=Lib.hid (show ∀ W,Below w.heap.size w W→Calls Tryz.prog 123 #[.slice a1 q.aggs.length k1,.string ⟨#[32,44,32]⟩,.func (.func 124) #[] #[]] W fun e w'=>e = .returned (.string (Tok.ofL (Tess.Wr.join Tess.Wr.sComma (q.aggs.map Tess.Wr.summing))))∧Below W.heap.size W w' from fun W hW=>
  each_sum Tess.Wr.summing q.aggs a1 k1 ⟨#[32,44,32]⟩ W HS.out.a1 (Nat.le_trans HS.out.a3 (by decide)) fun k hk=>by
   obtain ⟨a',c',e',h1,h2,h3,h4⟩:=(HAT.out W hW).aggs
   simp only [Value.slice.injEq] at e'
   obtain ⟨rfl,_,rfl⟩:=e'
   obtain ⟨b,off,ha,hb,hp,hc⟩:=h4 (by omega)
   have g0:=hc k hk 0 (by omega);have g1:=hc k hk 1 (by omega)
   exact ⟨b,off,ha,hb,_,_,⟨by simpa [aggF] using g0,by simpa [aggF] using g1⟩,fun V _=>summing_any _ (HS.out.a2 _ (List.getElem_mem hk)) V⟩)
 have HN:=Lib.hid (show ∀ W,Below w.heap.size w W→Calls Tryz.prog 121 #[.slice a2 q.names.length k2] W fun e w'=>e = .returned (.string (Tok.ofL (Tess.Wr.dollars q.names)))∧Below W.heap.size W w' from fun W hW=>
  dollars_any _ q.names W (HAT.out W hW).names.1 HS.out.n2 HS.out.n1 (Nat.le_trans HS.out.n3 (by decide)))
 have HSE:=Lib.hid (show ∀ W,Below w.heap.size w W→Calls Tryz.prog 125 #[.slice a3 q.sets.length k3,.string ⟨#[32]⟩,.func (.func 120) #[] #[]] W fun e w'=>e = .returned (.string (Tok.ofL (Tess.Wr.join [32] (q.sets.map Tess.Wr.set))))∧Below W.heap.size W w' from fun W hW=>
  each_set Tess.Wr.set q.sets a3 k3 ⟨#[32]⟩ W HS.out.s1 (Nat.le_trans HS.out.s3 (by decide)) fun k hk=>by
   obtain ⟨a',c',e',h1,h2,h3,h4⟩:=(HAT.out W hW).sets
   simp only [Value.slice.injEq] at e'
   obtain ⟨rfl,_,rfl⟩:=e'
   obtain ⟨b,off,ha,hb,hp,hc⟩:=h4 (by omega)
   obtain ⟨c,hcell,hsl,_⟩:=hc k hk
   obtain ⟨z0,z1,z2,rfl⟩:=hsl.shape
   have hd:(Tess.Wr.dollars q.sets[k]).length≤100000000000:=by
    have e1:=join_part (sep:=[32]) (List.mem_map.2 ⟨_,List.getElem_mem hk,rfl⟩:Tess.Wr.set q.sets[k] ∈ q.sets.map Tess.Wr.set)
    have e2:=set_part q.sets[k]
    have e3:=HS.out.s3
    omega
   exact ⟨b,off,ha,hb,_,_,_,hcell,fun V hV=>set_any' _ _ V (hsl.1.below hV) (HS.out.s2 _ (List.getElem_mem hk)).2 (HS.out.s2 _ (List.getElem_mem hk)).1 hd⟩)
 have HEV:=Lib.hid (fun W (h:Vz W)=>digits_any q.every HS.out.e.1 HS.out.e.2 W h)
 have HLI:=Lib.hid (fun W (h:Vz W)=>digits_any q.limit HS.out.l.1 HS.out.l.2 W h)
 have HFI:=Lib.hid (fun W (h:Below w.heap.size w W)=>asking_any p n _ q.fil W (HV.out.below h) (HAT.out W h).fil HS.out.f1 HS.out.f2)
 have HCO:=Lib.hid (show ∀ W,Below w.heap.size w W→Calls Tryz.prog 127 #[.slice a5 q.conds.length k5,.string ⟨#[32,44,32]⟩,.func (.func 128) #[] #[]] W fun e w'=>e = .returned (.string (Tok.ofL (Tess.Wr.join Tess.Wr.sComma (q.conds.map Tess.Wr.condition))))∧Below W.heap.size W w' from fun W hW=>
  each_cnd Tess.Wr.condition q.conds a5 k5 ⟨#[32,44,32]⟩ W HS.out.c1 (Nat.le_trans HS.out.c3 (by decide)) fun k hk=>by
   obtain ⟨a',c',e',h1,h2,h3,h4⟩:=(HAT.out W hW).conds
   simp only [Value.slice.injEq] at e'
   obtain ⟨rfl,_,rfl⟩:=e'
   obtain ⟨b,off,ha,hb,hp,hc⟩:=h4 (by omega)
   have g0:=hc k hk 0 (by omega);have g1:=hc k hk 1 (by omega);have g2:=hc k hk 2 (by omega)
   obtain ⟨r1,r2,r3⟩:=HS.out.c2 _ (List.getElem_mem hk)
   exact ⟨b,off,ha,hb,_,_,_,⟨by simpa [condF] using g0,by simpa [condF] using g1,by simpa [condF] using g2⟩,fun V hV=>condition_any _ r1 r2 r3 V (HV.out.below (Bt hW hV))⟩)
 have HKE:=Lib.hid (show ∀ W xs,Wt w #[.slice a1 q.aggs.length k1,.slice a2 q.names.length k2,.int .i64 q.mode,.slice a3 q.sets.length k3,.int .i64 q.every,.int .i64 q.fil.kind,.string q.fil.name,.slice wa wn wc,.int .i64 q.fil.frm,.int .i64 q.fil.to,.slice a4 q.fil.l.length k4,.slice a5 q.conds.length k5,.slice a6 q.keys.length k6,.int .i64 q.limit] xs W→Calls Tryz.prog 129 #[.slice a6 q.keys.length k6,.string ⟨#[32,44,32]⟩,.func (.func 117) #[] #[.pointer (some ⟨w.heap.size,0,none⟩)]] W fun e w'=>e = .returned (.string (Tok.ofL (Tess.Wr.join Tess.Wr.sComma (q.keys.map (Tess.Wr.key q.names)))))∧Below W.heap.size W w' from fun W xs hW=>
  each_key (Tess.Wr.key q.names) q.keys a6 k6 (.pointer (some ⟨w.heap.size,0,none⟩)) ⟨#[32,44,32]⟩ W HS.out.k1 (Nat.le_trans HS.out.k3 (by decide)) fun k hk=>by
   obtain ⟨a',c',e',h1,h2,h3,h4⟩:=(HAT.out W hW.b).keys
   simp only [Value.slice.injEq] at e'
   obtain ⟨rfl,_,rfl⟩:=e'
   obtain ⟨b,off,ha,hb,hp,hc⟩:=h4 (by omega)
   have g0:=hc k hk 0 (by omega);have g1:=hc k hk 1 (by omega);have g2:=hc k hk 2 (by omega)
   exact ⟨b,off,ha,hb,_,_,_,⟨by simpa [keyF] using g0,by simpa [keyF] using g1,by simpa [keyF] using g2⟩,fun V hV=>key_any' q.names _ (HS.out.k2 _ (List.getElem_mem hk)) HS.out.n2 w.heap.size (.slice a2 q.names.length k2) V (HV.out.below (Bt hW.b hV)) (by
    have:=cell_of_row _ _ 1 _ _ _ ((hW.later hV).kQ)
    simpa using this) (HAT.out V (Bt hW.b hV)).names.1⟩)
 have HJW:=Lib.hid HS.out.w
 have HWR1:=Lib.hid (show q.fil.kind≠1→Tess.Wr.join [32] (piecesOf q true (Tess.Wr.join Tess.Wr.sComma (q.aggs.map Tess.Wr.summing)) (Tess.Wr.dollars q.names) (Tess.Wr.join [32] (q.sets.map Tess.Wr.set)) (Tess.Wr.digits q.every) (Tess.Wr.asking q.fil) (Tess.Wr.join Tess.Wr.sComma (q.conds.map Tess.Wr.condition)) (Tess.Wr.join Tess.Wr.sComma (q.keys.map (Tess.Wr.key q.names))) (Tess.Wr.digits q.limit))=Tess.Wr.written q from fun hk=>by
  have e1:(q.fil.kind != 1)=true:=by rw [bne_iff_ne];exact hk
  unfold piecesOf Tess.Wr.written
  rw [isEmpty_dec,isEmpty_dec,isEmpty_dec,e1]
  rfl)
 have HWR0:=Lib.hid (show q.fil.kind=1→Tess.Wr.join [32] (piecesOf q false (Tess.Wr.join Tess.Wr.sComma (q.aggs.map Tess.Wr.summing)) (Tess.Wr.dollars q.names) (Tess.Wr.join [32] (q.sets.map Tess.Wr.set)) (Tess.Wr.digits q.every) (Tess.Wr.asking q.fil) (Tess.Wr.join Tess.Wr.sComma (q.conds.map Tess.Wr.condition)) (Tess.Wr.join Tess.Wr.sComma (q.keys.map (Tess.Wr.key q.names))) (Tess.Wr.digits q.limit))=Tess.Wr.written q from fun hk=>by
  have e1:(q.fil.kind != 1)=false:=by rw [hk];rfl
  unfold piecesOf Tess.Wr.written
  rw [isEmpty_dec,isEmpty_dec,isEmpty_dec,e1]
  rfl)
 unfold piecesOf at HWR1 HWR0
 generalize Tess.Wr.join Tess.Wr.sComma (q.aggs.map Tess.Wr.summing)=XA at *
 generalize Tess.Wr.dollars q.names=XN at *
 generalize Tess.Wr.join [32] (q.sets.map Tess.Wr.set)=XS at *
 generalize Tess.Wr.digits q.every=XE at *
 generalize Tess.Wr.asking q.fil=XF at *
 generalize Tess.Wr.join Tess.Wr.sComma (q.conds.map Tess.Wr.condition)=XC at *
 generalize Tess.Wr.join Tess.Wr.sComma (q.keys.map (Tess.Wr.key q.names))=XK at *
 generalize Tess.Wr.digits q.limit=XL at *
 generalize Tess.Wr.written q=WR at *
 clear HQ HS HAT
 obtain ⟨W0,hW0⟩:∃ W0,(w.alloc (.cells #[.slice a1 q.aggs.length k1,.slice a2 q.names.length k2,.int .i64 q.mode,.slice a3 q.sets.length k3,.int .i64 q.every,.int .i64 q.fil.kind,.string q.fil.name,.slice wa wn wc,.int .i64 q.fil.frm,.int .i64 q.fil.to,.slice a4 q.fil.l.length k4,.slice a5 q.conds.length k5,.slice a6 q.keys.length k6,.int .i64 q.limit] 35)).alloc (.cells #[.slice none 0 0] 22)=W0:=⟨_,rfl⟩
 obtain ⟨l1,l2,l3,l4⟩:=laid2 w (.cells #[.slice a1 q.aggs.length k1,.slice a2 q.names.length k2,.int .i64 q.mode,.slice a3 q.sets.length k3,.int .i64 q.every,.int .i64 q.fil.kind,.string q.fil.name,.slice wa wn wc,.int .i64 q.fil.frm,.int .i64 q.fil.to,.slice a4 q.fil.l.length k4,.slice a5 q.conds.length k5,.slice a6 q.keys.length k6,.int .i64 q.limit] 35) (.cells #[.slice none 0 0] 22)
 rw [hW0] at l1 l2 l3 l4
 have HWT:RowKit.Hid (Wt w #[.slice a1 q.aggs.length k1,.slice a2 q.names.length k2,.int .i64 q.mode,.slice a3 q.sets.length k3,.int .i64 q.every,.int .i64 q.fil.kind,.string q.fil.name,.slice wa wn wc,.int .i64 q.fil.frm,.int .i64 q.fil.to,.slice a4 q.fil.l.length k4,.slice a5 q.conds.length k5,.slice a6 q.keys.length k6,.int .i64 q.limit] [] W0):=Lib.hid ⟨l1,⟨_,l2,World.ownsRow_nil _ _ _ _⟩,l4⟩
 clear l1 l2 l3 l4
 go_enter Tryz.func56,Tryz.ntmps56
 obtain ⟨⟨c0,c1,c2,c3,c4,c5,c6,c7,c8,c9,ca,cb,cc,cd⟩,_⟩:=can14 HWT.out.kQ
 have hwl:=(Array.getElem?_eq_some_iff.1 HWT.out.kQ).1
 go_wp2_with (fail)
 go_at_call 123
 clear hwl c0 c1 c2 c3 c4 c5 c6 c7 c8 c9 ca cb cc cd
 refine (HA.out _ HWT.out.b).mono ?_
 rintro e w2 ⟨rfl,hb2⟩
 have HWT2:=Lib.hid ((HWT.out.later hb2).later ((Below.refl _ _).alloc (Nat.le_refl _) (.cells #[.string ⟨#[115,101,108,101,99,116]⟩,.string (Tok.ofL XA)] 9)))
 clear hb2
 go_wp2_with (fail)
 go_at_call 122
 refine (put_any (true) [[115,101,108,101,99,116],XA] _ 2 w _ _ _ HWT2.out (fun j u hj=>two_cells _ _ _ _ j u hj) (Nat.zero_le _) (by simp) (by simp)).mono ?_
 rintro e W9 ⟨⟨v,rfl⟩,h9⟩
 have HWT9:=Lib.hid h9
 clear h9 HWT
 have HWT:=HWT9
 clear HWT9
 clear HWT2
 obtain ⟨⟨c0,c1,c2,c3,c4,c5,c6,c7,c8,c9,ca,cb,cc,cd⟩,_⟩:=can14 HWT.out.kQ
 have hwl:=(Array.getElem?_eq_some_iff.1 HWT.out.kQ).1
 go_wp2_with (fail)
 refine Flow.wp_region_flow_tail 9 (Flow.specs [.inl ?_,.inl ?_,.inl ?_,.inl ?_,.inl ?_,.inl ?_,.inl ?_,.inl ?_,.inr (newQw (.string ⟨#[98,121]⟩) (.string (Tok.ofL XN)))]) (by kernel_rfl) (by kernel_rfl) ?_ ?_
 rotate_left 8
 ·refine Flow.specs_mono ?_
  repeat (first | exact Flow.lmono_nil | refine Flow.lmono_inl ?_ | refine Flow.lmono_inr (newQw_mono _ _) ?_)
 all_goals try simp only [List.take_succ_cons,List.take_zero,List.drop_succ_cons,List.drop_zero]
 iterate 7 (refine Flow.tree_valK rfl (fun K hK=>⟨fun w hw hG => ?_,?_⟩);(have hcl:=Flow.bcell hw;clear hG hw;unfold Flow.Runs Flow.yields;go_simp;try rfl);go_simp;refine hK _ ?_;clear hK K)
 (refine Flow.tree_valK rfl (fun K hK=>⟨fun w hw hG => ?_,?_⟩);(have hcc:=HN.out w (Bt HWT.out.b hw);clear hG hw;unfold Flow.Runs Flow.yields;go_simp;refine hcc.mono ?_;rintro e w3 ⟨rfl,hb3⟩;(refine ⟨?_,hb3⟩;rfl));go_simp;refine hK _ ?_;clear hK K)
 (refine Flow.tree_varK rfl (fun K hK=>⟨fun w hw hG => ?_,?_⟩);(clear hG hw;unfold Flow.Runs Flow.yields;go_simp;exact ⟨(Below.refl _ _).alloc (Nat.le_refl _) _,newQw_mk _ _ _ _⟩);intro vz;go_simp;refine hK _ _ ?_;clear hK K)
 refine Flow.tree_nil fun w2 hw2 hG => ?_
 obtain ⟨gn,rfl,hgn,hcn⟩:=(show newQw (.string ⟨#[98,121]⟩) (.string (Tok.ofL XN)) vz w2 by simpa [Flow.upd] using hG 8)
 clear hG
 have HWT2:=Lib.hid (HWT.out.later hw2)
 clear hw2
 clear hwl c0 c1 c2 c3 c4 c5 c6 c7 c8 c9 ca cb cc cd
 go_wp2_with (fail)
 go_at_call 122
 refine (put_any (decide (0 < q.names.length)) [[98,121],XN] gn 2 w _ _ _ HWT2.out (fun j u hj=>hcn j u hj) (by simp only [List.length_append];(repeat' split);all_goals simp) (by simp) (by simp)).mono ?_
 rintro e W9 ⟨⟨v,rfl⟩,h9⟩
 have HWT9:=Lib.hid h9
 clear h9 HWT
 have HWT:=HWT9
 clear HWT9
 clear hcn hgn HWT2
 obtain ⟨⟨c0,c1,c2,c3,c4,c5,c6,c7,c8,c9,ca,cb,cc,cd⟩,_⟩:=can14 HWT.out.kQ
 have hwl:=(Array.getElem?_eq_some_iff.1 HWT.out.kQ).1
 go_wp2_with (fail)
 go_at_call 122
 clear hwl c0 c1 c2 c3 c4 c5 c6 c7 c8 c9 ca cb cc cd
 have HWT2:=Lib.hid (HWT.out.later ((Below.refl _ _).alloc (Nat.le_refl _) (.cells #[.string ⟨#[99,117,98,101]⟩] 9)))
 refine (put_any (q.mode == 2) [[99,117,98,101]] _ 1 w _ _ _ HWT2.out (fun j u hj=>one_cell _ _ _ j u hj) (by simp only [List.length_append];(repeat' split);all_goals simp) (by simp) (by simp)).mono ?_
 rintro e W9 ⟨⟨v,rfl⟩,h9⟩
 have HWT9:=Lib.hid h9
 clear h9 HWT
 have HWT:=HWT9
 clear HWT9
 clear HWT2
 obtain ⟨⟨c0,c1,c2,c3,c4,c5,c6,c7,c8,c9,ca,cb,cc,cd⟩,_⟩:=can14 HWT.out.kQ
 have hwl:=(Array.getElem?_eq_some_iff.1 HWT.out.kQ).1
 go_wp2_with (fail)
 go_at_call 122
 clear hwl c0 c1 c2 c3 c4 c5 c6 c7 c8 c9 ca cb cc cd
 have HWT2:=Lib.hid (HWT.out.later ((Below.refl _ _).alloc (Nat.le_refl _) (.cells #[.string ⟨#[114,111,108,108,117,112]⟩] 9)))
 refine (put_any (q.mode == 3) [[114,111,108,108,117,112]] _ 1 w _ _ _ HWT2.out (fun j u hj=>one_cell _ _ _ j u hj) (by simp only [List.length_append];(repeat' split);all_goals simp) (by simp) (by simp)).mono ?_
 rintro e W9 ⟨⟨v,rfl⟩,h9⟩
 have HWT9:=Lib.hid h9
 clear h9 HWT
 have HWT:=HWT9
 clear HWT9
 clear HWT2
 obtain ⟨⟨c0,c1,c2,c3,c4,c5,c6,c7,c8,c9,ca,cb,cc,cd⟩,_⟩:=can14 HWT.out.kQ
 have hwl:=(Array.getElem?_eq_some_iff.1 HWT.out.kQ).1
 go_wp2_with (fail)
 refine Flow.wp_region_flow_tail 9 (Flow.specs [.inl ?_,.inl ?_,.inl ?_,.inl ?_,.inl ?_,.inl ?_,.inl ?_,.inl ?_,.inr (newQw (.string ⟨#[115,101,116,115]⟩) (.string (Tok.ofL XS)))]) (by kernel_rfl) (by kernel_rfl) ?_ ?_
 rotate_left 8
 ·refine Flow.specs_mono ?_
  repeat (first | exact Flow.lmono_nil | refine Flow.lmono_inl ?_ | refine Flow.lmono_inr (newQw_mono _ _) ?_)
 all_goals try simp only [List.take_succ_cons,List.take_zero,List.drop_succ_cons,List.drop_zero]
 iterate 7 (refine Flow.tree_valK rfl (fun K hK=>⟨fun w hw hG => ?_,?_⟩);(have hcl:=Flow.bcell hw;clear hG hw;unfold Flow.Runs Flow.yields;go_simp;try rfl);go_simp;refine hK _ ?_;clear hK K)
 (refine Flow.tree_valK rfl (fun K hK=>⟨fun w hw hG => ?_,?_⟩);(have hcc:=HSE.out w (Bt HWT.out.b hw);clear hG hw;unfold Flow.Runs Flow.yields;go_simp;refine hcc.mono ?_;rintro e w3 ⟨rfl,hb3⟩;(refine ⟨?_,hb3⟩;rfl));go_simp;refine hK _ ?_;clear hK K)
 (refine Flow.tree_varK rfl (fun K hK=>⟨fun w hw hG => ?_,?_⟩);(clear hG hw;unfold Flow.Runs Flow.yields;go_simp;exact ⟨(Below.refl _ _).alloc (Nat.le_refl _) _,newQw_mk _ _ _ _⟩);intro vz;go_simp;refine hK _ _ ?_;clear hK K)
 refine Flow.tree_nil fun w2 hw2 hG => ?_
 obtain ⟨gn,rfl,hgn,hcn⟩:=(show newQw (.string ⟨#[115,101,116,115]⟩) (.string (Tok.ofL XS)) vz w2 by simpa [Flow.upd] using hG 8)
 clear hG
 have HWT2:=Lib.hid (HWT.out.later hw2)
 clear hw2
 clear hwl c0 c1 c2 c3 c4 c5 c6 c7 c8 c9 ca cb cc cd
 go_wp2_with (fail)
 go_at_call 122
 refine (put_any (q.mode == 4) [[115,101,116,115],XS] gn 2 w _ _ _ HWT2.out (fun j u hj=>hcn j u hj) (by simp only [List.length_append];(repeat' split);all_goals simp) (by simp) (by simp)).mono ?_
 rintro e W9 ⟨⟨v,rfl⟩,h9⟩
 have HWT9:=Lib.hid h9
 clear h9 HWT
 have HWT:=HWT9
 clear HWT9
 clear hcn hgn HWT2
 obtain ⟨⟨c0,c1,c2,c3,c4,c5,c6,c7,c8,c9,ca,cb,cc,cd⟩,_⟩:=can14 HWT.out.kQ
 have hwl:=(Array.getElem?_eq_some_iff.1 HWT.out.kQ).1
 go_wp2_with (fail)
 refine Flow.wp_region_flow_tail 8 (Flow.specs [.inl ?_,.inl ?_,.inl ?_,.inl ?_,.inl ?_,.inl ?_,.inl ?_,.inr (newQw (.string ⟨#[101,118,101,114,121]⟩) (.string (Tok.ofL XE)))]) (by kernel_rfl) (by kernel_rfl) ?_ ?_
 rotate_left 7
 ·refine Flow.specs_mono ?_
  repeat (first | exact Flow.lmono_nil | refine Flow.lmono_inl ?_ | refine Flow.lmono_inr (newQw_mono _ _) ?_)
 all_goals try simp only [List.take_succ_cons,List.take_zero,List.drop_succ_cons,List.drop_zero]
 iterate 6 (refine Flow.tree_valK rfl (fun K hK=>⟨fun w hw hG => ?_,?_⟩);(have hcl:=Flow.bcell hw;clear hG hw;unfold Flow.Runs Flow.yields;go_simp;try rfl);go_simp;refine hK _ ?_;clear hK K)
 (refine Flow.tree_valK rfl (fun K hK=>⟨fun w hw hG => ?_,?_⟩);(have hcc:=HEV.out w (HV.out.below (Bt HWT.out.b hw));clear hG hw;unfold Flow.Runs Flow.yields;go_simp;refine hcc.mono ?_;rintro e w3 ⟨rfl,hb3⟩;(refine ⟨?_,hb3⟩;rfl));go_simp;refine hK _ ?_;clear hK K)
 (refine Flow.tree_varK rfl (fun K hK=>⟨fun w hw hG => ?_,?_⟩);(clear hG hw;unfold Flow.Runs Flow.yields;go_simp;exact ⟨(Below.refl _ _).alloc (Nat.le_refl _) _,newQw_mk _ _ _ _⟩);intro vz;go_simp;refine hK _ _ ?_;clear hK K)
 refine Flow.tree_nil fun w2 hw2 hG => ?_
 obtain ⟨gn,rfl,hgn,hcn⟩:=(show newQw (.string ⟨#[101,118,101,114,121]⟩) (.string (Tok.ofL XE)) vz w2 by simpa [Flow.upd] using hG 7)
 clear hG
 have HWT2:=Lib.hid (HWT.out.later hw2)
 clear hw2
 clear hwl c0 c1 c2 c3 c4 c5 c6 c7 c8 c9 ca cb cc cd
 go_wp2_with (fail)
 go_at_call 122
 refine (put_any (q.every != 0) [[101,118,101,114,121],XE] gn 2 w _ _ _ HWT2.out (fun j u hj=>hcn j u hj) (by simp only [List.length_append];(repeat' split);all_goals simp) (by simp) (by simp)).mono ?_
 rintro e W9 ⟨⟨v,rfl⟩,h9⟩
 have HWT9:=Lib.hid h9
 clear h9 HWT
 have HWT:=HWT9
 clear HWT9
 clear hcn hgn HWT2
 by_cases hfk:q.fil.kind=1
 ·have hfb:(q.fil.kind != 1)=false:=by rw [hfk];rfl
  have HWP0:=HWR0.out hfk
  simp only [Bool.false_eq_true,if_false,List.append_nil] at HWP0
  have HWP:=Lib.hid HWP0
  clear HWP0 HWR0 HWR1
  obtain ⟨⟨c0,c1,c2,c3,c4,c5,c6,c7,c8,c9,ca,cb,cc,cd⟩,_⟩:=can14 HWT.out.kQ
  have hwl:=(Array.getElem?_eq_some_iff.1 HWT.out.kQ).1
  go_wp2_with (fail)
  refine Flow.wp_region_flow_tail 9 (Flow.specs [.inl ?_,.inl ?_,.inl ?_,.inl ?_,.inl ?_,.inl ?_,.inl ?_,.inl ?_,.inr (newQw (.string ⟨#[104,97,118,105,110,103]⟩) (.string (Tok.ofL XC)))]) (by kernel_rfl) (by kernel_rfl) ?_ ?_
  rotate_left 8
  ·refine Flow.specs_mono ?_
   repeat (first | exact Flow.lmono_nil | refine Flow.lmono_inl ?_ | refine Flow.lmono_inr (newQw_mono _ _) ?_)
  all_goals try simp only [List.take_succ_cons,List.take_zero,List.drop_succ_cons,List.drop_zero]
  iterate 7 (refine Flow.tree_valK rfl (fun K hK=>⟨fun w hw hG => ?_,?_⟩);(have hcl:=Flow.bcell hw;clear hG hw;unfold Flow.Runs Flow.yields;go_simp;try rfl);go_simp;refine hK _ ?_;clear hK K)
  (refine Flow.tree_valK rfl (fun K hK=>⟨fun w hw hG => ?_,?_⟩);(have hcc:=HCO.out w (Bt HWT.out.b hw);clear hG hw;unfold Flow.Runs Flow.yields;go_simp;refine hcc.mono ?_;rintro e w3 ⟨rfl,hb3⟩;(refine ⟨?_,hb3⟩;rfl));go_simp;refine hK _ ?_;clear hK K)
  (refine Flow.tree_varK rfl (fun K hK=>⟨fun w hw hG => ?_,?_⟩);(clear hG hw;unfold Flow.Runs Flow.yields;go_simp;exact ⟨(Below.refl _ _).alloc (Nat.le_refl _) _,newQw_mk _ _ _ _⟩);intro vz;go_simp;refine hK _ _ ?_;clear hK K)
  refine Flow.tree_nil fun w2 hw2 hG => ?_
  obtain ⟨gn,rfl,hgn,hcn⟩:=(show newQw (.string ⟨#[104,97,118,105,110,103]⟩) (.string (Tok.ofL XC)) vz w2 by simpa [Flow.upd] using hG 8)
  clear hG
  have HWT2:=Lib.hid (HWT.out.later hw2)
  clear hw2
  clear hwl c0 c1 c2 c3 c4 c5 c6 c7 c8 c9 ca cb cc cd
  go_wp2_with (fail)
  go_at_call 122
  refine (put_any (decide (0 < q.conds.length)) [[104,97,118,105,110,103],XC] gn 2 w _ _ _ HWT2.out (fun j u hj=>hcn j u hj) (by simp only [List.length_append];(repeat' split);all_goals simp) (by simp) (by simp)).mono ?_
  rintro e W9 ⟨⟨v,rfl⟩,h9⟩
  have HWT9:=Lib.hid h9
  clear h9 HWT
  have HWT:=HWT9
  clear HWT9
  clear hcn hgn HWT2
  obtain ⟨⟨c0,c1,c2,c3,c4,c5,c6,c7,c8,c9,ca,cb,cc,cd⟩,_⟩:=can14 HWT.out.kQ
  have hwl:=(Array.getElem?_eq_some_iff.1 HWT.out.kQ).1
  go_wp2_with (fail)
  refine Flow.wp_region_flow_tail 10 (Flow.specs [.inl ?_,.inl ?_,.inl ?_,.inl ?_,.inl ?_,.inl ?_,.inl ?_,.inl ?_,.inl ?_,.inr (newQw (.string ⟨#[111,114,100,101,114]⟩) (.string (Tok.ofL XK)))]) (by kernel_rfl) (by kernel_rfl) ?_ ?_
  rotate_left 9
  ·refine Flow.specs_mono ?_
   repeat (first | exact Flow.lmono_nil | refine Flow.lmono_inl ?_ | refine Flow.lmono_inr (newQw_mono _ _) ?_)
  all_goals try simp only [List.take_succ_cons,List.take_zero,List.drop_succ_cons,List.drop_zero]
  iterate 8 (refine Flow.tree_valK rfl (fun K hK=>⟨fun w hw hG => ?_,?_⟩);(have hcl:=Flow.bcell hw;clear hG hw;unfold Flow.Runs Flow.yields;go_simp;try rfl);go_simp;refine hK _ ?_;clear hK K)
  (refine Flow.tree_valK rfl (fun K hK=>⟨fun w hw hG => ?_,?_⟩);(have hcc:=HKE.out w _ (HWT.out.later hw);clear hG hw;unfold Flow.Runs Flow.yields;go_simp;refine hcc.mono ?_;rintro e w3 ⟨rfl,hb3⟩;(refine ⟨?_,hb3⟩;rfl));go_simp;refine hK _ ?_;clear hK K)
  (refine Flow.tree_varK rfl (fun K hK=>⟨fun w hw hG => ?_,?_⟩);(clear hG hw;unfold Flow.Runs Flow.yields;go_simp;exact ⟨(Below.refl _ _).alloc (Nat.le_refl _) _,newQw_mk _ _ _ _⟩);intro vz;go_simp;refine hK _ _ ?_;clear hK K)
  refine Flow.tree_nil fun w2 hw2 hG => ?_
  obtain ⟨gn,rfl,hgn,hcn⟩:=(show newQw (.string ⟨#[111,114,100,101,114]⟩) (.string (Tok.ofL XK)) vz w2 by simpa [Flow.upd] using hG 9)
  clear hG
  have HWT2:=Lib.hid (HWT.out.later hw2)
  clear hw2
  clear hwl c0 c1 c2 c3 c4 c5 c6 c7 c8 c9 ca cb cc cd
  go_wp2_with (fail)
  go_at_call 122
  refine (put_any (decide (0 < q.keys.length)) [[111,114,100,101,114],XK] gn 2 w _ _ _ HWT2.out (fun j u hj=>hcn j u hj) (by simp only [List.length_append];(repeat' split);all_goals simp) (by simp) (by simp)).mono ?_
  rintro e W9 ⟨⟨v,rfl⟩,h9⟩
  have HWT9:=Lib.hid h9
  clear h9 HWT
  have HWT:=HWT9
  clear HWT9
  clear hcn hgn HWT2
  obtain ⟨⟨c0,c1,c2,c3,c4,c5,c6,c7,c8,c9,ca,cb,cc,cd⟩,_⟩:=can14 HWT.out.kQ
  have hwl:=(Array.getElem?_eq_some_iff.1 HWT.out.kQ).1
  go_wp2_with (fail)
  refine Flow.wp_region_flow_tail 8 (Flow.specs [.inl ?_,.inl ?_,.inl ?_,.inl ?_,.inl ?_,.inl ?_,.inl ?_,.inr (newQw (.string ⟨#[108,105,109,105,116]⟩) (.string (Tok.ofL XL)))]) (by kernel_rfl) (by kernel_rfl) ?_ ?_
  rotate_left 7
  ·refine Flow.specs_mono ?_
   repeat (first | exact Flow.lmono_nil | refine Flow.lmono_inl ?_ | refine Flow.lmono_inr (newQw_mono _ _) ?_)
  all_goals try simp only [List.take_succ_cons,List.take_zero,List.drop_succ_cons,List.drop_zero]
  iterate 6 (refine Flow.tree_valK rfl (fun K hK=>⟨fun w hw hG => ?_,?_⟩);(have hcl:=Flow.bcell hw;clear hG hw;unfold Flow.Runs Flow.yields;go_simp;try rfl);go_simp;refine hK _ ?_;clear hK K)
  (refine Flow.tree_valK rfl (fun K hK=>⟨fun w hw hG => ?_,?_⟩);(have hcc:=HLI.out w (HV.out.below (Bt HWT.out.b hw));clear hG hw;unfold Flow.Runs Flow.yields;go_simp;refine hcc.mono ?_;rintro e w3 ⟨rfl,hb3⟩;(refine ⟨?_,hb3⟩;rfl));go_simp;refine hK _ ?_;clear hK K)
  (refine Flow.tree_varK rfl (fun K hK=>⟨fun w hw hG => ?_,?_⟩);(clear hG hw;unfold Flow.Runs Flow.yields;go_simp;exact ⟨(Below.refl _ _).alloc (Nat.le_refl _) _,newQw_mk _ _ _ _⟩);intro vz;go_simp;refine hK _ _ ?_;clear hK K)
  refine Flow.tree_nil fun w2 hw2 hG => ?_
  obtain ⟨gn,rfl,hgn,hcn⟩:=(show newQw (.string ⟨#[108,105,109,105,116]⟩) (.string (Tok.ofL XL)) vz w2 by simpa [Flow.upd] using hG 7)
  clear hG
  have HWT2:=Lib.hid (HWT.out.later hw2)
  clear hw2
  clear hwl c0 c1 c2 c3 c4 c5 c6 c7 c8 c9 ca cb cc cd
  go_wp2_with (fail)
  go_at_call 122
  refine (put_any (q.limit != 0) [[108,105,109,105,116],XL] gn 2 w _ _ _ HWT2.out (fun j u hj=>hcn j u hj) (by simp only [List.length_append];(repeat' split);all_goals simp) (by simp) (by simp)).mono ?_
  rintro e W9 ⟨⟨v,rfl⟩,h9⟩
  have HWT9:=Lib.hid h9
  clear h9 HWT
  have HWT:=HWT9
  clear HWT9
  clear hcn hgn HWT2
  obtain ⟨ov,ho,hown⟩:=HWT.out.kO
  have c0:=cell_of_row _ _ 0 _ _ _ ho
  simp only [List.getElem?_toArray,List.getElem?_cons_zero] at c0
  have HJN:=Lib.hid (join_own _ _ ⟨#[32]⟩ id _ _ _ hown rfl (by simp only [List.length_append];repeat' split;all_goals simp) (by rw [List.map_id];rw [HWP.out];exact HJW.out))
  rw [List.map_id,HWP.out] at HJN
  clear ho hown
  go_wp2_with (go_at_call 130;refine HJN.out.mono ?_;rintro e w2 ⟨rfl,hb2⟩;have HB2:=Lib.hid (Bt HWT.out.b hb2);clear hb2)
  go_ret
  exact ⟨rfl,HB2.out⟩
 ·have hfb:(q.fil.kind != 1)=true:=by rw [bne_iff_ne];exact hfk
  have HWP:=Lib.hid (HWR1.out hfk)
  clear HWR0 HWR1
  obtain ⟨⟨c0,c1,c2,c3,c4,c5,c6,c7,c8,c9,ca,cb,cc,cd⟩,_⟩:=can14 HWT.out.kQ
  have hwl:=(Array.getElem?_eq_some_iff.1 HWT.out.kQ).1
  go_wp2_with (fail)
  go_at_call 126
  clear hwl c0 c1 c2 c3 c4 c5 c6 c7 c8 c9 ca cb cc cd
  refine (HFI.out _ HWT.out.b).mono ?_
  rintro e w2 ⟨rfl,hb2⟩
  have HWT2:=Lib.hid ((HWT.out.later hb2).later ((Below.refl _ _).alloc (Nat.le_refl _) (.cells #[.string ⟨#[119,104,101,114,101]⟩,.string (Tok.ofL XF)] 9)))
  clear hb2
  go_wp2_with (fail)
  go_at_call 122
  refine (put_any (true) [[119,104,101,114,101],XF] _ 2 w _ _ _ HWT2.out (fun j u hj=>two_cells _ _ _ _ j u hj) (by simp only [List.length_append];(repeat' split);all_goals simp) (by simp) (by simp)).mono ?_
  rintro e W9 ⟨⟨v,rfl⟩,h9⟩
  have HWT9:=Lib.hid h9
  clear h9 HWT
  have HWT:=HWT9
  clear HWT9
  clear HWT2
  obtain ⟨⟨c0,c1,c2,c3,c4,c5,c6,c7,c8,c9,ca,cb,cc,cd⟩,_⟩:=can14 HWT.out.kQ
  have hwl:=(Array.getElem?_eq_some_iff.1 HWT.out.kQ).1
  go_wp2_with (fail)
  refine Flow.wp_region_flow_tail 9 (Flow.specs [.inl ?_,.inl ?_,.inl ?_,.inl ?_,.inl ?_,.inl ?_,.inl ?_,.inl ?_,.inr (newQw (.string ⟨#[104,97,118,105,110,103]⟩) (.string (Tok.ofL XC)))]) (by kernel_rfl) (by kernel_rfl) ?_ ?_
  rotate_left 8
  ·refine Flow.specs_mono ?_
   repeat (first | exact Flow.lmono_nil | refine Flow.lmono_inl ?_ | refine Flow.lmono_inr (newQw_mono _ _) ?_)
  all_goals try simp only [List.take_succ_cons,List.take_zero,List.drop_succ_cons,List.drop_zero]
  iterate 7 (refine Flow.tree_valK rfl (fun K hK=>⟨fun w hw hG => ?_,?_⟩);(have hcl:=Flow.bcell hw;clear hG hw;unfold Flow.Runs Flow.yields;go_simp;try rfl);go_simp;refine hK _ ?_;clear hK K)
  (refine Flow.tree_valK rfl (fun K hK=>⟨fun w hw hG => ?_,?_⟩);(have hcc:=HCO.out w (Bt HWT.out.b hw);clear hG hw;unfold Flow.Runs Flow.yields;go_simp;refine hcc.mono ?_;rintro e w3 ⟨rfl,hb3⟩;(refine ⟨?_,hb3⟩;rfl));go_simp;refine hK _ ?_;clear hK K)
  (refine Flow.tree_varK rfl (fun K hK=>⟨fun w hw hG => ?_,?_⟩);(clear hG hw;unfold Flow.Runs Flow.yields;go_simp;exact ⟨(Below.refl _ _).alloc (Nat.le_refl _) _,newQw_mk _ _ _ _⟩);intro vz;go_simp;refine hK _ _ ?_;clear hK K)
  refine Flow.tree_nil fun w2 hw2 hG => ?_
  obtain ⟨gn,rfl,hgn,hcn⟩:=(show newQw (.string ⟨#[104,97,118,105,110,103]⟩) (.string (Tok.ofL XC)) vz w2 by simpa [Flow.upd] using hG 8)
  clear hG
  have HWT2:=Lib.hid (HWT.out.later hw2)
  clear hw2
  clear hwl c0 c1 c2 c3 c4 c5 c6 c7 c8 c9 ca cb cc cd
  go_wp2_with (fail)
  go_at_call 122
  refine (put_any (decide (0 < q.conds.length)) [[104,97,118,105,110,103],XC] gn 2 w _ _ _ HWT2.out (fun j u hj=>hcn j u hj) (by simp only [List.length_append];(repeat' split);all_goals simp) (by simp) (by simp)).mono ?_
  rintro e W9 ⟨⟨v,rfl⟩,h9⟩
  have HWT9:=Lib.hid h9
  clear h9 HWT
  have HWT:=HWT9
  clear HWT9
  clear hcn hgn HWT2
  obtain ⟨⟨c0,c1,c2,c3,c4,c5,c6,c7,c8,c9,ca,cb,cc,cd⟩,_⟩:=can14 HWT.out.kQ
  have hwl:=(Array.getElem?_eq_some_iff.1 HWT.out.kQ).1
  go_wp2_with (fail)
  refine Flow.wp_region_flow_tail 10 (Flow.specs [.inl ?_,.inl ?_,.inl ?_,.inl ?_,.inl ?_,.inl ?_,.inl ?_,.inl ?_,.inl ?_,.inr (newQw (.string ⟨#[111,114,100,101,114]⟩) (.string (Tok.ofL XK)))]) (by kernel_rfl) (by kernel_rfl) ?_ ?_
  rotate_left 9
  ·refine Flow.specs_mono ?_
   repeat (first | exact Flow.lmono_nil | refine Flow.lmono_inl ?_ | refine Flow.lmono_inr (newQw_mono _ _) ?_)
  all_goals try simp only [List.take_succ_cons,List.take_zero,List.drop_succ_cons,List.drop_zero]
  iterate 8 (refine Flow.tree_valK rfl (fun K hK=>⟨fun w hw hG => ?_,?_⟩);(have hcl:=Flow.bcell hw;clear hG hw;unfold Flow.Runs Flow.yields;go_simp;try rfl);go_simp;refine hK _ ?_;clear hK K)
  (refine Flow.tree_valK rfl (fun K hK=>⟨fun w hw hG => ?_,?_⟩);(have hcc:=HKE.out w _ (HWT.out.later hw);clear hG hw;unfold Flow.Runs Flow.yields;go_simp;refine hcc.mono ?_;rintro e w3 ⟨rfl,hb3⟩;(refine ⟨?_,hb3⟩;rfl));go_simp;refine hK _ ?_;clear hK K)
  (refine Flow.tree_varK rfl (fun K hK=>⟨fun w hw hG => ?_,?_⟩);(clear hG hw;unfold Flow.Runs Flow.yields;go_simp;exact ⟨(Below.refl _ _).alloc (Nat.le_refl _) _,newQw_mk _ _ _ _⟩);intro vz;go_simp;refine hK _ _ ?_;clear hK K)
  refine Flow.tree_nil fun w2 hw2 hG => ?_
  obtain ⟨gn,rfl,hgn,hcn⟩:=(show newQw (.string ⟨#[111,114,100,101,114]⟩) (.string (Tok.ofL XK)) vz w2 by simpa [Flow.upd] using hG 9)
  clear hG
  have HWT2:=Lib.hid (HWT.out.later hw2)
  clear hw2
  clear hwl c0 c1 c2 c3 c4 c5 c6 c7 c8 c9 ca cb cc cd
  go_wp2_with (fail)
  go_at_call 122
  refine (put_any (decide (0 < q.keys.length)) [[111,114,100,101,114],XK] gn 2 w _ _ _ HWT2.out (fun j u hj=>hcn j u hj) (by simp only [List.length_append];(repeat' split);all_goals simp) (by simp) (by simp)).mono ?_
  rintro e W9 ⟨⟨v,rfl⟩,h9⟩
  have HWT9:=Lib.hid h9
  clear h9 HWT
  have HWT:=HWT9
  clear HWT9
  clear hcn hgn HWT2
  obtain ⟨⟨c0,c1,c2,c3,c4,c5,c6,c7,c8,c9,ca,cb,cc,cd⟩,_⟩:=can14 HWT.out.kQ
  have hwl:=(Array.getElem?_eq_some_iff.1 HWT.out.kQ).1
  go_wp2_with (fail)
  refine Flow.wp_region_flow_tail 8 (Flow.specs [.inl ?_,.inl ?_,.inl ?_,.inl ?_,.inl ?_,.inl ?_,.inl ?_,.inr (newQw (.string ⟨#[108,105,109,105,116]⟩) (.string (Tok.ofL XL)))]) (by kernel_rfl) (by kernel_rfl) ?_ ?_
  rotate_left 7
  ·refine Flow.specs_mono ?_
   repeat (first | exact Flow.lmono_nil | refine Flow.lmono_inl ?_ | refine Flow.lmono_inr (newQw_mono _ _) ?_)
  all_goals try simp only [List.take_succ_cons,List.take_zero,List.drop_succ_cons,List.drop_zero]
  iterate 6 (refine Flow.tree_valK rfl (fun K hK=>⟨fun w hw hG => ?_,?_⟩);(have hcl:=Flow.bcell hw;clear hG hw;unfold Flow.Runs Flow.yields;go_simp;try rfl);go_simp;refine hK _ ?_;clear hK K)
  (refine Flow.tree_valK rfl (fun K hK=>⟨fun w hw hG => ?_,?_⟩);(have hcc:=HLI.out w (HV.out.below (Bt HWT.out.b hw));clear hG hw;unfold Flow.Runs Flow.yields;go_simp;refine hcc.mono ?_;rintro e w3 ⟨rfl,hb3⟩;(refine ⟨?_,hb3⟩;rfl));go_simp;refine hK _ ?_;clear hK K)
  (refine Flow.tree_varK rfl (fun K hK=>⟨fun w hw hG => ?_,?_⟩);(clear hG hw;unfold Flow.Runs Flow.yields;go_simp;exact ⟨(Below.refl _ _).alloc (Nat.le_refl _) _,newQw_mk _ _ _ _⟩);intro vz;go_simp;refine hK _ _ ?_;clear hK K)
  refine Flow.tree_nil fun w2 hw2 hG => ?_
  obtain ⟨gn,rfl,hgn,hcn⟩:=(show newQw (.string ⟨#[108,105,109,105,116]⟩) (.string (Tok.ofL XL)) vz w2 by simpa [Flow.upd] using hG 7)
  clear hG
  have HWT2:=Lib.hid (HWT.out.later hw2)
  clear hw2
  clear hwl c0 c1 c2 c3 c4 c5 c6 c7 c8 c9 ca cb cc cd
  go_wp2_with (fail)
  go_at_call 122
  refine (put_any (q.limit != 0) [[108,105,109,105,116],XL] gn 2 w _ _ _ HWT2.out (fun j u hj=>hcn j u hj) (by simp only [List.length_append];(repeat' split);all_goals simp) (by simp) (by simp)).mono ?_
  rintro e W9 ⟨⟨v,rfl⟩,h9⟩
  have HWT9:=Lib.hid h9
  clear h9 HWT
  have HWT:=HWT9
  clear HWT9
  clear hcn hgn HWT2
  obtain ⟨ov,ho,hown⟩:=HWT.out.kO
  have c0:=cell_of_row _ _ 0 _ _ _ ho
  simp only [List.getElem?_toArray,List.getElem?_cons_zero] at c0
  have HJN:=Lib.hid (join_own _ _ ⟨#[32]⟩ id _ _ _ hown rfl (by simp only [List.length_append];repeat' split;all_goals simp) (by rw [List.map_id];rw [HWP.out];exact HJW.out))
  rw [List.map_id,HWP.out] at HJN
  clear ho hown
  go_wp2_with (go_at_call 130;refine HJN.out.mono ?_;rintro e w2 ⟨rfl,hb2⟩;have HB2:=Lib.hid (Bt HWT.out.b hb2);clear hb2)
  go_ret
  exact ⟨rfl,HB2.out⟩
end Go.Proofs.YtbbgjjjeecfnoaaGreatDoor
