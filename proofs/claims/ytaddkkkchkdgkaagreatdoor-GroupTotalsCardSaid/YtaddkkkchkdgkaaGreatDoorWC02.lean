/- Joined by mergeK.py: F3, F4, F5, F6, F7, F8 -/
import Derived.Test.YtaddkkkchkdgkaaGreatDoorRows
import Derived.Test.YtaddkkkchkdgkaaGreatDoorWC01
import Derived.Laws.RangeAny
import Derived.Lib.AppendZerosOnto
import Derived.Maps.OwnSet
namespace Go.Proofs.YtaddkkkchkdgkaaGreatDoor
open Go.RowKit Go.Sort
theorem infoStr:(Tryz.prog.info? 9).map (fun i=>(i.zero,i.size,i.bytes))=some (some (.string ByteArray.empty),1,16):=by kernel_rfl
def namesV (m _n:Nat) (l:List ByteArray) (k:Nat):List Value:=((l.take k).map (cutN m)).map .string
def namesN (m n:Nat) (l:List ByteArray):List ByteArray:=(l.take n).map (cutN m)
theorem names_snoc (m n:Nat) (l:List ByteArray) (k:Nat) (h:k < l.length) (x:ByteArray) (hx:cutN m l[k]=x):namesV m n l k ++ [.string x]=namesV m n l (k + 1):=by
 unfold namesV
 rw [List.take_succ_eq_append_getElem h,← hx,List.map_append,List.map_append];rfl
theorem names_end (m n:Nat) (l:List ByteArray) (k:Nat) (h:¬ (k < l.length∧k < n)) (h1:k≤l.length) (h2:k≤n):namesV m n l k=(namesN m n l).map .string:=by
 unfold namesN namesV
 by_cases e:k=n
 ·rw [e]
 ·rw [List.take_of_length_le (by omega),List.take_of_length_le (by omega)]
theorem names_small (m n:Nat) (l:List ByteArray) (h:m≤9223372036854775807):∀ x ∈ namesN m n l,x.size≤maxLen:=by
 intro x hx
 obtain ⟨y,_,rfl⟩:=List.mem_map.1 hx
 have:=cutN_size m y
 unfold maxLen;omega
def cutSch (s:Tess.Sch):Tess.Sch:=⟨namesN 30 10 s.dims,namesN 30 10 s.mets,s.grain⟩
def SchAt (p:Nat→Prop) (w:World) (v:Value) (s:Tess.Sch):Prop:=
 ∃ vd vm,v = .agg #[vd,vm,.int .i64 s.grain]∧SlP p w vd (s.dims.map .string)∧SlP p w vm (s.mets.map .string)∧(∀ x ∈ s.dims,x.size≤maxLen)∧(∀ x ∈ s.mets,x.size≤maxLen)
theorem SchAt.ag {p:Nat→Prop} {w w':World} {v:Value} {s:Tess.Sch} (h:SchAt p w v s) (hg:Ag p w w'):SchAt p w' v s:=
 let ⟨vd,vm,h1,h2,h3,h4,h5⟩:=h;⟨vd,vm,h1,h2.ag hg,h3.ag hg,h4,h5⟩
theorem SchAt.weak {p q:Nat→Prop} {w:World} {v:Value} {s:Tess.Sch} (h:SchAt p w v s) (hpq:∀ b,p b→q b):SchAt q w v s:=
 let ⟨vd,vm,h1,h2,h3,h4,h5⟩:=h;⟨vd,vm,h1,h2.weak hpq,h3.weak hpq,h4,h5⟩
structure Cs (B:Nat) (vd vm:Value) (g:Int) (od om:Value) (w W:World):Prop where
 k1:W.heap[B]? = some (.cells #[vd,vm,.int .i64 g] 24 (0,0))
 k2:W.heap[B + 1]? = some (.cells #[.slice none 0 0,.slice none 0 0,.int .i64 0] 24 (0,0))
 k3:W.heap[B + 2]? = some (.cells #[od,om,.int .i64 0] 24 (0,0))
 below:Below w.heap.size w W
 size:w.heap.size=B
section
variable {B:Nat} {vd vm od om od':Value} {g:Int} {w W W':World}
theorem Cs.later (h:Cs B vd vm g od om w W) (hb:Below W.heap.size W W') (hs:B + 2 < W.heap.size):Cs B vd vm g od om w W':=
 ⟨(hb.block _ (by omega)).trans h.k1,(hb.block _ (by omega)).trans h.k2,(hb.block _ (by omega)).trans h.k3,Bt h.below hb,h.size⟩
theorem Cs.grown (h:Cs B vd vm g od om w W) {o:Option Nat} (hg:W.grownBy W' o) (ho:∀ k,o=some k→B + 3≤k) (hs:B + 2 < W.heap.size):Cs B vd vm g od om w W':=
 ⟨(hg.block _ (by omega) (fun e=>by have:=ho _ e.symm;omega)).trans h.k1,(hg.block _ (by omega) (fun e=>by have:=ho _ e.symm;omega)).trans h.k2,(hg.block _ (by omega) (fun e=>by have:=ho _ e.symm;omega)).trans h.k3,
   h.below.grown hg h.below.size (fun k e=>by have:=ho k e;have:=h.size;omega),h.size⟩
theorem Cs.set0 (h:Cs B vd vm g od om w W) (od':Value):Cs B vd vm g od' om w (W.setCell ⟨B + 2,0,none⟩ od'):=
 ⟨(heap_setCell_other _ _ _ _ (by show _≠B + 2;omega)).trans h.k1,(heap_setCell_other _ _ _ _ (by show _≠B + 2;omega)).trans h.k2,heap_setCell_same _ _ _ _ _ _ h.k3,h.below.setCell (by show _≤B + 2;have:=h.size;omega) _,h.size⟩
theorem Cs.set1 (h:Cs B vd vm g od om w W) (om':Value):Cs B vd vm g od om' w (W.setCell ⟨B + 2,1,none⟩ om'):=
 ⟨(heap_setCell_other _ _ _ _ (by show _≠B + 2;omega)).trans h.k1,(heap_setCell_other _ _ _ _ (by show _≠B + 2;omega)).trans h.k2,heap_setCell_same _ _ _ _ _ _ h.k3,h.below.setCell (by show _≤B + 2;have:=h.size;omega) _,h.size⟩
end
set_option maxRecDepth 100000 in
set_option maxHeartbeats 2000000 in
theorem cutSch_any (v:Value) (s:Tess.Sch) (w:World) (p:Nat→Prop) (hv:SchAt p w v s) :
  Calls Tryz.prog 11 #[v] w fun e w' => ∃ v',e = .returned v'∧SchAt (fun b=>w.heap.size≤b) w' v' (cutSch s)∧Below w.heap.size w w':=by
 obtain ⟨vd,vm,rfl,hd,hm,hds,hms⟩:=hv
 obtain ⟨ds,ms,g⟩:=s
 simp only at hd hm hds hms
 obtain ⟨ad,capd,rfl,hld,hcd⟩:=sls_open hd.1
 obtain ⟨am,capm,rfl,hlm,hcm⟩:=sls_open hm.1
 have HCD:=Lib.hid hcd
 have HCM:=Lib.hid hcm
 have HDS:=Lib.hid hds
 have HMS:=Lib.hid hms
 clear hcd hcm hd hm hds hms
 obtain ⟨i0,hi,hz0,hz1,hz2⟩:=info_parts infoStr
 go_enter Tryz.func11,Tryz.ntmps11
 go_wp2
 obtain ⟨W0,hW0⟩:∃ W0,((w.alloc (.cells #[.slice ad ds.length capd,.slice am ms.length capm,.int .i64 g] 24)).alloc (.cells #[.slice none 0 0,.slice none 0 0,.int .i64 0] 24)).alloc (.cells #[.slice none 0 0,.slice none 0 0,.int .i64 0] 24)=W0:=⟨_,rfl⟩
 have hC0:Cs w.heap.size (.slice ad ds.length capd) (.slice am ms.length capm) g (.slice none 0 0) (.slice none 0 0) w W0:=by
  rw [← hW0]
  obtain ⟨a1,a2,a3,a4,a5⟩:=laid3 w (.cells #[.slice ad ds.length capd,.slice am ms.length capm,.int .i64 g] 24) (.cells #[.slice none 0 0,.slice none 0 0,.int .i64 0] 24) (.cells #[.slice none 0 0,.slice none 0 0,.int .i64 0] 24)
  exact ⟨a1,a2,a3,a5,rfl⟩
 have hS0:W0.heap.size=w.heap.size + 3:=by rw [← hW0];simp
 rw [hW0]
 clear hW0
 obtain ⟨B,hBe⟩:∃ B,w.heap.size=B:=⟨_,rfl⟩
 have HBE:=Lib.hid hBe
 rw [hBe] at hC0 hS0 ⊢
 clear hBe
 go_loopw [4] (fun i wr => ∃ (k:Nat) (od:Value),k≤ds.length∧k≤10∧i = .int .i64 k∧Cs B (.slice ad ds.length capd) (.slice am ms.length capm) g od (.slice none 0 0) w wr∧wr.ownsRow (B + 3) 9 1 od k (namesV 30 10 ds k)∧B + 3≤wr.heap.size) (fun i _=>10 - (intOf i).toNat)
 case atStart=>exact ⟨0,_,Nat.zero_le _,Nat.zero_le _,rfl,hC0,by simpa [namesV] using World.ownsRow_nil W0 (B + 3) 9 1,by omega⟩
 case round=>
  obtain ⟨k,od,hk,hk10,rfl,hC,hown,hsz⟩:=hrel
  have HC:=Lib.hid hC
  have HO:=Lib.hid hown
  clear hC hown hC0 hS0
  have c1:=cell_of_row wr B 0 _ _ _ HC.out.k1
  have c3:=cell_of_row wr (B + 1 + 1) 0 _ _ _ HC.out.k3
  have z3:=frozen_of_row wr (B + 1 + 1) 0 _ _ HC.out.k3
  simp only [List.getElem?_toArray,List.getElem?_cons_zero] at c1 c3
  have s1:B < wr.heap.size:=by omega
  have s3:B + 1 + 1 < wr.heap.size:=by omega
  by_cases hlt:k < ds.length∧k < 10
  ·obtain ⟨h1,h2⟩:=hlt
   obtain ⟨b,off,rfl,hb,hcell⟩:=HCD.out k h1
   have hck:wr.cell? ⟨b,off + k,none⟩=some (.string ds[k]):=(HC.out.below.cell (p:=⟨b,off + k,none⟩) (HBE.out ▸ hb)).trans hcell
   have hdk:ds[k].size≤9223372036854775807:=HDS.out _ (List.getElem_mem h1)
   have hbw:b < wr.heap.size:=Nat.lt_of_lt_of_le hb HC.out.below.size
   clear hcell hb
   go_wp2
   obtain ⟨x,hx⟩:∃ x,x=cutN 30 ds[k]:=⟨_,rfl⟩
   have HX:=Lib.hid hx
   clear hx
   rcases (show ((30:Int) < (ds[k].size:Int)∧(¬ (ds[k].size:Int)≤30∧(30:Int)≤(ds[k].size:Int)))∨(¬ (30:Int) < (ds[k].size:Int)∧(ds[k].size:Int)≤30) by omega) with ⟨h3i,h3j⟩ | ⟨h3i,h3j⟩
   all_goals
    refine Flow.wp_region_flow_tail 16 (Flow.specs [.inl ?_,.inl ?_,.inl ?_,.inl ?_,.inl ?_,.inl ?_,.inl ?_,.inl ?_,.inl ?_,.inl ?_,.inl ?_,.inl ?_,.inl ?_,.inl ?_,.inl ?_,.inr (newOne (.string x))]) (by kernel_rfl) (by kernel_rfl) ?_ ?_
    rotate_left 15
    ·refine Flow.specs_mono ?_
     repeat (first | exact Flow.lmono_nil | refine Flow.lmono_inl ?_ | refine Flow.lmono_inr (newOne_mono _) ?_)
    all_goals try simp only [List.take_succ_cons,List.take_zero,List.drop_succ_cons,List.drop_zero]
    iterate 15 (refine Flow.tree_valK rfl (fun K hK=>⟨fun w hw hG => ?_,?_⟩);(have hcl:=Flow.bcell hw;clear hG hw;unfold Flow.Runs Flow.yields;go_simp;try rfl);go_simp;refine hK _ ?_;clear hK K)
    (refine Flow.tree_varK rfl (fun K hK=>⟨fun w hw hG => ?_,?_⟩);(clear hG hw;unfold Flow.Runs Flow.yields;go_simp;refine ⟨(Below.refl _ _).alloc (Nat.le_refl _) _,?_⟩;rw [HX.out]);rotate_left;intro vz;go_simp;refine hK _ _ ?_;clear hK K;rotate_left)
    ·first | exact newOne_mk _ _ _ | (rw [cutN_self _ _ (by omega)];exact newOne_mk _ _ _)
    refine Flow.tree_nil fun w2 hw2 hG => ?_
    obtain ⟨gn,rfl,hgn,hcn⟩:=(show newOne (.string x) vz w2 by simpa [Flow.upd] using hG 15)
    clear hG
    have HO2:=Lib.hid (owns_below HO.out hw2)
    have HE:=Lib.hid (names_snoc 30 10 ds k h1 x HX.out.symm)
    have HC2:=Lib.hid (HC.out.later hw2 (by omega))
    have hsz2:=hw2.size
    go_wp2_with (at_builtin;refine wpList_append_own _ rfl _ _ 22 rfl (B + 3) 9 i0 (.string ByteArray.empty) 1 16 Tryz.underlying22 hi hz0 hz1 hz2 rfl (by decide) _ _ _ rfl HO2.out ⟨gn,0,none⟩ 1 1 [.string x] rfl rfl ?_ ?_ ?_ ?_ ?_ ?_)
    ·intro j u hj;rcases j with _ | j <;> simp at hj;subst hj;simpa [Addr.add] using hcn
    ·simp [Value.oneCell']
    ·unfold maxLen;omega
    ·omega
    ·omega
    intro v' w3 hown3 hgrow _
    obtain ⟨gg,cp,rfl,_⟩:=owns_cell hown3 (by omega)
    have HC3:=Lib.hid (HC2.out.grown hgrow (fun j e=>(HO2.out.lt j e).1) (by omega))
    have HO3:=Lib.hid (joinl_owned hown3 HE.out)
    have hsz3:=hgrow.size
    clear hown3 hgrow
    have z3:=frozen_of_row w3 (B + 1 + 1) 0 _ _ HC3.out.k3
    have c3:=cell_of_row w3 (B + 1 + 1) 0 _ _ _ HC3.out.k3
    simp only [List.getElem?_toArray,List.getElem?_cons_zero] at c3
    go_wp2
    go_roundw
    case rel=>exact ⟨k + 1,_,by omega,by omega,by go_num,HC3.out.set0 _,ownsRow_setCell_below HO3.out (by show B + 1 + 1 < _;omega) _,by simp [World.setCell];omega⟩
    case measure=>simp [intOf];omega
  ·have HE:=Lib.hid (names_end 30 10 ds k (by omega) hk hk10)
   have HP0:=Lib.hid ((SlP.owned (HE.out ▸ HO.out)).lt)
   obtain ⟨N1,hN1⟩:∃ N1,N1=wr.heap.size:=⟨_,rfl⟩
   rw [← hN1] at HP0
   have HN1:=Lib.hid hN1
   clear hN1
   obtain ⟨wo,rfl⟩:∃ wo:World,wo=wr:=⟨_,rfl⟩
   have HCo:=Lib.hid HC.out
   clear HO HE HC
   rcases (show (¬ (k:Int) < (ds.length:Int))∨((k:Int) < (ds.length:Int)∧¬ (k:Int) < 10) by omega) with hni | ⟨hkl,hni⟩
   all_goals
    clear hlt
    go_wp2
    go_loopw [5] (fun i wq => ∃ (k:Nat) (om:Value),k≤ms.length∧k≤10∧i = .int .i64 k∧Cs B (.slice ad ds.length capd) (.slice am ms.length capm) g od om w wq∧wq.ownsRow N1 9 1 om k (namesV 30 10 ms k)∧SlP (fun b=>B + 3≤b∧b < N1) wq od ((namesN 30 10 ds).map .string)∧N1≤wq.heap.size) (fun i _=>10 - (intOf i).toNat)
    case atStart=>exact ⟨0,_,Nat.zero_le _,Nat.zero_le _,rfl,HCo.out,by simpa [namesV] using World.ownsRow_nil wo N1 9 1,HP0.out,by rw [HN1.out];exact Nat.le_refl _⟩
    case round=>
     have hNB:B + 3≤N1:=by rw [HN1.out];exact hsz
     clear HP0 HCo hni c1 c3 z3 s1 s3
     obtain ⟨k,om,hk,hk10,rfl,hC,hown,hP,hszq⟩:=hrel
     have HC:=Lib.hid hC
     have HO:=Lib.hid hown
     have HP:=Lib.hid hP
     clear hC hown hP
     have c1:=cell_of_row wr B 1 _ _ _ HC.out.k1
     have c3:=cell_of_row wr (B + 1 + 1) 1 _ _ _ HC.out.k3
     have z3:=frozen_of_row wr (B + 1 + 1) 1 _ _ HC.out.k3
     simp only [List.getElem?_toArray,List.getElem?_cons_succ,List.getElem?_cons_zero] at c1 c3
     have s1:B < wr.heap.size:=by omega
     have s3:B + 1 + 1 < wr.heap.size:=by omega
     by_cases hlt:k < ms.length∧k < 10
     ·obtain ⟨h1,h2⟩:=hlt
      obtain ⟨b,off,rfl,hb,hcell⟩:=HCM.out k h1
      have hck:wr.cell? ⟨b,off + k,none⟩=some (.string ms[k]):=(HC.out.below.cell (p:=⟨b,off + k,none⟩) (HBE.out ▸ hb)).trans hcell
      have hmk:ms[k].size≤9223372036854775807:=HMS.out _ (List.getElem_mem h1)
      have hbw:b < wr.heap.size:=Nat.lt_of_lt_of_le hb HC.out.below.size
      clear hcell hb
      go_wp2
      obtain ⟨x,hx⟩:∃ x,x=cutN 30 ms[k]:=⟨_,rfl⟩
      have HX:=Lib.hid hx
      clear hx
      rcases (show ((30:Int) < (ms[k].size:Int)∧(¬ (ms[k].size:Int)≤30∧(30:Int)≤(ms[k].size:Int)))∨(¬ (30:Int) < (ms[k].size:Int)∧(ms[k].size:Int)≤30) by omega) with ⟨h3i,h3j⟩ | ⟨h3i,h3j⟩
      all_goals
       refine Flow.wp_region_flow_tail 16 (Flow.specs [.inl ?_,.inl ?_,.inl ?_,.inl ?_,.inl ?_,.inl ?_,.inl ?_,.inl ?_,.inl ?_,.inl ?_,.inl ?_,.inl ?_,.inl ?_,.inl ?_,.inl ?_,.inr (newOne (.string x))]) (by kernel_rfl) (by kernel_rfl) ?_ ?_
       rotate_left 15
       ·refine Flow.specs_mono ?_
        repeat (first | exact Flow.lmono_nil | refine Flow.lmono_inl ?_ | refine Flow.lmono_inr (newOne_mono _) ?_)
       all_goals try simp only [List.take_succ_cons,List.take_zero,List.drop_succ_cons,List.drop_zero]
       iterate 15 (refine Flow.tree_valK rfl (fun K hK=>⟨fun w hw hG => ?_,?_⟩);(have hcl:=Flow.bcell hw;clear hG hw;unfold Flow.Runs Flow.yields;go_simp;try rfl);go_simp;refine hK _ ?_;clear hK K)
       (refine Flow.tree_varK rfl (fun K hK=>⟨fun w hw hG => ?_,?_⟩);(clear hG hw;unfold Flow.Runs Flow.yields;go_simp;refine ⟨(Below.refl _ _).alloc (Nat.le_refl _) _,?_⟩;rw [HX.out]);rotate_left;intro vz;go_simp;refine hK _ _ ?_;clear hK K;rotate_left)
       ·first | exact newOne_mk _ _ _ | (rw [cutN_self _ _ (by omega)];exact newOne_mk _ _ _)
       refine Flow.tree_nil fun w2 hw2 hG => ?_
       obtain ⟨gn,rfl,hgn,hcn⟩:=(show newOne (.string x) vz w2 by simpa [Flow.upd] using hG 15)
       clear hG
       have HO2:=Lib.hid (owns_below HO.out hw2)
       have HE:=Lib.hid (names_snoc 30 10 ms k h1 x HX.out.symm)
       have HC2:=Lib.hid (HC.out.later hw2 (by omega))
       have hsz2:=hw2.size
       go_wp2_with (at_builtin;refine wpList_append_own _ rfl _ _ 22 rfl N1 9 i0 (.string ByteArray.empty) 1 16 Tryz.underlying22 hi hz0 hz1 hz2 rfl (by decide) _ _ _ rfl HO2.out ⟨gn,0,none⟩ 1 1 [.string x] rfl rfl ?_ ?_ ?_ ?_ ?_ ?_)
       ·intro j u hj;rcases j with _ | j <;> simp at hj;subst hj;simpa [Addr.add] using hcn
       ·simp [Value.oneCell']
       ·unfold maxLen;omega
       ·omega
       ·omega
       intro v' w3 hown3 hgrow _
       obtain ⟨gg,cp,rfl,_⟩:=owns_cell hown3 (by omega)
       have HC3:=Lib.hid (HC2.out.grown hgrow (fun j e=>by have:=(HO2.out.lt j e).1;omega) (by omega))
       have HO3:=Lib.hid (joinl_owned hown3 HE.out)
       have hsz3:=hgrow.size
       have HP3:=Lib.hid ((HP.out.ag (Ag.new _ hw2)).ag (Ag.grown hgrow (fun j e=>by have:=(HO2.out.lt j e).1;rintro ⟨_,h⟩;omega)))
       clear hown3 hgrow
       have z3:=frozen_of_row w3 (B + 1 + 1) 1 _ _ HC3.out.k3
       have c3:=cell_of_row w3 (B + 1 + 1) 1 _ _ _ HC3.out.k3
       simp only [List.getElem?_toArray,List.getElem?_cons_succ,List.getElem?_cons_zero] at c3
       go_wp2
       go_roundw
       case rel=>exact ⟨k + 1,_,by omega,by omega,by go_num,HC3.out.set1 _,ownsRow_setCell_below HO3.out (by show B + 1 + 1 < _;omega) _,HP3.out.ag (Ag.set _ _ _ (by rintro ⟨h,_⟩;have:B + 3≤B + 1 + 1:=h;omega)),by simp [World.setCell];omega⟩
       case measure=>simp [intOf];omega
     ·have HE:=Lib.hid (names_end 30 10 ms k (by omega) hk hk10)
      have HQ:=Lib.hid ((SlP.owned (HE.out ▸ HO.out)).weak (q:=fun b=>B + 3≤b) (fun b hb=>by have:N1≤b:=hb;omega))
      obtain ⟨ao,no,co,rfl⟩:=HP.out.shape
      obtain ⟨am',nm',cm',rfl⟩:=HQ.out.shape
      have c2:=cell_of_row wr B 2 _ _ _ HC.out.k1
      have d0:=cell_of_row wr (B + 1 + 1) 0 _ _ _ HC.out.k3
      have d2:=cell_of_row wr (B + 1 + 1) 2 _ _ _ HC.out.k3
      have z2:=frozen_of_row wr (B + 1 + 1) 2 _ _ HC.out.k3
      have y0:=frozen_of_row wr (B + 1) 0 _ _ HC.out.k2
      have y1:=frozen_of_row wr (B + 1) 1 _ _ HC.out.k2
      have y2:=frozen_of_row wr (B + 1) 2 _ _ HC.out.k2
      have e0:=cell_of_row wr (B + 1) 0 _ _ _ HC.out.k2
      have e1:=cell_of_row wr (B + 1) 1 _ _ _ HC.out.k2
      have e2:=cell_of_row wr (B + 1) 2 _ _ _ HC.out.k2
      simp only [List.getElem?_toArray,List.getElem?_cons_succ,List.getElem?_cons_zero] at c2 d0 d2 e0 e1 e2
      rcases (show (¬ (k:Int) < (ms.length:Int))∨((k:Int) < (ms.length:Int)∧¬ (k:Int) < 10) by omega) with hni | ⟨hkl,hni⟩
      all_goals
       clear hlt
       go_wp2
       have hAg:∀ q:Nat→Prop,¬ q (B + 1 + 1)→¬ q (B + 1)→Ag q wr ((((wr.setCell ⟨B + 1 + 1,2,none⟩ (.int .i64 g)).setCell ⟨B + 1,0,none⟩ (.slice ao no co)).setCell ⟨B + 1,1,none⟩ (.slice am' nm' cm')).setCell ⟨B + 1,2,none⟩ (.int .i64 g)):=
        fun q h2 h1=>(((Ag.set q _ _ h2).trans (Ag.set q _ _ h1)).trans (Ag.set q _ _ h1)).trans (Ag.set q _ _ h1)
       refine bodyPost_ret (v:=.agg #[.slice ao no co,.slice am' nm' cm',.int .i64 g]) (by simp [results,Tryz.results11,go_sem,e0,e1,e2]) rfl ⟨_,rfl,⟨_,_,rfl,?_,?_,?_,?_⟩,?_⟩
       ·exact ((HP.out.ag (hAg _ (by omega) (by omega))).weak fun b hb=>by have:=HBE.out;omega)
       ·exact ((HQ.out.ag (hAg _ (by omega) (by omega))).weak fun b hb=>by have:=HBE.out;omega)
       ·exact names_small 30 10 ds (by omega)
       ·exact names_small 30 10 ms (by omega)
       ·have hBE:=HBE.out
        exact (((HC.out.below.setCell (by show _≤B + 1 + 1;omega) _).setCell (by show _≤B + 1;omega) _).setCell (by show _≤B + 1;omega) _).setCell (by show _≤B + 1;omega) _
end Go.Proofs.YtaddkkkchkdgkaaGreatDoor
namespace Tess
open Go
def nameTo (s:ByteArray) (k:Nat):Prop:=∀ j (h:j < s.size),j < k→(if j=0 then isLow s[j] else isRest s[j])=true
theorem nameTo_succ {s:ByteArray} {k:Nat} (hk:k < s.size) (h:nameTo s k) (hc:(if k=0 then isLow s[k] else isRest s[k])=true):nameTo s (k + 1):=by
 intro j hj hjk
 by_cases e:j < k
 ·exact h j hj e
 ·obtain rfl:j=k:=by omega
  exact hc
theorem nameL_iff (l:List UInt8):nameL l=true↔0 < l.length∧∀ j (h:j < l.length),(if j=0 then isLow l[j] else isRest l[j])=true:=by
 cases l with
 | nil=>simp [nameL]
 | cons c r=>
   simp only [nameL,Bool.and_eq_true,List.all_eq_true,List.length_cons]
   constructor
   ·rintro ⟨h1,h2⟩
    refine ⟨by omega,fun j hj => ?_⟩
    cases j with
    | zero=>simpa using h1
    | succ j=>simpa using h2 _ (List.getElem_mem (by omega))
   ·rintro ⟨_,h⟩
    refine ⟨by simpa using h 0 (by omega),fun x hx => ?_⟩
    obtain ⟨j,hj,rfl⟩:=List.getElem_of_mem hx
    have:=h (j + 1) (by omega)
    rwa [if_neg (by omega),List.getElem_cons_succ] at this
theorem bget (s:ByteArray) (j:Nat) (h:j < s.size):s.data.toList[j]'(by simpa using h)=s[j]:=by simp;rfl
theorem okc_iff (s:ByteArray) (k:Nat) (hk:k < s.size) (c:Nat) (hc:c=s[k].toNat) :
  (if k=0 then isLow s[k] else isRest s[k])=true↔(97≤c∧c≤122)∨(0 < k∧(c=95∨(48≤c∧c≤57))):=by
 unfold isRest isLow
 rw [← hc]
 by_cases h:k=0
 ·simp [h]
 ·rw [if_neg h]
  simp only [Bool.or_eq_true,Bool.and_eq_true,decide_eq_true_eq,beq_iff_eq]
  omega
theorem okc_not (s:ByteArray) (k:Nat) (hk:k < s.size) (c:Nat) (hc:c=s[k].toNat) (h:¬ ((97≤c∧c≤122)∨(0 < k∧(c=95∨(48≤c∧c≤57))))) :
  (if k=0 then isLow s[k] else isRest s[k])=false:=Bool.eq_false_iff.2 fun e=>h ((okc_iff s k hk c hc).1 e)
theorem nameOk_end (s:ByteArray) (h:nameTo s s.size):nameOk s=(decide (0 < s.size) && decide (s.size≤20)):=by
 have hl:s.data.toList.length=s.size:=by simp
 have e:nameL s.data.toList=decide (0 < s.size):=by
  rw [Bool.eq_iff_iff,nameL_iff,decide_eq_true_iff]
  constructor
  ·exact fun h=>by omega
  ·exact fun h0=>⟨by omega,fun j hj=>by rw [bget s j (by omega)];exact h j (by omega) (by omega)⟩
 unfold nameOk
 rw [e,Bool.and_comm]
theorem nameOk_not (s:ByteArray) (k:Nat) (hk:k < s.size) (h:(if k=0 then isLow s[k] else isRest s[k])=false):nameOk s=false:=by
 unfold nameOk
 have e:nameL s.data.toList=false:=by
  rw [Bool.eq_false_iff]
  intro hn
  have:=(nameL_iff _).1 hn |>.2 k (by simpa using hk)
  rw [bget s k hk,h] at this
  cases this
 rw [e,Bool.and_false]
end Tess
namespace Go.Proofs.YtaddkkkchkdgkaaGreatDoor
open Go.RowKit Go.Sort
theorem iter_below (w:World) (s:ByteArray) (k:Nat):Below w.heap.size w (w.iter s k):=(Below.refl _ _).alloc (Nat.le_refl _) _
theorem ret_bool' {a b:Bool} (h:a=b):Ending.returned (.bool a) = .returned (.bool b):=by rw [h]
set_option maxRecDepth 100000 in
theorem isName_zero (w:World) :
  Calls Tryz.prog 85 #[.string ByteArray.empty] w fun e w'=>e = .returned (.bool false)∧Below w.heap.size w w':=by
 have hrs:=@run_range_string Tryz.prog w 9 ByteArray.empty Tryz.underlying9
 have hnx:=fun ty=>run_next_end (P:=Tryz.prog) w ByteArray.empty 0 ty (by decide)
 go_enter Tryz.func85,Tryz.ntmps85
 go_wp2
 refine wp_scope_straight ?_
 go_wp2
 refine wp_label ?_
 go_wp2
 refine wp_loop_rounds 1 ?_
 rw [rounds_succ]
 go_wp2
 try rw [Exit.noGoto_ret]
 go_ret
 exact ⟨rfl,iter_below _ _ _⟩
set_option maxRecDepth 100000 in
set_option maxHeartbeats 2000000 in
theorem isName_some (s:ByteArray) (w:World) (hs:s.size≤maxLen) (hpos:0 < s.size) :
  Calls Tryz.prog 85 #[.string s] w fun e w'=>e = .returned (.bool (Tess.nameOk s))∧Below w.heap.size w w':=by
 unfold maxLen at hs
 have hrs:=@run_range_string Tryz.prog w 9 s Tryz.underlying9
 have he:s.toList.isEmpty=false:=by
  rw [Tess.tl,List.isEmpty_eq_false_iff]
  intro h
  have:s.data.toList.length=0:=by rw [h];rfl
  have h2:s.data.toList.length=s.size:=by simp
  omega
 have he2:s.toList.isEmpty=false:=he
 obtain ⟨b0',hb0⟩:∃ b0',decide ((s.size:Int)≤20)=b0':=⟨_,rfl⟩
 have HX:RowKit.Hid (b0'=(decide (0 < s.size) && decide (s.size≤20))):=Lib.hid (by
  rw [← hb0,decide_eq_true hpos,Bool.true_and];exact decide_eq_decide.2 (by omega))
 go_enter Tryz.func85,Tryz.ntmps85
 go_wp2
 all_goals
  refine wp_scope_straight ?_
  go_wp2
  refine wp_label ?_
  go_wp2
  clear hb0
  go_loopw [3] (fun b wr => ∃ k:Nat,k≤s.size∧b = .bool b0'∧wr=w.iter s k∧Tess.nameTo s k) (fun _ wr=>s.size - wr.iterPos w.heap.size)
  case atStart=>exact ⟨0,Nat.zero_le _,rfl,rfl,fun j _ h=>absurd h (by omega)⟩
  case round=>
   obtain ⟨k,hk,rfl,rfl,hN⟩:=hrel
   have HN:=Lib.hid hN
   clear hN
   by_cases hlt:k < s.size
   ·obtain ⟨c,hc⟩:∃ c:Nat,c=s[k].toNat:=⟨_,rfl⟩
    have hc256:c < 256:=by rw [hc];exact UInt8.toNat_lt _
    have HGO:RowKit.Hid (∀ (_:(97≤c∧c≤122)∨(0 < k∧(c=95∨(48≤c∧c≤57)))),Tess.nameTo s (k + 1)):=Lib.hid fun h=>Tess.nameTo_succ hlt HN.out ((Tess.okc_iff s k hlt c hc).2 h)
    have HNO:RowKit.Hid (∀ (_:¬ ((97≤c∧c≤122)∨(0 < k∧(c=95∨(48≤c∧c≤57))))),Tess.nameOk s=false):=Lib.hid fun h=>Tess.nameOk_not s k hlt (Tess.okc_not s k hlt c hc h)
    by_cases h128:c < 128
    ·have hnx:=fun ty=>run_next_ascii (P:=Tryz.prog) w s k ty hlt (by omega)
     rw [← hc] at hnx
     clear hc
     rcases (show ((97:Int)≤c∧(c:Int)≤122)∨((k:Int) < 1∧(c:Int) < 97)∨((k:Int) < 1∧(122:Int) < c)∨((0:Int) < k∧(c:Int)≤95∧(95:Int)≤c)∨((0:Int) < k∧(48:Int)≤c∧(c:Int)≤57)∨((0:Int) < k∧(c:Int) < 48)∨((0:Int) < k∧(57:Int) < c∧(c:Int) < 95)∨((0:Int) < k∧(95:Int) < c∧(c:Int) < 97)∨((0:Int) < k∧(122:Int) < c) by omega) with ⟨h1,h2⟩ | ⟨h1,h2⟩ | ⟨h1,h2⟩ | ⟨h1,h2,h3⟩ | ⟨h1,h2,h3⟩ | ⟨h1,h2⟩ | ⟨h1,h2,h3⟩ | ⟨h1,h2,h3⟩ | ⟨h1,h2⟩
     all_goals
      clear hrs h128 hc256
      first | have h97:decide ((97:Int)≤c)=true:=decide_eq_true (by omega) | have h97:decide ((97:Int)≤c)=false:=decide_eq_false (by omega) | skip
      first | have h122:decide ((c:Int)≤122)=true:=decide_eq_true (by omega) | have h122:decide ((c:Int)≤122)=false:=decide_eq_false (by omega) | skip
      first | have h48:decide ((c:Int) < 48)=true:=decide_eq_true (by omega) | have h48:decide ((c:Int) < 48)=false:=decide_eq_false (by omega) | skip
      first | have h57:decide ((57:Int) < c)=true:=decide_eq_true (by omega) | have h57:decide ((57:Int) < c)=false:=decide_eq_false (by omega) | skip
      first | have h95:((c:Int) != 95)=true:=bne_iff_ne.2 (by omega) | have h95:((c:Int) != 95)=false:=bne_eq_false_iff_eq.2 (by omega) | skip
      first | have h0:((k:Int) == 0)=true:=beq_iff_eq.2 (by omega) | have h0:((k:Int) == 0)=false:=beq_eq_false_iff_ne.2 (by omega) | skip
      go_wp2
      first
       | exact ⟨⟨k + 1,by omega,rfl,rfl,HGO.out (by omega)⟩,by simp only [World.iterPos_iter];omega⟩
       | (try rw [Exit.noGoto_ret]
          go_ret
          exact ⟨ret_bool' (HNO.out (by omega)).symm,iter_below _ _ _⟩)
    ·have hnx:=fun ty=>run_next_any (P:=Tryz.prog) w s k ty hlt
     have hhi:=decode_high s k hlt (by omega)
     have hle:=decode_le s k
     have HNO:=Lib.hid (HNO.out (by omega))
     generalize Utf8.decode s k=dc at *
     obtain ⟨r,n⟩:=dc
     simp only at hhi hle
     obtain ⟨r1,r2⟩:=hhi
     have r3:(122:Int) < r:=by omega
     have r4:((r:Int) != 95)=true:=by rw [bne_iff_ne];omega
     clear hc HGO
     rcases (show (k:Int) < 1∨(0:Int) < k by omega) with h1 | h1
     all_goals
      clear hrs h128 hc256
      first | have h97:decide ((97:Int)≤r)=true:=decide_eq_true (by omega) | have h97:decide ((97:Int)≤r)=false:=decide_eq_false (by omega) | skip
      first | have h122:decide ((r:Int)≤122)=true:=decide_eq_true (by omega) | have h122:decide ((r:Int)≤122)=false:=decide_eq_false (by omega) | skip
      first | have h48:decide ((r:Int) < 48)=true:=decide_eq_true (by omega) | have h48:decide ((r:Int) < 48)=false:=decide_eq_false (by omega) | skip
      first | have h57:decide ((57:Int) < r)=true:=decide_eq_true (by omega) | have h57:decide ((57:Int) < r)=false:=decide_eq_false (by omega) | skip
      first | have h95:((r:Int) != 95)=true:=bne_iff_ne.2 (by omega) | have h95:((r:Int) != 95)=false:=bne_eq_false_iff_eq.2 (by omega) | skip
      first | have h0:((k:Int) == 0)=true:=beq_iff_eq.2 (by omega) | have h0:((k:Int) == 0)=false:=beq_eq_false_iff_ne.2 (by omega) | skip
      go_wp2
      try rw [Exit.noGoto_ret]
      go_ret
      exact ⟨ret_bool' HNO.out.symm,iter_below _ _ _⟩
   ·have hnx:=fun ty=>run_next_end (P:=Tryz.prog) w s k ty hlt
    obtain rfl:k=s.size:=by omega
    have HE:=Lib.hid (Tess.nameOk_end s HN.out)
    go_wp2
    try rw [Exit.noGoto_ret]
    go_ret
    exact ⟨ret_bool' (by rw [HE.out,HX.out]),iter_below _ _ _⟩
theorem isName_any (s:ByteArray) (w:World) (hs:s.size≤maxLen) :
  Calls Tryz.prog 85 #[.string s] w fun e w'=>e = .returned (.bool (Tess.nameOk s))∧Below w.heap.size w w':=by
 rcases Nat.eq_zero_or_pos s.size with h | h
 ·have e:s=ByteArray.empty:=ByteArray.ext (Array.eq_empty_of_size_eq_zero h)
  subst e
  exact isName_zero w
 ·exact isName_some s w hs h
end Go.Proofs.YtaddkkkchkdgkaaGreatDoor
namespace Go.Proofs.YtaddkkkchkdgkaaGreatDoor
open Go.RowKit Go.Sort
set_option maxRecDepth 100000 in
set_option maxHeartbeats 1000000 in
theorem grow_any (n:Nat) (w:World) (h0:0 < n) (hn:n≤1000) :
  Calls Tryz.prog 86 #[.slice none 0 0,.int .i64 n] w fun e w' => ∃ cap,e = .returned (.slice (some ⟨w.heap.size,0,none⟩) 0 cap)∧w'.ownsRow w.heap.size 9 1 (.slice (some ⟨w.heap.size,0,none⟩) 0 cap) 0 []∧Below w.heap.size w w'∧w'.heap.size=w.heap.size + 1:=by
 obtain ⟨i0,hi,hz0,hz1,hz2⟩:=info_parts infoStr
 have hold:(Builtin.firstCells i0.size 0 (.slice none 0 0)).run Tryz.prog w.drew = .ok ([]:List Value).toArray w.drew:=run_firstCells_none w.drew i0.size 0 0 0
 have hrz:∀ ty,(Builtin.append_ #[22,3] ty #[.slice none 0 0,.int .i64 (n:Nat)]).run Tryz.prog w=_:=fun ty=>
  Lib.run_append_grow_zeros w 22 3 ty 9 i0 _ .i64 .i64 Tryz.underlying22 Tryz.underlying3 hi hz0 none 0 0 [] hold n h0 (by omega) (by omega) (by omega) (by rw [hz2];omega)
   (by have:=growslice_fits (need:=0 + n) (old:=0) (bytes:=i0.bytes) (by omega) (by rw [hz2];omega);simpa using this)
 have hGn:=grownCap_ge w (0 + n) 0 9
 have hG63:=grownCap_le_maxLen w (0 + n) 0 9 (by unfold maxLen;omega)
 rw [Nat.zero_add] at hrz hGn hG63
 obtain ⟨G,hG⟩:∃ G,G=grownCap w n 0 9:=⟨_,rfl⟩
 rw [← hG] at hrz hGn hG63
 have hm:=hG63
 unfold maxLen at hm
 clear hG hold
 have n1:¬ (n:Int) < 0:=by omega
 have n2:(0:Int) < n:=by omega
 go_enter Tryz.func86,Tryz.ntmps86
 go_wp2_with (at_builtin;refine Lib.wpList_append_run _ rfl _ _ _ _ rfl _ _ rfl rfl _ _ (hrz _) ?_)
 go_ret
 refine ⟨G,rfl,⟨rfl,.inr ⟨w.heap.size,G,_,rfl,Nat.le_refl _,heap_alloc_new w.drew _,Nat.zero_le _,hG63,?_,by simp⟩⟩,(Below.refl _ _).drew.alloc (Nat.le_refl _) _,by simp⟩
 simp [size_zeroCells];omega
theorem ret_int {k:IntKind} {a b:Int} (h:a=b):Ending.returned (.int k a) = .returned (.int k b):=by rw [h]
theorem index_any (v:Value) (l:List ByteArray) (x:ByteArray) (w:World) (hv:SlOf w v (l.map .string)) :
  Calls Tryz.prog 165 #[v,.string x] w fun e w'=>e = .returned (.int .i64 (if Tess.hasW l x then (Tess.idxW l x:Nat) else -1))∧w=w':=by
 obtain ⟨a,cap,rfl,hl,hc⟩:=sls_open hv
 have HC:=Lib.hid hc
 clear hc hv
 obtain ⟨r,hr⟩:∃ r:Int,(if Tess.hasW l x then ((Tess.idxW l x:Nat):Int) else -1)=r:=⟨_,rfl⟩
 rw [hr]
 have HR:=Lib.hid hr
 clear hr
 go_enter Tryz.func165,Tryz.ntmps165
 go_wp2
 go_loop [8] (fun i => ∃ k:Nat,k≤l.length∧i = .int .i64 k∧∀ j (hj:j < l.length),j < k→l[j]≠x) (fun i=>l.length - (intOf i).toNat)
 case atStart=>exact ⟨0,Nat.zero_le _,rfl,fun j _ h=>absurd h (by omega)⟩
 case round=>
  obtain ⟨k,hk,rfl,hall⟩:=hrel
  have HA:=Lib.hid hall
  clear hall
  by_cases hlt:k < l.length
  ·obtain ⟨b,off,rfl,hb,hck⟩:=HC.out k hlt
   have hki:(k:Int) < (l.length:Int):=by omega
   obtain ⟨y,hy⟩:∃ y,y=l[k]:=⟨_,rfl⟩
   rw [← hy] at hck
   have HY:=Lib.hid hy
   clear hy
   by_cases hxy:x=y
   ·subst hxy
    have he:(x.toList == x.toList)=true:=by simp
    go_wp2
    go_ret
    refine ⟨ret_int ?_,rfl⟩
    rw [← HR.out,(Tess.hasW_iff l x).2 (by rw [HY.out];exact List.getElem_mem hlt),if_pos rfl,Tess.idxW_at l x k hlt HY.out.symm HA.out]
   ·have he:(x.toList == y.toList)=false:=Bool.eq_false_iff.2 fun e=>hxy (str_eq' e)
    have HXY:=Lib.hid hxy
    clear hxy
    go_wp2
    go_round
    case rel=>
     refine ⟨k + 1,by omega,by go_num,fun j hj hjk => ?_⟩
     by_cases e:j < k
     ·exact HA.out j hj e
     ·obtain rfl:j=k:=by omega
      rw [← HY.out];exact fun e=>HXY.out e.symm
    case measure=>simp [intOf];omega
  ·have hki:¬ (k:Int) < (l.length:Int):=by omega
   go_wp2
   go_ret
   refine ⟨ret_int ?_,rfl⟩
   rw [← HR.out,(Tess.hasW_not l x).2 fun h => ?_]
   ·rfl
   ·obtain ⟨j,hj,e⟩:=List.getElem_of_mem h
    exact HA.out j hj (by omega) e
theorem contains_any (v:Value) (l:List ByteArray) (x:ByteArray) (w:World) (hv:SlOf w v (l.map .string)) :
  Calls Tryz.prog 179 #[v,.string x] w fun e w'=>e = .returned (.bool (Tess.hasW l x))∧w=w':=by
 have HI:=Lib.hid (index_any v l x w hv)
 obtain ⟨a,cap,rfl,hl,hc⟩:=sls_open hv
 clear hc hv
 obtain ⟨i,hi⟩:∃ i:Int,(if Tess.hasW l x then ((Tess.idxW l x:Nat):Int) else -1)=i:=⟨_,rfl⟩
 rw [hi] at HI
 have HII:=Lib.hid hi
 clear hi
 go_enter Tryz.func179,Tryz.ntmps179
 go_wp2_with (go_at_call 165;refine HI.out.mono ?_;rintro e w2 ⟨rfl,rfl⟩)
 go_ret
 refine ⟨ret_bool' ?_,rfl⟩
 rw [← HII.out]
 cases Tess.hasW l x <;> simp
end Go.Proofs.YtaddkkkchkdgkaaGreatDoor
namespace Tess
open Go
theorem distinct_iff (l:List ByteArray):distinct l=true↔l.Nodup:=by
 induction l with
 | nil=>simp [distinct]
 | cons a r ih=>simp [distinct,ih,List.nodup_cons,hasW_not]
theorem namesOk_iff (l:List ByteArray):namesOk l=true↔l.Nodup∧∀ x ∈ l,nameOk x=true:=by
 simp [namesOk,distinct_iff]
end Tess
namespace Go.Maps
variable {H:Type}
theorem atKey_fold_not (u z:DataW H) (k:Lit):∀ (acc:List Lit) (m:DataW H),k ∉ acc→(acc.foldl (fun m x=>m.put x u) m).atKey k z=m.atKey k z
 | [],m,_=>rfl
 | x :: r,m,h=>by
   rw [List.foldl_cons,atKey_fold_not u z k r _ (fun e=>h (List.mem_cons_of_mem _ e)),atKey_put_other (show k≠x from fun e=>h (by rw [e];exact List.mem_cons_self))]
theorem atKey_fold_mem (u z:DataW H) (k:Lit):∀ (acc:List Lit) (m:DataW H),IsMap m→WideAt.IsKeyLit k→k ∈ acc→(acc.foldl (fun m x=>m.put x u) m).atKey k z=u
 | [],m,_,_,h=>by cases h
 | x :: r,m,hm,hk,h=>by
   rw [List.foldl_cons]
   by_cases e:k ∈ r
   ·exact atKey_fold_mem u z k r _ (hm.put x u) hk e
   ·rcases List.mem_cons.1 h with rfl | h
    ·rw [atKey_fold_not u z k r _ e,atKey_put_same hm hk]
    ·exact absurd h e
end Go.Maps
namespace Go
theorem plainElem_bool_inv {H:Type} {P:Program} {e:TypeId} (he:P.underlying e=some .bool) {v:Value} {z:DataW H×List MemPlace} (h:plainElem P e v=some z):∃ c,v = .bool c∧z=(.lit (.bool c),[]):=by
 unfold plainElem at h
 rw [he] at h
 cases v <;> simp at h
 subst h
 exact ⟨_,rfl,rfl⟩
end Go
namespace Go.Proofs.YtaddkkkchkdgkaaGreatDoor
open Go.RowKit Go.Sort Go.Maps Go.WideMaps
theorem lawStr:Keyed Tryz.prog 9:=string_keyed Tryz.underlying9
theorem zeroBool (w:World):(zeroValue 4).run Tryz.prog w = .ok (.bool false) w:=by kernel_rfl
def skey (s:ByteArray):Lit:=.string s.data.toList
theorem skey_inj {x y:ByteArray} (h:skey x=skey y):x=y:=by
 unfold skey at h
 exact ByteArray.ext (Array.toList_inj.1 (by simpa using h))
def SeenAt (w:World) (b:Nat) (l:List ByteArray) (k:Nat):Prop:=w.ownsMap Tryz.prog 9 (plainElem (H:=Unit) Tryz.prog 4) b k (setOf (.lit (.bool true)) ((l.take k).map skey))
theorem SeenAt.look {w:World} {b:Nat} {l:List ByteArray} {k:Nat} (h:SeenAt w b l k) (x:ByteArray) (hx:x.size≤maxLen) :
  (Instr.lookup 153 (.map (some b)) (.string x) false).run Tryz.prog w = .ok (.bool (Tess.hasW (l.take k) x)) w:=by
 obtain ⟨v,ps,hrun,hv⟩:=World.ownsMap.lookup h lawStr Tryz.underlying153 (zeroBool w) (plainElem_bool Tryz.underlying4 false) (keyOf_string_mk Tryz.underlying9 hx)
 obtain ⟨c,rfl,hc⟩:=plainElem_bool_inv Tryz.underlying4 hv
 rw [hrun]
 have hat:(setOf (H:=Unit) (.lit (.bool true)) ((l.take k).map skey)).atKey (skey x) (.lit (.bool false)) = .lit (.bool c):=(Prod.ext_iff.1 hc).1
 cases hh:Tess.hasW (l.take k) x
 ·rw [Tess.hasW_not] at hh
  unfold setOf at hat
  rw [atKey_fold_not _ _ _ _ _ (fun e=>by obtain ⟨y,hy,e⟩:=List.mem_map.1 e;exact hh (skey_inj e ▸ hy))] at hat
  have:(DataW.map (H:=Unit) []).atKey (skey x) (.lit (.bool false)) = .lit (.bool false):=rfl
  rw [this] at hat
  cases hat;rfl
 ·rw [Tess.hasW_iff] at hh
  unfold setOf at hat
  rw [atKey_fold_mem _ _ _ _ _ isMap_empty (by unfold skey WideAt.IsKeyLit;trivial) (List.mem_map.2 ⟨x,hh,rfl⟩)] at hat
  cases hat;rfl
set_option maxRecDepth 100000 in
set_option maxHeartbeats 1000000 in
theorem areNames_any (v:Value) (l:List ByteArray) (w:World) (hv:SlOf w v (l.map .string)) (hs:∀ x ∈ l,x.size≤maxLen) :
  Calls Tryz.prog 52 #[v] w fun e w'=>e = .returned (.bool (Tess.namesOk l))∧Below w.heap.size w w':=by
 obtain ⟨a,cap,rfl,hl,hc⟩:=sls_open hv
 have HC:=Lib.hid hc
 have HS:=Lib.hid hs
 clear hc hv hs
 have hmm:=@run_makeMap Tryz.prog
 go_enter Tryz.func52,Tryz.ntmps52
 go_wp2
 go_loopw [9] (fun i wr => ∃ k:Nat,k≤l.length∧i = .int .i64 k∧SeenAt wr w.heap.size l k∧(l.take k).Nodup∧(∀ x ∈ l.take k,Tess.nameOk x=true)∧Below w.heap.size w wr) (fun i _=>l.length - (intOf i).toNat)
 case atStart=>exact ⟨0,Nat.zero_le _,rfl,World.ownsMap_made _ _ _ _,by simp,by simp,(Below.refl _ _).alloc (Nat.le_refl _) _⟩
 case round=>
  obtain ⟨k,hk,rfl,hm,hnd,hok,hB⟩:=hrel
  have HM:=Lib.hid hm
  have HND:=Lib.hid hnd
  have HOK:=Lib.hid hok
  have HB:=Lib.hid hB
  clear hm hnd hok hB hmm
  by_cases hlt:k < l.length
  ·obtain ⟨b,off,rfl,hb,hck⟩:=HC.out k hlt
   have hck':wr.cell? ⟨b,off + k,none⟩=some (.string l[k]):=(HB.out.cell (p:=⟨b,off + k,none⟩) hb).trans hck
   have hki:(k:Int) < (l.length:Int):=by omega
   obtain ⟨y,hy⟩:∃ y,y=l[k]:=⟨_,rfl⟩
   rw [← hy] at hck'
   have hysz:y.size≤maxLen:=by rw [hy];exact HS.out _ (List.getElem_mem hlt)
   have HYS:=Lib.hid hysz
   have hlook:=SeenAt.look HM.out y hysz
   have HNM:=Lib.hid (fun w=>isName_any y w hysz)
   have HT:=Lib.hid (List.take_succ_eq_append_getElem hlt)
   have HY:=Lib.hid hy
   clear hy hck hysz
   cases hhas:Tess.hasW (l.take k) y
   ·cases hnm:Tess.nameOk y
    ·rw [hhas] at hlook
     go_wp2_with (go_at_call 85;refine (HNM.out _).mono ?_;rintro e w2 ⟨rfl,hB2⟩;rw [hnm];have HB2:=Lib.hid (Bt HB.out hB2);clear hB2)
     go_ret
     refine ⟨ret_bool' ?_,HB2.out⟩
     rw [eq_comm,Bool.eq_false_iff,ne_eq,Tess.namesOk_iff]
     rintro ⟨_,h⟩
     have:=h y (by rw [HY.out];exact List.getElem_mem hlt)
     rw [hnm] at this;cases this
    ·rw [hhas] at hlook
     go_wp2_with (first
      | (go_at_call 85;refine (HNM.out _).mono ?_;rintro e w2 ⟨rfl,hB2⟩;rw [hnm];have HM2:=Lib.hid (World.ownsMap.kept HM.out (Below.grownNone hB2) (by simp));have HB2:=Lib.hid (Bt HB.out hB2);clear hB2 hlook)
      | (at_mapUpdate;refine wpList_mapUpdate_own _ rfl _ _ _ 153 rfl 9 4 lawStr Tryz.underlying153 _ w.heap.size k _ rfl HM2.out (by unfold maxLen;omega) _ _ _ rfl rfl (keyOf_string_mk Tryz.underlying9 HYS.out) _ [] (plainElem_bool Tryz.underlying4 true) ?_;intro w3 hown3 hg3;have HM3:=Lib.hid hown3;have HB3:=Lib.hid (HB2.out.grown hg3 HB2.out.size (fun j e=>by cases e;exact Nat.le_refl _));clear hown3 hg3))
     go_roundw
     case rel=>
      refine ⟨k + 1,by omega,by go_num,?_,?_,?_,HB3.out⟩
      ·unfold SeenAt
       rw [HT.out,List.map_append,List.map_singleton,setOf_snoc,← HY.out]
       exact HM3.out
      ·rw [HT.out,List.nodup_append]
       refine ⟨HND.out,by simp,fun z hz z' hz' e => ?_⟩
       rw [List.mem_singleton] at hz'
       rw [Tess.hasW_not] at hhas
       exact hhas (by rw [HY.out,← hz',← e];exact hz)
      ·intro z hz
       rw [HT.out,List.mem_append,List.mem_singleton] at hz
       rcases hz with hz | rfl
       ·exact HOK.out z hz
       ·rw [← HY.out];exact hnm
     case measure=>simp [intOf];omega
   ·rw [hhas] at hlook
    go_wp2_with fail
    go_ret
    refine ⟨ret_bool' ?_,HB.out⟩
    rw [eq_comm,Bool.eq_false_iff,ne_eq,Tess.namesOk_iff]
    rintro ⟨h,_⟩
    rw [Tess.hasW_iff] at hhas
    have h1:(l.take (k + 1)).Nodup:=List.Sublist.nodup (List.take_sublist _ _) h
    rw [HT.out,List.nodup_append] at h1
    exact h1.2.2 y hhas y (by rw [HY.out];simp) rfl
  ·have hki:¬ (k:Int) < (l.length:Int):=by omega
   have e:l.take k=l:=List.take_of_length_le (by omega)
   have HE:=Lib.hid e
   clear e
   go_wp2
   go_ret
   exact ⟨ret_bool' ((Tess.namesOk_iff l).2 ⟨HE.out ▸ HND.out,HE.out ▸ HOK.out⟩).symm,HB.out⟩
end Go.Proofs.YtaddkkkchkdgkaaGreatDoor
namespace Go.Proofs.YtaddkkkchkdgkaaGreatDoor
open Go.RowKit Go.Sort
set_option maxRecDepth 100000 in
set_option maxHeartbeats 2000000 in
theorem concat_any (b:Nat) (vd vm:Value) (ds ms:List ByteArray) (w:World) (hd:SlOf w vd (ds.map .string)) (hm:SlOf w vm (ms.map .string)) (hnil:NilOk vm) (h1:1≤ds.length) (h2:ds.length≤6) (h3:ms.length≤4)
  (c0:w.cell? ⟨b,0,none⟩=some vd) (c1:w.cell? ⟨b,1,none⟩=some vm) :
  Calls Tryz.prog 53 #[.slice (some ⟨b,0,none⟩) 2 2] w fun e w' => ∃ v',e = .returned v'∧SlOf w' v' ((ds ++ ms).map .string)∧Below w.heap.size w w':=by
 obtain ⟨_,ad,capd,rfl,hcd⟩:=hd
 obtain ⟨_,am,capm,rfl,hcm⟩:=hm
 simp only [List.length_map] at hcd hcm c0 c1
 obtain ⟨db,doff,rfl,hdb,hdc⟩:=hcd (by omega)
 have HDC:=Lib.hid hdc
 have HCM:=Lib.hid hcm
 clear hcd hdc hcm
 obtain ⟨nd,hnd⟩:∃ nd,ds.length=nd:=⟨_,rfl⟩
 obtain ⟨nm,hnm⟩:∃ nm,ms.length=nm:=⟨_,rfl⟩
 rw [hnd] at h1 h2 c0
 rw [hnm] at h3 c1
 have HND:=Lib.hid hnd
 have HNM:=Lib.hid hnm
 clear hnd hnm
 have e1:((nd:Int) + (nm:Int))=((nd + nm:Nat):Int):=by omega
 have hb0:=World.block_lt_of_cell? w _ c0
 simp only at hb0
 obtain ⟨i0,hi,hz0,hz1,hz2⟩:=info_parts infoStr
 have HG:=Lib.hid (grow_any (nd + nm) w (by omega) (by omega))
 have HE1:=Lib.hid e1
 clear e1
 go_enter Tryz.func53,Tryz.ntmps53
 go_wp2_with fail
 refine wp_loop_rounds 3 ?_
 rw [rounds_succ]
 go_wp2_with fail
 rw [rounds_succ]
 go_wp2_with fail
 rw [rounds_succ]
 go_wp2_with (go_at_call 86;rw [HE1.out];refine HG.out.mono ?_;rintro e w1 ⟨G,rfl,hown,hB1,hs1⟩;have HO:=Lib.hid hown;have HB1:=Lib.hid hB1;have HS1:=Lib.hid hs1;clear hown hB1 hs1)
 have c0a:=(HB1.out.cell (p:=⟨b,0,none⟩) hb0).trans c0
 have c1a:=(HB1.out.cell (p:=⟨b,1,none⟩) hb0).trans c1
 refine wp_loop_rounds 3 ?_
 rw [rounds_succ]
 go_wp2_with (at_builtin;refine wpList_append_own _ rfl _ _ 22 rfl w.heap.size 9 i0 (.string ByteArray.empty) 1 16 Tryz.underlying22 hi hz0 hz1 hz2 rfl (by decide) _ 0 [] rfl HO.out ⟨db,doff,none⟩ nd capd (ds.map .string) rfl ?_ ?_ ?_ ?_ ?_ ?_ ?_)
 ·rw [List.length_map,HND.out,Nat.mul_one]
 ·intro j u hj
  rw [List.getElem?_map] at hj
  obtain ⟨x,hx,rfl⟩:=Option.map_eq_some_iff.1 hj
  obtain ⟨hj',rfl⟩:=List.getElem?_eq_some_iff.1 hx
  have:=HDC.out j hj'
  rw [show (⟨db,doff,none⟩:Addr).add j=⟨db,doff + j,none⟩ by unfold Addr.add;split <;> simp_all]
  rw [HB1.out.cell (p:=⟨db,doff + j,none⟩) hdb]
  simpa using this
 ·intro u hu;obtain ⟨x,_,rfl⟩:=List.mem_map.1 hu;rfl
 ·unfold maxLen;omega
 ·omega
 ·exact HB1.out.size
 intro v2 w2 hown2 hg2 _
 obtain ⟨g2,cp2,rfl,_⟩:=owns_cell hown2 (by omega)
 have HO2:=Lib.hid hown2
 have hB2:=HB1.out.grown hg2 HB1.out.size (fun j e=>(HO.out.lt j e).1)
 have HB2:=Lib.hid hB2
 have c1b:=(hB2.cell (p:=⟨b,1,none⟩) hb0).trans c1
 clear hown2 hg2 hB2 c0a c1a
 go_wp2
 rw [rounds_succ]
 have hsz2:=HB2.out.size
 cases am with
 | none=>
   have hc0:capm=0:=hnil _ _ rfl
   subst hc0
   have h0:nm=0:=by
    rcases Nat.eq_zero_or_pos nm with h | h
    ·exact h
    ·obtain ⟨_,_,e,_⟩:=HCM.out (by rw [HNM.out];exact h)
     cases e
   subst h0
   have he:ms=[]:=List.eq_nil_of_length_eq_zero HNM.out
   go_wp2_with (at_builtin;refine wpList_append_own_none rfl _ _ 22 rfl w.heap.size 9 i0 1 Tryz.underlying22 hi _ _ _ rfl HO2.out rfl ?_)
   rw [rounds_succ]
   go_wp2
   go_ret
   refine ⟨_,rfl,?_,HB2.out⟩
   rw [he,List.append_nil]
   simpa using SlOf.owned HO2.out
 | some ma=>
   obtain ⟨mb,moff,msp⟩:=ma
   have hcm:∀ j u,(ms.map Value.string)[j]? = some u→w2.cell? ((⟨mb,moff,msp⟩:Addr).add j)=some u:=by
    intro j u hj
    obtain ⟨hj',rfl⟩:=List.getElem?_eq_some_iff.1 hj
    have hjm:j < ms.length:=by simpa using hj'
    obtain ⟨b',off',e,hb',hcell⟩:=HCM.out (by omega)
    cases e
    rw [show (⟨mb,moff,none⟩:Addr).add j=⟨mb,moff + j,none⟩ by unfold Addr.add;split <;> simp_all]
    rw [HB2.out.cell (p:=⟨mb,moff + j,none⟩) hb']
    exact hcell j hjm
   have HX:=Lib.hid hcm
   clear hcm
   go_wp2_with (at_builtin;refine wpList_append_own _ rfl _ _ 22 rfl w.heap.size 9 i0 (.string ByteArray.empty) 1 16 Tryz.underlying22 hi hz0 hz1 hz2 rfl (by decide) _ _ _ rfl HO2.out ⟨mb,moff,msp⟩ nm capm (ms.map .string) rfl ?_ HX.out ?_ ?_ ?_ ?_ ?_)
   ·rw [List.length_map,HNM.out,Nat.mul_one]
   ·intro u hu;obtain ⟨x,_,rfl⟩:=List.mem_map.1 hu;rfl
   ·unfold maxLen;omega
   ·omega
   ·exact HB2.out.size
   intro v3 w3 hown3 hg3 _
   have HO3:=Lib.hid hown3
   have HB3:=Lib.hid (HB2.out.grown hg3 HB2.out.size (fun j e=>(HO2.out.lt j e).1))
   clear hown3 hg3
   go_wp2
   rw [rounds_succ]
   go_wp2
   go_ret
   refine ⟨_,rfl,?_,HB3.out⟩
   rw [List.map_append]
   simpa using SlOf.owned HO3.out
theorem swithin_any (n a b:Nat) (w:World):Calls Tryz.prog 51 #[.int .i64 n,.int .i64 a,.int .i64 b] w fun e w'=>e = .returned (.bool (Tess.Fil.inW n (a,b)))∧w=w':=by
 unfold Tess.Fil.inW
 by_cases h1:a≤n
 ·have h1i:(a:Int)≤(n:Int):=by omega
  have h1d:decide ((a:Int)≤(n:Int))=true:=decide_eq_true h1i
  obtain ⟨r,hr⟩:∃ r,decide (n≤b)=r:=⟨_,rfl⟩
  have hri:decide ((n:Int)≤(b:Int))=r:=by rw [← hr];exact decide_eq_decide.2 (by omega)
  rw [decide_eq_true h1,hr]
  go_enter Tryz.func51,Tryz.ntmps51
  go_wp2
  go_ret
  exact ⟨rfl,rfl⟩
 ·have h1d:decide ((a:Int)≤(n:Int))=false:=decide_eq_false (by omega)
  rw [decide_eq_false h1,Bool.false_and]
  go_enter Tryz.func51,Tryz.ntmps51
  go_wp2
  go_ret
  exact ⟨rfl,rfl⟩
theorem slp_len {p:Nat→Prop} {w:World} {v:Value} {l:List ByteArray} (h:SlP p w v (l.map .string)):∃ a cap,v = .slice a l.length cap∧l.length≤9223372036854775807:=by
 obtain ⟨a,cap,hv,hl,_⟩:=sls_open h.1
 exact ⟨a,cap,hv,hl⟩
end Go.Proofs.YtaddkkkchkdgkaaGreatDoor
namespace Go.Proofs.YtaddkkkchkdgkaaGreatDoor
open Go.RowKit Go.Sort
set_option maxRecDepth 100000 in
set_option maxHeartbeats 2000000 in
theorem schRight_any (v:Value) (s:Tess.Sch) (p:Nat→Prop) (w:World) (hv:SchAt p w v s) :
  Calls Tryz.prog 30 #[v] w fun e w'=>e = .returned (.bool (Tess.schOk s))∧Below w.heap.size w w':=by
 obtain ⟨vd,vm,rfl,hd,hm,hds,hms⟩:=hv
 obtain ⟨ds,ms,g⟩:=s
 simp only at hd hm hds hms
 obtain ⟨ad,capd,rfl,hld⟩:=slp_len hd
 obtain ⟨am,capm,rfl,hlm⟩:=slp_len hm
 have HSM:=Lib.hid (show ∀ x ∈ ds ++ ms,x.size≤maxLen from fun x hx=>by rcases List.mem_append.1 hx with h | h;exact hds x h;exact hms x h)
 have HD:=Lib.hid hd
 have HM:=Lib.hid hm
 clear hd hm hds hms
 have HW:=Lib.hid (fun w=>swithin_any ds.length 1 6 w)
 have HOK:RowKit.Hid (Tess.schOk ⟨ds,ms,g⟩=(Tess.Fil.inW ds.length (1,6) && decide (ms.length≤4) && decide (1≤g) && decide (g≤1000000000) && Tess.namesOk (ds ++ ms))):=Lib.hid rfl
 by_cases h1:Tess.Fil.inW ds.length (1,6)=true
 ·by_cases h2:ms.length≤4
  ·have h2i:decide ((ms.length:Int)≤4)=true:=decide_eq_true (by omega)
   by_cases h3:1≤g
   ·by_cases h4:g≤1000000000
    ·have hlen:1≤ds.length∧ds.length≤6:=by unfold Tess.Fil.inW at h1;simpa using h1
     have HF:RowKit.Hid (Tess.schOk ⟨ds,ms,g⟩=Tess.namesOk (ds ++ ms)):=Lib.hid (by rw [HOK.out,h1,decide_eq_true h2,decide_eq_true h3,decide_eq_true h4];rfl)
     have HL:=Lib.hid hlen
     clear HOK
     have h3i:decide (1≤g)=true:=decide_eq_true h3
     have h4i:decide (g≤1000000000)=true:=decide_eq_true h4
     clear hlen
     rw [HF.out]
     have HCC:=Lib.hid (fun (b:Nat) (W:World) (hB:Below w.heap.size w W)=>concat_any b _ _ ds ms W (HD.out.1.below hB) (HM.out.1.below hB) HM.out.2.2 HL.out.1 HL.out.2 (by omega))
     have HAN:=Lib.hid (fun (v:Value) (W:World) (h:SlOf W v ((ds ++ ms).map .string))=>areNames_any v (ds ++ ms) W h HSM.out)
     generalize Tess.namesOk (ds ++ ms)=nk at *
     go_enter Tryz.func30,Tryz.ntmps30
     go_wp2_with (first
      | (go_at_call 51;refine (HW.out _).mono ?_;rintro e w2 ⟨rfl,rfl⟩;rw [h1])
      | (go_at_call 53;refine (HCC.out _ _ (((Below.refl _ _).alloc (Nat.le_refl _) _).alloc (by simp) _) (by simp) (by simp)).mono ?_;rintro e w3 ⟨v3,rfl,hv3,hB3⟩;have HV3:=Lib.hid hv3;have HB3:=Lib.hid ((((Below.refl _ _).alloc (Nat.le_refl _) _).alloc (by simp) _).trans (hB3.mono (by simp <;> omega)));clear hv3 hB3)
      | (go_at_call 52;refine (HAN.out _ _ HV3.out).mono ?_;rintro e w4 ⟨rfl,hB4⟩;have HB4:=Lib.hid (Bt HB3.out hB4);clear hB4))
     go_ret
     exact ⟨rfl,HB4.out⟩
    ·have h4i:decide (g≤1000000000)=false:=decide_eq_false h4
     have h3i:decide (1≤g)=true:=decide_eq_true h3
     rw [HOK.out,h4i,Bool.and_false,Bool.false_and]
     clear HOK
     go_enter Tryz.func30,Tryz.ntmps30
     go_wp2_with (go_at_call 51;refine (HW.out _).mono ?_;rintro e w2 ⟨rfl,rfl⟩;rw [h1])
     go_ret
     exact ⟨rfl,(Below.refl _ _).alloc (Nat.le_refl _) _⟩
   ·have h3i:decide (1≤g)=false:=decide_eq_false h3
    rw [HOK.out,h3i,Bool.and_false,Bool.false_and,Bool.false_and]
    clear HOK
    go_enter Tryz.func30,Tryz.ntmps30
    go_wp2_with (go_at_call 51;refine (HW.out _).mono ?_;rintro e w2 ⟨rfl,rfl⟩;rw [h1])
    go_ret
    exact ⟨rfl,(Below.refl _ _).alloc (Nat.le_refl _) _⟩
  ·have h2i:decide ((ms.length:Int)≤4)=false:=decide_eq_false (by omega)
   rw [HOK.out,decide_eq_false h2,Bool.and_false,Bool.false_and,Bool.false_and,Bool.false_and]
   clear HOK
   go_enter Tryz.func30,Tryz.ntmps30
   go_wp2_with (go_at_call 51;refine (HW.out _).mono ?_;rintro e w2 ⟨rfl,rfl⟩;rw [h1])
   go_ret
   exact ⟨rfl,(Below.refl _ _).alloc (Nat.le_refl _) _⟩
 ·have h1:Tess.Fil.inW ds.length (1,6)=false:=by simpa using h1
  rw [HOK.out,h1,Bool.false_and,Bool.false_and,Bool.false_and,Bool.false_and]
  clear HOK
  go_enter Tryz.func30,Tryz.ntmps30
  go_wp2_with (go_at_call 51;refine (HW.out _).mono ?_;rintro e w2 ⟨rfl,rfl⟩;rw [h1])
  go_ret
  exact ⟨rfl,(Below.refl _ _).alloc (Nat.le_refl _) _⟩
end Go.Proofs.YtaddkkkchkdgkaaGreatDoor
