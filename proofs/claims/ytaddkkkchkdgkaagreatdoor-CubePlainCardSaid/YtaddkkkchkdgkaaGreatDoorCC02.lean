/- Joined by mergeK.py: F3, F4, F5, F6, F7, F8, F9 -/
import Derived.Test.YtaddkkkchkdgkaaGreatDoorRows
import Derived.Test.YtaddkkkchkdgkaaGreatDoorCC01
import Derived.Laws.RangeAny
import Derived.Lib.AppendZerosOnto
import Derived.Maps.OwnSet
namespace Go.Proofs.YtaddkkkchkdgkaaGreatDoor
theorem Hd {p:Prop} (h:p):RowKit.Hid p:=Lib.hid h
open Go.RowKit Go.Sort
theorem iS2:(Tryz.prog.info? 9).map (fun i=>(i.zero,i.size,i.bytes))=some (some (.string ByteArray.empty),1,16):=by kernel_rfl
def nV (m _n:Nat) (l:List ByteArray) (k:Nat):List Value:=((l.take k).map (cutN m)).map .string
def nN (m n:Nat) (l:List ByteArray):List ByteArray:=(l.take n).map (cutN m)
theorem ns3 (m n:Nat) (l:List ByteArray) (k:Nat) (h:k < l.length) (x:ByteArray) (hx:cutN m l[k]=x):nV m n l k ++ [.string x]=nV m n l (k + 1):=by
 unfold nV
 rw [List.take_succ_eq_append_getElem h,← hx,List.map_append,List.map_append];rfl
theorem ne2 (m n:Nat) (l:List ByteArray) (k:Nat) (h:¬ (k < l.length∧k < n)) (h1:k≤l.length) (h2:k≤n):nV m n l k=(nN m n l).map .string:=by
 unfold nN nV
 by_cases e:k=n
 ·rw [e]
 ·rw [List.take_of_length_le (by omega),List.take_of_length_le (by omega)]
theorem ns2 (m n:Nat) (l:List ByteArray) (h:m≤9223372036854775807):∀ x ∈ nN m n l,x.size≤maxLen:=by
 intro x hx
 obtain ⟨y,_,rfl⟩:=List.mem_map.1 hx
 have:=cNs2 m y
 unfold maxLen;omega
def cutSch (s:Tess.Sch):Tess.Sch:=⟨nN 30 10 s.dims,nN 30 10 s.mets,s.grain⟩
def SA (p:Nat→Prop) (w:World) (v:Value) (s:Tess.Sch):Prop:=
 ∃ vd vm,v = .agg #[vd,vm,.int .i64 s.grain]∧SlP p w vd (s.dims.map .string)∧SlP p w vm (s.mets.map .string)∧(∀ x ∈ s.dims,x.size≤maxLen)∧(∀ x ∈ s.mets,x.size≤maxLen)
theorem SA.ag {p:Nat→Prop} {w w':World} {v:Value} {s:Tess.Sch} (h:SA p w v s) (hg:Ag p w w'):SA p w' v s:=
 let ⟨vd,vm,h1,h2,h3,h4,h5⟩:=h;⟨vd,vm,h1,h2.ag hg,h3.ag hg,h4,h5⟩
theorem SA.weak {p q:Nat→Prop} {w:World} {v:Value} {s:Tess.Sch} (h:SA p w v s) (hpq:∀ b,p b→q b):SA q w v s:=
 let ⟨vd,vm,h1,h2,h3,h4,h5⟩:=h;⟨vd,vm,h1,h2.weak hpq,h3.weak hpq,h4,h5⟩
structure Cs (B:Nat) (vd vm:Value) (g:Int) (od om:Value) (w W:World):Prop where
 k1:W.heap[B]? = some (.cells #[vd,vm,.int .i64 g] 24 (0,0))
 k2:W.heap[B + 1]? = some (.cells #[.slice none 0 0,.slice none 0 0,.int .i64 0] 24 (0,0))
 k3:W.heap[B + 2]? = some (.cells #[od,om,.int .i64 0] 24 (0,0))
 below:Below w.heap.size w W
 size:w.heap.size=B
section
variable {B:Nat} {vd vm od om od':Value} {g:Int} {w W W':World}
theorem Cs.later (h:Cs B vd vm g od om w W) (hb:Below W.heap.size W W') (hs:B + 2 < W.heap.size):Cs B vd vm g od om w W':=
 ⟨(hb.block _ (by omega)).trans h.k1,(hb.block _ (by omega)).trans h.k2,(hb.block _ (by omega)).trans h.k3,Bt h.below hb,h.size⟩
theorem Cs.grown (h:Cs B vd vm g od om w W) {o:Option Nat} (hg:W.grownBy W' o) (ho:∀ k,o=some k→B + 3≤k) (hs:B + 2 < W.heap.size):Cs B vd vm g od om w W':=
 ⟨(hg.block _ (by omega) (fun e=>by have:=ho _ e.symm;omega)).trans h.k1,(hg.block _ (by omega) (fun e=>by have:=ho _ e.symm;omega)).trans h.k2,(hg.block _ (by omega) (fun e=>by have:=ho _ e.symm;omega)).trans h.k3,
   h.below.grown hg h.below.size (fun k e=>by have:=ho k e;have:=h.size;omega),h.size⟩
theorem Cs.set0 (h:Cs B vd vm g od om w W) (od':Value):Cs B vd vm g od' om w (W.setCell ⟨B + 2,0,none⟩ od'):=
 ⟨(heap_setCell_other _ _ _ _ (by show _≠B + 2;omega)).trans h.k1,(heap_setCell_other _ _ _ _ (by show _≠B + 2;omega)).trans h.k2,heap_setCell_same _ _ _ _ _ _ h.k3,h.below.setCell (by show _≤B + 2;have:=h.size;omega) _,h.size⟩
theorem Cs.set1 (h:Cs B vd vm g od om w W) (om':Value):Cs B vd vm g od om' w (W.setCell ⟨B + 2,1,none⟩ om'):=
 ⟨(heap_setCell_other _ _ _ _ (by show _≠B + 2;omega)).trans h.k1,(heap_setCell_other _ _ _ _ (by show _≠B + 2;omega)).trans h.k2,heap_setCell_same _ _ _ _ _ _ h.k3,h.below.setCell (by show _≤B + 2;have:=h.size;omega) _,h.size⟩
end
set_option maxRecDepth 100000 in
set_option maxHeartbeats 2000000 in
theorem cSa (v:Value) (s:Tess.Sch) (w:World) (p:Nat→Prop) (hv:SA p w v s) :
  Calls Tryz.prog 11 #[v] w fun e w' => ∃ v',e = .returned v'∧SA (fun b=>w.heap.size≤b) w' v' (cutSch s)∧Below w.heap.size w w':=by
 obtain ⟨vd,vm,rfl,hd,hm,Ay,Ao⟩:=hv
 obtain ⟨ds,ms,g⟩:=s
 simp only at hd hm Ay Ao
 obtain ⟨ad,Af,rfl,Bt,A7⟩:=so2 hd.1
 obtain ⟨am,Ae,rfl,Bu,A6⟩:=so2 hm.1
 have Be:=Hd A7
 have Bf:=Hd A6
 have Bn:=Hd Ay
 have Bd:=Hd Ao
 clear A7 A6 hd hm Ay Ao
 obtain ⟨i0,hi,A2,A5,A8⟩:=info_parts iS2
 go_enter Tryz.func11,Tryz.ntmps11
 go_wp2
 obtain ⟨W0,Am⟩:∃ W0,((w.alloc (.cells #[.slice ad ds.length Af,.slice am ms.length Ae,.int .i64 g] 24)).alloc (.cells #[.slice none 0 0,.slice none 0 0,.int .i64 0] 24)).alloc (.cells #[.slice none 0 0,.slice none 0 0,.int .i64 0] 24)=W0:=⟨_,rfl⟩
 have As:Cs w.heap.size (.slice ad ds.length Af) (.slice am ms.length Ae) g (.slice none 0 0) (.slice none 0 0) w W0:=by
  rw [← Am]
  obtain ⟨a1,a2,a3,a4,a5⟩:=laid3 w (.cells #[.slice ad ds.length Af,.slice am ms.length Ae,.int .i64 g] 24) (.cells #[.slice none 0 0,.slice none 0 0,.int .i64 0] 24) (.cells #[.slice none 0 0,.slice none 0 0,.int .i64 0] 24)
  exact ⟨a1,a2,a3,a5,rfl⟩
 have A1:W0.heap.size=w.heap.size + 3:=by rw [← Am];simp
 rw [Am]
 clear Am
 obtain ⟨B,Ap⟩:∃ B,w.heap.size=B:=⟨_,rfl⟩
 have Al:=Hd Ap
 rw [Ap] at As A1 ⊢
 clear Ap
 go_loopw [4] (fun i wr => ∃ (k:Nat) (od:Value),k≤ds.length∧k≤10∧i = .int .i64 k∧Cs B (.slice ad ds.length Af) (.slice am ms.length Ae) g od (.slice none 0 0) w wr∧wr.ownsRow (B + 3) 9 1 od k (nV 30 10 ds k)∧B + 3≤wr.heap.size) (fun i _=>10 - (intOf i).toNat)
 case atStart=>exact ⟨0,_,Nat.zero_le _,Nat.zero_le _,rfl,As,by simpa [nV] using World.ownsRow_nil W0 (B + 3) 9 1,by omega⟩
 case round=>
  obtain ⟨k,od,hk,Ai,rfl,hC,Ad,Bh⟩:=hrel
  have HC:=Hd hC
  have HO:=Hd Ad
  clear hC Ad As A1
  have c1:=cell_of_row wr B 0 _ _ _ HC.out.k1
  have c3:=cell_of_row wr (B + 1 + 1) 0 _ _ _ HC.out.k3
  have z3:=frozen_of_row wr (B + 1 + 1) 0 _ _ HC.out.k3
  simp only [List.getElem?_toArray,List.getElem?_cons_zero] at c1 c3
  have s1:B < wr.heap.size:=by omega
  have s3:B + 1 + 1 < wr.heap.size:=by omega
  by_cases hlt:k < ds.length∧k < 10
  ·obtain ⟨h1,h2⟩:=hlt
   obtain ⟨b,Ak,rfl,hb,Ac⟩:=Be.out k h1
   have Bj:wr.cell? ⟨b,Ak + k,none⟩=some (.string ds[k]):=(HC.out.below.cell (p:=⟨b,Ak + k,none⟩) (Al.out ▸ hb)).trans Ac
   have Bp:ds[k].size≤9223372036854775807:=Bn.out _ (List.getElem_mem h1)
   have Bm:b < wr.heap.size:=Nat.lt_of_lt_of_le hb HC.out.below.size
   clear Ac hb
   go_wp2
   obtain ⟨x,hx⟩:∃ x,x=cutN 30 ds[k]:=⟨_,rfl⟩
   have HX:=Hd hx
   clear hx
   rcases (show ((30:Int) < (ds[k].size:Int)∧(¬ (ds[k].size:Int)≤30∧(30:Int)≤(ds[k].size:Int)))∨(¬ (30:Int) < (ds[k].size:Int)∧(ds[k].size:Int)≤30) by omega) with ⟨Au,Ar⟩ | ⟨Au,Ar⟩
   all_goals
    refine Flow.wrf 16 (Flow.sp3 [.inl ?_,.inl ?_,.inl ?_,.inl ?_,.inl ?_,.inl ?_,.inl ?_,.inl ?_,.inl ?_,.inl ?_,.inl ?_,.inl ?_,.inl ?_,.inl ?_,.inl ?_,.inr (nO (.string x))]) (by kernel_rfl) (by kernel_rfl) ?_ ?_
    rotate_left 15
    ·refine Flow.sm2 ?_
     repeat (first | exact Flow.ln2 | refine Flow.li2 ?_ | refine Flow.li3 (nOm _) ?_)
    all_goals try simp only [List.take_succ_cons,List.take_zero,List.drop_succ_cons,List.drop_zero]
    iterate 15 (refine Flow.tvK rfl (fun K hK=>⟨fun w hw hG => ?_,?_⟩);(have Bi:=Flow.bc4 hw;clear hG hw;unfold Flow.Runs Flow.yields;go_simp;try rfl);go_simp;refine hK _ ?_;clear hK K)
    (refine Flow.tvK2 rfl (fun K hK=>⟨fun w hw hG => ?_,?_⟩);(clear hG hw;unfold Flow.Runs Flow.yields;go_simp;refine ⟨(Below.refl _ _).alloc (Nat.le_refl _) _,?_⟩;rw [HX.out]);rotate_left;intro vz;go_simp;refine hK _ _ ?_;clear hK K;rotate_left)
    ·first | exact nOm2 _ _ _ | (rw [cNs _ _ (by omega)];exact nOm2 _ _ _)
    refine Flow.tn2 fun w2 hw2 hG => ?_
    obtain ⟨gn,rfl,Bg,Aq⟩:=(show nO (.string x) vz w2 by simpa [Flow.upd] using hG 15)
    clear hG
    have Aj:=Hd (ob2 HO.out hw2)
    have HE:=Hd (ns3 30 10 ds k h1 x HX.out.symm)
    have Av:=Hd (HC.out.later hw2 (by omega))
    have Ax:=hw2.size
    go_wp2_with (at_builtin;refine wpList_append_own _ rfl _ _ 22 rfl (B + 3) 9 i0 (.string ByteArray.empty) 1 16 Tryz.underlying22 hi A2 A5 A8 rfl (by decide) _ _ _ rfl Aj.out ⟨gn,0,none⟩ 1 1 [.string x] rfl rfl ?_ ?_ ?_ ?_ ?_ ?_)
    ·intro j u hj;rcases j with _ | j <;> simp at hj;subst hj;simpa [Addr.add] using Aq
    ·simp [Value.oneCell']
    ·unfold maxLen;omega
    ·omega
    ·omega
    intro v' w3 Ab Aa _
    obtain ⟨gg,cp,rfl,_⟩:=oc2 Ab (by omega)
    have Ah:=Hd (Av.out.grown Aa (fun j e=>(Aj.out.lt j e).1) (by omega))
    have Az:=Hd (jo2 Ab HE.out)
    have Aw:=Aa.size
    clear Ab Aa
    have z3:=frozen_of_row w3 (B + 1 + 1) 0 _ _ Ah.out.k3
    have c3:=cell_of_row w3 (B + 1 + 1) 0 _ _ _ Ah.out.k3
    simp only [List.getElem?_toArray,List.getElem?_cons_zero] at c3
    go_wp2
    go_roundw
    case rel=>exact ⟨k + 1,_,by omega,by omega,by go_num,Ah.out.set0 _,ownsRow_setCell_below Az.out (by show B + 1 + 1 < _;omega) _,by simp [World.setCell];omega⟩
    case measure=>simp [intOf];omega
  ·have HE:=Hd (ne2 30 10 ds k (by omega) hk Ai)
   have At:=Hd ((SlP.owned (HE.out ▸ HO.out)).lt)
   obtain ⟨N1,A0⟩:∃ N1,N1=wr.heap.size:=⟨_,rfl⟩
   rw [← A0] at At
   have A9:=Hd A0
   clear A0
   obtain ⟨wo,rfl⟩:∃ wo:World,wo=wr:=⟨_,rfl⟩
   have A3:=Hd HC.out
   clear HO HE HC
   rcases (show (¬ (k:Int) < (ds.length:Int))∨((k:Int) < (ds.length:Int)∧¬ (k:Int) < 10) by omega) with An | ⟨Bk,An⟩
   all_goals
    clear hlt
    go_wp2
    go_loopw [5] (fun i wq => ∃ (k:Nat) (om:Value),k≤ms.length∧k≤10∧i = .int .i64 k∧Cs B (.slice ad ds.length Af) (.slice am ms.length Ae) g od om w wq∧wq.ownsRow N1 9 1 om k (nV 30 10 ms k)∧SlP (fun b=>B + 3≤b∧b < N1) wq od ((nN 30 10 ds).map .string)∧N1≤wq.heap.size) (fun i _=>10 - (intOf i).toNat)
    case atStart=>exact ⟨0,_,Nat.zero_le _,Nat.zero_le _,rfl,A3.out,by simpa [nV] using World.ownsRow_nil wo N1 9 1,At.out,by rw [A9.out];exact Nat.le_refl _⟩
    case round=>
     have Bs:B + 3≤N1:=by rw [A9.out];exact Bh
     clear At A3 An c1 c3 z3 s1 s3
     obtain ⟨k,om,hk,Ai,rfl,hC,Ad,hP,Bl⟩:=hrel
     have HC:=Hd hC
     have HO:=Hd Ad
     have HP:=Hd hP
     clear hC Ad hP
     have c1:=cell_of_row wr B 1 _ _ _ HC.out.k1
     have c3:=cell_of_row wr (B + 1 + 1) 1 _ _ _ HC.out.k3
     have z3:=frozen_of_row wr (B + 1 + 1) 1 _ _ HC.out.k3
     simp only [List.getElem?_toArray,List.getElem?_cons_succ,List.getElem?_cons_zero] at c1 c3
     have s1:B < wr.heap.size:=by omega
     have s3:B + 1 + 1 < wr.heap.size:=by omega
     by_cases hlt:k < ms.length∧k < 10
     ·obtain ⟨h1,h2⟩:=hlt
      obtain ⟨b,Ak,rfl,hb,Ac⟩:=Bf.out k h1
      have Bj:wr.cell? ⟨b,Ak + k,none⟩=some (.string ms[k]):=(HC.out.below.cell (p:=⟨b,Ak + k,none⟩) (Al.out ▸ hb)).trans Ac
      have Br:ms[k].size≤9223372036854775807:=Bd.out _ (List.getElem_mem h1)
      have Bm:b < wr.heap.size:=Nat.lt_of_lt_of_le hb HC.out.below.size
      clear Ac hb
      go_wp2
      obtain ⟨x,hx⟩:∃ x,x=cutN 30 ms[k]:=⟨_,rfl⟩
      have HX:=Hd hx
      clear hx
      rcases (show ((30:Int) < (ms[k].size:Int)∧(¬ (ms[k].size:Int)≤30∧(30:Int)≤(ms[k].size:Int)))∨(¬ (30:Int) < (ms[k].size:Int)∧(ms[k].size:Int)≤30) by omega) with ⟨Au,Ar⟩ | ⟨Au,Ar⟩
      all_goals
       refine Flow.wrf 16 (Flow.sp3 [.inl ?_,.inl ?_,.inl ?_,.inl ?_,.inl ?_,.inl ?_,.inl ?_,.inl ?_,.inl ?_,.inl ?_,.inl ?_,.inl ?_,.inl ?_,.inl ?_,.inl ?_,.inr (nO (.string x))]) (by kernel_rfl) (by kernel_rfl) ?_ ?_
       rotate_left 15
       ·refine Flow.sm2 ?_
        repeat (first | exact Flow.ln2 | refine Flow.li2 ?_ | refine Flow.li3 (nOm _) ?_)
       all_goals try simp only [List.take_succ_cons,List.take_zero,List.drop_succ_cons,List.drop_zero]
       iterate 15 (refine Flow.tvK rfl (fun K hK=>⟨fun w hw hG => ?_,?_⟩);(have Bi:=Flow.bc4 hw;clear hG hw;unfold Flow.Runs Flow.yields;go_simp;try rfl);go_simp;refine hK _ ?_;clear hK K)
       (refine Flow.tvK2 rfl (fun K hK=>⟨fun w hw hG => ?_,?_⟩);(clear hG hw;unfold Flow.Runs Flow.yields;go_simp;refine ⟨(Below.refl _ _).alloc (Nat.le_refl _) _,?_⟩;rw [HX.out]);rotate_left;intro vz;go_simp;refine hK _ _ ?_;clear hK K;rotate_left)
       ·first | exact nOm2 _ _ _ | (rw [cNs _ _ (by omega)];exact nOm2 _ _ _)
       refine Flow.tn2 fun w2 hw2 hG => ?_
       obtain ⟨gn,rfl,Bg,Aq⟩:=(show nO (.string x) vz w2 by simpa [Flow.upd] using hG 15)
       clear hG
       have Aj:=Hd (ob2 HO.out hw2)
       have HE:=Hd (ns3 30 10 ms k h1 x HX.out.symm)
       have Av:=Hd (HC.out.later hw2 (by omega))
       have Ax:=hw2.size
       go_wp2_with (at_builtin;refine wpList_append_own _ rfl _ _ 22 rfl N1 9 i0 (.string ByteArray.empty) 1 16 Tryz.underlying22 hi A2 A5 A8 rfl (by decide) _ _ _ rfl Aj.out ⟨gn,0,none⟩ 1 1 [.string x] rfl rfl ?_ ?_ ?_ ?_ ?_ ?_)
       ·intro j u hj;rcases j with _ | j <;> simp at hj;subst hj;simpa [Addr.add] using Aq
       ·simp [Value.oneCell']
       ·unfold maxLen;omega
       ·omega
       ·omega
       intro v' w3 Ab Aa _
       obtain ⟨gg,cp,rfl,_⟩:=oc2 Ab (by omega)
       have Ah:=Hd (Av.out.grown Aa (fun j e=>by have:=(Aj.out.lt j e).1;omega) (by omega))
       have Az:=Hd (jo2 Ab HE.out)
       have Aw:=Aa.size
       have Bo:=Hd ((HP.out.ag (Ag.new _ hw2)).ag (Ag.grown Aa (fun j e=>by have:=(Aj.out.lt j e).1;rintro ⟨_,h⟩;omega)))
       clear Ab Aa
       have z3:=frozen_of_row w3 (B + 1 + 1) 1 _ _ Ah.out.k3
       have c3:=cell_of_row w3 (B + 1 + 1) 1 _ _ _ Ah.out.k3
       simp only [List.getElem?_toArray,List.getElem?_cons_succ,List.getElem?_cons_zero] at c3
       go_wp2
       go_roundw
       case rel=>exact ⟨k + 1,_,by omega,by omega,by go_num,Ah.out.set1 _,ownsRow_setCell_below Az.out (by show B + 1 + 1 < _;omega) _,Bo.out.ag (Ag.set _ _ _ (by rintro ⟨h,_⟩;have:B + 3≤B + 1 + 1:=h;omega)),by simp [World.setCell];omega⟩
       case measure=>simp [intOf];omega
     ·have HE:=Hd (ne2 30 10 ms k (by omega) hk Ai)
      have HQ:=Hd ((SlP.owned (HE.out ▸ HO.out)).weak (q:=fun b=>B + 3≤b) (fun b hb=>by have:N1≤b:=hb;omega))
      obtain ⟨ao,no,co,rfl⟩:=HP.out.shape
      obtain ⟨Bb,Ba,Bc,rfl⟩:=HQ.out.shape
      have c2:=cell_of_row wr B 2 _ _ _ HC.out.k1
      have d0:=cell_of_row wr (B + 1 + 1) 0 _ _ _ HC.out.k3
      have d2:=cell_of_row wr (B + 1 + 1) 2 _ _ _ HC.out.k3
      have z2:=frozen_of_row wr (B + 1 + 1) 2 _ _ HC.out.k3
      have y0:=frozen_of_row wr (B + 1) 0 _ _ HC.out.k2
      have y1:=frozen_of_row wr (B + 1) 1 _ _ HC.out.k2
      have y2:=frozen_of_row wr (B + 1) 2 _ _ HC.out.k2
      have e0:=cell_of_row wr (B + 1) 0 _ _ _ HC.out.k2
      have e1:=cell_of_row wr (B + 1) 1 _ _ _ HC.out.k2
      have e2:=cell_of_row wr (B + 1) 2 _ _ _ HC.out.k2
      simp only [List.getElem?_toArray,List.getElem?_cons_succ,List.getElem?_cons_zero] at c2 d0 d2 e0 e1 e2
      rcases (show (¬ (k:Int) < (ms.length:Int))∨((k:Int) < (ms.length:Int)∧¬ (k:Int) < 10) by omega) with An | ⟨Bk,An⟩
      all_goals
       clear hlt
       go_wp2
       have A4:∀ q:Nat→Prop,¬ q (B + 1 + 1)→¬ q (B + 1)→Ag q wr ((((wr.setCell ⟨B + 1 + 1,2,none⟩ (.int .i64 g)).setCell ⟨B + 1,0,none⟩ (.slice ao no co)).setCell ⟨B + 1,1,none⟩ (.slice Bb Ba Bc)).setCell ⟨B + 1,2,none⟩ (.int .i64 g)):=
        fun q h2 h1=>(((Ag.set q _ _ h2).trans (Ag.set q _ _ h1)).trans (Ag.set q _ _ h1)).trans (Ag.set q _ _ h1)
       refine bodyPost_ret (v:=.agg #[.slice ao no co,.slice Bb Ba Bc,.int .i64 g]) (by simp [results,Tryz.results11,go_sem,e0,e1,e2]) rfl ⟨_,rfl,⟨_,_,rfl,?_,?_,?_,?_⟩,?_⟩
       ·exact ((HP.out.ag (A4 _ (by omega) (by omega))).weak fun b hb=>by have:=Al.out;omega)
       ·exact ((HQ.out.ag (A4 _ (by omega) (by omega))).weak fun b hb=>by have:=Al.out;omega)
       ·exact ns2 30 10 ds (by omega)
       ·exact ns2 30 10 ms (by omega)
       ·have Bq:=Al.out
        exact (((HC.out.below.setCell (by show _≤B + 1 + 1;omega) _).setCell (by show _≤B + 1;omega) _).setCell (by show _≤B + 1;omega) _).setCell (by show _≤B + 1;omega) _
end Go.Proofs.YtaddkkkchkdgkaaGreatDoor
namespace Tess
open Go
def nameTo (s:ByteArray) (k:Nat):Prop:=∀ j (h:j < s.size),j < k→(if j=0 then isLow s[j] else iR s[j])=true
theorem nameTo_succ {s:ByteArray} {k:Nat} (hk:k < s.size) (h:nameTo s k) (hc:(if k=0 then isLow s[k] else iR s[k])=true):nameTo s (k + 1):=by
 intro j hj Aa
 by_cases e:j < k
 ·exact h j hj e
 ·obtain rfl:j=k:=by omega
  exact hc
theorem nameL_iff (l:List UInt8):nameL l=true↔0 < l.length∧∀ j (h:j < l.length),(if j=0 then isLow l[j] else iR l[j])=true:=by
 cases l with
 | nil=>simp [nameL]
 | cons c r=>
   simp only [nameL,Bool.and_eq_true,List.all_eq_true,List.length_cons]
   constructor
   ·rintro ⟨h1,h2⟩
    refine ⟨by omega,fun j hj => ?_⟩
    cases j with
    | zero=>simpa using h1
    | succ j=>simpa using h2 _ (List.getElem_mem (by omega))
   ·rintro ⟨_,h⟩
    refine ⟨by simpa using h 0 (by omega),fun x hx => ?_⟩
    obtain ⟨j,hj,rfl⟩:=List.getElem_of_mem hx
    have:=h (j + 1) (by omega)
    rwa [if_neg (by omega),List.getElem_cons_succ] at this
theorem bget (s:ByteArray) (j:Nat) (h:j < s.size):s.data.toList[j]'(by simpa using h)=s[j]:=by simp;rfl
theorem okc_iff (s:ByteArray) (k:Nat) (hk:k < s.size) (c:Nat) (hc:c=s[k].toNat) :
  (if k=0 then isLow s[k] else iR s[k])=true↔(97≤c∧c≤122)∨(0 < k∧(c=95∨(48≤c∧c≤57))):=by
 unfold iR isLow
 rw [← hc]
 by_cases h:k=0
 ·simp [h]
 ·rw [if_neg h]
  simp only [Bool.or_eq_true,Bool.and_eq_true,decide_eq_true_eq,beq_iff_eq]
  omega
theorem okc_not (s:ByteArray) (k:Nat) (hk:k < s.size) (c:Nat) (hc:c=s[k].toNat) (h:¬ ((97≤c∧c≤122)∨(0 < k∧(c=95∨(48≤c∧c≤57))))) :
  (if k=0 then isLow s[k] else iR s[k])=false:=Bool.eq_false_iff.2 fun e=>h ((okc_iff s k hk c hc).1 e)
theorem nameOk_end (s:ByteArray) (h:nameTo s s.size):nO3 s=(decide (0 < s.size) && decide (s.size≤20)):=by
 have hl:s.data.toList.length=s.size:=by simp
 have e:nameL s.data.toList=decide (0 < s.size):=by
  rw [Bool.eq_iff_iff,nameL_iff,decide_eq_true_iff]
  constructor
  ·exact fun h=>by omega
  ·exact fun h0=>⟨by omega,fun j hj=>by rw [bget s j (by omega)];exact h j (by omega) (by omega)⟩
 unfold nO3
 rw [e,Bool.and_comm]
theorem nameOk_not (s:ByteArray) (k:Nat) (hk:k < s.size) (h:(if k=0 then isLow s[k] else iR s[k])=false):nO3 s=false:=by
 unfold nO3
 have e:nameL s.data.toList=false:=by
  rw [Bool.eq_false_iff]
  intro hn
  have:=(nameL_iff _).1 hn |>.2 k (by simpa using hk)
  rw [bget s k hk,h] at this
  cases this
 rw [e,Bool.and_false]
end Tess
namespace Go.Proofs.YtaddkkkchkdgkaaGreatDoor
open Go.RowKit Go.Sort
theorem ib (w:World) (s:ByteArray) (k:Nat):Below w.heap.size w (w.iter s k):=(Below.refl _ _).alloc (Nat.le_refl _) _
theorem rb2 {a b:Bool} (h:a=b):Ending.returned (.bool a) = .returned (.bool b):=by rw [h]
set_option maxRecDepth 100000 in
theorem isName_zero (w:World) :
  Calls Tryz.prog 85 #[.string ByteArray.empty] w fun e w'=>e = .returned (.bool false)∧Below w.heap.size w w':=by
 have Aa:=@run_range_string Tryz.prog w 9 ByteArray.empty Tryz.underlying9
 have Ab:=fun ty=>run_next_end (P:=Tryz.prog) w ByteArray.empty 0 ty (by decide)
 go_enter Tryz.func85,Tryz.ntmps85
 go_wp2
 refine wp_scope_straight ?_
 go_wp2
 refine wp_label ?_
 go_wp2
 refine wp_loop_rounds 1 ?_
 rw [rounds_succ]
 go_wp2
 try rw [Exit.noGoto_ret]
 go_ret
 exact ⟨rfl,ib _ _ _⟩
set_option maxRecDepth 100000 in
set_option maxHeartbeats 2000000 in
theorem isName_some (s:ByteArray) (w:World) (hs:s.size≤maxLen) (hpos:0 < s.size) :
  Calls Tryz.prog 85 #[.string s] w fun e w'=>e = .returned (.bool (Tess.nO3 s))∧Below w.heap.size w w':=by
 unfold maxLen at hs
 have Ak:=@run_range_string Tryz.prog w 9 s Tryz.underlying9
 have he:s.toList.isEmpty=false:=by
  rw [Tess.tl,List.isEmpty_eq_false_iff]
  intro h
  have:s.data.toList.length=0:=by rw [h];rfl
  have h2:s.data.toList.length=s.size:=by simp
  omega
 have Ao:s.toList.isEmpty=false:=he
 obtain ⟨Ad,Am⟩:∃ Ad,decide ((s.size:Int)≤20)=Ad:=⟨_,rfl⟩
 have HX:RowKit.Hid (Ad=(decide (0 < s.size) && decide (s.size≤20))):=Hd (by
  rw [← Am,decide_eq_true hpos,Bool.true_and];exact decide_eq_decide.2 (by omega))
 go_enter Tryz.func85,Tryz.ntmps85
 go_wp2
 all_goals
  refine wp_scope_straight ?_
  go_wp2
  refine wp_label ?_
  go_wp2
  clear Am
  go_loopw [3] (fun b wr => ∃ k:Nat,k≤s.size∧b = .bool Ad∧wr=w.iter s k∧Tess.nameTo s k) (fun _ wr=>s.size - wr.iterPos w.heap.size)
  case atStart=>exact ⟨0,Nat.zero_le _,rfl,rfl,fun j _ h=>absurd h (by omega)⟩
  case round=>
   obtain ⟨k,hk,rfl,rfl,hN⟩:=hrel
   have HN:=Hd hN
   clear hN
   by_cases hlt:k < s.size
   ·obtain ⟨c,hc⟩:∃ c:Nat,c=s[k].toNat:=⟨_,rfl⟩
    have Aa:c < 256:=by rw [hc];exact UInt8.toNat_lt _
    have Aj:RowKit.Hid (∀ (_:(97≤c∧c≤122)∨(0 < k∧(c=95∨(48≤c∧c≤57)))),Tess.nameTo s (k + 1)):=Hd fun h=>Tess.nameTo_succ hlt HN.out ((Tess.okc_iff s k hlt c hc).2 h)
    have Ac:RowKit.Hid (∀ (_:¬ ((97≤c∧c≤122)∨(0 < k∧(c=95∨(48≤c∧c≤57))))),Tess.nO3 s=false):=Hd fun h=>Tess.nameOk_not s k hlt (Tess.okc_not s k hlt c hc h)
    by_cases h128:c < 128
    ·have Ag:=fun ty=>run_next_ascii (P:=Tryz.prog) w s k ty hlt (by omega)
     rw [← hc] at Ag
     clear hc
     rcases (show ((97:Int)≤c∧(c:Int)≤122)∨((k:Int) < 1∧(c:Int) < 97)∨((k:Int) < 1∧(122:Int) < c)∨((0:Int) < k∧(c:Int)≤95∧(95:Int)≤c)∨((0:Int) < k∧(48:Int)≤c∧(c:Int)≤57)∨((0:Int) < k∧(c:Int) < 48)∨((0:Int) < k∧(57:Int) < c∧(c:Int) < 95)∨((0:Int) < k∧(95:Int) < c∧(c:Int) < 97)∨((0:Int) < k∧(122:Int) < c) by omega) with ⟨h1,h2⟩ | ⟨h1,h2⟩ | ⟨h1,h2⟩ | ⟨h1,h2,h3⟩ | ⟨h1,h2,h3⟩ | ⟨h1,h2⟩ | ⟨h1,h2,h3⟩ | ⟨h1,h2,h3⟩ | ⟨h1,h2⟩
     all_goals
      clear Ak h128 Aa
      first | have Af:decide ((97:Int)≤c)=true:=decide_eq_true (by omega) | have Af:decide ((97:Int)≤c)=false:=decide_eq_false (by omega) | skip
      first | have Ab:decide ((c:Int)≤122)=true:=decide_eq_true (by omega) | have Ab:decide ((c:Int)≤122)=false:=decide_eq_false (by omega) | skip
      first | have Ah:decide ((c:Int) < 48)=true:=decide_eq_true (by omega) | have Ah:decide ((c:Int) < 48)=false:=decide_eq_false (by omega) | skip
      first | have Ai:decide ((57:Int) < c)=true:=decide_eq_true (by omega) | have Ai:decide ((57:Int) < c)=false:=decide_eq_false (by omega) | skip
      first | have Ae:((c:Int) != 95)=true:=bne_iff_ne.2 (by omega) | have Ae:((c:Int) != 95)=false:=bne_eq_false_iff_eq.2 (by omega) | skip
      first | have h0:((k:Int) == 0)=true:=beq_iff_eq.2 (by omega) | have h0:((k:Int) == 0)=false:=beq_eq_false_iff_ne.2 (by omega) | skip
      go_wp2
      first
       | exact ⟨⟨k + 1,by omega,rfl,rfl,Aj.out (by omega)⟩,by simp only [World.iterPos_iter];omega⟩
       | (try rw [Exit.noGoto_ret]
          go_ret
          exact ⟨rb2 (Ac.out (by omega)).symm,ib _ _ _⟩)
    ·have Ag:=fun ty=>run_next_any (P:=Tryz.prog) w s k ty hlt
     have Al:=decode_high s k hlt (by omega)
     have An:=decode_le s k
     have Ac:=Hd (Ac.out (by omega))
     generalize Utf8.decode s k=dc at *
     obtain ⟨r,n⟩:=dc
     simp only at Al An
     obtain ⟨r1,r2⟩:=Al
     have r3:(122:Int) < r:=by omega
     have r4:((r:Int) != 95)=true:=by rw [bne_iff_ne];omega
     clear hc Aj
     rcases (show (k:Int) < 1∨(0:Int) < k by omega) with h1 | h1
     all_goals
      clear Ak h128 Aa
      first | have Af:decide ((97:Int)≤r)=true:=decide_eq_true (by omega) | have Af:decide ((97:Int)≤r)=false:=decide_eq_false (by omega) | skip
      first | have Ab:decide ((r:Int)≤122)=true:=decide_eq_true (by omega) | have Ab:decide ((r:Int)≤122)=false:=decide_eq_false (by omega) | skip
      first | have Ah:decide ((r:Int) < 48)=true:=decide_eq_true (by omega) | have Ah:decide ((r:Int) < 48)=false:=decide_eq_false (by omega) | skip
      first | have Ai:decide ((57:Int) < r)=true:=decide_eq_true (by omega) | have Ai:decide ((57:Int) < r)=false:=decide_eq_false (by omega) | skip
      first | have Ae:((r:Int) != 95)=true:=bne_iff_ne.2 (by omega) | have Ae:((r:Int) != 95)=false:=bne_eq_false_iff_eq.2 (by omega) | skip
      first | have h0:((k:Int) == 0)=true:=beq_iff_eq.2 (by omega) | have h0:((k:Int) == 0)=false:=beq_eq_false_iff_ne.2 (by omega) | skip
      go_wp2
      try rw [Exit.noGoto_ret]
      go_ret
      exact ⟨rb2 Ac.out.symm,ib _ _ _⟩
   ·have Ag:=fun ty=>run_next_end (P:=Tryz.prog) w s k ty hlt
    obtain rfl:k=s.size:=by omega
    have HE:=Hd (Tess.nameOk_end s HN.out)
    go_wp2
    try rw [Exit.noGoto_ret]
    go_ret
    exact ⟨rb2 (by rw [HE.out,HX.out]),ib _ _ _⟩
theorem isName_any (s:ByteArray) (w:World) (hs:s.size≤maxLen) :
  Calls Tryz.prog 85 #[.string s] w fun e w'=>e = .returned (.bool (Tess.nO3 s))∧Below w.heap.size w w':=by
 rcases Nat.eq_zero_or_pos s.size with h | h
 ·have e:s=ByteArray.empty:=ByteArray.ext (Array.eq_empty_of_size_eq_zero h)
  subst e
  exact isName_zero w
 ·exact isName_some s w hs h
end Go.Proofs.YtaddkkkchkdgkaaGreatDoor
namespace Go.Proofs.YtaddkkkchkdgkaaGreatDoor
open Go.RowKit Go.Sort
set_option maxRecDepth 100000 in
set_option maxHeartbeats 1000000 in
theorem grow_any (n:Nat) (w:World) (h0:0 < n) (hn:n≤1000) :
  Calls Tryz.prog 86 #[.slice none 0 0,.int .i64 n] w fun e w' => ∃ cap,e = .returned (.slice (some ⟨w.heap.size,0,none⟩) 0 cap)∧w'.ownsRow w.heap.size 9 1 (.slice (some ⟨w.heap.size,0,none⟩) 0 cap) 0 []∧Below w.heap.size w w'∧w'.heap.size=w.heap.size + 1:=by
 obtain ⟨i0,hi,Af,Ag,Ad⟩:=info_parts iS2
 have Ab:(Builtin.firstCells i0.size 0 (.slice none 0 0)).run Tryz.prog w.drew = .ok ([]:List Value).toArray w.drew:=run_firstCells_none w.drew i0.size 0 0 0
 have Ac:∀ ty,(Builtin.append_ #[22,3] ty #[.slice none 0 0,.int .i64 (n:Nat)]).run Tryz.prog w=_:=fun ty=>
  Lib.run_append_grow_zeros w 22 3 ty 9 i0 _ .i64 .i64 Tryz.underlying22 Tryz.underlying3 hi Af none 0 0 [] Ab n h0 (by omega) (by omega) (by omega) (by rw [Ad];omega)
   (by have:=growslice_fits (need:=0 + n) (old:=0) (bytes:=i0.bytes) (by omega) (by rw [Ad];omega);simpa using this)
 have Ae:=grownCap_ge w (0 + n) 0 9
 have Aa:=grownCap_le_maxLen w (0 + n) 0 9 (by unfold maxLen;omega)
 rw [Nat.zero_add] at Ac Ae Aa
 obtain ⟨G,hG⟩:∃ G,G=grownCap w n 0 9:=⟨_,rfl⟩
 rw [← hG] at Ac Ae Aa
 have hm:=Aa
 unfold maxLen at hm
 clear hG Ab
 have n1:¬ (n:Int) < 0:=by omega
 have n2:(0:Int) < n:=by omega
 go_enter Tryz.func86,Tryz.ntmps86
 go_wp2_with (at_builtin;refine Lib.wpList_append_run _ rfl _ _ _ _ rfl _ _ rfl rfl _ _ (Ac _) ?_)
 go_ret
 refine ⟨G,rfl,⟨rfl,.inr ⟨w.heap.size,G,_,rfl,Nat.le_refl _,heap_alloc_new w.drew _,Nat.zero_le _,Aa,?_,by simp⟩⟩,(Below.refl _ _).drew.alloc (Nat.le_refl _) _,by simp⟩
 simp [size_zeroCells];omega
theorem ri2 {k:IntKind} {a b:Int} (h:a=b):Ending.returned (.int k a) = .returned (.int k b):=by rw [h]
theorem ia2 (v:Value) (l:List ByteArray) (x:ByteArray) (w:World) (hv:SlOf w v (l.map .string)) :
  Calls Tryz.prog 165 #[v,.string x] w fun e w'=>e = .returned (.int .i64 (if Tess.hasW l x then (Tess.idxW l x:Nat) else -1))∧w=w':=by
 obtain ⟨a,Ae,rfl,hl,hc⟩:=so2 hv
 have HC:=Hd hc
 clear hc hv
 obtain ⟨r,hr⟩:∃ r:Int,(if Tess.hasW l x then ((Tess.idxW l x:Nat):Int) else -1)=r:=⟨_,rfl⟩
 rw [hr]
 have HR:=Hd hr
 clear hr
 go_enter Tryz.func165,Tryz.ntmps165
 go_wp2
 go_loop [8] (fun i => ∃ k:Nat,k≤l.length∧i = .int .i64 k∧∀ j (hj:j < l.length),j < k→l[j]≠x) (fun i=>l.length - (intOf i).toNat)
 case atStart=>exact ⟨0,Nat.zero_le _,rfl,fun j _ h=>absurd h (by omega)⟩
 case round=>
  obtain ⟨k,hk,rfl,Aa⟩:=hrel
  have HA:=Hd Aa
  clear Aa
  by_cases hlt:k < l.length
  ·obtain ⟨b,Af,rfl,hb,Ab⟩:=HC.out k hlt
   have Ac:(k:Int) < (l.length:Int):=by omega
   obtain ⟨y,hy⟩:∃ y,y=l[k]:=⟨_,rfl⟩
   rw [← hy] at Ab
   have HY:=Hd hy
   clear hy
   by_cases hxy:x=y
   ·subst hxy
    have he:(x.toList == x.toList)=true:=by simp
    go_wp2
    go_ret
    refine ⟨ri2 ?_,rfl⟩
    rw [← HR.out,(Tess.hWi l x).2 (by rw [HY.out];exact List.getElem_mem hlt),if_pos rfl,Tess.idxW_at l x k hlt HY.out.symm HA.out]
   ·have he:(x.toList == y.toList)=false:=Bool.eq_false_iff.2 fun e=>hxy (str_eq' e)
    have Ad:=Hd hxy
    clear hxy
    go_wp2
    go_round
    case rel=>
     refine ⟨k + 1,by omega,by go_num,fun j hj hjk => ?_⟩
     by_cases e:j < k
     ·exact HA.out j hj e
     ·obtain rfl:j=k:=by omega
      rw [← HY.out];exact fun e=>Ad.out e.symm
    case measure=>simp [intOf];omega
  ·have Ac:¬ (k:Int) < (l.length:Int):=by omega
   go_wp2
   go_ret
   refine ⟨ri2 ?_,rfl⟩
   rw [← HR.out,(Tess.hWn l x).2 fun h => ?_]
   ·rfl
   ·obtain ⟨j,hj,e⟩:=List.getElem_of_mem h
    exact HA.out j hj (by omega) e
theorem ca4 (v:Value) (l:List ByteArray) (x:ByteArray) (w:World) (hv:SlOf w v (l.map .string)) :
  Calls Tryz.prog 179 #[v,.string x] w fun e w'=>e = .returned (.bool (Tess.hasW l x))∧w=w':=by
 have HI:=Hd (ia2 v l x w hv)
 obtain ⟨a,Ab,rfl,hl,hc⟩:=so2 hv
 clear hc hv
 obtain ⟨i,hi⟩:∃ i:Int,(if Tess.hasW l x then ((Tess.idxW l x:Nat):Int) else -1)=i:=⟨_,rfl⟩
 rw [hi] at HI
 have Aa:=Hd hi
 clear hi
 go_enter Tryz.func179,Tryz.ntmps179
 go_wp2_with (go_at_call 165;refine HI.out.mono ?_;rintro e w2 ⟨rfl,rfl⟩)
 go_ret
 refine ⟨rb2 ?_,rfl⟩
 rw [← Aa.out]
 cases Tess.hasW l x <;> simp
end Go.Proofs.YtaddkkkchkdgkaaGreatDoor
namespace Tess
open Go
theorem distinct_iff (l:List ByteArray):distinct l=true↔l.Nodup:=by
 induction l with
 | nil=>simp [distinct]
 | cons a r ih=>simp [distinct,ih,List.nodup_cons,hWn]
theorem nOi (l:List ByteArray):nO4 l=true↔l.Nodup∧∀ x ∈ l,nO3 x=true:=by
 simp [nO4,distinct_iff]
end Tess
namespace Go.Maps
variable {H:Type}
theorem aKf (u z:DataW H) (k:Lit):∀ (acc:List Lit) (m:DataW H),k ∉ acc→(acc.foldl (fun m x=>m.put x u) m).atKey k z=m.atKey k z
 | [],m,_=>rfl
 | x :: r,m,h=>by
   rw [List.foldl_cons,aKf u z k r _ (fun e=>h (List.mem_cons_of_mem _ e)),atKey_put_other (show k≠x from fun e=>h (by rw [e];exact List.mem_cons_self))]
theorem aKf2 (u z:DataW H) (k:Lit):∀ (acc:List Lit) (m:DataW H),IsMap m→WideAt.IsKeyLit k→k ∈ acc→(acc.foldl (fun m x=>m.put x u) m).atKey k z=u
 | [],m,_,_,h=>by cases h
 | x :: r,m,hm,hk,h=>by
   rw [List.foldl_cons]
   by_cases e:k ∈ r
   ·exact aKf2 u z k r _ (hm.put x u) hk e
   ·rcases List.mem_cons.1 h with rfl | h
    ·rw [aKf u z k r _ e,atKey_put_same hm hk]
    ·exact absurd h e
end Go.Maps
namespace Go
theorem pEb {H:Type} {P:Program} {e:TypeId} (he:P.underlying e=some .bool) {v:Value} {z:DataW H×List MemPlace} (h:plainElem P e v=some z):∃ c,v = .bool c∧z=(.lit (.bool c),[]):=by
 unfold plainElem at h
 rw [he] at h
 cases v <;> simp at h
 subst h
 exact ⟨_,rfl,rfl⟩
end Go
namespace Go.Proofs.YtaddkkkchkdgkaaGreatDoor
open Go.RowKit Go.Sort Go.Maps Go.WideMaps
theorem lawStr:Keyed Tryz.prog 9:=string_keyed Tryz.underlying9
theorem zeroBool (w:World):(zeroValue 4).run Tryz.prog w = .ok (.bool false) w:=by kernel_rfl
def skey (s:ByteArray):Lit:=.string s.data.toList
theorem skey_inj {x y:ByteArray} (h:skey x=skey y):x=y:=by
 unfold skey at h
 exact ByteArray.ext (Array.toList_inj.1 (by simpa using h))
def SeenAt (w:World) (b:Nat) (l:List ByteArray) (k:Nat):Prop:=w.ownsMap Tryz.prog 9 (plainElem (H:=Unit) Tryz.prog 4) b k (setOf (.lit (.bool true)) ((l.take k).map skey))
theorem SeenAt.look {w:World} {b:Nat} {l:List ByteArray} {k:Nat} (h:SeenAt w b l k) (x:ByteArray) (hx:x.size≤maxLen) :
  (Instr.lookup 153 (.map (some b)) (.string x) false).run Tryz.prog w = .ok (.bool (Tess.hasW (l.take k) x)) w:=by
 obtain ⟨v,ps,Ab,hv⟩:=World.ownsMap.lookup h lawStr Tryz.underlying153 (zeroBool w) (plainElem_bool Tryz.underlying4 false) (keyOf_string_mk Tryz.underlying9 hx)
 obtain ⟨c,rfl,hc⟩:=pEb Tryz.underlying4 hv
 rw [Ab]
 have Aa:(setOf (H:=Unit) (.lit (.bool true)) ((l.take k).map skey)).atKey (skey x) (.lit (.bool false)) = .lit (.bool c):=(Prod.ext_iff.1 hc).1
 cases hh:Tess.hasW (l.take k) x
 ·rw [Tess.hWn] at hh
  unfold setOf at Aa
  rw [aKf _ _ _ _ _ (fun e=>by obtain ⟨y,hy,e⟩:=List.mem_map.1 e;exact hh (skey_inj e ▸ hy))] at Aa
  have:(DataW.map (H:=Unit) []).atKey (skey x) (.lit (.bool false)) = .lit (.bool false):=rfl
  rw [this] at Aa
  cases Aa;rfl
 ·rw [Tess.hWi] at hh
  unfold setOf at Aa
  rw [aKf2 _ _ _ _ _ isMap_empty (by unfold skey WideAt.IsKeyLit;trivial) (List.mem_map.2 ⟨x,hh,rfl⟩)] at Aa
  cases Aa;rfl
set_option maxRecDepth 100000 in
set_option maxHeartbeats 1000000 in
theorem areNames_any (v:Value) (l:List ByteArray) (w:World) (hv:SlOf w v (l.map .string)) (hs:∀ x ∈ l,x.size≤maxLen) :
  Calls Tryz.prog 52 #[v] w fun e w'=>e = .returned (.bool (Tess.nO4 l))∧Below w.heap.size w w':=by
 obtain ⟨a,Au,rfl,hl,hc⟩:=so2 hv
 have HC:=Hd hc
 have HS:=Hd hs
 clear hc hv hs
 have Aq:=@run_makeMap Tryz.prog
 go_enter Tryz.func52,Tryz.ntmps52
 go_wp2
 go_loopw [9] (fun i wr => ∃ k:Nat,k≤l.length∧i = .int .i64 k∧SeenAt wr w.heap.size l k∧(l.take k).Nodup∧(∀ x ∈ l.take k,Tess.nO3 x=true)∧Below w.heap.size w wr) (fun i _=>l.length - (intOf i).toNat)
 case atStart=>exact ⟨0,Nat.zero_le _,rfl,World.ownsMap_made _ _ _ _,by simp,by simp,(Below.refl _ _).alloc (Nat.le_refl _) _⟩
 case round=>
  obtain ⟨k,hk,rfl,hm,An,Am,hB⟩:=hrel
  have HM:=Hd hm
  have Ai:=Hd An
  have Al:=Hd Am
  have HB:=Hd hB
  clear hm An Am hB Aq
  by_cases hlt:k < l.length
  ·obtain ⟨b,Ak,rfl,hb,Ag⟩:=HC.out k hlt
   have Af:wr.cell? ⟨b,Ak + k,none⟩=some (.string l[k]):=(HB.out.cell (p:=⟨b,Ak + k,none⟩) hb).trans Ag
   have Ap:(k:Int) < (l.length:Int):=by omega
   obtain ⟨y,hy⟩:∃ y,y=l[k]:=⟨_,rfl⟩
   rw [← hy] at Af
   have Ab:y.size≤maxLen:=by rw [hy];exact HS.out _ (List.getElem_mem hlt)
   have At:=Hd Ab
   have Aa:=SeenAt.look HM.out y Ab
   have Aj:=Hd (fun w=>isName_any y w Ab)
   have HT:=Hd (List.take_succ_eq_append_getElem hlt)
   have HY:=Hd hy
   clear hy Ag Ab
   cases hhas:Tess.hasW (l.take k) y
   ·cases hnm:Tess.nO3 y
    ·rw [hhas] at Aa
     go_wp2_with (go_at_call 85;refine (Aj.out _).mono ?_;rintro e w2 ⟨rfl,Ad⟩;rw [hnm];have Ae:=Hd (Bt HB.out Ad);clear Ad)
     go_ret
     refine ⟨rb2 ?_,Ae.out⟩
     rw [eq_comm,Bool.eq_false_iff,ne_eq,Tess.nOi]
     rintro ⟨_,h⟩
     have:=h y (by rw [HY.out];exact List.getElem_mem hlt)
     rw [hnm] at this;cases this
    ·rw [hhas] at Aa
     go_wp2_with (first
      | (go_at_call 85;refine (Aj.out _).mono ?_;rintro e w2 ⟨rfl,Ad⟩;rw [hnm];have Ar:=Hd (World.ownsMap.kept HM.out (Below.gN2 Ad) (by simp));have Ae:=Hd (Bt HB.out Ad);clear Ad Aa)
      | (at_mapUpdate;refine wpList_mapUpdate_own _ rfl _ _ _ 153 rfl 9 4 lawStr Tryz.underlying153 _ w.heap.size k _ rfl Ar.out (by unfold maxLen;omega) _ _ _ rfl rfl (keyOf_string_mk Tryz.underlying9 At.out) _ [] (plainElem_bool Tryz.underlying4 true) ?_;intro w3 Ac Ah;have Ao:=Hd Ac;have As:=Hd (Ae.out.grown Ah Ae.out.size (fun j e=>by cases e;exact Nat.le_refl _));clear Ac Ah))
     go_roundw
     case rel=>
      refine ⟨k + 1,by omega,by go_num,?_,?_,?_,As.out⟩
      ·unfold SeenAt
       rw [HT.out,List.map_append,List.map_singleton,setOf_snoc,← HY.out]
       exact Ao.out
      ·rw [HT.out,List.nodup_append]
       refine ⟨Ai.out,by simp,fun z hz z' hz' e => ?_⟩
       rw [List.mem_singleton] at hz'
       rw [Tess.hWn] at hhas
       exact hhas (by rw [HY.out,← hz',← e];exact hz)
      ·intro z hz
       rw [HT.out,List.mem_append,List.mem_singleton] at hz
       rcases hz with hz | rfl
       ·exact Al.out z hz
       ·rw [← HY.out];exact hnm
     case measure=>simp [intOf];omega
   ·rw [hhas] at Aa
    go_wp2_with fail
    go_ret
    refine ⟨rb2 ?_,HB.out⟩
    rw [eq_comm,Bool.eq_false_iff,ne_eq,Tess.nOi]
    rintro ⟨h,_⟩
    rw [Tess.hWi] at hhas
    have h1:(l.take (k + 1)).Nodup:=List.Sublist.nodup (List.take_sublist _ _) h
    rw [HT.out,List.nodup_append] at h1
    exact h1.2.2 y hhas y (by rw [HY.out];simp) rfl
  ·have Ap:¬ (k:Int) < (l.length:Int):=by omega
   have e:l.take k=l:=List.take_of_length_le (by omega)
   have HE:=Hd e
   clear e
   go_wp2
   go_ret
   exact ⟨rb2 ((Tess.nOi l).2 ⟨HE.out ▸ Ai.out,HE.out ▸ Al.out⟩).symm,HB.out⟩
end Go.Proofs.YtaddkkkchkdgkaaGreatDoor
namespace Go.Proofs.YtaddkkkchkdgkaaGreatDoor
open Go.RowKit Go.Sort
set_option maxRecDepth 100000 in
set_option maxHeartbeats 2000000 in
theorem concat_any (b:Nat) (vd vm:Value) (ds ms:List ByteArray) (w:World) (hd:SlOf w vd (ds.map .string)) (hm:SlOf w vm (ms.map .string)) (hnil:NilOk vm) (h1:1≤ds.length) (h2:ds.length≤6) (h3:ms.length≤4)
  (c0:w.cell? ⟨b,0,none⟩=some vd) (c1:w.cell? ⟨b,1,none⟩=some vm) :
  Calls Tryz.prog 53 #[.slice (some ⟨b,0,none⟩) 2 2] w fun e w' => ∃ v',e = .returned v'∧SlOf w' v' ((ds ++ ms).map .string)∧Below w.heap.size w w':=by
 obtain ⟨_,ad,Ar,rfl,An⟩:=hd
 obtain ⟨_,am,Aj,rfl,Af⟩:=hm
 simp only [List.length_map] at An Af c0 c1
 obtain ⟨db,Ac,rfl,A9,Aw⟩:=An (by omega)
 have Bf:=Hd Aw
 have At:=Hd Af
 clear An Aw Af
 obtain ⟨nd,As⟩:∃ nd,ds.length=nd:=⟨_,rfl⟩
 obtain ⟨nm,Am⟩:∃ nm,ms.length=nm:=⟨_,rfl⟩
 rw [As] at h1 h2 c0
 rw [Am] at h3 c1
 have Be:=Hd As
 have Aq:=Hd Am
 clear As Am
 have e1:((nd:Int) + (nm:Int))=((nd + nm:Nat):Int):=by omega
 have Al:=World.block_lt_of_cell? w _ c0
 simp only at Al
 obtain ⟨i0,hi,Au,Ay,Az⟩:=info_parts iS2
 have HG:=Hd (grow_any (nd + nm) w (by omega) (by omega))
 have A3:=Hd e1
 clear e1
 go_enter Tryz.func53,Tryz.ntmps53
 go_wp2_with fail
 refine wp_loop_rounds 3 ?_
 rw [rounds_succ]
 go_wp2_with fail
 rw [rounds_succ]
 go_wp2_with fail
 rw [rounds_succ]
 go_wp2_with (go_at_call 86;rw [A3.out];refine HG.out.mono ?_;rintro e w1 ⟨G,rfl,Ah,Ax,A1⟩;have HO:=Hd Ah;have Ae:=Hd Ax;have Bi:=Hd A1;clear Ah Ax A1)
 have Bc:=(Ae.out.cell (p:=⟨b,0,none⟩) Al).trans c0
 have A6:=(Ae.out.cell (p:=⟨b,1,none⟩) Al).trans c1
 refine wp_loop_rounds 3 ?_
 rw [rounds_succ]
 go_wp2_with (at_builtin;refine wpList_append_own _ rfl _ _ 22 rfl w.heap.size 9 i0 (.string ByteArray.empty) 1 16 Tryz.underlying22 hi Au Ay Az rfl (by decide) _ 0 [] rfl HO.out ⟨db,Ac,none⟩ nd Ar (ds.map .string) rfl ?_ ?_ ?_ ?_ ?_ ?_ ?_)
 ·rw [List.length_map,Be.out,Nat.mul_one]
 ·intro j u hj
  rw [List.getElem?_map] at hj
  obtain ⟨x,hx,rfl⟩:=Option.map_eq_some_iff.1 hj
  obtain ⟨Ap,rfl⟩:=List.getElem?_eq_some_iff.1 hx
  have:=Bf.out j Ap
  rw [show (⟨db,Ac,none⟩:Addr).add j=⟨db,Ac + j,none⟩ by unfold Addr.add;split <;> simp_all]
  rw [Ae.out.cell (p:=⟨db,Ac + j,none⟩) A9]
  simpa using this
 ·intro u hu;obtain ⟨x,_,rfl⟩:=List.mem_map.1 hu;rfl
 ·unfold maxLen;omega
 ·omega
 ·exact Ae.out.size
 intro v2 w2 Ab Av _
 obtain ⟨g2,Bg,rfl,_⟩:=oc2 Ab (by omega)
 have Ak:=Hd Ab
 have Ao:=Ae.out.grown Av Ae.out.size (fun j e=>(HO.out.lt j e).1)
 have Ag:=Hd Ao
 have Bh:=(Ao.cell (p:=⟨b,1,none⟩) Al).trans c1
 clear Ab Av Ao Bc A6
 go_wp2
 rw [rounds_succ]
 have Bb:=Ag.out.size
 cases am with
 | none=>
   have A5:Aj=0:=hnil _ _ rfl
   subst A5
   have h0:nm=0:=by
    rcases Nat.eq_zero_or_pos nm with h | h
    ·exact h
    ·obtain ⟨_,_,e,_⟩:=At.out (by rw [Aq.out];exact h)
     cases e
   subst h0
   have he:ms=[]:=List.eq_nil_of_length_eq_zero Aq.out
   go_wp2_with (at_builtin;refine wpList_append_own_none rfl _ _ 22 rfl w.heap.size 9 i0 1 Tryz.underlying22 hi _ _ _ rfl Ak.out rfl ?_)
   rw [rounds_succ]
   go_wp2
   go_ret
   refine ⟨_,rfl,?_,Ag.out⟩
   rw [he,List.append_nil]
   simpa using SlOf.owned Ak.out
 | some ma=>
   obtain ⟨mb,Aa,A2⟩:=ma
   have Af:∀ j u,(ms.map Value.string)[j]? = some u→w2.cell? ((⟨mb,Aa,A2⟩:Addr).add j)=some u:=by
    intro j u hj
    obtain ⟨Ap,rfl⟩:=List.getElem?_eq_some_iff.1 hj
    have A8:j < ms.length:=by simpa using Ap
    obtain ⟨b',A4,e,Ba,Ai⟩:=At.out (by omega)
    cases e
    rw [show (⟨mb,Aa,none⟩:Addr).add j=⟨mb,Aa + j,none⟩ by unfold Addr.add;split <;> simp_all]
    rw [Ag.out.cell (p:=⟨mb,Aa + j,none⟩) Ba]
    exact Ai j A8
   have HX:=Hd Af
   clear Af
   go_wp2_with (at_builtin;refine wpList_append_own _ rfl _ _ 22 rfl w.heap.size 9 i0 (.string ByteArray.empty) 1 16 Tryz.underlying22 hi Au Ay Az rfl (by decide) _ _ _ rfl Ak.out ⟨mb,Aa,A2⟩ nm Aj (ms.map .string) rfl ?_ HX.out ?_ ?_ ?_ ?_ ?_)
   ·rw [List.length_map,Aq.out,Nat.mul_one]
   ·intro u hu;obtain ⟨x,_,rfl⟩:=List.mem_map.1 hu;rfl
   ·unfold maxLen;omega
   ·omega
   ·exact Ag.out.size
   intro v3 w3 Ad A0 _
   have Bd:=Hd Ad
   have A7:=Hd (Ag.out.grown A0 Ag.out.size (fun j e=>(Ak.out.lt j e).1))
   clear Ad A0
   go_wp2
   rw [rounds_succ]
   go_wp2
   go_ret
   refine ⟨_,rfl,?_,A7.out⟩
   rw [List.map_append]
   simpa using SlOf.owned Bd.out
theorem swithin_any (n a b:Nat) (w:World):Calls Tryz.prog 51 #[.int .i64 n,.int .i64 a,.int .i64 b] w fun e w'=>e = .returned (.bool (Tess.Fil.inW n (a,b)))∧w=w':=by
 unfold Tess.Fil.inW
 by_cases h1:a≤n
 ·have Ab:(a:Int)≤(n:Int):=by omega
  have Aa:decide ((a:Int)≤(n:Int))=true:=decide_eq_true Ab
  obtain ⟨r,hr⟩:∃ r,decide (n≤b)=r:=⟨_,rfl⟩
  have Ac:decide ((n:Int)≤(b:Int))=r:=by rw [← hr];exact decide_eq_decide.2 (by omega)
  rw [decide_eq_true h1,hr]
  go_enter Tryz.func51,Tryz.ntmps51
  go_wp2
  go_ret
  exact ⟨rfl,rfl⟩
 ·have Aa:decide ((a:Int)≤(n:Int))=false:=decide_eq_false (by omega)
  rw [decide_eq_false h1,Bool.false_and]
  go_enter Tryz.func51,Tryz.ntmps51
  go_wp2
  go_ret
  exact ⟨rfl,rfl⟩
theorem sl3 {p:Nat→Prop} {w:World} {v:Value} {l:List ByteArray} (h:SlP p w v (l.map .string)):∃ a cap,v = .slice a l.length cap∧l.length≤9223372036854775807:=by
 obtain ⟨a,cap,hv,hl,_⟩:=so2 h.1
 exact ⟨a,cap,hv,hl⟩
end Go.Proofs.YtaddkkkchkdgkaaGreatDoor
namespace Go.Proofs.YtaddkkkchkdgkaaGreatDoor
open Go.RowKit Go.Sort
set_option maxRecDepth 100000 in
set_option maxHeartbeats 2000000 in
theorem sRa (v:Value) (s:Tess.Sch) (p:Nat→Prop) (w:World) (hv:SA p w v s) :
  Calls Tryz.prog 30 #[v] w fun e w'=>e = .returned (.bool (Tess.sO2 s))∧Below w.heap.size w w':=by
 obtain ⟨vd,vm,rfl,hd,hm,Ac,Ad⟩:=hv
 obtain ⟨ds,ms,g⟩:=s
 simp only at hd hm Ac Ad
 obtain ⟨ad,An,rfl,As⟩:=sl3 hd
 obtain ⟨am,Ar,rfl,At⟩:=sl3 hm
 have Ap:=Hd (show ∀ x ∈ ds ++ ms,x.size≤maxLen from fun x hx=>by rcases List.mem_append.1 hx with h | h;exact Ac x h;exact Ad x h)
 have HD:=Hd hd
 have HM:=Hd hm
 clear hd hm Ac Ad
 have HW:=Hd (fun w=>swithin_any ds.length 1 6 w)
 have Aa:RowKit.Hid (Tess.sO2 ⟨ds,ms,g⟩=(Tess.Fil.inW ds.length (1,6) && decide (ms.length≤4) && decide (1≤g) && decide (g≤1000000000) && Tess.nO4 (ds ++ ms))):=Hd rfl
 by_cases h1:Tess.Fil.inW ds.length (1,6)=true
 ·by_cases h2:ms.length≤4
  ·have Ak:decide ((ms.length:Int)≤4)=true:=decide_eq_true (by omega)
   by_cases h3:1≤g
   ·by_cases h4:g≤1000000000
    ·have Ab:1≤ds.length∧ds.length≤6:=by unfold Tess.Fil.inW at h1;simpa using h1
     have HF:RowKit.Hid (Tess.sO2 ⟨ds,ms,g⟩=Tess.nO4 (ds ++ ms)):=Hd (by rw [Aa.out,h1,decide_eq_true h2,decide_eq_true h3,decide_eq_true h4];rfl)
     have HL:=Hd Ab
     clear Aa
     have Ae:decide (1≤g)=true:=decide_eq_true h3
     have Ah:decide (g≤1000000000)=true:=decide_eq_true h4
     clear Ab
     rw [HF.out]
     have Ao:=Hd (fun (b:Nat) (W:World) (hB:Below w.heap.size w W)=>concat_any b _ _ ds ms W (HD.out.1.below hB) (HM.out.1.below hB) HM.out.2.2 HL.out.1 HL.out.2 (by omega))
     have Am:=Hd (fun (v:Value) (W:World) (h:SlOf W v ((ds ++ ms).map .string))=>areNames_any v (ds ++ ms) W h Ap.out)
     generalize Tess.nO4 (ds ++ ms)=nk at *
     go_enter Tryz.func30,Tryz.ntmps30
     go_wp2_with (first
      | (go_at_call 51;refine (HW.out _).mono ?_;rintro e w2 ⟨rfl,rfl⟩;rw [h1])
      | (go_at_call 53;refine (Ao.out _ _ (((Below.refl _ _).alloc (Nat.le_refl _) _).alloc (by simp) _) (by simp) (by simp)).mono ?_;rintro e w3 ⟨v3,rfl,Ag,Ai⟩;have Al:=Hd Ag;have Aq:=Hd ((((Below.refl _ _).alloc (Nat.le_refl _) _).alloc (by simp) _).trans (Ai.mono (by simp <;> omega)));clear Ag Ai)
      | (go_at_call 52;refine (Am.out _ _ Al.out).mono ?_;rintro e w4 ⟨rfl,Af⟩;have Aj:=Hd (Bt Aq.out Af);clear Af))
     go_ret
     exact ⟨rfl,Aj.out⟩
    ·have Ah:decide (g≤1000000000)=false:=decide_eq_false h4
     have Ae:decide (1≤g)=true:=decide_eq_true h3
     rw [Aa.out,Ah,Bool.and_false,Bool.false_and]
     clear Aa
     go_enter Tryz.func30,Tryz.ntmps30
     go_wp2_with (go_at_call 51;refine (HW.out _).mono ?_;rintro e w2 ⟨rfl,rfl⟩;rw [h1])
     go_ret
     exact ⟨rfl,(Below.refl _ _).alloc (Nat.le_refl _) _⟩
   ·have Ae:decide (1≤g)=false:=decide_eq_false h3
    rw [Aa.out,Ae,Bool.and_false,Bool.false_and,Bool.false_and]
    clear Aa
    go_enter Tryz.func30,Tryz.ntmps30
    go_wp2_with (go_at_call 51;refine (HW.out _).mono ?_;rintro e w2 ⟨rfl,rfl⟩;rw [h1])
    go_ret
    exact ⟨rfl,(Below.refl _ _).alloc (Nat.le_refl _) _⟩
  ·have Ak:decide ((ms.length:Int)≤4)=false:=decide_eq_false (by omega)
   rw [Aa.out,decide_eq_false h2,Bool.and_false,Bool.false_and,Bool.false_and,Bool.false_and]
   clear Aa
   go_enter Tryz.func30,Tryz.ntmps30
   go_wp2_with (go_at_call 51;refine (HW.out _).mono ?_;rintro e w2 ⟨rfl,rfl⟩;rw [h1])
   go_ret
   exact ⟨rfl,(Below.refl _ _).alloc (Nat.le_refl _) _⟩
 ·have h1:Tess.Fil.inW ds.length (1,6)=false:=by simpa using h1
  rw [Aa.out,h1,Bool.false_and,Bool.false_and,Bool.false_and,Bool.false_and]
  clear Aa
  go_enter Tryz.func30,Tryz.ntmps30
  go_wp2_with (go_at_call 51;refine (HW.out _).mono ?_;rintro e w2 ⟨rfl,rfl⟩;rw [h1])
  go_ret
  exact ⟨rfl,(Below.refl _ _).alloc (Nat.le_refl _) _⟩
end Go.Proofs.YtaddkkkchkdgkaaGreatDoor
namespace Go.Proofs.YtaddkkkchkdgkaaGreatDoor
open Go.RowKit Go.Sort
set_option maxRecDepth 100000 in
set_option maxHeartbeats 2000000 in
theorem place_any (v vl:Value) (s:Tess.Sch) (l:List ByteArray) (x:ByteArray) (p:Nat→Prop) (w:World) (hv:SA p w v s) (hl:SlOf w vl (l.map .string)) :
  Calls Tryz.prog 143 #[v,vl,.string x] w fun e w'=>e = .returned (.tuple #[.int .i64 ((Tess.pW (Tess.sO2 s) l x).1:Nat),.bool (Tess.pW (Tess.sO2 s) l x).2])∧Below w.heap.size w w':=by
 have HR:=Hd (fun W (hB:Below w.heap.size w W)=>sRa v s p W (hv.ag (Ag.new p hB)))
 have HI:=Hd (fun W (hB:Below w.heap.size w W)=>ia2 vl l x W (hl.below hB))
 obtain ⟨vd,vm,rfl,hd,hm,_,_⟩:=hv
 obtain ⟨ad,Ae,rfl,_⟩:=sl3 hd
 obtain ⟨am,Af,rfl,_⟩:=sl3 hm
 obtain ⟨al,Ad,rfl,_,_⟩:=so2 hl
 clear hd hm hl
 have HP:RowKit.Hid (∀ r,r=Tess.pW (Tess.sO2 s) l x→r=if Tess.sO2 s && Tess.hasW l x then (Tess.idxW l x,true) else (0,false)):=Hd fun r h=>h
 obtain ⟨r,hr⟩:∃ r,r=Tess.pW (Tess.sO2 s) l x:=⟨_,rfl⟩
 rw [← hr]
 have Aa:=Hd (HP.out r hr)
 clear hr HP
 cases hok:Tess.sO2 s
 ·rw [hok] at HR Aa
  have Ac:=Hd (show r=(0,false) from Aa.out)
  obtain ⟨i,hi⟩:∃ i:Int,(if Tess.hasW l x then ((Tess.idxW l x:Nat):Int) else -1)=i:=⟨_,rfl⟩
  rw [hi] at HI
  clear hi Aa
  rw [Ac.out]
  go_enter Tryz.func143,Tryz.ntmps143
  go_wp2_with (first
   | (go_at_call 165;refine (HI.out _ ((Below.refl _ _).alloc (Nat.le_refl _) _)).mono ?_;rintro e w2 ⟨rfl,rfl⟩)
   | (go_at_call 30;refine (HR.out _ ((Below.refl _ _).alloc (Nat.le_refl _) _)).mono ?_;rintro e w2 ⟨rfl,Ab⟩;have HB:=Hd (((Below.refl _ _).alloc (Nat.le_refl _) _).trans (Ab.mono (by simp)));clear Ab))
  go_ret2
  exact ⟨rfl,HB.out⟩
 ·rw [hok] at HR Aa
  rw [Bool.true_and] at Aa
  cases hh:Tess.hasW l x
  ·rw [hh] at HI Aa
   have Ac:=Hd (show r=(0,false) from Aa.out)
   simp only [Bool.false_eq_true,if_false] at HI
   rw [Ac.out]
   go_enter Tryz.func143,Tryz.ntmps143
   go_wp2_with (first
    | (go_at_call 165;refine (HI.out _ ((Below.refl _ _).alloc (Nat.le_refl _) _)).mono ?_;rintro e w2 ⟨rfl,rfl⟩)
    | (go_at_call 30;refine (HR.out _ ((Below.refl _ _).alloc (Nat.le_refl _) _)).mono ?_;rintro e w2 ⟨rfl,Ab⟩;have HB:=Hd (((Below.refl _ _).alloc (Nat.le_refl _) _).trans (Ab.mono (by simp)));clear Ab))
   go_ret2
   exact ⟨rfl,HB.out⟩
  ·rw [hh] at HI Aa
   have Ac:=Hd (show r=(Tess.idxW l x,true) from Aa.out)
   simp only [if_true] at HI
   generalize Tess.idxW l x=n at *
   have hn:¬ (n:Int) < 0:=by omega
   have Ah:decide ((n:Int) < 0)=false:=decide_eq_false hn
   rw [Ac.out]
   go_enter Tryz.func143,Tryz.ntmps143
   go_wp2_with (first
    | (go_at_call 165;refine (HI.out _ ((Below.refl _ _).alloc (Nat.le_refl _) _)).mono ?_;rintro e w2 ⟨rfl,rfl⟩)
    | (go_at_call 30;refine (HR.out _ ((Below.refl _ _).alloc (Nat.le_refl _) _)).mono ?_;rintro e w2 ⟨rfl,Ab⟩;have HB:=Hd (((Below.refl _ _).alloc (Nat.le_refl _) _).trans (Ab.mono (by simp)));clear Ab))
   go_ret2
   exact ⟨rfl,HB.out⟩
set_option maxRecDepth 100000 in
set_option maxHeartbeats 1000000 in
theorem dim_any (v:Value) (s:Tess.Sch) (x:ByteArray) (p:Nat→Prop) (w:World) (hv:SA p w v s) :
  Calls Tryz.prog 104 #[v,.string x] w fun e w'=>e = .returned (.tuple #[.int .i64 ((Tess.dimW s x).1:Nat),.bool (Tess.dimW s x).2])∧Below w.heap.size w w':=by
 have HV:=Hd hv
 obtain ⟨vd,vm,rfl,hd,hm,_,_⟩:=hv
 have HP:=Hd (fun W (hB:Below w.heap.size w W)=>place_any _ vd s s.dims x p W (HV.out.ag (Ag.new p hB)) (hd.1.below hB))
 obtain ⟨ad,Ab,rfl,_⟩:=sl3 hd
 obtain ⟨am,Ac,rfl,_⟩:=sl3 hm
 clear hd hm
 have HD:RowKit.Hid (Tess.dimW s x=Tess.pW (Tess.sO2 s) s.dims x):=Hd rfl
 rw [← HD.out] at HP
 generalize Tess.dimW s x=r at *
 obtain ⟨r1,r2⟩:=r
 simp only at HP
 go_enter Tryz.func104,Tryz.ntmps104
 go_wp2_with (go_at_call 143;refine (HP.out _ ((Below.refl _ _).alloc (Nat.le_refl _) _)).mono ?_;rintro e w2 ⟨rfl,Aa⟩;have HB:=Hd (((Below.refl _ _).alloc (Nat.le_refl _) _).trans (Aa.mono (by simp)));clear Aa)
 go_ret2
 exact ⟨rfl,HB.out⟩
end Go.Proofs.YtaddkkkchkdgkaaGreatDoor
