/- Joined by mergeQ.py: F2, F3, F4, F5 -/
import Derived.Test.YtbbgjjjeecfnoaaGreatDoorXFl
import Derived.Test.YtbbgjjjeecfnoaaGreatDoorRows
import Derived.Test.YtbbgjjjeecfnoaaGreatDoorXPA
import Derived.Laws.RangeAny
import Derived.Lib.AppendZerosOnto
import Derived.Maps.OwnSet
namespace Go
open Go.RowKit
theorem Flow.bcell {W w1:World} (hb:Below W.heap.size W w1):(∀ b o,b < W.heap.size→w1.cell? ⟨b,o,none⟩=W.cell? ⟨b,o,none⟩):=
 fun b o h=>hb.cell (p:=⟨b,o,none⟩) h
def cutN (n:Nat) (s:ByteArray):ByteArray:=s.extract 0 n
theorem cutN_size (n:Nat) (s:ByteArray):(cutN n s).size≤n:=by simp [cutN];omega
theorem cutN_self (n:Nat) (s:ByteArray) (h:s.size≤n):cutN n s=s:=by
 apply ByteArray.ext
 have:s.data.size≤n:=h
 simp [cutN];omega
def blk:Value→Option Nat
 | .slice (some a) _ _=>some a.block
 | _=>none
def Ag (p:Nat→Prop) (w w':World):Prop:=w.heap.size≤w'.heap.size∧∀ b,b < w.heap.size→p b→w'.heap[b]? = w.heap[b]?
def NilOk (v:Value):Prop:=∀ n c,v = .slice none n c→c=0
def SlP (p:Nat→Prop) (w:World) (v:Value) (cs:List Value):Prop:=SlOf w v cs∧(0 < cs.length→∀ b,blk v=some b→p b)∧NilOk v
section
variable {p q:Nat→Prop} {w w' w'':World} {v:Value} {cs:List Value}
theorem Ag.refl (p:Nat→Prop) (w:World):Ag p w w:=⟨Nat.le_refl _,fun _ _ _=>rfl⟩
theorem Ag.trans (h:Ag p w w') (k:Ag p w' w''):Ag p w w'':=⟨Nat.le_trans h.1 k.1,fun b hb hp=>(k.2 b (Nat.lt_of_lt_of_le hb h.1) hp).trans (h.2 b hb hp)⟩
theorem Ag.below (p:Nat→Prop) {B:Nat} (h:Below B w w') (hB:∀ b,b < w.heap.size→p b→b < B):Ag p w w':=⟨h.size,fun b hb hp=>h.block b (hB b hb hp)⟩
theorem Ag.new (p:Nat→Prop) (h:Below w.heap.size w w'):Ag p w w':=Ag.below p h fun _ hb _=>hb
theorem Ag.weak (h:Ag q w w') (hpq:∀ b,p b→q b):Ag p w w':=⟨h.1,fun b hb hp=>h.2 b hb (hpq b hp)⟩
theorem Ag.set (p:Nat→Prop) (w:World) {a:Addr} (v:Value) (h:¬ p a.block):Ag p w (w.setCell a v):=
 ⟨by simp [World.setCell],fun b _ hp=>heap_setCell_other w a b v (fun e=>h (e ▸ hp))⟩
theorem Ag.grown {o:Option Nat} (h:w.grownBy w' o) (hp:∀ g,o=some g→¬ p g):Ag p w w':=
 ⟨h.size,fun b hb hpb=>h.block b hb (fun e=>hp b e.symm hpb)⟩
theorem Ag.cell (h:Ag p w w') {b o:Nat} (hb:b < w.heap.size) (hp:p b):w'.cell? ⟨b,o,none⟩=w.cell? ⟨b,o,none⟩:=World.cell?_of_block (h.2 b hb hp)
theorem SlP.ag (h:SlP p w v cs) (hg:Ag p w w'):SlP p w' v cs:=by
 obtain ⟨⟨h0,a,cap,hv,hc⟩,hp,hn⟩:=h
 refine ⟨⟨h0,a,cap,hv,fun hl => ?_⟩,hp,hn⟩
 obtain ⟨b,off,rfl,hb,hcell⟩:=hc hl
 exact ⟨b,off,rfl,Nat.lt_of_lt_of_le hb hg.1,fun j hj=>(hg.cell hb (hp hl b (by rw [hv];rfl))).trans (hcell j hj)⟩
theorem SlP.weak (h:SlP p w v cs) (hpq:∀ b,p b→q b):SlP q w v cs:=⟨h.1,fun hl b hb=>hpq b (h.2.1 hl b hb),h.2.2⟩
theorem SlP.lt (h:SlP p w v cs):SlP (fun b=>p b∧b < w.heap.size) w v cs:=by
 refine ⟨h.1,fun hl b hb=>⟨h.2.1 hl b hb,?_⟩,h.2.2⟩
 obtain ⟨⟨h0,a,cap,hv,hc⟩,hp⟩:=h
 obtain ⟨b',off,rfl,hb',hcell⟩:=hc hl
 rw [hv] at hb;cases hb;exact hb'
theorem SlP.of (h:SlOf w v cs) (hn:NilOk v):SlP (fun _=>True) w v cs:=⟨h,fun _ _ _=>trivial,hn⟩
theorem SlP.nil (p:Nat→Prop) (w:World):SlP p w (.slice none 0 0) []:=⟨SlOf.nil w,fun h=>absurd h (by simp),fun n c e=>by cases e;rfl⟩
theorem SlP.shape (h:SlP p w v cs):∃ a n c,v = .slice a n c:=let ⟨⟨_,a,c,hv,_⟩,_⟩:=h;⟨a,_,c,hv⟩
theorem SlP.owned {base:Nat} {e:TypeId} {n:Nat} (h:w.ownsRow base e 1 v n cs):SlP (fun b=>base≤b) w v cs:=by
 refine ⟨SlOf.owned h,fun _ b hb => ?_,fun n c e => ?_⟩
 ·obtain ⟨_,⟨rfl,_⟩ | ⟨g,cap,cur,rfl,hg,_⟩⟩:=h
  ·cases hb
  ·cases hb;exact hg
 ·obtain ⟨_,⟨rfl,_⟩ | ⟨g,cap,cur,rfl,hg,_⟩⟩:=h
  ·cases e;rfl
  ·cases e
end
section
variable (w:World) (A B C D E:Obj)
theorem laid1:(w.alloc A).heap[w.heap.size]? = some A∧(w.alloc A).heap.size=w.heap.size + 1∧Below w.heap.size w (w.alloc A):=⟨heap_alloc_new w A,by simp,(Below.refl _ _).alloc (Nat.le_refl _) _⟩
theorem laid2:((w.alloc A).alloc B).heap[w.heap.size]? = some A∧((w.alloc A).alloc B).heap[w.heap.size + 1]? = some B∧((w.alloc A).alloc B).heap.size=w.heap.size + 2∧Below w.heap.size w ((w.alloc A).alloc B):=by
 obtain ⟨h1,h2,h3⟩:=laid1 w A
 obtain ⟨k1,k2,k3⟩:=laid1 (w.alloc A) B
 rw [h2] at k1
 exact ⟨(k3.block _ (by omega)).trans h1,k1,by rw [k2,h2],h3.trans (k3.mono (by omega))⟩
theorem laid3:(((w.alloc A).alloc B).alloc C).heap[w.heap.size]? = some A∧(((w.alloc A).alloc B).alloc C).heap[w.heap.size + 1]? = some B∧(((w.alloc A).alloc B).alloc C).heap[w.heap.size + 2]? = some C∧(((w.alloc A).alloc B).alloc C).heap.size=w.heap.size + 3∧Below w.heap.size w (((w.alloc A).alloc B).alloc C):=by
 obtain ⟨h1,h2,h3,h4⟩:=laid2 w A B
 obtain ⟨k1,k2,k3⟩:=laid1 ((w.alloc A).alloc B) C
 rw [h3] at k1
 exact ⟨(k3.block _ (by omega)).trans h1,(k3.block _ (by omega)).trans h2,k1,by rw [k2,h3],h4.trans (k3.mono (by omega))⟩
theorem laid4:((((w.alloc A).alloc B).alloc C).alloc D).heap[w.heap.size]? = some A∧((((w.alloc A).alloc B).alloc C).alloc D).heap[w.heap.size + 1]? = some B∧((((w.alloc A).alloc B).alloc C).alloc D).heap[w.heap.size + 2]? = some C∧((((w.alloc A).alloc B).alloc C).alloc D).heap[w.heap.size + 3]? = some D∧((((w.alloc A).alloc B).alloc C).alloc D).heap.size=w.heap.size + 4∧Below w.heap.size w ((((w.alloc A).alloc B).alloc C).alloc D):=by
 obtain ⟨h1,h2,h3,h4,h5⟩:=laid3 w A B C
 obtain ⟨k1,k2,k3⟩:=laid1 (((w.alloc A).alloc B).alloc C) D
 rw [h4] at k1
 exact ⟨(k3.block _ (by omega)).trans h1,(k3.block _ (by omega)).trans h2,(k3.block _ (by omega)).trans h3,k1,by rw [k2,h4],h5.trans (k3.mono (by omega))⟩
end
end Go
namespace Go.Proofs.YtbbgjjjeecfnoaaGreatDoor
open Go.RowKit Go.Sort
theorem infoStr:(Tryz.prog.info? 9).map (fun i=>(i.zero,i.size,i.bytes))=some (some (.string ByteArray.empty),1,16):=by kernel_rfl
def namesV (m _n:Nat) (l:List ByteArray) (k:Nat):List Value:=((l.take k).map (cutN m)).map .string
def namesN (m n:Nat) (l:List ByteArray):List ByteArray:=(l.take n).map (cutN m)
theorem names_snoc (m n:Nat) (l:List ByteArray) (k:Nat) (h:k < l.length) (x:ByteArray) (hx:cutN m l[k]=x):namesV m n l k ++ [.string x]=namesV m n l (k + 1):=by
 unfold namesV
 rw [List.take_succ_eq_append_getElem h,← hx,List.map_append,List.map_append];rfl
theorem names_end (m n:Nat) (l:List ByteArray) (k:Nat) (h:¬ (k < l.length∧k < n)) (h1:k≤l.length) (h2:k≤n):namesV m n l k=(namesN m n l).map .string:=by
 unfold namesN namesV
 by_cases e:k=n
 ·rw [e]
 ·rw [List.take_of_length_le (by omega),List.take_of_length_le (by omega)]
theorem names_small (m n:Nat) (l:List ByteArray) (h:m≤9223372036854775807):∀ x ∈ namesN m n l,x.size≤maxLen:=by
 intro x hx
 obtain ⟨y,_,rfl⟩:=List.mem_map.1 hx
 have:=cutN_size m y
 unfold maxLen;omega
def cutSch (s:Tess.Sch):Tess.Sch:=⟨namesN 30 10 s.dims,namesN 30 10 s.mets,s.grain⟩
def SchAt (p:Nat→Prop) (w:World) (v:Value) (s:Tess.Sch):Prop:=
 ∃ vd vm,v = .agg #[vd,vm,.int .i64 s.grain]∧SlP p w vd (s.dims.map .string)∧SlP p w vm (s.mets.map .string)∧(∀ x ∈ s.dims,x.size≤maxLen)∧(∀ x ∈ s.mets,x.size≤maxLen)
theorem SchAt.ag {p:Nat→Prop} {w w':World} {v:Value} {s:Tess.Sch} (h:SchAt p w v s) (hg:Ag p w w'):SchAt p w' v s:=
 let ⟨vd,vm,h1,h2,h3,h4,h5⟩:=h;⟨vd,vm,h1,h2.ag hg,h3.ag hg,h4,h5⟩
theorem SchAt.weak {p q:Nat→Prop} {w:World} {v:Value} {s:Tess.Sch} (h:SchAt p w v s) (hpq:∀ b,p b→q b):SchAt q w v s:=
 let ⟨vd,vm,h1,h2,h3,h4,h5⟩:=h;⟨vd,vm,h1,h2.weak hpq,h3.weak hpq,h4,h5⟩
structure Cs (B:Nat) (vd vm:Value) (g:Int) (od om:Value) (w W:World):Prop where
 k1:W.heap[B]? = some (.cells #[vd,vm,.int .i64 g] 24 (0,0))
 k2:W.heap[B + 1]? = some (.cells #[.slice none 0 0,.slice none 0 0,.int .i64 0] 24 (0,0))
 k3:W.heap[B + 2]? = some (.cells #[od,om,.int .i64 0] 24 (0,0))
 below:Below w.heap.size w W
 size:w.heap.size=B
section
variable {B:Nat} {vd vm od om od':Value} {g:Int} {w W W':World}
theorem Cs.later (h:Cs B vd vm g od om w W) (hb:Below W.heap.size W W') (hs:B + 2 < W.heap.size):Cs B vd vm g od om w W':=
 ⟨(hb.block _ (by omega)).trans h.k1,(hb.block _ (by omega)).trans h.k2,(hb.block _ (by omega)).trans h.k3,Bt h.below hb,h.size⟩
theorem Cs.grown (h:Cs B vd vm g od om w W) {o:Option Nat} (hg:W.grownBy W' o) (ho:∀ k,o=some k→B + 3≤k) (hs:B + 2 < W.heap.size):Cs B vd vm g od om w W':=
 ⟨(hg.block _ (by omega) (fun e=>by have:=ho _ e.symm;omega)).trans h.k1,(hg.block _ (by omega) (fun e=>by have:=ho _ e.symm;omega)).trans h.k2,(hg.block _ (by omega) (fun e=>by have:=ho _ e.symm;omega)).trans h.k3,
   h.below.grown hg h.below.size (fun k e=>by have:=ho k e;have:=h.size;omega),h.size⟩
theorem Cs.set0 (h:Cs B vd vm g od om w W) (od':Value):Cs B vd vm g od' om w (W.setCell ⟨B + 2,0,none⟩ od'):=
 ⟨(heap_setCell_other _ _ _ _ (by show _≠B + 2;omega)).trans h.k1,(heap_setCell_other _ _ _ _ (by show _≠B + 2;omega)).trans h.k2,heap_setCell_same _ _ _ _ _ _ h.k3,h.below.setCell (by show _≤B + 2;have:=h.size;omega) _,h.size⟩
theorem Cs.set1 (h:Cs B vd vm g od om w W) (om':Value):Cs B vd vm g od om' w (W.setCell ⟨B + 2,1,none⟩ om'):=
 ⟨(heap_setCell_other _ _ _ _ (by show _≠B + 2;omega)).trans h.k1,(heap_setCell_other _ _ _ _ (by show _≠B + 2;omega)).trans h.k2,heap_setCell_same _ _ _ _ _ _ h.k3,h.below.setCell (by show _≤B + 2;have:=h.size;omega) _,h.size⟩
end
set_option maxRecDepth 100000 in
set_option maxHeartbeats 2000000 in
theorem cutSch_any (v:Value) (s:Tess.Sch) (w:World) (p:Nat→Prop) (hv:SchAt p w v s) :
  Calls Tryz.prog 12 #[v] w fun e w' => ∃ v',e = .returned v'∧SchAt (fun b=>w.heap.size≤b) w' v' (cutSch s)∧Below w.heap.size w w':=by
 obtain ⟨vd,vm,rfl,hd,hm,hds,hms⟩:=hv
 obtain ⟨ds,ms,g⟩:=s
 simp only at hd hm hds hms
 obtain ⟨ad,capd,rfl,hld,hcd⟩:=sls_open hd.1
 obtain ⟨am,capm,rfl,hlm,hcm⟩:=sls_open hm.1
 have HCD:=Lib.hid hcd
 have HCM:=Lib.hid hcm
 have HDS:=Lib.hid hds
 have HMS:=Lib.hid hms
 clear hcd hcm hd hm hds hms
 obtain ⟨i0,hi,hz0,hz1,hz2⟩:=info_parts infoStr
 go_enter Tryz.func12,Tryz.ntmps12
 go_wp2
 obtain ⟨W0,hW0⟩:∃ W0,((w.alloc (.cells #[.slice ad ds.length capd,.slice am ms.length capm,.int .i64 g] 24)).alloc (.cells #[.slice none 0 0,.slice none 0 0,.int .i64 0] 24)).alloc (.cells #[.slice none 0 0,.slice none 0 0,.int .i64 0] 24)=W0:=⟨_,rfl⟩
 have hC0:Cs w.heap.size (.slice ad ds.length capd) (.slice am ms.length capm) g (.slice none 0 0) (.slice none 0 0) w W0:=by
  rw [← hW0]
  obtain ⟨a1,a2,a3,a4,a5⟩:=laid3 w (.cells #[.slice ad ds.length capd,.slice am ms.length capm,.int .i64 g] 24) (.cells #[.slice none 0 0,.slice none 0 0,.int .i64 0] 24) (.cells #[.slice none 0 0,.slice none 0 0,.int .i64 0] 24)
  exact ⟨a1,a2,a3,a5,rfl⟩
 have hS0:W0.heap.size=w.heap.size + 3:=by rw [← hW0];simp
 rw [hW0]
 clear hW0
 obtain ⟨B,hBe⟩:∃ B,w.heap.size=B:=⟨_,rfl⟩
 have HBE:=Lib.hid hBe
 rw [hBe] at hC0 hS0 ⊢
 clear hBe
 go_loopw [4] (fun i wr => ∃ (k:Nat) (od:Value),k≤ds.length∧k≤10∧i = .int .i64 k∧Cs B (.slice ad ds.length capd) (.slice am ms.length capm) g od (.slice none 0 0) w wr∧wr.ownsRow (B + 3) 9 1 od k (namesV 30 10 ds k)∧B + 3≤wr.heap.size) (fun i _=>10 - (intOf i).toNat)
 case atStart=>exact ⟨0,_,Nat.zero_le _,Nat.zero_le _,rfl,hC0,by simpa [namesV] using World.ownsRow_nil W0 (B + 3) 9 1,by omega⟩
 case round=>
  obtain ⟨k,od,hk,hk10,rfl,hC,hown,hsz⟩:=hrel
  have HC:=Lib.hid hC
  have HO:=Lib.hid hown
  clear hC hown hC0 hS0
  have c1:=cell_of_row wr B 0 _ _ _ HC.out.k1
  have c3:=cell_of_row wr (B + 1 + 1) 0 _ _ _ HC.out.k3
  have z3:=frozen_of_row wr (B + 1 + 1) 0 _ _ HC.out.k3
  simp only [List.getElem?_toArray,List.getElem?_cons_zero] at c1 c3
  have s1:B < wr.heap.size:=by omega
  have s3:B + 1 + 1 < wr.heap.size:=by omega
  by_cases hlt:k < ds.length∧k < 10
  ·obtain ⟨h1,h2⟩:=hlt
   obtain ⟨b,off,rfl,hb,hcell⟩:=HCD.out k h1
   have hck:wr.cell? ⟨b,off + k,none⟩=some (.string ds[k]):=(HC.out.below.cell (p:=⟨b,off + k,none⟩) (HBE.out ▸ hb)).trans hcell
   have hdk:ds[k].size≤9223372036854775807:=HDS.out _ (List.getElem_mem h1)
   have hbw:b < wr.heap.size:=Nat.lt_of_lt_of_le hb HC.out.below.size
   clear hcell hb
   go_wp2
   obtain ⟨x,hx⟩:∃ x,x=cutN 30 ds[k]:=⟨_,rfl⟩
   have HX:=Lib.hid hx
   clear hx
   rcases (show ((30:Int) < (ds[k].size:Int)∧(¬ (ds[k].size:Int)≤30∧(30:Int)≤(ds[k].size:Int)))∨(¬ (30:Int) < (ds[k].size:Int)∧(ds[k].size:Int)≤30) by omega) with ⟨h3i,h3j⟩ | ⟨h3i,h3j⟩
   all_goals
    refine Flow.wp_region_flow_tail 16 (Flow.specs [.inl ?_,.inl ?_,.inl ?_,.inl ?_,.inl ?_,.inl ?_,.inl ?_,.inl ?_,.inl ?_,.inl ?_,.inl ?_,.inl ?_,.inl ?_,.inl ?_,.inl ?_,.inr (newOne (.string x))]) (by kernel_rfl) (by kernel_rfl) ?_ ?_
    rotate_left 15
    ·refine Flow.specs_mono ?_
     repeat (first | exact Flow.lmono_nil | refine Flow.lmono_inl ?_ | refine Flow.lmono_inr (newOne_mono _) ?_)
    all_goals try simp only [List.take_succ_cons,List.take_zero,List.drop_succ_cons,List.drop_zero]
    iterate 15 (refine Flow.tree_valK rfl (fun K hK=>⟨fun w hw hG => ?_,?_⟩);(have hcl:=Flow.bcell hw;clear hG hw;unfold Flow.Runs Flow.yields;go_simp;try rfl);go_simp;refine hK _ ?_;clear hK K)
    (refine Flow.tree_varK rfl (fun K hK=>⟨fun w hw hG => ?_,?_⟩);(clear hG hw;unfold Flow.Runs Flow.yields;go_simp;refine ⟨(Below.refl _ _).alloc (Nat.le_refl _) _,?_⟩;rw [HX.out]);rotate_left;intro vz;go_simp;refine hK _ _ ?_;clear hK K;rotate_left)
    ·first | exact newOne_mk _ _ _ | (rw [cutN_self _ _ (by omega)];exact newOne_mk _ _ _)
    refine Flow.tree_nil fun w2 hw2 hG => ?_
    obtain ⟨gn,rfl,hgn,hcn⟩:=(show newOne (.string x) vz w2 by simpa [Flow.upd] using hG 15)
    clear hG
    have HO2:=Lib.hid (owns_below HO.out hw2)
    have HE:=Lib.hid (names_snoc 30 10 ds k h1 x HX.out.symm)
    have HC2:=Lib.hid (HC.out.later hw2 (by omega))
    have hsz2:=hw2.size
    go_wp2_with (at_builtin;refine wpList_append_own _ rfl _ _ 22 rfl (B + 3) 9 i0 (.string ByteArray.empty) 1 16 Tryz.underlying22 hi hz0 hz1 hz2 rfl (by decide) _ _ _ rfl HO2.out ⟨gn,0,none⟩ 1 1 [.string x] rfl rfl ?_ ?_ ?_ ?_ ?_ ?_)
    ·intro j u hj;rcases j with _ | j <;> simp at hj;subst hj;simpa [Addr.add] using hcn
    ·simp [Value.oneCell']
    ·unfold maxLen;omega
    ·omega
    ·omega
    intro v' w3 hown3 hgrow _
    obtain ⟨gg,cp,rfl,_⟩:=owns_cell hown3 (by omega)
    have HC3:=Lib.hid (HC2.out.grown hgrow (fun j e=>(HO2.out.lt j e).1) (by omega))
    have HO3:=Lib.hid (joinl_owned hown3 HE.out)
    have hsz3:=hgrow.size
    clear hown3 hgrow
    have z3:=frozen_of_row w3 (B + 1 + 1) 0 _ _ HC3.out.k3
    have c3:=cell_of_row w3 (B + 1 + 1) 0 _ _ _ HC3.out.k3
    simp only [List.getElem?_toArray,List.getElem?_cons_zero] at c3
    go_wp2
    go_roundw
    case rel=>exact ⟨k + 1,_,by omega,by omega,by go_num,HC3.out.set0 _,ownsRow_setCell_below HO3.out (by show B + 1 + 1 < _;omega) _,by simp [World.setCell];omega⟩
    case measure=>simp [intOf];omega
  ·have HE:=Lib.hid (names_end 30 10 ds k (by omega) hk hk10)
   have HP0:=Lib.hid ((SlP.owned (HE.out ▸ HO.out)).lt)
   obtain ⟨N1,hN1⟩:∃ N1,N1=wr.heap.size:=⟨_,rfl⟩
   rw [← hN1] at HP0
   have HN1:=Lib.hid hN1
   clear hN1
   obtain ⟨wo,rfl⟩:∃ wo:World,wo=wr:=⟨_,rfl⟩
   have HCo:=Lib.hid HC.out
   clear HO HE HC
   rcases (show (¬ (k:Int) < (ds.length:Int))∨((k:Int) < (ds.length:Int)∧¬ (k:Int) < 10) by omega) with hni | ⟨hkl,hni⟩
   all_goals
    clear hlt
    go_wp2
    go_loopw [5] (fun i wq => ∃ (k:Nat) (om:Value),k≤ms.length∧k≤10∧i = .int .i64 k∧Cs B (.slice ad ds.length capd) (.slice am ms.length capm) g od om w wq∧wq.ownsRow N1 9 1 om k (namesV 30 10 ms k)∧SlP (fun b=>B + 3≤b∧b < N1) wq od ((namesN 30 10 ds).map .string)∧N1≤wq.heap.size) (fun i _=>10 - (intOf i).toNat)
    case atStart=>exact ⟨0,_,Nat.zero_le _,Nat.zero_le _,rfl,HCo.out,by simpa [namesV] using World.ownsRow_nil wo N1 9 1,HP0.out,by rw [HN1.out];exact Nat.le_refl _⟩
    case round=>
     have hNB:B + 3≤N1:=by rw [HN1.out];exact hsz
     clear HP0 HCo hni c1 c3 z3 s1 s3
     obtain ⟨k,om,hk,hk10,rfl,hC,hown,hP,hszq⟩:=hrel
     have HC:=Lib.hid hC
     have HO:=Lib.hid hown
     have HP:=Lib.hid hP
     clear hC hown hP
     have c1:=cell_of_row wr B 1 _ _ _ HC.out.k1
     have c3:=cell_of_row wr (B + 1 + 1) 1 _ _ _ HC.out.k3
     have z3:=frozen_of_row wr (B + 1 + 1) 1 _ _ HC.out.k3
     simp only [List.getElem?_toArray,List.getElem?_cons_succ,List.getElem?_cons_zero] at c1 c3
     have s1:B < wr.heap.size:=by omega
     have s3:B + 1 + 1 < wr.heap.size:=by omega
     by_cases hlt:k < ms.length∧k < 10
     ·obtain ⟨h1,h2⟩:=hlt
      obtain ⟨b,off,rfl,hb,hcell⟩:=HCM.out k h1
      have hck:wr.cell? ⟨b,off + k,none⟩=some (.string ms[k]):=(HC.out.below.cell (p:=⟨b,off + k,none⟩) (HBE.out ▸ hb)).trans hcell
      have hmk:ms[k].size≤9223372036854775807:=HMS.out _ (List.getElem_mem h1)
      have hbw:b < wr.heap.size:=Nat.lt_of_lt_of_le hb HC.out.below.size
      clear hcell hb
      go_wp2
      obtain ⟨x,hx⟩:∃ x,x=cutN 30 ms[k]:=⟨_,rfl⟩
      have HX:=Lib.hid hx
      clear hx
      rcases (show ((30:Int) < (ms[k].size:Int)∧(¬ (ms[k].size:Int)≤30∧(30:Int)≤(ms[k].size:Int)))∨(¬ (30:Int) < (ms[k].size:Int)∧(ms[k].size:Int)≤30) by omega) with ⟨h3i,h3j⟩ | ⟨h3i,h3j⟩
      all_goals
       refine Flow.wp_region_flow_tail 16 (Flow.specs [.inl ?_,.inl ?_,.inl ?_,.inl ?_,.inl ?_,.inl ?_,.inl ?_,.inl ?_,.inl ?_,.inl ?_,.inl ?_,.inl ?_,.inl ?_,.inl ?_,.inl ?_,.inr (newOne (.string x))]) (by kernel_rfl) (by kernel_rfl) ?_ ?_
       rotate_left 15
       ·refine Flow.specs_mono ?_
        repeat (first | exact Flow.lmono_nil | refine Flow.lmono_inl ?_ | refine Flow.lmono_inr (newOne_mono _) ?_)
       all_goals try simp only [List.take_succ_cons,List.take_zero,List.drop_succ_cons,List.drop_zero]
       iterate 15 (refine Flow.tree_valK rfl (fun K hK=>⟨fun w hw hG => ?_,?_⟩);(have hcl:=Flow.bcell hw;clear hG hw;unfold Flow.Runs Flow.yields;go_simp;try rfl);go_simp;refine hK _ ?_;clear hK K)
       (refine Flow.tree_varK rfl (fun K hK=>⟨fun w hw hG => ?_,?_⟩);(clear hG hw;unfold Flow.Runs Flow.yields;go_simp;refine ⟨(Below.refl _ _).alloc (Nat.le_refl _) _,?_⟩;rw [HX.out]);rotate_left;intro vz;go_simp;refine hK _ _ ?_;clear hK K;rotate_left)
       ·first | exact newOne_mk _ _ _ | (rw [cutN_self _ _ (by omega)];exact newOne_mk _ _ _)
       refine Flow.tree_nil fun w2 hw2 hG => ?_
       obtain ⟨gn,rfl,hgn,hcn⟩:=(show newOne (.string x) vz w2 by simpa [Flow.upd] using hG 15)
       clear hG
       have HO2:=Lib.hid (owns_below HO.out hw2)
       have HE:=Lib.hid (names_snoc 30 10 ms k h1 x HX.out.symm)
       have HC2:=Lib.hid (HC.out.later hw2 (by omega))
       have hsz2:=hw2.size
       go_wp2_with (at_builtin;refine wpList_append_own _ rfl _ _ 22 rfl N1 9 i0 (.string ByteArray.empty) 1 16 Tryz.underlying22 hi hz0 hz1 hz2 rfl (by decide) _ _ _ rfl HO2.out ⟨gn,0,none⟩ 1 1 [.string x] rfl rfl ?_ ?_ ?_ ?_ ?_ ?_)
       ·intro j u hj;rcases j with _ | j <;> simp at hj;subst hj;simpa [Addr.add] using hcn
       ·simp [Value.oneCell']
       ·unfold maxLen;omega
       ·omega
       ·omega
       intro v' w3 hown3 hgrow _
       obtain ⟨gg,cp,rfl,_⟩:=owns_cell hown3 (by omega)
       have HC3:=Lib.hid (HC2.out.grown hgrow (fun j e=>by have:=(HO2.out.lt j e).1;omega) (by omega))
       have HO3:=Lib.hid (joinl_owned hown3 HE.out)
       have hsz3:=hgrow.size
       have HP3:=Lib.hid ((HP.out.ag (Ag.new _ hw2)).ag (Ag.grown hgrow (fun j e=>by have:=(HO2.out.lt j e).1;rintro ⟨_,h⟩;omega)))
       clear hown3 hgrow
       have z3:=frozen_of_row w3 (B + 1 + 1) 1 _ _ HC3.out.k3
       have c3:=cell_of_row w3 (B + 1 + 1) 1 _ _ _ HC3.out.k3
       simp only [List.getElem?_toArray,List.getElem?_cons_succ,List.getElem?_cons_zero] at c3
       go_wp2
       go_roundw
       case rel=>exact ⟨k + 1,_,by omega,by omega,by go_num,HC3.out.set1 _,ownsRow_setCell_below HO3.out (by show B + 1 + 1 < _;omega) _,HP3.out.ag (Ag.set _ _ _ (by rintro ⟨h,_⟩;have:B + 3≤B + 1 + 1:=h;omega)),by simp [World.setCell];omega⟩
       case measure=>simp [intOf];omega
     ·have HE:=Lib.hid (names_end 30 10 ms k (by omega) hk hk10)
      have HQ:=Lib.hid ((SlP.owned (HE.out ▸ HO.out)).weak (q:=fun b=>B + 3≤b) (fun b hb=>by have:N1≤b:=hb;omega))
      obtain ⟨ao,no,co,rfl⟩:=HP.out.shape
      obtain ⟨am',nm',cm',rfl⟩:=HQ.out.shape
      have c2:=cell_of_row wr B 2 _ _ _ HC.out.k1
      have d0:=cell_of_row wr (B + 1 + 1) 0 _ _ _ HC.out.k3
      have d2:=cell_of_row wr (B + 1 + 1) 2 _ _ _ HC.out.k3
      have z2:=frozen_of_row wr (B + 1 + 1) 2 _ _ HC.out.k3
      have y0:=frozen_of_row wr (B + 1) 0 _ _ HC.out.k2
      have y1:=frozen_of_row wr (B + 1) 1 _ _ HC.out.k2
      have y2:=frozen_of_row wr (B + 1) 2 _ _ HC.out.k2
      have e0:=cell_of_row wr (B + 1) 0 _ _ _ HC.out.k2
      have e1:=cell_of_row wr (B + 1) 1 _ _ _ HC.out.k2
      have e2:=cell_of_row wr (B + 1) 2 _ _ _ HC.out.k2
      simp only [List.getElem?_toArray,List.getElem?_cons_succ,List.getElem?_cons_zero] at c2 d0 d2 e0 e1 e2
      rcases (show (¬ (k:Int) < (ms.length:Int))∨((k:Int) < (ms.length:Int)∧¬ (k:Int) < 10) by omega) with hni | ⟨hkl,hni⟩
      all_goals
       clear hlt
       go_wp2
       have hAg:∀ q:Nat→Prop,¬ q (B + 1 + 1)→¬ q (B + 1)→Ag q wr ((((wr.setCell ⟨B + 1 + 1,2,none⟩ (.int .i64 g)).setCell ⟨B + 1,0,none⟩ (.slice ao no co)).setCell ⟨B + 1,1,none⟩ (.slice am' nm' cm')).setCell ⟨B + 1,2,none⟩ (.int .i64 g)):=
        fun q h2 h1=>(((Ag.set q _ _ h2).trans (Ag.set q _ _ h1)).trans (Ag.set q _ _ h1)).trans (Ag.set q _ _ h1)
       refine bodyPost_ret (v:=.agg #[.slice ao no co,.slice am' nm' cm',.int .i64 g]) (by simp [results,Tryz.results12,go_sem,e0,e1,e2]) rfl ⟨_,rfl,⟨_,_,rfl,?_,?_,?_,?_⟩,?_⟩
       ·exact ((HP.out.ag (hAg _ (by omega) (by omega))).weak fun b hb=>by have:=HBE.out;omega)
       ·exact ((HQ.out.ag (hAg _ (by omega) (by omega))).weak fun b hb=>by have:=HBE.out;omega)
       ·exact names_small 30 10 ds (by omega)
       ·exact names_small 30 10 ms (by omega)
       ·have hBE:=HBE.out
        exact (((HC.out.below.setCell (by show _≤B + 1 + 1;omega) _).setCell (by show _≤B + 1;omega) _).setCell (by show _≤B + 1;omega) _).setCell (by show _≤B + 1;omega) _
end Go.Proofs.YtbbgjjjeecfnoaaGreatDoor
namespace Tess
open Go
def nameTo (s:ByteArray) (k:Nat):Prop:=∀ j (h:j < s.size),j < k→(if j=0 then isLow s[j] else isRest s[j])=true
theorem nameTo_succ {s:ByteArray} {k:Nat} (hk:k < s.size) (h:nameTo s k) (hc:(if k=0 then isLow s[k] else isRest s[k])=true):nameTo s (k + 1):=by
 intro j hj hjk
 by_cases e:j < k
 ·exact h j hj e
 ·obtain rfl:j=k:=by omega
  exact hc
theorem nameL_iff (l:List UInt8):nameL l=true↔0 < l.length∧∀ j (h:j < l.length),(if j=0 then isLow l[j] else isRest l[j])=true:=by
 cases l with
 | nil=>simp [nameL]
 | cons c r=>
   simp only [nameL,Bool.and_eq_true,List.all_eq_true,List.length_cons]
   constructor
   ·rintro ⟨h1,h2⟩
    refine ⟨by omega,fun j hj => ?_⟩
    cases j with
    | zero=>simpa using h1
    | succ j=>simpa using h2 _ (List.getElem_mem (by omega))
   ·rintro ⟨_,h⟩
    refine ⟨by simpa using h 0 (by omega),fun x hx => ?_⟩
    obtain ⟨j,hj,rfl⟩:=List.getElem_of_mem hx
    have:=h (j + 1) (by omega)
    rwa [if_neg (by omega),List.getElem_cons_succ] at this
theorem bget (s:ByteArray) (j:Nat) (h:j < s.size):s.data.toList[j]'(by simpa using h)=s[j]:=by simp;rfl
theorem okc_iff (s:ByteArray) (k:Nat) (hk:k < s.size) (c:Nat) (hc:c=s[k].toNat) :
  (if k=0 then isLow s[k] else isRest s[k])=true↔(97≤c∧c≤122)∨(0 < k∧(c=95∨(48≤c∧c≤57))):=by
 unfold isRest isLow
 rw [← hc]
 by_cases h:k=0
 ·simp [h]
 ·rw [if_neg h]
  simp only [Bool.or_eq_true,Bool.and_eq_true,decide_eq_true_eq,beq_iff_eq]
  omega
theorem okc_not (s:ByteArray) (k:Nat) (hk:k < s.size) (c:Nat) (hc:c=s[k].toNat) (h:¬ ((97≤c∧c≤122)∨(0 < k∧(c=95∨(48≤c∧c≤57))))) :
  (if k=0 then isLow s[k] else isRest s[k])=false:=Bool.eq_false_iff.2 fun e=>h ((okc_iff s k hk c hc).1 e)
theorem nameOk_end (s:ByteArray) (h:nameTo s s.size):nameOk s=(decide (0 < s.size) && decide (s.size≤20)):=by
 have hl:s.data.toList.length=s.size:=by simp
 have e:nameL s.data.toList=decide (0 < s.size):=by
  rw [Bool.eq_iff_iff,nameL_iff,decide_eq_true_iff]
  constructor
  ·exact fun h=>by omega
  ·exact fun h0=>⟨by omega,fun j hj=>by rw [bget s j (by omega)];exact h j (by omega) (by omega)⟩
 unfold nameOk
 rw [e,Bool.and_comm]
theorem nameOk_not (s:ByteArray) (k:Nat) (hk:k < s.size) (h:(if k=0 then isLow s[k] else isRest s[k])=false):nameOk s=false:=by
 unfold nameOk
 have e:nameL s.data.toList=false:=by
  rw [Bool.eq_false_iff]
  intro hn
  have:=(nameL_iff _).1 hn |>.2 k (by simpa using hk)
  rw [bget s k hk,h] at this
  cases this
 rw [e,Bool.and_false]
end Tess
namespace Go.Proofs.YtbbgjjjeecfnoaaGreatDoor
open Go.RowKit Go.Sort
theorem iter_below (w:World) (s:ByteArray) (k:Nat):Below w.heap.size w (w.iter s k):=(Below.refl _ _).alloc (Nat.le_refl _) _
theorem ret_bool' {a b:Bool} (h:a=b):Ending.returned (.bool a) = .returned (.bool b):=by rw [h]
set_option maxRecDepth 100000 in
theorem isName_zero (w:World) :
  Calls Tryz.prog 147 #[.string ByteArray.empty] w fun e w'=>e = .returned (.bool false)∧Below w.heap.size w w':=by
 have hrs:=@run_range_string Tryz.prog w 9 ByteArray.empty Tryz.underlying9
 have hnx:=fun ty=>run_next_end (P:=Tryz.prog) w ByteArray.empty 0 ty (by decide)
 go_enter Tryz.func147,Tryz.ntmps147
 go_wp2
 refine wp_scope_straight ?_
 go_wp2
 refine wp_label ?_
 go_wp2
 refine wp_loop_rounds 1 ?_
 rw [rounds_succ]
 go_wp2
 try rw [Exit.noGoto_ret]
 go_ret
 exact ⟨rfl,iter_below _ _ _⟩
set_option maxRecDepth 100000 in
set_option maxHeartbeats 2000000 in
theorem isName_some (s:ByteArray) (w:World) (hs:s.size≤maxLen) (hpos:0 < s.size) :
  Calls Tryz.prog 147 #[.string s] w fun e w'=>e = .returned (.bool (Tess.nameOk s))∧Below w.heap.size w w':=by
 unfold maxLen at hs
 have hrs:=@run_range_string Tryz.prog w 9 s Tryz.underlying9
 have he:s.toList.isEmpty=false:=by
  rw [Tess.tl,List.isEmpty_eq_false_iff]
  intro h
  have:s.data.toList.length=0:=by rw [h];rfl
  have h2:s.data.toList.length=s.size:=by simp
  omega
 have he2:s.toList.isEmpty=false:=he
 obtain ⟨b0',hb0⟩:∃ b0',decide ((s.size:Int)≤20)=b0':=⟨_,rfl⟩
 have HX:RowKit.Hid (b0'=(decide (0 < s.size) && decide (s.size≤20))):=Lib.hid (by
  rw [← hb0,decide_eq_true hpos,Bool.true_and];exact decide_eq_decide.2 (by omega))
 go_enter Tryz.func147,Tryz.ntmps147
 go_wp2
 all_goals
  refine wp_scope_straight ?_
  go_wp2
  refine wp_label ?_
  go_wp2
  clear hb0
  go_loopw [3] (fun b wr => ∃ k:Nat,k≤s.size∧b = .bool b0'∧wr=w.iter s k∧Tess.nameTo s k) (fun _ wr=>s.size - wr.iterPos w.heap.size)
  case atStart=>exact ⟨0,Nat.zero_le _,rfl,rfl,fun j _ h=>absurd h (by omega)⟩
  case round=>
   obtain ⟨k,hk,rfl,rfl,hN⟩:=hrel
   have HN:=Lib.hid hN
   clear hN
   by_cases hlt:k < s.size
   ·obtain ⟨c,hc⟩:∃ c:Nat,c=s[k].toNat:=⟨_,rfl⟩
    have hc256:c < 256:=by rw [hc];exact UInt8.toNat_lt _
    have HGO:RowKit.Hid (∀ (_:(97≤c∧c≤122)∨(0 < k∧(c=95∨(48≤c∧c≤57)))),Tess.nameTo s (k + 1)):=Lib.hid fun h=>Tess.nameTo_succ hlt HN.out ((Tess.okc_iff s k hlt c hc).2 h)
    have HNO:RowKit.Hid (∀ (_:¬ ((97≤c∧c≤122)∨(0 < k∧(c=95∨(48≤c∧c≤57))))),Tess.nameOk s=false):=Lib.hid fun h=>Tess.nameOk_not s k hlt (Tess.okc_not s k hlt c hc h)
    by_cases h128:c < 128
    ·have hnx:=fun ty=>run_next_ascii (P:=Tryz.prog) w s k ty hlt (by omega)
     rw [← hc] at hnx
     clear hc
     rcases (show ((97:Int)≤c∧(c:Int)≤122)∨((k:Int) < 1∧(c:Int) < 97)∨((k:Int) < 1∧(122:Int) < c)∨((0:Int) < k∧(c:Int)≤95∧(95:Int)≤c)∨((0:Int) < k∧(48:Int)≤c∧(c:Int)≤57)∨((0:Int) < k∧(c:Int) < 48)∨((0:Int) < k∧(57:Int) < c∧(c:Int) < 95)∨((0:Int) < k∧(95:Int) < c∧(c:Int) < 97)∨((0:Int) < k∧(122:Int) < c) by omega) with ⟨h1,h2⟩ | ⟨h1,h2⟩ | ⟨h1,h2⟩ | ⟨h1,h2,h3⟩ | ⟨h1,h2,h3⟩ | ⟨h1,h2⟩ | ⟨h1,h2,h3⟩ | ⟨h1,h2,h3⟩ | ⟨h1,h2⟩
     all_goals
      clear hrs h128 hc256
      first | have h97:decide ((97:Int)≤c)=true:=decide_eq_true (by omega) | have h97:decide ((97:Int)≤c)=false:=decide_eq_false (by omega) | skip
      first | have h122:decide ((c:Int)≤122)=true:=decide_eq_true (by omega) | have h122:decide ((c:Int)≤122)=false:=decide_eq_false (by omega) | skip
      first | have h48:decide ((c:Int) < 48)=true:=decide_eq_true (by omega) | have h48:decide ((c:Int) < 48)=false:=decide_eq_false (by omega) | skip
      first | have h57:decide ((57:Int) < c)=true:=decide_eq_true (by omega) | have h57:decide ((57:Int) < c)=false:=decide_eq_false (by omega) | skip
      first | have h95:((c:Int) != 95)=true:=bne_iff_ne.2 (by omega) | have h95:((c:Int) != 95)=false:=bne_eq_false_iff_eq.2 (by omega) | skip
      first | have h0:((k:Int) == 0)=true:=beq_iff_eq.2 (by omega) | have h0:((k:Int) == 0)=false:=beq_eq_false_iff_ne.2 (by omega) | skip
      go_wp2
      first
       | exact ⟨⟨k + 1,by omega,rfl,rfl,HGO.out (by omega)⟩,by simp only [World.iterPos_iter];omega⟩
       | (try rw [Exit.noGoto_ret]
          go_ret
          exact ⟨ret_bool' (HNO.out (by omega)).symm,iter_below _ _ _⟩)
    ·have hnx:=fun ty=>run_next_any (P:=Tryz.prog) w s k ty hlt
     have hhi:=decode_high s k hlt (by omega)
     have hle:=decode_le s k
     have HNO:=Lib.hid (HNO.out (by omega))
     generalize Utf8.decode s k=dc at *
     obtain ⟨r,n⟩:=dc
     simp only at hhi hle
     obtain ⟨r1,r2⟩:=hhi
     have r3:(122:Int) < r:=by omega
     have r4:((r:Int) != 95)=true:=by rw [bne_iff_ne];omega
     clear hc HGO
     rcases (show (k:Int) < 1∨(0:Int) < k by omega) with h1 | h1
     all_goals
      clear hrs h128 hc256
      first | have h97:decide ((97:Int)≤r)=true:=decide_eq_true (by omega) | have h97:decide ((97:Int)≤r)=false:=decide_eq_false (by omega) | skip
      first | have h122:decide ((r:Int)≤122)=true:=decide_eq_true (by omega) | have h122:decide ((r:Int)≤122)=false:=decide_eq_false (by omega) | skip
      first | have h48:decide ((r:Int) < 48)=true:=decide_eq_true (by omega) | have h48:decide ((r:Int) < 48)=false:=decide_eq_false (by omega) | skip
      first | have h57:decide ((57:Int) < r)=true:=decide_eq_true (by omega) | have h57:decide ((57:Int) < r)=false:=decide_eq_false (by omega) | skip
      first | have h95:((r:Int) != 95)=true:=bne_iff_ne.2 (by omega) | have h95:((r:Int) != 95)=false:=bne_eq_false_iff_eq.2 (by omega) | skip
      first | have h0:((k:Int) == 0)=true:=beq_iff_eq.2 (by omega) | have h0:((k:Int) == 0)=false:=beq_eq_false_iff_ne.2 (by omega) | skip
      go_wp2
      try rw [Exit.noGoto_ret]
      go_ret
      exact ⟨ret_bool' HNO.out.symm,iter_below _ _ _⟩
   ·have hnx:=fun ty=>run_next_end (P:=Tryz.prog) w s k ty hlt
    obtain rfl:k=s.size:=by omega
    have HE:=Lib.hid (Tess.nameOk_end s HN.out)
    go_wp2
    try rw [Exit.noGoto_ret]
    go_ret
    exact ⟨ret_bool' (by rw [HE.out,HX.out]),iter_below _ _ _⟩
theorem isName_any (s:ByteArray) (w:World) (hs:s.size≤maxLen) :
  Calls Tryz.prog 147 #[.string s] w fun e w'=>e = .returned (.bool (Tess.nameOk s))∧Below w.heap.size w w':=by
 rcases Nat.eq_zero_or_pos s.size with h | h
 ·have e:s=ByteArray.empty:=ByteArray.ext (Array.eq_empty_of_size_eq_zero h)
  subst e
  exact isName_zero w
 ·exact isName_some s w hs h
end Go.Proofs.YtbbgjjjeecfnoaaGreatDoor
namespace Go.Proofs.YtbbgjjjeecfnoaaGreatDoor
open Go.RowKit Go.Sort
set_option maxRecDepth 100000 in
set_option maxHeartbeats 1000000 in
theorem grow_any (n:Nat) (w:World) (h0:0 < n) (hn:n≤1000) :
  Calls Tryz.prog 148 #[.slice none 0 0,.int .i64 n] w fun e w' => ∃ cap,e = .returned (.slice (some ⟨w.heap.size,0,none⟩) 0 cap)∧w'.ownsRow w.heap.size 9 1 (.slice (some ⟨w.heap.size,0,none⟩) 0 cap) 0 []∧Below w.heap.size w w'∧w'.heap.size=w.heap.size + 1:=by
 obtain ⟨i0,hi,hz0,hz1,hz2⟩:=info_parts infoStr
 have hold:(Builtin.firstCells i0.size 0 (.slice none 0 0)).run Tryz.prog w.drew = .ok ([]:List Value).toArray w.drew:=run_firstCells_none w.drew i0.size 0 0 0
 have hrz:∀ ty,(Builtin.append_ #[22,3] ty #[.slice none 0 0,.int .i64 (n:Nat)]).run Tryz.prog w=_:=fun ty=>
  Lib.run_append_grow_zeros w 22 3 ty 9 i0 _ .i64 .i64 Tryz.underlying22 Tryz.underlying3 hi hz0 none 0 0 [] hold n h0 (by omega) (by omega) (by omega) (by rw [hz2];omega)
   (by have:=growslice_fits (need:=0 + n) (old:=0) (bytes:=i0.bytes) (by omega) (by rw [hz2];omega);simpa using this)
 have hGn:=grownCap_ge w (0 + n) 0 9
 have hG63:=grownCap_le_maxLen w (0 + n) 0 9 (by unfold maxLen;omega)
 rw [Nat.zero_add] at hrz hGn hG63
 obtain ⟨G,hG⟩:∃ G,G=grownCap w n 0 9:=⟨_,rfl⟩
 rw [← hG] at hrz hGn hG63
 have hm:=hG63
 unfold maxLen at hm
 clear hG hold
 have n1:¬ (n:Int) < 0:=by omega
 have n2:(0:Int) < n:=by omega
 go_enter Tryz.func148,Tryz.ntmps148
 go_wp2_with (at_builtin;refine Lib.wpList_append_run _ rfl _ _ _ _ rfl _ _ rfl rfl _ _ (hrz _) ?_)
 go_ret
 refine ⟨G,rfl,⟨rfl,.inr ⟨w.heap.size,G,_,rfl,Nat.le_refl _,heap_alloc_new w.drew _,Nat.zero_le _,hG63,?_,by simp⟩⟩,(Below.refl _ _).drew.alloc (Nat.le_refl _) _,by simp⟩
 simp [size_zeroCells];omega
theorem ret_int {k:IntKind} {a b:Int} (h:a=b):Ending.returned (.int k a) = .returned (.int k b):=by rw [h]
theorem index_any (v:Value) (l:List ByteArray) (x:ByteArray) (w:World) (hv:SlOf w v (l.map .string)) :
  Calls Tryz.prog 180 #[v,.string x] w fun e w'=>e = .returned (.int .i64 (if Tess.hasW l x then (Tess.idxW l x:Nat) else -1))∧w=w':=by
 obtain ⟨a,cap,rfl,hl,hc⟩:=sls_open hv
 have HC:=Lib.hid hc
 clear hc hv
 obtain ⟨r,hr⟩:∃ r:Int,(if Tess.hasW l x then ((Tess.idxW l x:Nat):Int) else -1)=r:=⟨_,rfl⟩
 rw [hr]
 have HR:=Lib.hid hr
 clear hr
 go_enter Tryz.func180,Tryz.ntmps180
 go_wp2
 go_loop [8] (fun i => ∃ k:Nat,k≤l.length∧i = .int .i64 k∧∀ j (hj:j < l.length),j < k→l[j]≠x) (fun i=>l.length - (intOf i).toNat)
 case atStart=>exact ⟨0,Nat.zero_le _,rfl,fun j _ h=>absurd h (by omega)⟩
 case round=>
  obtain ⟨k,hk,rfl,hall⟩:=hrel
  have HA:=Lib.hid hall
  clear hall
  by_cases hlt:k < l.length
  ·obtain ⟨b,off,rfl,hb,hck⟩:=HC.out k hlt
   have hki:(k:Int) < (l.length:Int):=by omega
   obtain ⟨y,hy⟩:∃ y,y=l[k]:=⟨_,rfl⟩
   rw [← hy] at hck
   have HY:=Lib.hid hy
   clear hy
   by_cases hxy:x=y
   ·subst hxy
    have he:(x.toList == x.toList)=true:=by simp
    go_wp2
    go_ret
    refine ⟨ret_int ?_,rfl⟩
    rw [← HR.out,(Tess.hasW_iff l x).2 (by rw [HY.out];exact List.getElem_mem hlt),if_pos rfl,Tess.idxW_at l x k hlt HY.out.symm HA.out]
   ·have he:(x.toList == y.toList)=false:=Bool.eq_false_iff.2 fun e=>hxy (str_eq' e)
    have HXY:=Lib.hid hxy
    clear hxy
    go_wp2
    go_round
    case rel=>
     refine ⟨k + 1,by omega,by go_num,fun j hj hjk => ?_⟩
     by_cases e:j < k
     ·exact HA.out j hj e
     ·obtain rfl:j=k:=by omega
      rw [← HY.out];exact fun e=>HXY.out e.symm
    case measure=>simp [intOf];omega
  ·have hki:¬ (k:Int) < (l.length:Int):=by omega
   go_wp2
   go_ret
   refine ⟨ret_int ?_,rfl⟩
   rw [← HR.out,(Tess.hasW_not l x).2 fun h => ?_]
   ·rfl
   ·obtain ⟨j,hj,e⟩:=List.getElem_of_mem h
    exact HA.out j hj (by omega) e
theorem contains_any (v:Value) (l:List ByteArray) (x:ByteArray) (w:World) (hv:SlOf w v (l.map .string)) :
  Calls Tryz.prog 224 #[v,.string x] w fun e w'=>e = .returned (.bool (Tess.hasW l x))∧w=w':=by
 have HI:=Lib.hid (index_any v l x w hv)
 obtain ⟨a,cap,rfl,hl,hc⟩:=sls_open hv
 clear hc hv
 obtain ⟨i,hi⟩:∃ i:Int,(if Tess.hasW l x then ((Tess.idxW l x:Nat):Int) else -1)=i:=⟨_,rfl⟩
 rw [hi] at HI
 have HII:=Lib.hid hi
 clear hi
 go_enter Tryz.func224,Tryz.ntmps224
 go_wp2_with (go_at_call 180;refine HI.out.mono ?_;rintro e w2 ⟨rfl,rfl⟩)
 go_ret
 refine ⟨ret_bool' ?_,rfl⟩
 rw [← HII.out]
 cases Tess.hasW l x <;> simp
end Go.Proofs.YtbbgjjjeecfnoaaGreatDoor
