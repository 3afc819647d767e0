/- Joined by mergeK.py: K31, K32, K33 -/
import Derived.Test.YtaddkkkchkdgkaaGreatDoorWC20
import Derived.Test.YtaddkkkchkdgkaaGreatDoorWC14
import Derived.Laws.StructEq
import Derived.Test.YtaddkkkchkdgkaaGreatDoorWC19
namespace Go.Proofs.YtaddkkkchkdgkaaGreatDoor
open Go.RowKit Go.Sort Go.Shelf
attribute [local go_sem] Oper.semAt_some
set_option maxRecDepth 100000 in
set_option maxHeartbeats 4000000 in
theorem wSum_any (p:Nat→Prop) (v:Value) (ns:List Int) (w:World) (hv:RowsAt 1 intF p w v ns) (hok:∀ n ∈ ns,I64 n) (hs:∀ k,k < ns.length→WOk (ns.take k).sum∧WOk ((ns.take k).sum + ns.getD k 0)) :
  Calls Tryz.prog 181 #[v] w fun e w'=>e = .returned (.agg #[.int .i64 (wHi ns.sum),.int .u64 (wLo ns.sum)])∧Below w.heap.size w w':=by
 have HVL:=Lib.hid hv.lt
 have HS:=Lib.hid hs
 obtain ⟨a,c,rfl,_⟩:=id hv
 clear hv hs
 obtain ⟨W1,hW1⟩:∃ W1,((w.alloc (.cells #[.int .i64 0,.int .u64 0] 60)).alloc (.cells #[.int .i64 0,.int .u64 0] 60)).alloc (.cells #[.slice a ns.length c] 54)=W1:=⟨_,rfl⟩
 obtain ⟨k0,k1,k2,kS,kB⟩:=laid3 w (.cells #[.int .i64 0,.int .u64 0] 60) (.cells #[.int .i64 0,.int .u64 0] 60) (.cells #[.slice a ns.length c] 54)
 rw [hW1] at k0 k1 k2 kS kB
 have HCT:=Lib.hid (numbers_iter ns (w.heap.size + 2) (.slice a ns.length c) (fun x=>p x∧x < w.heap.size) (fun x=>(p x∧x < w.heap.size)∨x=w.heap.size + 2) (fun _ h => .inl h) hok W1 (cell_of_row _ _ 0 _ _ _ k2) (.inr rfl) (HVL.out.ag (Ag.new _ kB)))
 have K0:=Lib.hid k0
 have K1:=Lib.hid k1
 have K2:=Lib.hid k2
 have KB:=Lib.hid kB
 clear k0 k1 k2 kB
 refine (callsIn_wide (n:=5)).1 ?_
 refine callsIn_of_wp_marks Tryz.func181 rfl trivial ?_ rfl
 simp only [Tryz.ntmps181,List.size_toArray,List.length_cons,List.length_nil,Nat.reduceAdd,Nat.reduceSub,Array.replicate_succ,Array.replicate_zero,List.push_toArray,List.append_toArray,List.nil_append,List.cons_append]
 gi_wp2_with (refine ⟨trivial,?_⟩;gi_at_call 212;refine (callsIn_wide.2 (numbers_any a ns.length c _)).mono ?_;rintro e w2 ⟨rfl,rfl⟩)
 refine Rf.range_wide (gf:=227) (lb:=#[.pointer (some ⟨w.heap.size + 2,0,none⟩)]) rfl (enters_of Tryz.func227 (by kernel_rfl) rfl) ?_
 intro fn W3 hL hD hB3 hS3
 rw [kS] at hL hD hS3 ⊢
 obtain ⟨rec,hrec,hL⟩:∃ rec:Loop,rec=_∧W3.heap[w.heap.size + 3 + 1]? = some (.loop rec):=⟨_,rfl,hL⟩
 have HREC:=Lib.hid hrec
 have hst:rec.state = .ready∧rec.params.size=1∧rec.pending=none:=by rw [hrec];exact ⟨rfl,rfl,rfl⟩
 clear hrec
 obtain ⟨hst,hps,hpe⟩:=hst
 obtain ⟨J,hJ⟩:∃ J:Nat→World→Prop,J=fun k X=>X.heap[w.heap.size]? = some (.cells #[.int .i64 0,.int .u64 0] 60 (0,0))∧X.heap[w.heap.size + 1]? = some (.cells #[.int .i64 (wHi (ns.take k).sum),.int .u64 (wLo (ns.take k).sum)] 60 (0,0))∧X.heap[w.heap.size + 2]? = some (.cells #[.slice a ns.length c] 54 (0,0))∧X.heap[w.heap.size + 3]? = some (.deferred (some []))∧X.heap[w.heap.size + 3 + 1]? = some (.loop rec)∧Below w.heap.size w X:=⟨_,rfl⟩
 have HJ:RowKit.Hid (∀ k X,J k X↔(X.heap[w.heap.size]? = some (.cells #[.int .i64 0,.int .u64 0] 60 (0,0))∧X.heap[w.heap.size + 1]? = some (.cells #[.int .i64 (wHi (ns.take k).sum),.int .u64 (wLo (ns.take k).sum)] 60 (0,0))∧X.heap[w.heap.size + 2]? = some (.cells #[.slice a ns.length c] 54 (0,0))∧X.heap[w.heap.size + 3]? = some (.deferred (some []))∧X.heap[w.heap.size + 3 + 1]? = some (.loop rec)∧Below w.heap.size w X)):=Lib.hid fun k X=>by rw [hJ]
 have hJ0:J 0 W3:=(HJ.out _ _).2 ⟨(hB3.block _ (by omega)).trans K0.out,(hB3.block _ (by omega)).trans K1.out,(hB3.block _ (by omega)).trans K2.out,hD,hL,Bt KB.out hB3⟩
 clear hJ hB3 hL hD hS3 hW1
 refine callsIn_wide.2 ((HCT.out (w.heap.size + 3 + 1) rec.fn (fun v=>(rec.params.zip v).foldl (fun tmps (t,a)=>tmps.setIfInBounds t a) rec.tmps) rec.assign rec.body J ?_ ?_ ?_ ?_ ?_ W3 hJ0).mono ?_)
 ·intro k X X' h hb
  obtain ⟨h1,h2,h3,h4,h5,h6⟩:=(HJ.out _ _).1 h
  exact (HJ.out _ _).2 ⟨(hb.block _ (Array.getElem?_eq_some_iff.1 h1).1).trans h1,(hb.block _ (Array.getElem?_eq_some_iff.1 h2).1).trans h2,(hb.block _ (Array.getElem?_eq_some_iff.1 h3).1).trans h3,(hb.block _ (Array.getElem?_eq_some_iff.1 h4).1).trans h4,(hb.block _ (Array.getElem?_eq_some_iff.1 h5).1).trans h5,Bt h6 hb⟩
 ·intro k X X' l' o h hl' ho hc hs
  obtain ⟨h1,h2,h3,h4,h5,h6⟩:=(HJ.out _ _).1 h
  exact (HJ.out _ _).2 ⟨(hs.block _ (by omega)).trans h1,(hs.block _ (by omega)).trans h2,(hs.block _ (by omega)).trans h3,(hs.block _ (by omega)).trans h4,(hs.block _ (by omega)).trans h5,h6.trans (hs.below (by omega))⟩
 ·intro k X h
  obtain ⟨h1,h2,h3,h4,h5,h6⟩:=(HJ.out _ _).1 h
  have hx:=(Array.getElem?_eq_some_iff.1 h5).1
  refine ⟨hx,by omega,fun x hxl hx2 => ?_⟩
  rcases hx2 with ⟨hx2,hx3⟩ | rfl
  ·exact (h6.block x hx3).trans (KB.out.block x hx3).symm
  ·exact h3.trans K2.out.symm
 ·intro k X h z hz
  obtain ⟨h1,h2,h3,h4,h5,h6⟩:=(HJ.out _ _).1 h
  exact run_yield h5 (by rw [hps,hz])
 ·intro k X hk h
  obtain ⟨h1,h2,h3,h4,h5,h6⟩:=(HJ.out _ _).1 h
  rw [List.length_map] at hk
  have HX:=Lib.hid (HJ.out k X)
  have HXX:=Lib.hid h
  have HSK:=HS.out k hk
  have hgd:ns.getD k 0=ns[k]:=by simp [List.getD,hk]
  rw [hgd] at HSK
  have hsum:(ns.take (k + 1)).sum=(ns.take k).sum + ns[k]:=by rw [List.take_succ_eq_append_getElem hk,List.sum_append_int];simp
  have HALL:=Lib.hid (fun b W=>all2_any (ns.take k).sum ns[k] b W HSK.1 HSK.2)
  have HJK:=Lib.hid (HJ.out (k + 1))
  rw [hsum] at HJK
  simp only [List.getElem_map]
  unfold wideF
  clear HSK hgd hsum HJ
  have H1:=Lib.hid h1
  have H2:=Lib.hid h2
  have H3:=Lib.hid h3
  have H4:=Lib.hid h4
  have H5:=Lib.hid h5
  have H6:=Lib.hid h6
  have HX5:=Lib.hid (Array.getElem?_eq_some_iff.1 h5).1
  generalize (ns.take k).sum=S at *
  generalize ns[k]=z at *
  generalize J (k + 1)=J' at *
  clear h h1 h2 h3 h4 h5 h6
  refine Rf.round_wide (r:=rec) ?_
  have hrr:=HREC.out
  subst hrr
  dsimp only
  obtain ⟨X1,hX1⟩:∃ X1,X.alloc (.cells #[.int .i64 (wHi z),.int .u64 (wLo z)] 60)=X1:=⟨_,rfl⟩
  obtain ⟨q1,qS,qB⟩:=laid1 X (.cells #[.int .i64 (wHi z),.int .u64 (wLo z)] 60)
  rw [hX1] at q1 qS qB
  have Q1:=Lib.hid q1
  have QS:=Lib.hid qS
  have QB:=Lib.hid qB
  clear q1 qS qB
  gi_wp2_with (rw [Oper.semAt_eq _ _ _ (fun c h=>by cases h)];go_simp;try go_bits)
  have hx5:=HX5.out
  refine ⟨(QB.out.block _ hx5).trans H5.out,fun X2 hs2 hl2 => ?_⟩
  have hqs:=QS.out
  have hsz2:=hs2.size
  have g1:=(hs2.block (w.heap.size + 1) (by omega)).trans ((QB.out.block _ (by omega)).trans H2.out)
  have gq:=(hs2.block X.heap.size (by omega)).trans Q1.out
  obtain ⟨⟨x0,x1⟩,_⟩:=can2 g1
  obtain ⟨⟨y0,y1⟩,_⟩:=can2 gq
  obtain ⟨X3,hX3⟩:∃ X3,X2.alloc (.cells #[.int .i64 (wHi S),.int .u64 (wLo S),.int .i64 (wHi z),.int .u64 (wLo z)] 60)=X3:=⟨_,rfl⟩
  obtain ⟨r1,rS,rB⟩:=laid1 X2 (.cells #[.int .i64 (wHi S),.int .u64 (wLo S),.int .i64 (wHi z),.int .u64 (wLo z)] 60)
  rw [hX3] at r1 rS rB
  have HA3:=Lib.hid (HALL.out _ _ r1)
  have HB23:=Lib.hid (show ∀ b,b < X.heap.size→b≠w.heap.size + 3 + 1→X3.heap[b]? = X.heap[b]? from fun b h1 h2=>(rB.block b (by omega)).trans ((hs2.block b h2).trans (QB.out.block b h1)))
  have HL3:=Lib.hid ((rB.block _ (by omega)).trans hl2)
  have HB3:=Lib.hid (Bt ((Bt H6.out QB.out).trans (hs2.below (by omega))) rB)
  have HS3:=Lib.hid (show X.heap.size < X3.heap.size by omega)
  have HG3:=Lib.hid ((rB.block (w.heap.size + 1) (by omega)).trans g1)
  clear g1 gq r1 rS rB hqs hsz2 hs2 hl2 hx5
  gi_wp2_with (first | (refine ⟨trivial,?_⟩;gi_at_call 213;refine CallsIn.mono (CallsIn.inRound _ (callsIn_wide.2 HA3.out)) ?_;rintro e w5 ⟨rfl,hb5⟩;have HB5:=Lib.hid hb5;have hg5:=(hb5.block _ (Array.getElem?_eq_some_iff.1 HG3.out).1).trans HG3.out;have HG5:=Lib.hid hg5;obtain ⟨⟨p0,p1⟩,f0,f1⟩:=can2 hg5;clear hb5 hg5) | (rw [Oper.semAt_eq _ _ _ (fun c h=>by cases h)];go_simp;try go_bits))
  have hb5:=HB5.out
  have hx5:=HX5.out
  have hs3:=HS3.out
  obtain ⟨W6,hW6⟩:∃ W6,(w5.setCell ⟨w.heap.size + 1,0,none⟩ (.int .i64 (wHi (S + z)))).setCell ⟨w.heap.size + 1,1,none⟩ (.int .u64 (wLo (S + z)))=W6:=⟨_,rfl⟩
  have hoth:∀ b,b≠w.heap.size + 1→W6.heap[b]? = w5.heap[b]? := fun b hb=>by rw [← hW6,heap_setCell_other _ _ _ _ (show b≠w.heap.size + 1 from hb),heap_setCell_other _ _ _ _ (show b≠w.heap.size + 1 from hb)]
  have hbk:∀ b,b < X.heap.size→b≠w.heap.size + 3 + 1→b≠w.heap.size + 1→W6.heap[b]? = X.heap[b]? := fun b h1 h2 h3=>(hoth b h3).trans ((hb5.block b (by omega)).trans (HB23.out b h1 h2))
  have hl6:=(hoth (w.heap.size + 3 + 1) (by omega)).trans ((hb5.block _ (by omega)).trans HL3.out)
  have hq6:W6.heap[w.heap.size + 1]? = some (.cells #[.int .i64 (wHi (S + z)),.int .u64 (wLo (S + z))] 60 (0,0)):=by rw [← hW6];exact heap_setCell_same _ _ 1 _ _ (.int .u64 (wLo (S + z))) (heap_setCell_same _ _ 0 _ _ (.int .i64 (wHi (S + z))) HG5.out)
  have hB6:Below w.heap.size w W6:=by rw [← hW6];exact ((Bt HB3.out hb5).setCell (by show _≤w.heap.size + 1;omega) _).setCell (by show _≤w.heap.size + 1;omega) _
  rw [hW6]
  refine ⟨hl6,fun X7 hs7 hl7=>⟨rfl,(HJK.out X7).2 ⟨?_,?_,?_,?_,hl7,hB6.trans (hs7.below (by omega))⟩,fun b h1 h2 => ?_⟩⟩
  ·exact (hs7.block _ (by omega)).trans ((hbk _ (by omega) (by omega) (by omega)).trans H1.out)
  ·exact (hs7.block _ (by omega)).trans hq6
  ·exact (hs7.block _ (by omega)).trans ((hbk _ (by omega) (by omega) (by omega)).trans H3.out)
  ·exact (hs7.block _ (by omega)).trans ((hbk _ (by omega) (by omega) (by omega)).trans H4.out)
  ·exact (hs7.block b (by omega)).trans (hbk b h2 (by omega) (by omega))
 ·rintro e W8 ⟨⟨vv,rfl⟩,h⟩
  rw [List.length_map,HJ.out,List.take_length] at h
  obtain ⟨h1,h2,h3,h4,h5,h6⟩:=h
  refine ⟨⟨_,rfl⟩,rec,h5,by rw [hst];decide,?_⟩
  intro W9 hW9
  rw [hpe]
  dsimp only
  have hK9:=(hW9.block (w.heap.size + 3) (by omega)).trans h4
  have g0:=(hW9.block w.heap.size (by omega)).trans h1
  have g1:=(hW9.block (w.heap.size + 1) (by omega)).trans h2
  have hB9:=h6.trans (hW9.below (by omega))
  obtain ⟨⟨x0,x1⟩,_⟩:=can2 g1
  obtain ⟨_,f0,f1⟩:=can2 g0
  have hq:=heap_setCell_same _ _ 1 _ _ (.int .u64 (wLo ns.sum)) (heap_setCell_same _ _ 0 _ _ (.int .i64 (wHi ns.sum)) g0)
  obtain ⟨W10,hW10⟩:∃ W10,(W9.setCell ⟨w.heap.size,0,none⟩ (.int .i64 (wHi ns.sum))).setCell ⟨w.heap.size,1,none⟩ (.int .u64 (wLo ns.sum))=W10:=⟨_,rfl⟩
  have hB10:Below w.heap.size w W10:=by rw [← hW10];exact (hB9.setCell (Nat.le_refl _) _).setCell (Nat.le_refl _) _
  have hK10:W10.heap[w.heap.size + 3]? = some (.deferred (some [])):=by rw [← hW10,heap_setCell_other _ _ _ _ (show w.heap.size + 3≠w.heap.size by omega),heap_setCell_other _ _ _ _ (show w.heap.size + 3≠w.heap.size by omega)];exact hK9
  rw [hW10] at hq
  have hq11:=(World.putObj_heap_other (w:=W10) (o:=.deferred none) (show w.heap.size≠w.heap.size + 3 by omega)).trans hq
  obtain ⟨⟨e0,e1⟩,_⟩:=can2 hq11
  have HB11:=Lib.hid (hB10.trans ((Rf.SameBut.put W10 (w.heap.size + 3) (.deferred none)).below (show w.heap.size≤w.heap.size + 3 by omega)))
  clear h1 h2 h3 h4 h5 h6 hW9 g0 g1 hB9 hq hq11 hB10 hK9
  gi_wp2
  refine ⟨by simp,.inl ⟨_,_,rfl,run_takeDeferred hK10,?_⟩⟩
  refine ⟨.agg #[.int .i64 (wHi ns.sum),.int .u64 (wLo ns.sum)],by simp [results,Tryz.results181,go_sem,e0,e1],rfl,HB11.out⟩
end Go.Proofs.YtaddkkkchkdgkaaGreatDoor
namespace Go.Proofs.YtaddkkkchkdgkaaGreatDoor
open Go.RowKit Go.Sort Go.Shelf
theorem sum2_any (x y:Int) (b:Nat) (w:World) (hx:I64 x) (hy:I64 y) (h:w.heap[b]? = some (.cells #[.int .i64 x,.int .i64 y] 2 (0,0))) :
  Calls Tryz.prog 181 #[.slice (some ⟨b,0,none⟩) 2 2] w fun e w'=>e = .returned (.agg #[.int .i64 (wHi (x + y)),.int .u64 (wLo (x + y))])∧Below w.heap.size w w':=by
 have hb:=(Array.getElem?_eq_some_iff.1 h).1
 have hr:RowsAt 1 intF (fun _=>True) w (.slice (some ⟨b,0,none⟩) 2 2) [x,y]:=by
  refine ⟨_,2,rfl,(show (2:Nat)≤maxLen by decide),Nat.le_refl 2,(fun e=>by cases e),fun _=>⟨b,0,rfl,hb,trivial,fun j hj i hi => ?_⟩⟩
  have hj':j < 2:=hj
  obtain rfl:i=0:=by omega
  rcases (show j=0∨j=1 by omega) with rfl | rfl
  ·exact cell_of_row _ _ 0 _ _ _ h
  ·exact cell_of_row _ _ 1 _ _ _ h
 have:=wSum_any _ _ [x,y] w hr (fun n hn=>by
  rcases List.mem_cons.1 hn with rfl | hn
  ·exact hx
  ·rw [List.mem_singleton.1 hn];exact hy) (fun k hk=>by
  have hk':k < 2:=hk
  obtain ⟨h1,h2⟩:=hx
  obtain ⟨h3,h4⟩:=hy
  rcases (show k=0∨k=1 by omega) with rfl | rfl
  ·simp [WOk];omega
  ·simp [WOk];omega)
 simpa using this
theorem box2 {w W:World} {g:Nat} {x0 x1:Value} {T:TypeId} (y0 y1:Value) (h:W.heap[g]? = some (.cells #[x0,x1] T (0,0))) {N:Nat} (hB:Below N w W) (hg:N≤g) :
  ∃ W',(W.setCell ⟨g,0,none⟩ y0).setCell ⟨g,1,none⟩ y1=W'∧W'.heap[g]? = some (.cells #[y0,y1] T (0,0))∧(∀ b,b≠g→W'.heap[b]? = W.heap[b]?)∧W'.heap.size=W.heap.size∧Below N w W':=
 ⟨_,rfl,heap_setCell_same _ _ 1 _ _ y1 (heap_setCell_same _ _ 0 _ _ y0 h),fun b hb=>by rw [heap_setCell_other _ _ _ _ (show b≠g from hb),heap_setCell_other _ _ _ _ (show b≠g from hb)],by simp [World.setCell],(hB.setCell hg _).setCell hg _⟩
def newBoxX (v:Value) (s e:Nat) (W:World):Prop:=∃ g,v = .pointer (some ⟨g,0,none⟩)∧s≤g∧g < e∧W.heap[g]? = some (.cells #[.int .i64 0,.int .u64 0] 60 (0,0))
theorem newBoxX_mono:FlX.Spec.mono (some (.inr newBoxX)):=fun _ _ _ _ _ ⟨g,h1,h2,h3,h4⟩ hb=>⟨g,h1,h2,h3,(hb.block _ (Array.getElem?_eq_some_iff.1 h4).1).trans h4⟩
set_option maxRecDepth 100000 in
set_option maxHeartbeats 4000000 in
theorem isSum_one (l:Int) (hl:I64 l) (w:World):Calls Tryz.prog 140 #[.agg #[.int .i64 (wHi l),.int .u64 (wLo l)],.int .i64 1,.int .i64 l,.int .i64 l] w fun e w'=>e = .returned (.bool true)∧Below w.heap.size w w':=by
 have HOF:=Lib.hid (fun W=>wOf_eq l hl W)
 generalize wHi l=a at *
 generalize wLo l=b at *
 obtain ⟨W0,hW0⟩:∃ W0,w.alloc (.cells #[.int .i64 a,.int .u64 b] 60)=W0:=⟨_,rfl⟩
 obtain ⟨k0,kS,kB⟩:=laid1 w (.cells #[.int .i64 a,.int .u64 b] 60)
 rw [hW0] at k0 kS kB
 obtain ⟨⟨x0,x1⟩,_⟩:=can2 k0
 have hlt:w.heap.size < W0.heap.size:=by omega
 have HB:=Lib.hid kB
 clear k0 kS kB hl
 go_enter Tryz.func140,Tryz.ntmps140
 go_wp2_with (fail)
 refine Flow.wp_region_flow_tail 8 (Flow.specs [.inl ?_,.inl ?_,.inl ?_,.inl ?_,.inl ?_,.inl ?_,.inl ?_,.inl ?_]) (by kernel_rfl) (by kernel_rfl) ?_ ?_
 rotate_left 8
 ·refine Flow.specs_mono ?_
  repeat (first | exact Flow.lmono_nil | refine Flow.lmono_inl ?_)
 all_goals try simp only [List.take_succ_cons,List.take_zero,List.drop_succ_cons,List.drop_zero]
 iterate 6 (refine Flow.tree_valK rfl (fun K hK=>⟨fun w hw hG => ?_,?_⟩);(have hcl:=Flow.bcell hw;clear hG hw;unfold Flow.Runs Flow.yields;go_simp;try rfl);go_simp;refine hK _ ?_;clear hK K)
 (refine Flow.tree_valK rfl (fun K hK=>⟨fun w hw hG => ?_,?_⟩);(clear hG hw;unfold Flow.Runs Flow.yields;go_simp;refine (HOF.out _).mono ?_;rintro e w5 ⟨rfl,hb5⟩;first | exact ⟨_,rfl,hb5,rfl⟩ | (refine ⟨?_,hb5⟩;rfl));go_simp;refine hK _ ?_;clear hK K)
 iterate 1 (refine Flow.tree_valK rfl (fun K hK=>⟨fun w hw hG => ?_,?_⟩);(have hcl:=Flow.bcell hw;clear hG hw;unfold Flow.Runs Flow.yields;go_simp;try rfl);go_simp;refine hK _ ?_;clear hK K)
 refine Flow.tree_nil fun w5 hw5 hG => ?_
 clear hG x0 x1
 have HB5:=Lib.hid (Bt HB.out hw5)
 clear hw5
 go_simp
 go_wp2
 go_ret
 exact ⟨rfl,HB5.out⟩
set_option maxRecDepth 100000 in
set_option maxHeartbeats 1000000 in
theorem isSum_more (s n l h:Int) (hs:Tess.SumOk s n l h) (hn:2≤n∧n≤1000000) (hl:I64 l) (hh:I64 h) (w:World):Calls Tryz.prog 140 #[.agg #[.int .i64 (wHi s),.int .u64 (wLo s)],.int .i64 n,.int .i64 l,.int .i64 h] w fun e w'=>e = .returned (.bool true)∧Below w.heap.size w w':=by
 obtain ⟨m,hm⟩:∃ m:Nat,n - 2=m:=⟨(n - 2).toNat,by omega⟩
 have hmm:m≤1000000:=by omega
 have hwn:IntKind.i64.wrap (n - 2)=(m:Int):=by rw [IntKind.wrap_i64];omega
 have hn1:¬ n=1:=by omega
 obtain ⟨s1,s2,s3⟩:=hs
 have b1:=mul_bound hl (show (0:Int)≤(m:Int)∧(m:Int)≤1000000 by omega)
 have b2:=mul_bound hh (show (0:Int)≤(m:Int)∧(m:Int)≤1000000 by omega)
 have e1:l * (n - 1)=l * m + l:=by rw [show n - 1=(m:Int) + 1 by omega,Int.mul_add,Int.mul_one]
 have e2:h * (n - 1)=h * m + h:=by rw [show n - 1=(m:Int) + 1 by omega,Int.mul_add,Int.mul_one]
 rw [e1] at s2
 rw [e2] at s3
 have HSUM:=Lib.hid (fun b W=>sum2_any l h b W hl hh)
 have HM1:=Lib.hid (fun W=>wMul_any l m hl hmm W)
 have HM2:=Lib.hid (fun W=>wMul_any h m hh hmm W)
 have HA1:=Lib.hid (fun W=>wAdd_any (l + h) (l * m) (by unfold WOk;unfold I64 at hl hh;omega) W)
 have HA2:=Lib.hid (fun W=>wAdd_any (l + h) (h * m) (by unfold WOk;unfold I64 at hl hh;omega) W)
 have HC1:=Lib.hid (fun W=>wCompare_any (l + h + l * m) s W)
 have HC2:=Lib.hid (fun W=>wCompare_any s (l + h + h * m) W)
 have hc1:cmpI (l + h + l * m) s≤0:=(cmpI_le _ _).2 (by omega)
 have hc2:cmpI s (l + h + h * m)≤0:=(cmpI_le _ _).2 (by omega)
 generalize cmpI (l + h + l * m) s=z1 at *
 generalize cmpI s (l + h + h * m)=z2 at *
 generalize wHi (l + h + l * m)=u1 at *
 generalize wLo (l + h + l * m)=v1 at *
 generalize wHi (l + h + h * m)=u2 at *
 generalize wLo (l + h + h * m)=v2 at *
 generalize wHi (l * m)=p1 at *
 generalize wLo (l * m)=q1 at *
 generalize wHi (h * m)=p2 at *
 generalize wLo (h * m)=q2 at *
 generalize wHi (l + h)=p0 at *
 generalize wLo (l + h)=q0 at *
 generalize wHi s=a at *
 generalize wLo s=b at *
 clear s2 s3 b1 b2 e1 e2 hm hmm hl hh hn
 obtain ⟨W0,hW0⟩:∃ W0,(w.alloc (.cells #[.int .i64 a,.int .u64 b] 60)).alloc (.cells #[.int .i64 l,.int .i64 h] 2)=W0:=⟨_,rfl⟩
 obtain ⟨k0,k1,kS,kB⟩:=laid2 w (.cells #[.int .i64 a,.int .u64 b] 60) (.cells #[.int .i64 l,.int .i64 h] 2)
 rw [hW0] at k0 k1 kS kB
 have HS0:=Lib.hid (HSUM.out _ _ k1)
 have K0:=Lib.hid k0
 have KB:=Lib.hid kB
 have KS:=Lib.hid kS
 clear k0 k1 kS kB HSUM
 go_enter Tryz.func140,Tryz.ntmps140
 go_wp2_with (fail)
 go_at_call 181
 refine HS0.out.mono ?_
 rintro e w1 ⟨rfl,hb1⟩
 have hk1:=(hb1.block w.heap.size (by have:=KS.out;omega)).trans K0.out
 have HB1:=Lib.hid (Bt KB.out hb1)
 obtain ⟨W2,hW2⟩:∃ W2,w1.alloc (.cells #[.int .i64 p0,.int .u64 q0] 60)=W2:=⟨_,rfl⟩
 obtain ⟨k2,kS2,kB2⟩:=laid1 w1 (.cells #[.int .i64 p0,.int .u64 q0] 60)
 rw [hW2] at k2 kS2 kB2
 have hk2:=(kB2.block _ (Array.getElem?_eq_some_iff.1 hk1).1).trans hk1
 obtain ⟨⟨x0,x1⟩,_⟩:=can2 k2
 have hlt:w1.heap.size < W2.heap.size:=by omega
 have HK2:=Lib.hid hk2
 have HB2:=Lib.hid (Bt HB1.out kB2)
 have HL1:=Lib.hid (show w.heap.size < w1.heap.size from (Array.getElem?_eq_some_iff.1 hk1).1)
 have HL2:=Lib.hid (show w.heap.size < W2.heap.size from (Array.getElem?_eq_some_iff.1 hk2).1)
 clear hk1 hk2 hb1 k2 kB2 kS2 hW0
 go_wp2_with (fail)
 clear hW2
 refine FlX.wp_region_flow_tail 14 (FlX.specs [some (.inl ?_),some (.inl ?_),some (.inl ?_),some (.inl ?_),some (.inl ?_),some (.inl ?_),some (.inl ?_),some (.inl ?_),some (.inl ?_),some (.inl ?_),some (.inl ?_),some (.inl ?_),some (.inr newBoxX),some (.inr newBoxX)]) (by kernel_rfl) (by kernel_rfl) ?_ ?_
 rotate_left 12
 ·refine FlX.specs_mono ?_
  repeat (first | exact FlX.lmono_nil | refine FlX.lmono_inl ?_ | refine FlX.lmono_inr newBoxX_mono ?_)
 all_goals try simp only [List.take_succ_cons,List.take_zero,List.drop_succ_cons,List.drop_zero]
 iterate 4 (refine FlX.tree_valK rfl (fun K hK=>⟨fun w hw hG => ?_,?_⟩);(have hcl:=Flow.bcell hw;clear hG hw;unfold FlX.RunsV Flow.yields;go_simp;try rfl);go_simp;refine hK _ ?_;clear hK K)
 (refine FlX.tree_valK rfl (fun K hK=>⟨fun w hw hG => ?_,?_⟩);(clear hG hw;unfold FlX.RunsV Flow.yields;go_simp;refine (HM1.out _).mono ?_;rintro e w5 ⟨rfl,hb5⟩;first | exact ⟨_,rfl,hb5,rfl⟩ | (refine ⟨?_,hb5⟩;rfl));go_simp;refine hK _ ?_;clear hK K)
 (refine FlX.tree_valK rfl (fun K hK=>⟨fun w hw hG => ?_,?_⟩);(clear hG hw;unfold FlX.RunsV Flow.yields;go_simp;refine (HA1.out _).mono ?_;rintro e w5 ⟨rfl,hb5⟩;first | exact ⟨_,rfl,hb5,rfl⟩ | (refine ⟨?_,hb5⟩;rfl));go_simp;refine hK _ ?_;clear hK K)
 iterate 4 (refine FlX.tree_valK rfl (fun K hK=>⟨fun w hw hG => ?_,?_⟩);(have hcl:=Flow.bcell hw;clear hG hw;unfold FlX.RunsV Flow.yields;go_simp;try rfl);go_simp;refine hK _ ?_;clear hK K)
 (refine FlX.tree_valK rfl (fun K hK=>⟨fun w hw hG => ?_,?_⟩);(clear hG hw;unfold FlX.RunsV Flow.yields;go_simp;refine (HM2.out _).mono ?_;rintro e w5 ⟨rfl,hb5⟩;first | exact ⟨_,rfl,hb5,rfl⟩ | (refine ⟨?_,hb5⟩;rfl));go_simp;refine hK _ ?_;clear hK K)
 (refine FlX.tree_valK rfl (fun K hK=>⟨fun w hw hG => ?_,?_⟩);(clear hG hw;unfold FlX.RunsV Flow.yields;go_simp;refine (HA2.out _).mono ?_;rintro e w5 ⟨rfl,hb5⟩;first | exact ⟨_,rfl,hb5,rfl⟩ | (refine ⟨?_,hb5⟩;rfl));go_simp;refine hK _ ?_;clear hK K)
 ((refine FlX.tree_varK rfl (fun K hK=>⟨fun w hw hG => ?_,?_⟩);(have hl:=laid1 w (.cells #[.int .i64 0,.int .u64 0] 60);clear hG hw;unfold FlX.RunsR Flow.yields;go_simp;exact ⟨_,rfl,Nat.le_refl _,by omega,hl.1⟩));intro v10;go_simp;refine hK _ _ ?_;clear hK K)
 ((refine FlX.tree_varK rfl (fun K hK=>⟨fun w hw hG => ?_,?_⟩);(have hl:=laid1 w (.cells #[.int .i64 0,.int .u64 0] 60);clear hG hw;unfold FlX.RunsR Flow.yields;go_simp;exact ⟨_,rfl,Nat.le_refl _,by omega,hl.1⟩));intro v11;go_simp;refine hK _ _ ?_;clear hK K)
 refine FlX.tree_nil fun w5 hw5 hG => ?_
 obtain ⟨I,hI⟩:=hG
 obtain ⟨g10,rfl,ha1,ha2,ha3⟩:=(show newBoxX v10 _ _ w5 by simpa [FlX.upd] using hI.holds 12)
 obtain ⟨g11,rfl,hc1',hc2',hc3⟩:=(show newBoxX v11 _ _ w5 by simpa [FlX.upd] using hI.holds 13)
 have hap:=hI.apart 12 13 (by decide)
 have hl12:=hI.le 12
 have hl13:=hI.le 13
 clear hI
 generalize (I 12).1=s12 at *
 generalize (I 12).2=e12 at *
 generalize (I 13).1=s13 at *
 generalize (I 13).2=e13 at *
 clear I x0 x1 HM1 HM2 HA1 HA2
 have hne:g10≠g11:=by omega
 have HL:=Lib.hid (show w1.heap.size < g10∧w1.heap.size < g11 by omega)
 have hB5:=Bt HB2.out hw5
 have hk5:=(hw5.block _ HL2.out).trans HK2.out
 clear hap hl12 hl13 ha1 ha2 hc1' hc2' hw5 hlt
 obtain ⟨W6,hW6,a6,o6,_,B6⟩:=box2 (.int .i64 u1) (.int .u64 v1) ha3 hB5 (by have:=HL.out;have:=HL1.out;omega)
 have hg11:=(o6 g11 (by omega)).trans hc3
 obtain ⟨W7,hW7,a7,o7,_,B7⟩:=box2 (.int .i64 u2) (.int .u64 v2) hg11 B6 (by have:=HL.out;have:=HL1.out;omega)
 have h10:=(o7 g10 hne).trans a6
 have hk7:=(o7 w.heap.size (by have:=HL.out;have:=HL1.out;omega)).trans ((o6 w.heap.size (by have:=HL.out;have:=HL1.out;omega)).trans hk5)
 obtain ⟨_,f0,f1⟩:=can2 ha3
 obtain ⟨_,f2,f3⟩:=can2 hg11
 obtain ⟨⟨x0,x1⟩,_⟩:=can2 h10
 obtain ⟨⟨y0,y1⟩,_⟩:=can2 hk7
 have H10:=Lib.hid h10
 have HK7:=Lib.hid hk7
 have H11:=Lib.hid a7
 have HB7:=Lib.hid B7
 clear o6 o7 B6 B7 h10 hk7 a7 a6 hg11 hc3 ha3 hB5 hk5
 go_simp
 go_wp2_with (fail)
 go_at_call 183
 refine (HC1.out _).mono ?_
 rintro e w8 ⟨rfl,hb8⟩
 have h8:=(hb8.block _ (Array.getElem?_eq_some_iff.1 H11.out).1).trans H11.out
 have hk8:=(hb8.block _ (Array.getElem?_eq_some_iff.1 HK7.out).1).trans HK7.out
 have HB8:=Lib.hid (Bt HB7.out hb8)
 clear x0 x1 y0 y1 f0 f1 f2 f3 hW6 hW7
 obtain ⟨⟨p8,q8⟩,_⟩:=can2 h8
 obtain ⟨⟨r8,s8⟩,_⟩:=can2 hk8
 clear hb8 h8 hk8
 go_wp2_with (fail)
 go_at_call 183
 refine (HC2.out _).mono ?_
 rintro e w9 ⟨rfl,hb9⟩
 have HB9:=Lib.hid (Bt HB8.out hb9)
 clear hb9
 go_wp2_with (fail)
 go_ret
 exact ⟨rfl,HB9.out⟩
theorem isSum_any (s n l h:Int) (hs:Tess.SumOk s n l h) (hn:1≤n∧n≤1000000) (hl:I64 l) (hh:I64 h) (w:World):Calls Tryz.prog 140 #[.agg #[.int .i64 (wHi s),.int .u64 (wLo s)],.int .i64 n,.int .i64 l,.int .i64 h] w fun e w'=>e = .returned (.bool true)∧Below w.heap.size w w':=by
 by_cases h1:n=1
 ·subst h1
  obtain ⟨s1,s2,s3⟩:=hs
  obtain rfl:s=l:=by omega
  obtain rfl:h=s:=by omega
  exact isSum_one _ hl w
 ·exact isSum_more s n l h hs ⟨by omega,hn.2⟩ hl hh w
end Go.Proofs.YtaddkkkchkdgkaaGreatDoor
namespace Go.Proofs.YtaddkkkchkdgkaaGreatDoor
open Go.RowKit Go.Sort Go.Shelf
open Tess (CK Pay PayOk CelOk)
theorem slp_of_rowsI {p:Nat→Prop} {w:World} {v:Value} {ns:List Int} (h:RowsAt 1 intF p w v ns):SlP p w v (ns.map (.int .i64)):=by
 obtain ⟨a,c,rfl,h1,h2,h3,h4⟩:=h
 refine ⟨⟨by rw [List.length_map];exact h1,a,c,by rw [List.length_map],fun hl => ?_⟩,fun hl b hb => ?_,fun n c' e => ?_⟩
 ·obtain ⟨b,off,ha,hb,_,hc⟩:=h4 (by simpa using hl)
  refine ⟨b,off,ha,hb,fun j hj => ?_⟩
  have:=hc j (by simpa using hj) 0 (by omega)
  simpa [intF] using this
 ·obtain ⟨b',off,rfl,_,hp,_⟩:=h4 (by simpa using hl)
  simp [blk] at hb
  subst hb;exact hp
 ·cases e;exact h3 rfl
theorem CelAt.row {p:Nat→Prop} {w:World} {t n:Int} {vd v3 v4 v5:Value} {ds:List Tess.DV} {sl nl xl:List Int} (h:CelAt p w [.int .i64 t,vd,.int .i64 n,v3,v4,v5] ((t,ds),⟨n,sl,nl,xl⟩)):RowAt p w (.agg #[.int .i64 t,vd,v4]) t (ds.map Tess.valOf) nl:=by
 obtain ⟨vd',v3',v4',v5',e,hd,hp⟩:=h
 simp only [List.cons.injEq,and_true,true_and] at e
 obtain ⟨rfl,rfl,rfl,rfl⟩:=e
 have hm:=hp.mins
 obtain ⟨a,c,e,h1,h2,_⟩:=hm
 simp only at e
 subst e
 exact ⟨_,a,c,rfl,h2,hd,slp_of_rowsI hp.mins⟩
set_option maxRecDepth 100000 in
set_option maxHeartbeats 2000000 in
theorem celRight_any (p:Nat→Prop) (vs:Value) (cs:List Value) (s:Tess.Sch) (x:CK×Pay) (w:World) (hs:SchAt p w vs s) (hc:CelAt p w cs x) (hsch:Tess.schOk s=true) (hok:CelOk s x) :
  Calls Tryz.prog 99 #[.agg cs.toArray,vs] w fun e w'=>e = .returned (.bool true)∧Below w.heap.size w w':=by
 obtain ⟨⟨t,ds⟩,n,sl,nl,xl⟩:=x
 obtain ⟨vd,v3,v4,v5,rfl,hd,hp⟩:=id hc
 have hrow:=CelAt.row hc
 obtain ⟨⟨t0,t1,t2⟩,⟨d1,d2⟩,hmost,hpay⟩:=hok
 obtain ⟨l1,l2,l3⟩:=hpay.len
 simp only at hd hp t0 t1 t2 d1 d2 hmost l1 l2 l3 hrow ⊢
 have hg:1≤s.grain∧s.grain≤1000000000:=by
  simp only [Tess.schOk,Bool.and_eq_true,decide_eq_true_eq] at hsch
  exact ⟨hsch.1.1.2,hsch.1.2⟩
 have hfit:Tess.rowFits s t (ds.map Tess.valOf) nl.length=true:=by
  simp only [Tess.rowFits,Bool.and_eq_true,decide_eq_true_eq,List.length_map]
  exact ⟨⟨⟨⟨⟨hsch,t0⟩,t1⟩,d1⟩,l2⟩,d2⟩
 have hT:t - t % s.grain=t:=by omega
 have HCUT:=Lib.hid (fun W=>gCut_any t s.grain W ⟨t0,t1⟩ hg)
 rw [hT] at HCUT
 have HFIT:=Lib.hid (fun W (hB:Below w.heap.size w W)=>sFits_any p vs _ s t (ds.map Tess.valOf) nl W (hs.ag (Ag.new p hB)) (hrow.ag (Ag.new p hB)))
 rw [hfit] at HFIT
 have HSU:=Lib.hid hp.sums
 have HMI:=Lib.hid hp.mins
 have HMA:=Lib.hid hp.maxs
 have HIS:=Lib.hid (show ∀ k (h1:k < sl.length) (h2:k < nl.length) (h3:k < xl.length),∀ W,Calls Tryz.prog 140 #[.agg #[.int .i64 (wHi sl[k]),.int .u64 (wLo sl[k])],.int .i64 n,.int .i64 nl[k],.int .i64 xl[k]] W fun e w'=>e = .returned (.bool true)∧Below W.heap.size W w' from fun k h1 h2 h3 W=>by
  have a1:=hpay.sum k (by omega)
  have a2:=hpay.rng k (by omega)
  have e1:sl.getD k 0=sl[k]:=by simp [List.getD,h1]
  have e2:nl.getD k 0=nl[k]:=by simp [List.getD,h2]
  have e3:xl.getD k 0=xl[k]:=by simp [List.getD,h3]
  simp only [e1,e2,e3] at a1 a2
  exact isSum_any _ _ _ _ a1 ⟨hpay.one,hmost⟩ ⟨a2.1,a2.2.1⟩ ⟨a2.2.2.1,a2.2.2.2⟩ W)
 obtain ⟨da,dc,rfl⟩:=hd.shape
 obtain ⟨a3,c3,rfl,_,hM,_⟩:=hp.sums.shapeM l1
 obtain ⟨a4,c4,rfl,_,_,_⟩:=hp.mins.shapeM l2
 obtain ⟨a5,c5,rfl,_,_,_⟩:=hp.maxs.shapeM l3
 have HL:=Lib.hid (And.intro l1 (And.intro l2 l3))
 have hn1:¬ n < 1:=by have:=hpay.one;simp only at this;omega
 have hn2:¬ 1000000 < n:=by omega
 obtain ⟨vsd,vsm,rfl,hsd,hsm,_,_⟩:=hs
 obtain ⟨ad,capd,rfl,_⟩:=slp_len hsd
 obtain ⟨am,capm,rfl,_⟩:=slp_len hsm
 generalize hdl:(ds.map Tess.valOf).length=dl at *
 generalize s.mets.length=M at *
 clear hd hp hc hrow hsd hsm t0 t1 t2 d1 d2 hmost hpay l1 l2 l3 hg hfit hT hdl hsch
 obtain ⟨W0,hW0⟩:∃ W0,(w.alloc (.cells #[.int .i64 t,.slice da dl dc,.int .i64 n,.slice a3 M c3,.slice a4 M c4,.slice a5 M c5] 126)).alloc (.cells #[.slice ad s.dims.length capd,.slice am M capm,.int .i64 s.grain] 24)=W0:=⟨_,rfl⟩
 obtain ⟨h0,h1,hS,hB⟩:=laid2 w (.cells #[.int .i64 t,.slice da dl dc,.int .i64 n,.slice a3 M c3,.slice a4 M c4,.slice a5 M c5] 126) (.cells #[.slice ad s.dims.length capd,.slice am M capm,.int .i64 s.grain] 24)
 rw [hW0] at h0 h1 hS hB
 have H0:=Lib.hid h0
 have H1:=Lib.hid h1
 have HB:=Lib.hid hB
 have HS:=Lib.hid hS
 obtain ⟨⟨x0,x1,x2,x3,x4,x5⟩,_⟩:=can6 h0
 obtain ⟨⟨y0,y1,y2⟩,_⟩:=can3 h1
 clear h0 h1 hS hB
 go_enter Tryz.func99,Tryz.ntmps99
 go_wp2_with (fail)
 go_at_call 55
 refine (HCUT.out _).mono ?_
 rintro e w1 ⟨rfl,hb1⟩
 have h0:=(hb1.block _ (Array.getElem?_eq_some_iff.1 H0.out).1).trans H0.out
 have h1:=(hb1.block _ (Array.getElem?_eq_some_iff.1 H1.out).1).trans H1.out
 have HB1:=Lib.hid (Bt HB.out hb1)
 have K0:=Lib.hid h0
 have K1:=Lib.hid h1
 clear x0 x1 x2 x3 x4 x5 y0 y1 y2 hW0 hb1
 obtain ⟨⟨x0,x1,x2,x3,x4,x5⟩,_⟩:=can6 h0
 obtain ⟨⟨y0,y1,y2⟩,_⟩:=can3 h1
 clear h0 h1
 go_wp2_with (fail)
 go_at_call 54
 refine (HFIT.out _ HB1.out).mono ?_
 rintro e w2 ⟨rfl,hb2⟩
 have h0:=(hb2.block _ (Array.getElem?_eq_some_iff.1 K0.out).1).trans K0.out
 have h1:=(hb2.block _ (Array.getElem?_eq_some_iff.1 K1.out).1).trans K1.out
 have HB2:=Lib.hid (Bt HB1.out hb2)
 have J0:=Lib.hid h0
 have J1:=Lib.hid h1
 clear x0 x1 x2 x3 x4 x5 y0 y1 y2 hb2
 obtain ⟨⟨x0,x1,x2,x3,x4,x5⟩,_⟩:=can6 h0
 clear h0 h1
 go_wp2_with (fail)
 clear x0 x1 x2 x3 x4 x5
 go_loopw [78] (fun i wr => ∃ k:Nat,k≤M∧i = .int .i64 k∧Below w2.heap.size w2 wr) (fun i _=>M - (intOf i).toNat)
 case atStart=>exact ⟨0,Nat.zero_le _,rfl,Below.refl _ _⟩
 case round=>
  obtain ⟨k,hk,rfl,hB⟩:=hrel
  by_cases hlt:k < M
  ·have hki:(k:Int) < (M:Int):=by omega
   have hl:=HL.out
   have hBw:=Bt HB2.out hB
   obtain ⟨b3,o3,rfl,hb3,e0,e1⟩:=(HSU.out.ag (Ag.new p hBw)).num2 (show k < sl.length by omega)
   obtain ⟨b4,o4,rfl,hb4,e2⟩:=(HMI.out.ag (Ag.new p hBw)).num1 (show k < nl.length by omega)
   obtain ⟨b5,o5,rfl,hb5,e3⟩:=(HMA.out.ag (Ag.new p hBw)).num1 (show k < xl.length by omega)
   have HSK:=Lib.hid (HIS.out k (by omega) (by omega) (by omega))
   have h0:=(hB.block _ (Array.getElem?_eq_some_iff.1 J0.out).1).trans J0.out
   generalize sl[k]=z1 at *
   generalize nl[k]=z2 at *
   generalize xl[k]=z3 at *
   obtain ⟨W3,hW3⟩:∃ W3,wr.alloc (.cells #[.int .i64 (wHi z1),.int .u64 (wLo z1)] 60)=W3:=⟨_,rfl⟩
   obtain ⟨q0,qS,qB⟩:=laid1 wr (.cells #[.int .i64 (wHi z1),.int .u64 (wLo z1)] 60)
   rw [hW3] at q0 qS qB
   have hg0:w.heap.size < wr.heap.size:=(Array.getElem?_eq_some_iff.1 h0).1
   obtain ⟨⟨x0,x1,x2,x3,x4,x5⟩,_⟩:=can6 ((qB.block _ hg0).trans h0)
   obtain ⟨⟨y0,y1⟩,_⟩:=can2 q0
   have f2:=(qB.cell (p:=⟨b4,o4 + k,none⟩) hb4).trans e2
   have f3:=(qB.cell (p:=⟨b5,o5 + k,none⟩) hb5).trans e3
   have hg1:w.heap.size < W3.heap.size:=by omega
   have hg2:wr.heap.size < W3.heap.size:=by omega
   have hg4:b4 < W3.heap.size:=by omega
   have hg5:b5 < W3.heap.size:=by omega
   have HB3:=Lib.hid (Bt hB qB)
   clear h0 q0 qS qB hBw hl hB hg0
   go_wp2_with (fail)
   clear hW3 e0 e1 e2 e3 hb3 hb4 hb5
   refine Flow.wp_region_flow_tail 16 (Flow.specs [.inl ?_,.inl ?_,.inl ?_,.inl ?_,.inl ?_,.inl ?_,.inl ?_,.inl ?_,.inl ?_,.inl ?_,.inl ?_,.inl ?_,.inl ?_,.inl ?_,.inl ?_,.inl ?_]) (by kernel_rfl) (by kernel_rfl) ?_ ?_
   rotate_left 16
   ·refine Flow.specs_mono ?_
    repeat (first | exact Flow.lmono_nil | refine Flow.lmono_inl ?_)
   all_goals try simp only [List.take_succ_cons,List.take_zero,List.drop_succ_cons,List.drop_zero]
   iterate 16 (refine Flow.tree_valK rfl (fun K hK=>⟨fun w hw hG => ?_,?_⟩);(have hcl:=Flow.bcell hw;clear hG hw;unfold Flow.Runs Flow.yields;go_simp;try rfl);go_simp;refine hK _ ?_;clear hK K)
   refine Flow.tree_nil fun w5 hw5 hG => ?_
   clear hG x0 x1 x2 x3 x4 x5 y0 y1 f2 f3
   have HB5:=Lib.hid (Bt HB3.out hw5)
   clear hw5
   go_simp
   go_wp2_with (fail)
   go_at_call 140
   refine (HSK.out _).mono ?_
   rintro e w6 ⟨rfl,hb6⟩
   have HB6:=Lib.hid (Bt HB5.out hb6)
   clear hb6
   go_wp2
   go_roundw
   case rel=>exact ⟨k + 1,by omega,by go_num,HB6.out⟩
   case measure=>simp [intOf];omega
  ·have hki:¬ (k:Int) < (M:Int):=by omega
   go_wp2
   go_ret
   exact ⟨rfl,Bt HB2.out hB⟩
end Go.Proofs.YtaddkkkchkdgkaaGreatDoor
