/- Joined by mergeK.py: K32, K33 -/
import Derived.Test.YtaddkkkchkdgkaaGreatDoorCC19
import Derived.Test.YtaddkkkchkdgkaaGreatDoorCC12
import Derived.Laws.StructEq
import Derived.Test.YtaddkkkchkdgkaaGreatDoorCC18
namespace Go.Proofs.YtaddkkkchkdgkaaGreatDoor
open Go.RowKit Go.Sort Go.Shelf
theorem sum2_any (x y:Int) (b:Nat) (w:World) (hx:I64 x) (hy:I64 y) (h:w.heap[b]? = some (.cells #[.int .i64 x,.int .i64 y] 2 (0,0))) :
  Calls Tryz.prog 181 #[.slice (some ⟨b,0,none⟩) 2 2] w fun e w'=>e = .returned (.agg #[.int .i64 (wHi (x + y)),.int .u64 (wLo (x + y))])∧Below w.heap.size w w':=by
 have hb:=(Array.getElem?_eq_some_iff.1 h).1
 have hr:RA 1 intF (fun _=>True) w (.slice (some ⟨b,0,none⟩) 2 2) [x,y]:=by
  refine ⟨_,2,rfl,(show (2:Nat)≤maxLen by decide),Nat.le_refl 2,(fun e=>by cases e),fun _=>⟨b,0,rfl,hb,trivial,fun j hj i hi => ?_⟩⟩
  have Ab:j < 2:=hj
  obtain rfl:i=0:=by omega
  rcases (show j=0∨j=1 by omega) with rfl | rfl
  ·exact cell_of_row _ _ 0 _ _ _ h
  ·exact cell_of_row _ _ 1 _ _ _ h
 have:=wSum_any _ _ [x,y] w hr (fun n hn=>by
  rcases List.mem_cons.1 hn with rfl | hn
  ·exact hx
  ·rw [List.mem_singleton.1 hn];exact hy) (fun k hk=>by
  have Aa:k < 2:=hk
  obtain ⟨h1,h2⟩:=hx
  obtain ⟨h3,h4⟩:=hy
  rcases (show k=0∨k=1 by omega) with rfl | rfl
  ·simp [WOk];omega
  ·simp [WOk];omega)
 simpa using this
theorem box2 {w W:World} {g:Nat} {x0 x1:Value} {T:TypeId} (y0 y1:Value) (h:W.heap[g]? = some (.cells #[x0,x1] T (0,0))) {N:Nat} (hB:Below N w W) (hg:N≤g) :
  ∃ W',(W.setCell ⟨g,0,none⟩ y0).setCell ⟨g,1,none⟩ y1=W'∧W'.heap[g]? = some (.cells #[y0,y1] T (0,0))∧(∀ b,b≠g→W'.heap[b]? = W.heap[b]?)∧W'.heap.size=W.heap.size∧Below N w W':=
 ⟨_,rfl,heap_setCell_same _ _ 1 _ _ y1 (heap_setCell_same _ _ 0 _ _ y0 h),fun b hb=>by rw [heap_setCell_other _ _ _ _ (show b≠g from hb),heap_setCell_other _ _ _ _ (show b≠g from hb)],by simp [World.setCell],(hB.setCell hg _).setCell hg _⟩
def nBX (v:Value) (s e:Nat) (W:World):Prop:=∃ g,v = .pointer (some ⟨g,0,none⟩)∧s≤g∧g < e∧W.heap[g]? = some (.cells #[.int .i64 0,.int .u64 0] 60 (0,0))
theorem newBoxX_mono:FlX.Spec.mono (some (.inr nBX)):=fun _ _ _ _ _ ⟨g,h1,h2,h3,h4⟩ hb=>⟨g,h1,h2,h3,(hb.block _ (Array.getElem?_eq_some_iff.1 h4).1).trans h4⟩
set_option maxRecDepth 100000 in
set_option maxHeartbeats 4000000 in
theorem isSum_one (l:Int) (hl:I64 l) (w:World):Calls Tryz.prog 140 #[.agg #[.int .i64 (wHi l),.int .u64 (wLo l)],.int .i64 1,.int .i64 l,.int .i64 l] w fun e w'=>e = .returned (.bool true)∧Below w.heap.size w w':=by
 have Ae:=Hd (fun W=>wOf_eq l hl W)
 generalize wHi l=a at *
 generalize wLo l=b at *
 obtain ⟨W0,Ac⟩:∃ W0,w.alloc (.cells #[.int .i64 a,.int .u64 b] 60)=W0:=⟨_,rfl⟩
 obtain ⟨k0,kS,kB⟩:=la2 w (.cells #[.int .i64 a,.int .u64 b] 60)
 rw [Ac] at k0 kS kB
 obtain ⟨⟨x0,x1⟩,_⟩:=can2 k0
 have Af:w.heap.size < W0.heap.size:=by omega
 have HB:=Hd kB
 clear k0 kS kB hl
 go_enter Tryz.func140,Tryz.ntmps140
 go_wp2_with (fail)
 refine Flow.wrf 8 (Flow.sp3 [.inl ?_,.inl ?_,.inl ?_,.inl ?_,.inl ?_,.inl ?_,.inl ?_,.inl ?_]) (by kernel_rfl) (by kernel_rfl) ?_ ?_
 rotate_left 8
 ·refine Flow.sm2 ?_
  repeat (first | exact Flow.ln2 | refine Flow.li2 ?_)
 all_goals try simp only [List.take_succ_cons,List.take_zero,List.drop_succ_cons,List.drop_zero]
 iterate 6 (refine Flow.tvK rfl (fun K hK=>⟨fun w hw hG => ?_,?_⟩);(have Ad:=Flow.bc4 hw;clear hG hw;unfold Flow.Runs Flow.yields;go_simp;try rfl);go_simp;refine hK _ ?_;clear hK K)
 (refine Flow.tvK rfl (fun K hK=>⟨fun w hw hG => ?_,?_⟩);(clear hG hw;unfold Flow.Runs Flow.yields;go_simp;refine (Ae.out _).mono ?_;rintro e w5 ⟨rfl,Aa⟩;first | exact ⟨_,rfl,Aa,rfl⟩ | (refine ⟨?_,Aa⟩;rfl));go_simp;refine hK _ ?_;clear hK K)
 iterate 1 (refine Flow.tvK rfl (fun K hK=>⟨fun w hw hG => ?_,?_⟩);(have Ad:=Flow.bc4 hw;clear hG hw;unfold Flow.Runs Flow.yields;go_simp;try rfl);go_simp;refine hK _ ?_;clear hK K)
 refine Flow.tn2 fun w5 hw5 hG => ?_
 clear hG x0 x1
 have Ab:=Hd (Bt HB.out hw5)
 clear hw5
 go_simp
 go_wp2
 go_ret
 exact ⟨rfl,Ab.out⟩
set_option maxRecDepth 100000 in
set_option maxHeartbeats 1000000 in
theorem isSum_more (s n l h:Int) (hs:Tess.SumOk s n l h) (hn:2≤n∧n≤1000000) (hl:I64 l) (hh:I64 h) (w:World):Calls Tryz.prog 140 #[.agg #[.int .i64 (wHi s),.int .u64 (wLo s)],.int .i64 n,.int .i64 l,.int .i64 h] w fun e w'=>e = .returned (.bool true)∧Below w.heap.size w w':=by
 obtain ⟨m,hm⟩:∃ m:Nat,n - 2=m:=⟨(n - 2).toNat,by omega⟩
 have Ar:m≤1000000:=by omega
 have Br:IntKind.i64.wrap (n - 2)=(m:Int):=by rw [IntKind.wrap_i64];omega
 have Bs:¬ n=1:=by omega
 obtain ⟨s1,s2,s3⟩:=hs
 have b1:=mul_bound hl (show (0:Int)≤(m:Int)∧(m:Int)≤1000000 by omega)
 have b2:=mul_bound hh (show (0:Int)≤(m:Int)∧(m:Int)≤1000000 by omega)
 have e1:l * (n - 1)=l * m + l:=by rw [show n - 1=(m:Int) + 1 by omega,Int.mul_add,Int.mul_one]
 have e2:h * (n - 1)=h * m + h:=by rw [show n - 1=(m:Int) + 1 by omega,Int.mul_add,Int.mul_one]
 rw [e1] at s2
 rw [e2] at s3
 have Ac:=Hd (fun b W=>sum2_any l h b W hl hh)
 have A6:=Hd (fun W=>wMul_any l m hl Ar W)
 have A0:=Hd (fun W=>wMul_any h m hh Ar W)
 have At:=Hd (fun W=>wAa (l + h) (l * m) (by unfold WOk;unfold I64 at hl hh;omega) W)
 have Au:=Hd (fun W=>wAa (l + h) (h * m) (by unfold WOk;unfold I64 at hl hh;omega) W)
 have A9:=Hd (fun W=>wCa (l + h + l * m) s W)
 have Bi:=Hd (fun W=>wCa s (l + h + h * m) W)
 have Bu:cmpI (l + h + l * m) s≤0:=(cmpI_le _ _).2 (by omega)
 have Bw:cmpI s (l + h + h * m)≤0:=(cmpI_le _ _).2 (by omega)
 generalize cmpI (l + h + l * m) s=z1 at *
 generalize cmpI s (l + h + h * m)=z2 at *
 generalize wHi (l + h + l * m)=u1 at *
 generalize wLo (l + h + l * m)=v1 at *
 generalize wHi (l + h + h * m)=u2 at *
 generalize wLo (l + h + h * m)=v2 at *
 generalize wHi (l * m)=p1 at *
 generalize wLo (l * m)=q1 at *
 generalize wHi (h * m)=p2 at *
 generalize wLo (h * m)=q2 at *
 generalize wHi (l + h)=p0 at *
 generalize wLo (l + h)=q0 at *
 generalize wHi s=a at *
 generalize wLo s=b at *
 clear s2 s3 b1 b2 e1 e2 hm Ar hl hh hn
 obtain ⟨W0,Ay⟩:∃ W0,(w.alloc (.cells #[.int .i64 a,.int .u64 b] 60)).alloc (.cells #[.int .i64 l,.int .i64 h] 2)=W0:=⟨_,rfl⟩
 obtain ⟨k0,k1,kS,kB⟩:=la3 w (.cells #[.int .i64 a,.int .u64 b] 60) (.cells #[.int .i64 l,.int .i64 h] 2)
 rw [Ay] at k0 k1 kS kB
 have A8:=Hd (Ac.out _ _ k1)
 have K0:=Hd k0
 have KB:=Hd kB
 have KS:=Hd kS
 clear k0 k1 kS kB Ac
 go_enter Tryz.func140,Tryz.ntmps140
 go_wp2_with (fail)
 go_at_call 181
 refine A8.out.mono ?_
 rintro e w1 ⟨rfl,Am⟩
 have Af:=(Am.block w.heap.size (by have:=KS.out;omega)).trans K0.out
 have A7:=Hd (Bt KB.out Am)
 obtain ⟨W2,A3⟩:∃ W2,w1.alloc (.cells #[.int .i64 p0,.int .u64 q0] 60)=W2:=⟨_,rfl⟩
 obtain ⟨k2,Ax,Ad⟩:=la2 w1 (.cells #[.int .i64 p0,.int .u64 q0] 60)
 rw [A3] at k2 Ax Ad
 have Ak:=(Ad.block _ (Array.getElem?_eq_some_iff.1 Af).1).trans Af
 obtain ⟨⟨x0,x1⟩,_⟩:=can2 k2
 have Bf:w1.heap.size < W2.heap.size:=by omega
 have Bn:=Hd Ak
 have Bm:=Hd (Bt A7.out Ad)
 have Ae:=Hd (show w.heap.size < w1.heap.size from (Array.getElem?_eq_some_iff.1 Af).1)
 have Ba:=Hd (show w.heap.size < W2.heap.size from (Array.getElem?_eq_some_iff.1 Ak).1)
 clear Af Ak Am k2 Ad Ax Ay
 go_wp2_with (fail)
 clear A3
 refine FlX.wrf 14 (FlX.sp3 [some (.inl ?_),some (.inl ?_),some (.inl ?_),some (.inl ?_),some (.inl ?_),some (.inl ?_),some (.inl ?_),some (.inl ?_),some (.inl ?_),some (.inl ?_),some (.inl ?_),some (.inl ?_),some (.inr nBX),some (.inr nBX)]) (by kernel_rfl) (by kernel_rfl) ?_ ?_
 rotate_left 12
 ·refine FlX.sm2 ?_
  repeat (first | exact FlX.ln2 | refine FlX.li2 ?_ | refine FlX.li3 newBoxX_mono ?_)
 all_goals try simp only [List.take_succ_cons,List.take_zero,List.drop_succ_cons,List.drop_zero]
 iterate 4 (refine FlX.tvK rfl (fun K hK=>⟨fun w hw hG => ?_,?_⟩);(have Bb:=Flow.bc4 hw;clear hG hw;unfold FlX.RV Flow.yields;go_simp;try rfl);go_simp;refine hK _ ?_;clear hK K)
 (refine FlX.tvK rfl (fun K hK=>⟨fun w hw hG => ?_,?_⟩);(clear hG hw;unfold FlX.RV Flow.yields;go_simp;refine (A6.out _).mono ?_;rintro e w5 ⟨rfl,Aa⟩;first | exact ⟨_,rfl,Aa,rfl⟩ | (refine ⟨?_,Aa⟩;rfl));go_simp;refine hK _ ?_;clear hK K)
 (refine FlX.tvK rfl (fun K hK=>⟨fun w hw hG => ?_,?_⟩);(clear hG hw;unfold FlX.RV Flow.yields;go_simp;refine (At.out _).mono ?_;rintro e w5 ⟨rfl,Aa⟩;first | exact ⟨_,rfl,Aa,rfl⟩ | (refine ⟨?_,Aa⟩;rfl));go_simp;refine hK _ ?_;clear hK K)
 iterate 4 (refine FlX.tvK rfl (fun K hK=>⟨fun w hw hG => ?_,?_⟩);(have Bb:=Flow.bc4 hw;clear hG hw;unfold FlX.RV Flow.yields;go_simp;try rfl);go_simp;refine hK _ ?_;clear hK K)
 (refine FlX.tvK rfl (fun K hK=>⟨fun w hw hG => ?_,?_⟩);(clear hG hw;unfold FlX.RV Flow.yields;go_simp;refine (A0.out _).mono ?_;rintro e w5 ⟨rfl,Aa⟩;first | exact ⟨_,rfl,Aa,rfl⟩ | (refine ⟨?_,Aa⟩;rfl));go_simp;refine hK _ ?_;clear hK K)
 (refine FlX.tvK rfl (fun K hK=>⟨fun w hw hG => ?_,?_⟩);(clear hG hw;unfold FlX.RV Flow.yields;go_simp;refine (Au.out _).mono ?_;rintro e w5 ⟨rfl,Aa⟩;first | exact ⟨_,rfl,Aa,rfl⟩ | (refine ⟨?_,Aa⟩;rfl));go_simp;refine hK _ ?_;clear hK K)
 ((refine FlX.tvK2 rfl (fun K hK=>⟨fun w hw hG => ?_,?_⟩);(have hl:=la2 w (.cells #[.int .i64 0,.int .u64 0] 60);clear hG hw;unfold FlX.RR2 Flow.yields;go_simp;exact ⟨_,rfl,Nat.le_refl _,by omega,hl.1⟩));intro Bp;go_simp;refine hK _ _ ?_;clear hK K)
 ((refine FlX.tvK2 rfl (fun K hK=>⟨fun w hw hG => ?_,?_⟩);(have hl:=la2 w (.cells #[.int .i64 0,.int .u64 0] 60);clear hG hw;unfold FlX.RR2 Flow.yields;go_simp;exact ⟨_,rfl,Nat.le_refl _,by omega,hl.1⟩));intro Bh;go_simp;refine hK _ _ ?_;clear hK K)
 refine FlX.tn2 fun w5 hw5 hG => ?_
 obtain ⟨I,hI⟩:=hG
 obtain ⟨An,rfl,Bg,Bl,Al⟩:=(show nBX Bp _ _ w5 by simpa [FlX.upd] using hI.holds 12)
 obtain ⟨Ap,rfl,As,Aj,Av⟩:=(show nBX Bh _ _ w5 by simpa [FlX.upd] using hI.holds 13)
 have Bq:=hI.apart 12 13 (by decide)
 have Ah:=hI.le 12
 have Ao:=hI.le 13
 clear hI
 generalize (I 12).1=s12 at *
 generalize (I 12).2=e12 at *
 generalize (I 13).1=s13 at *
 generalize (I 13).2=e13 at *
 clear I x0 x1 A6 A0 At Au
 have Bc:An≠Ap:=by omega
 have HL:=Hd (show w1.heap.size < An∧w1.heap.size < Ap by omega)
 have Az:=Bt Bm.out hw5
 have A4:=(hw5.block _ Ba.out).trans Bn.out
 clear Bq Ah Ao Bg Bl As Aj hw5 Bf
 obtain ⟨W6,Bj,a6,o6,_,B6⟩:=box2 (.int .i64 u1) (.int .u64 v1) Al Az (by have:=HL.out;have:=Ae.out;omega)
 have Ab:=(o6 Ap (by omega)).trans Av
 obtain ⟨W7,Bd,a7,o7,_,B7⟩:=box2 (.int .i64 u2) (.int .u64 v2) Ab B6 (by have:=HL.out;have:=Ae.out;omega)
 have Ai:=(o7 An Bc).trans a6
 have Aq:=(o7 w.heap.size (by have:=HL.out;have:=Ae.out;omega)).trans ((o6 w.heap.size (by have:=HL.out;have:=Ae.out;omega)).trans A4)
 obtain ⟨_,f0,f1⟩:=can2 Al
 obtain ⟨_,f2,f3⟩:=can2 Ab
 obtain ⟨⟨x0,x1⟩,_⟩:=can2 Ai
 obtain ⟨⟨y0,y1⟩,_⟩:=can2 Aq
 have Bv:=Hd Ai
 have A5:=Hd Aq
 have A1:=Hd a7
 have Bo:=Hd B7
 clear o6 o7 B6 B7 Ai Aq a7 a6 Ab Av Al Az A4
 go_simp
 go_wp2_with (fail)
 go_at_call 183
 refine (A9.out _).mono ?_
 rintro e w8 ⟨rfl,Ag⟩
 have h8:=(Ag.block _ (Array.getElem?_eq_some_iff.1 A1.out).1).trans A1.out
 have A2:=(Ag.block _ (Array.getElem?_eq_some_iff.1 A5.out).1).trans A5.out
 have Bk:=Hd (Bt Bo.out Ag)
 clear x0 x1 y0 y1 f0 f1 f2 f3 Bj Bd
 obtain ⟨⟨p8,q8⟩,_⟩:=can2 h8
 obtain ⟨⟨r8,s8⟩,_⟩:=can2 A2
 clear Ag h8 A2
 go_wp2_with (fail)
 go_at_call 183
 refine (Bi.out _).mono ?_
 rintro e w9 ⟨rfl,Aw⟩
 have Be:=Hd (Bt Bk.out Aw)
 clear Aw
 go_wp2_with (fail)
 go_ret
 exact ⟨rfl,Be.out⟩
theorem isSum_any (s n l h:Int) (hs:Tess.SumOk s n l h) (hn:1≤n∧n≤1000000) (hl:I64 l) (hh:I64 h) (w:World):Calls Tryz.prog 140 #[.agg #[.int .i64 (wHi s),.int .u64 (wLo s)],.int .i64 n,.int .i64 l,.int .i64 h] w fun e w'=>e = .returned (.bool true)∧Below w.heap.size w w':=by
 by_cases h1:n=1
 ·subst h1
  obtain ⟨s1,s2,s3⟩:=hs
  obtain rfl:s=l:=by omega
  obtain rfl:h=s:=by omega
  exact isSum_one _ hl w
 ·exact isSum_more s n l h hs ⟨by omega,hn.2⟩ hl hh w
end Go.Proofs.YtaddkkkchkdgkaaGreatDoor
namespace Go.Proofs.YtaddkkkchkdgkaaGreatDoor
open Go.RowKit Go.Sort Go.Shelf
open Tess (CK Pay PO CO2)
theorem slp_of_rowsI {p:Nat→Prop} {w:World} {v:Value} {ns:List Int} (h:RA 1 intF p w v ns):SlP p w v (ns.map (.int .i64)):=by
 obtain ⟨a,c,rfl,h1,h2,h3,h4⟩:=h
 refine ⟨⟨by rw [List.length_map];exact h1,a,c,by rw [List.length_map],fun hl => ?_⟩,fun hl b hb => ?_,fun n c' e => ?_⟩
 ·obtain ⟨b,Aa,ha,hb,_,hc⟩:=h4 (by simpa using hl)
  refine ⟨b,Aa,ha,hb,fun j hj => ?_⟩
  have:=hc j (by simpa using hj) 0 (by omega)
  simpa [intF] using this
 ·obtain ⟨b',Aa,rfl,_,hp,_⟩:=h4 (by simpa using hl)
  simp [blk] at hb
  subst hb;exact hp
 ·cases e;exact h3 rfl
theorem CA2.row {p:Nat→Prop} {w:World} {t n:Int} {vd v3 v4 v5:Value} {ds:List Tess.DV} {sl nl xl:List Int} (h:CA2 p w [.int .i64 t,vd,.int .i64 n,v3,v4,v5] ((t,ds),⟨n,sl,nl,xl⟩)):RA2 p w (.agg #[.int .i64 t,vd,v4]) t (ds.map Tess.valOf) nl:=by
 obtain ⟨Ab,Ad,Ac,Aa,e,hd,hp⟩:=h
 simp only [List.cons.injEq,and_true,true_and] at e
 obtain ⟨rfl,rfl,rfl,rfl⟩:=e
 have hm:=hp.mins
 obtain ⟨a,c,e,h1,h2,_⟩:=hm
 simp only at e
 subst e
 exact ⟨_,a,c,rfl,h2,hd,slp_of_rowsI hp.mins⟩
set_option maxRecDepth 100000 in
set_option maxHeartbeats 2000000 in
theorem celRight_any (p:Nat→Prop) (vs:Value) (cs:List Value) (s:Tess.Sch) (x:CK×Pay) (w:World) (hs:SA p w vs s) (hc:CA2 p w cs x) (hsch:Tess.sO2 s=true) (hok:CO2 s x) :
  Calls Tryz.prog 99 #[.agg cs.toArray,vs] w fun e w'=>e = .returned (.bool true)∧Below w.heap.size w w':=by
 obtain ⟨⟨t,ds⟩,n,sl,nl,xl⟩:=x
 obtain ⟨vd,v3,v4,v5,rfl,hd,hp⟩:=id hc
 have Ac:=CA2.row hc
 obtain ⟨⟨t0,t1,t2⟩,⟨d1,d2⟩,Ab,Aa⟩:=hok
 obtain ⟨l1,l2,l3⟩:=Aa.len
 simp only at hd hp t0 t1 t2 d1 d2 Ab l1 l2 l3 Ac ⊢
 have hg:1≤s.grain∧s.grain≤1000000000:=by
  simp only [Tess.sO2,Bool.and_eq_true,decide_eq_true_eq] at hsch
  exact ⟨hsch.1.1.2,hsch.1.2⟩
 have Ad:Tess.rowFits s t (ds.map Tess.valOf) nl.length=true:=by
  simp only [Tess.rowFits,Bool.and_eq_true,decide_eq_true_eq,List.length_map]
  exact ⟨⟨⟨⟨⟨hsch,t0⟩,t1⟩,d1⟩,l2⟩,d2⟩
 have hT:t - t % s.grain=t:=by omega
 have Af:=Hd (fun W=>gCut_any t s.grain W ⟨t0,t1⟩ hg)
 rw [hT] at Af
 have Ae:=Hd (fun W (hB:Below w.heap.size w W)=>sFits_any p vs _ s t (ds.map Tess.valOf) nl W (hs.ag (Ag.new p hB)) (Ac.ag (Ag.new p hB)))
 rw [Ad] at Ae
 have A4:=Hd hp.sums
 have Aw:=Hd hp.mins
 have Ax:=Hd hp.maxs
 have A2:=Hd (show ∀ k (h1:k < sl.length) (h2:k < nl.length) (h3:k < xl.length),∀ W,Calls Tryz.prog 140 #[.agg #[.int .i64 (wHi sl[k]),.int .u64 (wLo sl[k])],.int .i64 n,.int .i64 nl[k],.int .i64 xl[k]] W fun e w'=>e = .returned (.bool true)∧Below W.heap.size W w' from fun k h1 h2 h3 W=>by
  have a1:=Aa.sum k (by omega)
  have a2:=Aa.rng k (by omega)
  have e1:sl.getD k 0=sl[k]:=by simp [List.getD,h1]
  have e2:nl.getD k 0=nl[k]:=by simp [List.getD,h2]
  have e3:xl.getD k 0=xl[k]:=by simp [List.getD,h3]
  simp only [e1,e2,e3] at a1 a2
  exact isSum_any _ _ _ _ a1 ⟨Aa.one,Ab⟩ ⟨a2.1,a2.2.1⟩ ⟨a2.2.2.1,a2.2.2.2⟩ W)
 obtain ⟨da,dc,rfl⟩:=hd.shape
 obtain ⟨a3,c3,rfl,_,hM,_⟩:=hp.sums.sM l1
 obtain ⟨a4,c4,rfl,_,_,_⟩:=hp.mins.sM l2
 obtain ⟨a5,c5,rfl,_,_,_⟩:=hp.maxs.sM l3
 have HL:=Hd (And.intro l1 (And.intro l2 l3))
 have Bd:¬ n < 1:=by have:=Aa.one;simp only at this;omega
 have Bb:¬ 1000000 < n:=by omega
 obtain ⟨A6,A7,rfl,An,Au,_,_⟩:=hs
 obtain ⟨ad,Ai,rfl,_⟩:=sl3 An
 obtain ⟨am,Ah,rfl,_⟩:=sl3 Au
 generalize hdl:(ds.map Tess.valOf).length=dl at *
 generalize s.mets.length=M at *
 clear hd hp hc Ac An Au t0 t1 t2 d1 d2 Ab Aa l1 l2 l3 hg Ad hT hdl hsch
 obtain ⟨W0,Ap⟩:∃ W0,(w.alloc (.cells #[.int .i64 t,.slice da dl dc,.int .i64 n,.slice a3 M c3,.slice a4 M c4,.slice a5 M c5] 126)).alloc (.cells #[.slice ad s.dims.length Ai,.slice am M Ah,.int .i64 s.grain] 24)=W0:=⟨_,rfl⟩
 obtain ⟨h0,h1,hS,hB⟩:=la3 w (.cells #[.int .i64 t,.slice da dl dc,.int .i64 n,.slice a3 M c3,.slice a4 M c4,.slice a5 M c5] 126) (.cells #[.slice ad s.dims.length Ai,.slice am M Ah,.int .i64 s.grain] 24)
 rw [Ap] at h0 h1 hS hB
 have H0:=Hd h0
 have H1:=Hd h1
 have HB:=Hd hB
 have HS:=Hd hS
 obtain ⟨⟨x0,x1,x2,x3,x4,x5⟩,_⟩:=can6 h0
 obtain ⟨⟨y0,y1,y2⟩,_⟩:=can3 h1
 clear h0 h1 hS hB
 go_enter Tryz.func99,Tryz.ntmps99
 go_wp2_with (fail)
 go_at_call 55
 refine (Af.out _).mono ?_
 rintro e w1 ⟨rfl,Al⟩
 have h0:=(Al.block _ (Array.getElem?_eq_some_iff.1 H0.out).1).trans H0.out
 have h1:=(Al.block _ (Array.getElem?_eq_some_iff.1 H1.out).1).trans H1.out
 have Am:=Hd (Bt HB.out Al)
 have K0:=Hd h0
 have K1:=Hd h1
 clear x0 x1 x2 x3 x4 x5 y0 y1 y2 Ap Al
 obtain ⟨⟨x0,x1,x2,x3,x4,x5⟩,_⟩:=can6 h0
 obtain ⟨⟨y0,y1,y2⟩,_⟩:=can3 h1
 clear h0 h1
 go_wp2_with (fail)
 go_at_call 54
 refine (Ae.out _ Am.out).mono ?_
 rintro e w2 ⟨rfl,Ak⟩
 have h0:=(Ak.block _ (Array.getElem?_eq_some_iff.1 K0.out).1).trans K0.out
 have h1:=(Ak.block _ (Array.getElem?_eq_some_iff.1 K1.out).1).trans K1.out
 have Av:=Hd (Bt Am.out Ak)
 have J0:=Hd h0
 have J1:=Hd h1
 clear x0 x1 x2 x3 x4 x5 y0 y1 y2 Ak
 obtain ⟨⟨x0,x1,x2,x3,x4,x5⟩,_⟩:=can6 h0
 clear h0 h1
 go_wp2_with (fail)
 clear x0 x1 x2 x3 x4 x5
 go_loopw [78] (fun i wr => ∃ k:Nat,k≤M∧i = .int .i64 k∧Below w2.heap.size w2 wr) (fun i _=>M - (intOf i).toNat)
 case atStart=>exact ⟨0,Nat.zero_le _,rfl,Below.refl _ _⟩
 case round=>
  obtain ⟨k,hk,rfl,hB⟩:=hrel
  by_cases hlt:k < M
  ·have A1:(k:Int) < (M:Int):=by omega
   have hl:=HL.out
   have Aj:=Bt Av.out hB
   obtain ⟨b3,o3,rfl,Az,e0,e1⟩:=(A4.out.ag (Ag.new p Aj)).num2 (show k < sl.length by omega)
   obtain ⟨b4,o4,rfl,Ao,e2⟩:=(Aw.out.ag (Ag.new p Aj)).num1 (show k < nl.length by omega)
   obtain ⟨b5,o5,rfl,At,e3⟩:=(Ax.out.ag (Ag.new p Aj)).num1 (show k < xl.length by omega)
   have Ay:=Hd (A2.out k (by omega) (by omega) (by omega))
   have h0:=(hB.block _ (Array.getElem?_eq_some_iff.1 J0.out).1).trans J0.out
   generalize sl[k]=z1 at *
   generalize nl[k]=z2 at *
   generalize xl[k]=z3 at *
   obtain ⟨W3,Aq⟩:∃ W3,wr.alloc (.cells #[.int .i64 (wHi z1),.int .u64 (wLo z1)] 60)=W3:=⟨_,rfl⟩
   obtain ⟨q0,qS,qB⟩:=la2 wr (.cells #[.int .i64 (wHi z1),.int .u64 (wLo z1)] 60)
   rw [Aq] at q0 qS qB
   have Ar:w.heap.size < wr.heap.size:=(Array.getElem?_eq_some_iff.1 h0).1
   obtain ⟨⟨x0,x1,x2,x3,x4,x5⟩,_⟩:=can6 ((qB.block _ Ar).trans h0)
   obtain ⟨⟨y0,y1⟩,_⟩:=can2 q0
   have f2:=(qB.cell (p:=⟨b4,o4 + k,none⟩) Ao).trans e2
   have f3:=(qB.cell (p:=⟨b5,o5 + k,none⟩) At).trans e3
   have Ba:w.heap.size < W3.heap.size:=by omega
   have A9:wr.heap.size < W3.heap.size:=by omega
   have Be:b4 < W3.heap.size:=by omega
   have Bc:b5 < W3.heap.size:=by omega
   have A0:=Hd (Bt hB qB)
   clear h0 q0 qS qB Aj hl hB Ar
   go_wp2_with (fail)
   clear Aq e0 e1 e2 e3 Az Ao At
   refine Flow.wrf 16 (Flow.sp3 [.inl ?_,.inl ?_,.inl ?_,.inl ?_,.inl ?_,.inl ?_,.inl ?_,.inl ?_,.inl ?_,.inl ?_,.inl ?_,.inl ?_,.inl ?_,.inl ?_,.inl ?_,.inl ?_]) (by kernel_rfl) (by kernel_rfl) ?_ ?_
   rotate_left 16
   ·refine Flow.sm2 ?_
    repeat (first | exact Flow.ln2 | refine Flow.li2 ?_)
   all_goals try simp only [List.take_succ_cons,List.take_zero,List.drop_succ_cons,List.drop_zero]
   iterate 16 (refine Flow.tvK rfl (fun K hK=>⟨fun w hw hG => ?_,?_⟩);(have A8:=Flow.bc4 hw;clear hG hw;unfold Flow.Runs Flow.yields;go_simp;try rfl);go_simp;refine hK _ ?_;clear hK K)
   refine Flow.tn2 fun w5 hw5 hG => ?_
   clear hG x0 x1 x2 x3 x4 x5 y0 y1 f2 f3
   have A3:=Hd (Bt A0.out hw5)
   clear hw5
   go_simp
   go_wp2_with (fail)
   go_at_call 140
   refine (Ay.out _).mono ?_
   rintro e w6 ⟨rfl,As⟩
   have A5:=Hd (Bt A3.out As)
   clear As
   go_wp2
   go_roundw
   case rel=>exact ⟨k + 1,by omega,by go_num,A5.out⟩
   case measure=>simp [intOf];omega
  ·have A1:¬ (k:Int) < (M:Int):=by omega
   go_wp2
   go_ret
   exact ⟨rfl,Bt Av.out hB⟩
end Go.Proofs.YtaddkkkchkdgkaaGreatDoor
