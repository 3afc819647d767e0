/- Joined by mergeK.py: K14, K15 -/
import Derived.Test.YtaddkkkchkdgkaaGreatDoorCC12
import Derived.Test.YtaddkkkchkdgkaaGreatDoorCC06
namespace Go.Proofs.YtaddkkkchkdgkaaGreatDoor
open Go.RowKit Go.Sort
open Tess (CK Pay)
theorem flat_at {α:Type} {k:Nat} {f:α→List Value} (hk:0 < k) {l:List α} (h:∀ x ∈ l,(f x).length=k) {j:Nat} {u:Value} (hj:(l.flatMap f)[j]? = some u):∃ q i,∃ hq:q < l.length,i < k∧j=q * k + i∧(f l[q])[i]? = some u:=by
 have Aa:∀ l:List α,(∀ x ∈ l,(f x).length=k)→(l.flatMap f).length=l.length * k:=fun l=>by
  induction l with
  | nil=>intro _;simp
  | cons a r ih=>intro h;rw [List.flatMap_cons,List.length_append,ih fun x hx=>h x (List.mem_cons_of_mem _ hx),h a (List.mem_cons_self),List.length_cons,Nat.succ_mul];omega
 obtain ⟨Ab,_⟩:=List.getElem?_eq_some_iff.1 hj
 rw [Aa l h] at Ab
 have hq:j / k < l.length:=Nat.div_lt_of_lt_mul (by rw [Nat.mul_comm];exact Ab)
 have hi:j % k < k:=Nat.mod_lt _ hk
 have e:j=j / k * k + j % k:=by rw [Nat.mul_comm];exact (Nat.div_add_mod j k).symm
 refine ⟨j / k,j % k,hq,hi,e,?_⟩
 rw [← flatK l h (j / k) (j % k) hq hi,← e];exact hj
def blkN:Value→Option Nat
 | .slice (some a) (_ + 1) _=>some a.block
 | _=>none
def Fr (w:World) (v:Value):Prop:=∀ b,blkN v=some b→∃ cur T,w.heap[b]? = some (.cells cur T (0,0))
theorem Fr.same {w w':World} {v:Value} (h:Fr w v) (hs:∀ b,blkN v=some b→w'.heap[b]? = w.heap[b]?):Fr w' v:=fun b hb=>let ⟨c,T,e⟩:=h b hb;⟨c,T,(hs b hb).trans e⟩
theorem Fr.below {w w':World} {v:Value} (h:Fr w v) (hb:Below w.heap.size w w'):Fr w' v:=fun b hv=>let ⟨c,T,e⟩:=h b hv;⟨c,T,(hb.block _ (Array.getElem?_eq_some_iff.1 e).1).trans e⟩
def Clones (F:FuncId) (T:TypeId) (k:Nat):Prop:=∀ (a:Option Addr) (n cap:Nat) (xs:List Value) (w:World),n≤1000000→xs.length=n * k→(a=none→n=0∧cap=0)→(∀ ad,a=some ad→∀ j u,xs[j]? = some u→w.cell? (ad.add j)=some u)→(∀ u ∈ xs,u.oneCell'=true) →
 Calls Tryz.prog F #[.slice a n cap] w fun e w' => ∃ v',e = .returned v'∧w'.ownsRow w.heap.size T k v' n xs∧(v' = .slice none 0 0∨∃ g c,v' = .slice (some ⟨g,0,none⟩) n c)∧Below w.heap.size w w'
theorem cr2 {α:Type} {F:FuncId} {T:TypeId} {k:Nat} {f:α→List Value} (hk:0 < k) (hf:∀ x,(f x).length=k) (h1:∀ x,∀ u ∈ f x,u.oneCell'=true) (H:Clones F T k) {p:Nat→Prop} {w:World} {v:Value} {l:List α} (hv:RA k f p w v l) (hl:l.length≤1000000) :
  Calls Tryz.prog F #[v] w fun e w' => ∃ v',e = .returned v'∧(RA k f (fun b=>w.heap.size≤b∧b < w'.heap.size) w' v' l∧Fr w' v')∧Below w.heap.size w w':=by
 obtain ⟨a,Af,rfl,h2,h3,Ac,hc⟩:=hv
 have Ab:(l.flatMap f).length=l.length * k:=by
  clear hc hl h2 h3
  induction l with
  | nil=>simp
  | cons a r ih=>rw [List.flatMap_cons,List.length_append,ih,hf,List.length_cons,Nat.succ_mul];omega
 refine (H a l.length Af (l.flatMap f) w hl Ab (fun e=>⟨?_,Ac e⟩) (fun ad e j u hj => ?_) (fun u hu => ?_)).mono ?_
 ·rcases Nat.eq_zero_or_pos l.length with h | h
  ·exact h
  ·obtain ⟨b,Ai,ha,_⟩:=hc h
   rw [e] at ha;cases ha
 ·obtain ⟨q,i,hq,hi,rfl,he⟩:=flat_at hk (fun x _=>hf x) hj
  obtain ⟨b,Ai,ha,_,_,Aa⟩:=hc (by omega)
  rw [e] at ha
  cases ha
  rw [addr_add,← Nat.add_assoc,Aa q hq i hi,he]
 ·obtain ⟨x,_,hx⟩:=List.mem_flatMap.1 hu
  exact h1 x u hx
 ·rintro e w' ⟨v',rfl,ho,An,hb⟩
  refine ⟨v',rfl,?_,hb⟩
  rcases ho.2 with ⟨rfl,h0⟩ | ⟨g,Al,Am,rfl,hg,hh,Ad,hm,_⟩
  ·have:l=[]:=List.eq_nil_of_length_eq_zero h0
   subst this
   exact ⟨RA.nil _ _ _ _,fun b hb=>by cases hb⟩
  ·have Ae:g < w'.heap.size:=(Array.getElem?_eq_some_iff.1 hh).1
   refine ⟨⟨_,_,rfl,h2,Ad,(fun e=>by cases e),fun h0=>⟨g,0,rfl,Ae,⟨hg,Ae⟩,fun j hj i hi => ?_⟩⟩,fun b hb => ?_⟩
   rotate_left
   ·unfold blkN at hb
    split at hb
    ·rename_i a' n' c' heq
     simp only [Value.slice.injEq,Option.some.injEq] at heq
     obtain ⟨rfl,_,_⟩:=heq
     cases hb;exact ⟨_,_,hh⟩
    ·cases hb
   obtain ⟨g',Ak,Ag,_,_,_,_,Aj⟩:=oca ho h0
   cases Ag
   have Ah:j * k + i < l.length * k:=by
    have:=Nat.mul_le_mul_right k (show j + 1≤l.length from hj)
    rw [Nat.succ_mul] at this;omega
   rw [Nat.zero_add,Aj _ Ah]
   exact flatK l (fun x _=>hf x) j i hj hi
theorem wFo (n:Int):∀ u ∈ wF n,u.oneCell'=true:=fun u hu=>by
 simp only [wF,List.mem_cons,List.not_mem_nil,or_false] at hu
 rcases hu with rfl | rfl <;> rfl
theorem intF_one (n:Int):∀ u ∈ intF n,u.oneCell'=true:=fun u hu=>by
 simp only [intF,List.mem_cons,List.not_mem_nil,or_false] at hu
 rw [hu];rfl
theorem cloneI6 {p:Nat→Prop} {w:World} {v:Value} {l:List Int} (hv:RA 1 intF p w v l) (hl:l.length≤1000000) :
  Calls Tryz.prog 94 #[v] w fun e w' => ∃ v',e = .returned v'∧(RA 1 intF (fun b=>w.heap.size≤b∧b < w'.heap.size) w' v' l∧Fr w' v')∧Below w.heap.size w w':=
 cr2 (k:=1) (f:=intF) (by omega) (fun _=>rfl) intF_one (fun a n cap xs w h1 h2 h3 h4 h5=>cloneInts_any a n cap xs w h1 h2 h3 h4 h5) hv hl
theorem cloneW6 {p:Nat→Prop} {w:World} {v:Value} {l:List Int} (hv:RA 2 wF p w v l) (hl:l.length≤1000000) :
  Calls Tryz.prog 93 #[v] w fun e w' => ∃ v',e = .returned v'∧(RA 2 wF (fun b=>w.heap.size≤b∧b < w'.heap.size) w' v' l∧Fr w' v')∧Below w.heap.size w w':=
 cr2 (k:=2) (f:=wF) (by omega) (fun _=>rfl) wFo (fun a n cap xs w h1 h2 h3 h4 h5=>cWa a n cap xs w h1 h2 h3 h4 h5) hv hl
def muts (cs:List Value):List Nat:=cs.filterMap blkN
theorem RA.blk {α:Type} {k:Nat} {f:α→List Value} {p:Nat→Prop} {w:World} {v:Value} {l:List α} (h:RA k f p w v l) {b:Nat} (hb:blkN v=some b):p b:=by
 obtain ⟨a,Aa,rfl,_,_,_,hc⟩:=h
 cases l with
 | nil=>cases a <;> cases hb
 | cons x l=>
   obtain ⟨b',Ab,rfl,_,hp,_⟩:=hc (by simp)
   cases hb;exact hp
theorem VA.blk {p:Nat→Prop} {w:World} {v:Value} {l:List Tess.Val} (h:VA p w v l) {b:Nat} (hb:blkN v=some b):p b:=by
 obtain ⟨a,Aa,rfl,_,_,_,hc⟩:=h
 cases l with
 | nil=>cases a <;> cases hb
 | cons x l=>
   obtain ⟨b',Ab,rfl,_,hp,_⟩:=hc (by simp)
   cases hb;exact hp
def Free (w:World) (cs:List Value):Prop:=∀ v ∈ cs.drop 3,Fr w v
def isValsX (l:List Tess.Val) (v:Value) (s e:Nat) (W:World):Prop:=VA (fun b=>s≤b∧b < e) W v l
theorem isValsX_mono (l:List Tess.Val):FlX.Spec.mono (some (.inr (isValsX l))):=fun _ _ _ _ _ h hb=>VA.ag h (Ag.new _ hb)
def isWidesX (l:List Int) (v:Value) (s e:Nat) (W:World):Prop:=RA 2 wF (fun b=>s≤b∧b < e) W v l∧Fr W v
theorem isWidesX_mono (l:List Int):FlX.Spec.mono (some (.inr (isWidesX l))):=fun _ _ _ _ _ h hb=>⟨RA.ag h.1 (Ag.new _ hb),h.2.below hb⟩
def iIX (l:List Int) (v:Value) (s e:Nat) (W:World):Prop:=RA 1 intF (fun b=>s≤b∧b < e) W v l∧Fr W v
theorem isIntsX_mono (l:List Int):FlX.Spec.mono (some (.inr (iIX l))):=fun _ _ _ _ _ h hb=>⟨RA.ag h.1 (Ag.new _ hb),h.2.below hb⟩
theorem apart4 {v1 v3 v4 v5:Value} {t n:Int} {p1 p3 p4 p5:Nat→Prop} (h1:∀ b,blkN v1=some b→p1 b) (h3:∀ b,blkN v3=some b→p3 b) (h4:∀ b,blkN v4=some b→p4 b) (h5:∀ b,blkN v5=some b→p5 b)
  (d:∀ b,¬ (p1 b∧p3 b)∧¬ (p1 b∧p4 b)∧¬ (p1 b∧p5 b)∧¬ (p3 b∧p4 b)∧¬ (p3 b∧p5 b)∧¬ (p4 b∧p5 b)):(muts [.int .i64 t,v1,.int .i64 n,v3,v4,v5]).Nodup:=by
 unfold muts
 rw [List.nodup_iff_pairwise_ne,List.pairwise_filterMap]
 have e1:∀ z b,¬ blkN (.int .i64 z)=some b:=fun _ _ e=>by cases e
 have Aa:∀ {u v:Value} {p q:Nat→Prop},(∀ b,blkN u=some b→p b)→(∀ b,blkN v=some b→q b)→(∀ b,¬ (p b∧q b))→∀ b,blkN u=some b→∀ b',blkN v=some b'→b≠b':=fun hu hv hd b hb b' Ab e=>hd b ⟨hu b hb,by rw [e];exact hv b' Ab⟩
 have Ae:=Aa h1 h3 fun b=>(d b).1
 have Ag:=Aa h1 h4 fun b=>(d b).2.1
 have Af:=Aa h1 h5 fun b=>(d b).2.2.1
 have Ad:=Aa h3 h4 fun b=>(d b).2.2.2.1
 have Ac:=Aa h3 h5 fun b=>(d b).2.2.2.2.1
 have Ah:=Aa h4 h5 fun b=>(d b).2.2.2.2.2
 simp only [List.pairwise_cons,List.mem_cons,List.not_mem_nil,or_false,forall_eq_or_imp,forall_eq,List.Pairwise.nil,and_true]
 refine ⟨⟨?_,?_,?_,?_,?_⟩,⟨?_,Ae,Ag,Af⟩,⟨?_,?_,?_⟩,⟨Ad,Ac⟩,Ah,fun _ h=>h.elim⟩
 all_goals first | (intro b hb;exact absurd hb (e1 _ _)) | (intro b hb b' Ab;exact absurd Ab (e1 _ _))
set_option maxRecDepth 100000 in
set_option maxHeartbeats 8000000 in
theorem own6_any (p:Nat→Prop) (cs:List Value) (x:CK×Pay) (w:World) (h:CA2 p w cs x) (hl:x.1.2.length≤1000000∧x.2.sums.length≤1000000∧x.2.mins.length≤1000000∧x.2.maxs.length≤1000000) :
  Calls Tryz.prog 56 #[.agg cs.toArray] w fun e w' => ∃ cs',e = .returned (.agg cs'.toArray)∧CA2 (fun b=>w.heap.size≤b) w' cs' x∧(muts cs').Nodup∧Free w' cs'∧Below w.heap.size w w':=by
 obtain ⟨vd,vs,vn,vx,rfl,hd,hs,hn,hx⟩:=h
 obtain ⟨⟨t,ds⟩,c,sl,nl,xl⟩:=x
 simp only at hd hs hn hx hl ⊢
 have Ap:(ds.map Tess.valOf).length≤1000000:=by rw [List.length_map];exact hl.1
 obtain ⟨l,A5⟩:∃ l,ds.map Tess.valOf=l:=⟨_,rfl⟩
 rw [A5] at hd Ap
 have Bf:=Hd A5
 clear A5
 have HD:=Hd (fun W (hB:Below w.heap.size w W)=>cVa p vd l W (hd.ag (Ag.new p hB)) Ap)
 have HS:=Hd (fun W (hB:Below w.heap.size w W)=>cloneW6 (hs.ag (Ag.new p hB)) hl.2.1)
 have HN:=Hd (fun W (hB:Below w.heap.size w W)=>cloneI6 (hn.ag (Ag.new p hB)) hl.2.2.1)
 have HX:=Hd (fun W (hB:Below w.heap.size w W)=>cloneI6 (hx.ag (Ag.new p hB)) hl.2.2.2)
 obtain ⟨ad,cd,rfl⟩:=hd.shape
 obtain ⟨sa,cs,rfl⟩:=hs.shape
 obtain ⟨an,cn,rfl⟩:=hn.shape
 obtain ⟨ax,cx,rfl⟩:=hx.shape
 clear hs hn hx hd hl Ap
 obtain ⟨W0,A6⟩:∃ W0,((w.alloc (.cells #[.int .i64 t,.slice ad l.length cd,.int .i64 c,.slice sa sl.length cs,.slice an nl.length cn,.slice ax xl.length cx] 126)).alloc (.cells #[.int .i64 0,.slice none 0 0,.int .i64 0,.slice none 0 0,.slice none 0 0,.slice none 0 0] 83)).alloc (.cells #[.int .i64 t,.slice ad l.length cd,.int .i64 c,.slice sa sl.length cs,.slice an nl.length cn,.slice ax xl.length cx] 83)=W0:=⟨_,rfl⟩
 obtain ⟨h0,h1,h2,hS,hB⟩:=laid3 w (.cells #[.int .i64 t,.slice ad l.length cd,.int .i64 c,.slice sa sl.length cs,.slice an nl.length cn,.slice ax xl.length cx] 126) (.cells #[.int .i64 0,.slice none 0 0,.int .i64 0,.slice none 0 0,.slice none 0 0,.slice none 0 0] 83) (.cells #[.int .i64 t,.slice ad l.length cd,.int .i64 c,.slice sa sl.length cs,.slice an nl.length cn,.slice ax xl.length cx] 83)
 rw [A6] at h0 h1 h2 hS hB
 rw [show w.heap.size + 2=w.heap.size + 1 + 1 by omega] at h2
 have H0:=Hd h0
 have H1:=Hd h1
 have H2:=Hd h2
 have HB:=Hd hB
 have Ab:=Hd hS
 go_enter Tryz.func56,Tryz.ntmps56
 go_wp2_with (fail)
 clear A6 h1 h2 hB
 obtain ⟨⟨c0,c1,c2,c3,c4,c5⟩,_⟩:=can6 h0
 have Bv:w.heap.size < W0.heap.size:=by omega
 clear h0 hS
 refine FlX.wrf 9 (FlX.sp3 [some (.inl ?_),some (.inl ?_),some (.inl ?_),some (.inr (isValsX l)),some (.inl ?_),some (.inl ?_),some (.inl ?_),some (.inr (isWidesX sl)),some (.inl ?_)]) (by kernel_rfl) (by kernel_rfl) ?_ ?_
 rotate_left 7
 ·refine FlX.sm2 ?_
  repeat (first | exact FlX.ln2 | refine FlX.li2 ?_ | refine FlX.li3 (isValsX_mono _) ?_ | refine FlX.li3 (isWidesX_mono _) ?_)
 all_goals try simp only [List.take_succ_cons,List.take_zero,List.drop_succ_cons,List.drop_zero]
 iterate 3 (refine FlX.tvK rfl (fun K hK=>⟨fun w hw hG => ?_,?_⟩);(have At:=Flow.bc4 hw;clear hG hw;unfold FlX.RV Flow.yields;go_simp;try rfl);go_simp;refine hK _ ?_;clear hK K)
 (refine FlX.tvK2 rfl (fun K hK=>⟨fun w hw hG => ?_,?_⟩);(have HW:=Hd hw;clear hG hw;unfold FlX.RR2 Flow.yields;go_simp;refine (HD.out _ (Bt HB.out HW.out)).mono ?_;rintro e w3 ⟨v3,rfl,Ad,Aa⟩;exact ⟨v3,rfl,Aa,Ad.lt⟩);intro vz;go_simp;refine hK _ _ ?_;clear hK K)
 iterate 3 (refine FlX.tvK rfl (fun K hK=>⟨fun w hw hG => ?_,?_⟩);(have At:=Flow.bc4 hw;clear hG hw;unfold FlX.RV Flow.yields;go_simp;try rfl);go_simp;refine hK _ ?_;clear hK K)
 (refine FlX.tvK2 rfl (fun K hK=>⟨fun w hw hG => ?_,?_⟩);(have HW:=Hd hw;clear hG hw;unfold FlX.RR2 Flow.yields;go_simp;refine (HS.out _ (Bt HB.out HW.out)).mono ?_;rintro e w3 ⟨v3,rfl,Ad,Aa⟩;exact ⟨v3,rfl,Aa,Ad⟩);intro vy;go_simp;refine hK _ _ ?_;clear hK K)
 (refine FlX.tvK rfl (fun K hK=>⟨fun w hw hG => ?_,?_⟩);(clear hG hw;unfold FlX.RV Flow.yields;go_simp;try rfl);go_simp;refine hK _ ?_;clear hK K)
 refine FlX.tn2 fun w2 hw2 hG => ?_
 obtain ⟨I,hI⟩:=hG
 have Bb:=(show isValsX l vz _ _ w2 by simpa [FlX.upd] using hI.holds 3)
 have Ah:=(show isWidesX sl vy _ _ w2 by simpa [FlX.upd] using hI.holds 7)
 have Am:=hI.apart 3 7 (by decide)
 have Ai:=hI.le 3
 have Aj:=hI.le 7
 clear hI
 generalize (I 3).1=s3 at *
 generalize (I 3).2=e3 at *
 generalize (I 7).1=s7 at *
 generalize (I 7).2=e7 at *
 clear I
 have A9:=Hd (show VA _ w2 vz l from Bb)
 have Aq:=Hd (show RA 2 wF _ w2 vy sl from Ah.1)
 have Bk:=Hd Ah.2
 obtain ⟨za,zc,rfl⟩:=A9.out.shape
 obtain ⟨ya,yc,rfl⟩:=Aq.out.shape
 have Bc:=Bt HB.out hw2
 have A7:=(hw2.block _ (by have:=Ab.out;omega)).trans H0.out
 have Bd:=(hw2.block _ (by have:=Ab.out;omega)).trans H1.out
 have As:=(hw2.block _ (by have:=Ab.out;omega)).trans H2.out
 have Bg:=hw2.size
 obtain ⟨_,f0,f1,f2,f3,f4,f5⟩:=can6 As
 obtain ⟨W3,Bl,k2,ko,ks,kB⟩:=two13 (.slice za l.length zc) (.slice ya sl.length yc) As Bc (by omega)
 have Bp:=Hd k2
 have Bj:=Hd ((ko w.heap.size (by omega)).trans A7)
 have Bh:=Hd ((ko (w.heap.size + 1) (by omega)).trans Bd)
 have Ao:=Hd kB
 have A3:=Hd (A9.out.ag (w':=W3) ⟨by rw [ks];exact Nat.le_refl _,fun b _ hb=>ko b (by have:=Ab.out;omega)⟩)
 have Ak:=Hd (Aq.out.ag (w':=W3) ⟨by rw [ks];exact Nat.le_refl _,fun b _ hb=>ko b (by have:=Ab.out;omega)⟩)
 have Ax:=Hd (Bk.out.same (w':=W3) fun b hb=>ko b (by have:=Aq.out.blk hb;have:=Ab.out;omega))
 have Aa:w.heap.size < W3.heap.size:=by have:=Ab.out;omega
 have Be:=Hd (show W0.heap.size≤W3.heap.size by omega)
 have HI:=Hd (show (e3≤s7∨e7≤s3)∧W0.heap.size≤s3∧W0.heap.size≤s7∧e3≤W3.heap.size∧e7≤W3.heap.size from ⟨Am,Ai.1,Aj.1,by rw [ks];exact Ai.2.2,by rw [ks];exact Aj.2.2⟩)
 clear A7 Bd As k2 ko kB hw2 Bc c0 c1 c2 c3 c4 c5 ks Bg Bb Ah Am Ai Aj
 obtain ⟨⟨c0,c1,c2,c3,c4,c5⟩,_⟩:=can6 Bj.out
 go_wp2_with (fail)
 refine FlX.wrf 9 (FlX.sp3 [some (.inl ?_),some (.inl ?_),some (.inl ?_),some (.inr (iIX nl)),some (.inl ?_),some (.inl ?_),some (.inl ?_),some (.inr (iIX xl)),some (.inl ?_)]) (by kernel_rfl) (by kernel_rfl) ?_ ?_
 rotate_left 7
 ·refine FlX.sm2 ?_
  repeat (first | exact FlX.ln2 | refine FlX.li2 ?_ | refine FlX.li3 (isIntsX_mono _) ?_)
 all_goals try simp only [List.take_succ_cons,List.take_zero,List.drop_succ_cons,List.drop_zero]
 iterate 3 (refine FlX.tvK rfl (fun K hK=>⟨fun w hw hG => ?_,?_⟩);(have At:=Flow.bc4 hw;clear hG hw;unfold FlX.RV Flow.yields;go_simp;try rfl);go_simp;refine hK _ ?_;clear hK K)
 (refine FlX.tvK2 rfl (fun K hK=>⟨fun w hw hG => ?_,?_⟩);(have HW:=Hd hw;clear hG hw;unfold FlX.RR2 Flow.yields;go_simp;refine (HN.out _ (Bt Ao.out HW.out)).mono ?_;rintro e w3 ⟨v3,rfl,Ad,Aa⟩;exact ⟨v3,rfl,Aa,Ad⟩);intro vy;go_simp;refine hK _ _ ?_;clear hK K)
 iterate 3 (refine FlX.tvK rfl (fun K hK=>⟨fun w hw hG => ?_,?_⟩);(have At:=Flow.bc4 hw;clear hG hw;unfold FlX.RV Flow.yields;go_simp;try rfl);go_simp;refine hK _ ?_;clear hK K)
 (refine FlX.tvK2 rfl (fun K hK=>⟨fun w hw hG => ?_,?_⟩);(have HW:=Hd hw;clear hG hw;unfold FlX.RR2 Flow.yields;go_simp;refine (HX.out _ (Bt Ao.out HW.out)).mono ?_;rintro e w3 ⟨v3,rfl,Ad,Aa⟩;exact ⟨v3,rfl,Aa,Ad⟩);intro vx;go_simp;refine hK _ _ ?_;clear hK K)
 (refine FlX.tvK rfl (fun K hK=>⟨fun w hw hG => ?_,?_⟩);(clear hG hw;unfold FlX.RV Flow.yields;go_simp;try rfl);go_simp;refine hK _ ?_;clear hK K)
 refine FlX.tn2 fun w4 hw4 hG => ?_
 obtain ⟨I,hI⟩:=hG
 have Ah:=(show iIX nl vy _ _ w4 by simpa [FlX.upd] using hI.holds 3)
 have A0:=(show iIX xl vx _ _ w4 by simpa [FlX.upd] using hI.holds 7)
 have Am:=hI.apart 3 7 (by decide)
 have Ai:=hI.le 3
 have Aj:=hI.le 7
 clear hI
 generalize (I 3).1=s4 at *
 generalize (I 3).2=e4 at *
 generalize (I 7).1=s5 at *
 generalize (I 7).2=e5 at *
 clear I
 have Ar:=Hd (show RA 1 intF _ w4 vy nl from Ah.1)
 have Bo:=Hd Ah.2
 have Bq:=Hd A0.2
 have Av:=Hd (show RA 1 intF _ w4 vx xl from A0.1)
 obtain ⟨qa,qc,rfl⟩:=Ar.out.shape
 obtain ⟨ra,rc,rfl⟩:=Av.out.shape
 clear c0 c1 c2 c3 c4 c5 Bl f0 f1 f2 f3 f4 f5 Ah A0
 have Ba:=Bt Ao.out hw4
 have Bx:=hw4.size
 have Bu:=Ab.out
 have Bw:=Be.out
 have A2:=(hw4.block _ (by omega)).trans Bp.out
 have A8:=(hw4.block _ (by omega)).trans Bh.out
 obtain ⟨_,f0,f1,f2,f3,f4,f5⟩:=can6 A2
 obtain ⟨W5,Br,k2,ko,An,kB⟩:=two45 (.slice qa nl.length qc) (.slice ra xl.length rc) A2 Ba (by omega)
 obtain ⟨⟨c0,c1,c2,c3,c4,c5⟩,_⟩:=can6 k2
 have k1:=(ko (w.heap.size + 1) (by omega)).trans A8
 obtain ⟨_,g0,g1,g2,g3,g4,g5⟩:=can6 k1
 have hi:=HI.out
 have Al:=Hd ((A3.out.ag (Ag.new _ hw4)).ag (w':=W5) ⟨by rw [An];exact Nat.le_refl _,fun b _ hb=>ko b (by omega)⟩)
 have Ac:=Hd ((Ak.out.ag (Ag.new _ hw4)).ag (w':=W5) ⟨by rw [An];exact Nat.le_refl _,fun b _ hb=>ko b (by omega)⟩)
 have Af:=Hd (Ar.out.ag (w':=W5) ⟨by rw [An];exact Nat.le_refl _,fun b _ hb=>ko b (by omega)⟩)
 have Ae:=Hd (Av.out.ag (w':=W5) ⟨by rw [An];exact Nat.le_refl _,fun b _ hb=>ko b (by omega)⟩)
 have Aw:=Hd ((Ax.out.below hw4).same (w':=W5) fun b hb=>ko b (by have:=Ak.out.blk hb;omega))
 have A1:=Hd (Bo.out.same (w':=W5) fun b hb=>ko b (by have:=Ar.out.blk hb;omega))
 have Ay:=Hd (Bq.out.same (w':=W5) fun b hb=>ko b (by have:=Av.out.blk hb;omega))
 have A4:=Hd k1
 have Az:=Hd kB
 have Bs:W3.heap.size≤W5.heap.size:=by omega
 have HJ:=Hd (show (e4≤s5∨e5≤s4)∧W3.heap.size≤s4∧W3.heap.size≤s5 from ⟨Am,Ai.1,Aj.1⟩)
 clear A2 A8 k2 ko kB k1 hw4 Ba Am Ai Aj hi
 go_wp2_with (fail)
 have q1:=set6 (.int .i64 t) (.slice za l.length zc) (.int .i64 c) (.slice ya sl.length yc) (.slice qa nl.length qc) (.slice ra xl.length rc) A4.out
 have qB:=sb2 (.int .i64 t) (.slice za l.length zc) (.int .i64 c) (.slice ya sl.length yc) (.slice qa nl.length qc) (.slice ra xl.length rc) Az.out (show w.heap.size≤w.heap.size + 1 by omega)
 obtain ⟨⟨e0,e1,e2,Bn,Bi,Bm⟩,_⟩:=can6 q1
 have hi:=HI.out
 have hj:=HJ.out
 have qA:∀ W6,W6=((((((W5.setCell ⟨w.heap.size + 1,0,none⟩ (.int .i64 t)).setCell ⟨w.heap.size + 1,1,none⟩ (.slice za l.length zc)).setCell ⟨w.heap.size + 1,2,none⟩ (.int .i64 c)).setCell ⟨w.heap.size + 1,3,none⟩ (.slice ya sl.length yc)).setCell ⟨w.heap.size + 1,4,none⟩ (.slice qa nl.length qc)).setCell ⟨w.heap.size + 1,5,none⟩ (.slice ra xl.length rc))→Ag (fun b=>W0.heap.size≤b) W5 W6:=fun W6 e=>by
  rw [e]
  exact ⟨by rw [ss5];exact Nat.le_refl _,fun b _ hb=>so4 _ _ _ _ _ _ (by omega)⟩
 refine bodyPost_ret (v:=.agg #[.int .i64 t,.slice za l.length zc,.int .i64 c,.slice ya sl.length yc,.slice qa nl.length qc,.slice ra xl.length rc]) (by simp [results,Tryz.results56,go_sem,e0,e1,e2,Bn,Bi,Bm]) rfl ⟨[.int .i64 t,.slice za l.length zc,.int .i64 c,.slice ya sl.length yc,.slice qa nl.length qc,.slice ra xl.length rc],rfl,⟨_,_,_,_,rfl,?_,?_,?_,?_⟩,?_,?_,qB⟩
 ·show VA _ _ _ (ds.map Tess.valOf)
  rw [Bf.out]
  exact (Al.out.weak fun b hb=>by omega).ag (qA _ rfl) |>.weak fun b hb=>by omega
 ·exact (Ac.out.weak fun b hb=>by omega).ag (qA _ rfl) |>.weak fun b hb=>by omega
 ·exact (Af.out.weak fun b hb=>by omega).ag (qA _ rfl) |>.weak fun b hb=>by omega
 ·exact (Ae.out.weak fun b hb=>by omega).ag (qA _ rfl) |>.weak fun b hb=>by omega
 ·exact apart4 (fun b hb=>Al.out.blk hb) (fun b hb=>Ac.out.blk hb) (fun b hb=>Af.out.blk hb) (fun b hb=>Ae.out.blk hb) fun b=>by omega
 ·have Au:∀ b,W0.heap.size≤b→((((((W5.setCell ⟨w.heap.size + 1,0,none⟩ (.int .i64 t)).setCell ⟨w.heap.size + 1,1,none⟩ (.slice za l.length zc)).setCell ⟨w.heap.size + 1,2,none⟩ (.int .i64 c)).setCell ⟨w.heap.size + 1,3,none⟩ (.slice ya sl.length yc)).setCell ⟨w.heap.size + 1,4,none⟩ (.slice qa nl.length qc)).setCell ⟨w.heap.size + 1,5,none⟩ (.slice ra xl.length rc)).heap[b]? = W5.heap[b]? := fun b hb=>so4 _ _ _ _ _ _ (by omega)
  intro v hv
  simp only [List.drop_succ_cons,List.drop_zero,List.mem_cons,List.not_mem_nil,or_false] at hv
  rcases hv with rfl | rfl | rfl
  ·exact Aw.out.same fun b hb=>Au b (by have:=Ac.out.blk hb;omega)
  ·exact A1.out.same fun b hb=>Au b (by have:=Af.out.blk hb;omega)
  ·exact Ay.out.same fun b hb=>Au b (by have:=Ae.out.blk hb;omega)
end Go.Proofs.YtaddkkkchkdgkaaGreatDoor
namespace Go.Proofs.YtaddkkkchkdgkaaGreatDoor
open Go.RowKit Go.Sort
open Tess (CK Pay)
structure Tch (S:Nat→Prop) (w w':World):Prop where
 os:w'.os=w.os
 tape:w'.tape=w.tape
 output:w'.output=w.output
 size:w.heap.size≤w'.heap.size
 block:∀ b,b < w.heap.size→¬ S b→w'.heap[b]? = w.heap[b]?
theorem Tch.refl (S:Nat→Prop) (w:World):Tch S w w:=⟨rfl,rfl,rfl,Nat.le_refl _,fun _ _ _=>rfl⟩
theorem Tch.trans {S:Nat→Prop} {a b c:World} (h:Tch S a b) (k:Tch S b c):Tch S a c:=
 ⟨k.os.trans h.os,k.tape.trans h.tape,k.output.trans h.output,Nat.le_trans h.size k.size,fun x hx hs=>(k.block x (Nat.lt_of_lt_of_le hx h.size) hs).trans (h.block x hx hs)⟩
theorem Tch.new {S:Nat→Prop} {a b:World} (h:Below a.heap.size a b):Tch S a b:=⟨h.os,h.tape,h.output,h.size,fun x hx _=>h.block x hx⟩
theorem Tch.set {S:Nat→Prop} (w:World) (a:Addr) (v:Value) (h:S a.block):Tch S w (w.setCell a v):=
 ⟨rfl,rfl,rfl,by simp [World.setCell],fun b _ hb=>heap_setCell_other w a b v (fun e=>hb (e ▸ h))⟩
theorem Tch.below {S:Nat→Prop} {N:Nat} {w w':World} (h:Tch S w w') (hN:N≤w.heap.size) (hS:∀ b,S b→N≤b):Below N w w':=
 ⟨h.os,h.tape,h.output,h.size,fun b hb=>h.block b (by omega) fun e=>by have:=hS b e;omega⟩
theorem Tch.ag {S p:Nat→Prop} {w w':World} (h:Tch S w w') (hp:∀ b,p b→¬ S b):Ag p w w':=⟨h.size,fun b hb hpb=>h.block b hb (hp b hpb)⟩
theorem Tch.weak {S S':Nat→Prop} {w w':World} (h:Tch S w w') (hS:∀ b,S b→S' b):Tch S' w w':=⟨h.os,h.tape,h.output,h.size,fun b hb hn=>h.block b hb fun e=>hn (hS b e)⟩
def mix (f:Int→Int→Int):Nat→List Int→List Int→List Int
 | 0,l,_=>l
 | _ + 1,[],_=>[]
 | _ + 1,l,[]=>l
 | k + 1,a :: l,b :: m=>f a b :: mix f k l m
theorem ml2 (f:Int→Int→Int):∀ (k:Nat) (l m:List Int),(mix f k l m).length=l.length
 | 0,_,_=>rfl
 | _ + 1,[],_=>rfl
 | _ + 1,_ :: _,[]=>rfl
 | k + 1,a :: l,b :: m=>by rw [mix,List.length_cons,ml2 f k l m,List.length_cons]
theorem mix_at (f:Int→Int→Int):∀ (k:Nat) (l m:List Int) (h:k < l.length) (h':k < (mix f k l m).length),(mix f k l m)[k]=l[k]
 | 0,_,_,_,_=>rfl
 | k + 1,[],_,h,_=>by simp at h
 | k + 1,_ :: _,[],_,_=>rfl
 | k + 1,a :: l,b :: m,h,h'=>by
   simp only [mix,List.getElem_cons_succ]
   exact mix_at f k l m (by simpa using h) (by simpa [mix] using h')
theorem ms2 (f:Int→Int→Int):∀ (k:Nat) (l m:List Int) (h:k < l.length) (h':k < m.length),mix f (k + 1) l m=(mix f k l m).set k (f l[k] m[k])
 | k,[],_,h,_=>by simp at h
 | k,_ :: _,[],_,h=>by simp at h
 | 0,a :: l,b :: m,_,_=>by simp [mix]
 | k + 1,a :: l,b :: m,h,h'=>by
   rw [mix,ms2 f k l m (by simpa using h) (by simpa using h'),mix]
   simp
theorem mix_all (f:Int→Int→Int):∀ (l m:List Int),l.length=m.length→mix f l.length l m=List.zipWith f l m
 | [],_,_=>by simp [mix]
 | _ :: _,[],h=>by simp at h
 | a :: l,b :: m,h=>by rw [List.length_cons,mix,mix_all f l m (by simpa using h),List.zipWith_cons_cons]
theorem RA.sM {α:Type} {k:Nat} {f:α→List Value} {p:Nat→Prop} {w:World} {v:Value} {l:List α} (h:RA k f p w v l) {M:Nat} (hl:l.length=M):∃ a c,v = .slice a M c∧M≤c∧M≤9223372036854775807∧∀ j (hj:j < l.length),∃ b off,a=some ⟨b,off,none⟩∧b < w.heap.size∧p b∧∀ i,i < k→w.cell? ⟨b,off + j * k + i,none⟩=(f l[j])[i]? := by
 obtain ⟨a,c,hv,h1,h2,_,h4⟩:=h
 subst hl
 refine ⟨a,c,hv,h2,by unfold maxLen at h1;omega,fun j hj => ?_⟩
 obtain ⟨b,off,ha,hb,hp,hc⟩:=h4 (by omega)
 exact ⟨b,off,ha,hb,hp,hc j hj⟩
theorem bNs {b off n c:Nat} (h:0 < n):blkN (.slice (some ⟨b,off,none⟩) n c)=some b:=by
 cases n with
 | zero=>omega
 | succ n=>rfl
theorem RA.set1 {p:Nat→Prop} {w:World} {b off c:Nat} {l:List Int} (h:RA 1 intF p w (.slice (some ⟨b,off,none⟩) l.length c) l) (hf:Fr w (.slice (some ⟨b,off,none⟩) l.length c)) {k:Nat} (hk:k < l.length) (x:Int) :
  RA 1 intF p (w.setCell ⟨b,off + k,none⟩ (.int .i64 x)) (.slice (some ⟨b,off,none⟩) l.length c) (l.set k x)∧Fr (w.setCell ⟨b,off + k,none⟩ (.int .i64 x)) (.slice (some ⟨b,off,none⟩) l.length c):=by
 obtain ⟨Ab,T,hc⟩:=hf b (bNs (by omega))
 have hn:=heap_setCell_same w b (off + k) Ab T (.int .i64 x) hc
 obtain ⟨a,c',hv,h1,h2,h3,h4⟩:=h
 cases hv
 obtain ⟨b',Ad,ha,hb,hp,Aa⟩:=h4 (by omega)
 cases ha
 refine ⟨⟨_,_,by rw [List.length_set],by rw [List.length_set];exact h1,by rw [List.length_set];exact h2,h3,fun _=>⟨b,off,rfl,by simp [World.setCell];exact hb,hp,fun j hj i hi => ?_⟩⟩,fun g hg => ?_⟩
 ·rw [List.length_set] at hj
  obtain rfl:i=0:=by omega
  have h0:=Aa j hj 0 hi
  rw [cell_of_row _ _ _ _ _ _ hc] at h0
  rw [cell_of_row _ _ _ _ _ _ hn,Array.getElem?_setIfInBounds]
  simp only [Nat.mul_one,Nat.add_zero] at h0 ⊢
  by_cases e:j=k
  ·subst e
   have Ac:off + j < Ab.size:=(Array.getElem?_eq_some_iff.1 (by rw [h0];rfl:Ab[off + j]? = some _)).1
   rw [if_pos rfl,if_pos Ac]
   simp [intF]
  ·rw [if_neg (by omega),h0,List.getElem_set_ne (by omega)]
 ·rw [bNs (by omega)] at hg
  cases hg
  exact ⟨_,_,hn⟩
theorem RA.set2 {p:Nat→Prop} {w:World} {b off c:Nat} {l:List Int} (h:RA 2 wF p w (.slice (some ⟨b,off,none⟩) l.length c) l) (hf:Fr w (.slice (some ⟨b,off,none⟩) l.length c)) {k:Nat} (hk:k < l.length) (x:Int) :
  RA 2 wF p ((w.setCell ⟨b,off + k * 2,none⟩ (.int .i64 (wHi x))).setCell ⟨b,off + k * 2 + 1,none⟩ (.int .u64 (wLo x))) (.slice (some ⟨b,off,none⟩) l.length c) (l.set k x)∧Fr ((w.setCell ⟨b,off + k * 2,none⟩ (.int .i64 (wHi x))).setCell ⟨b,off + k * 2 + 1,none⟩ (.int .u64 (wLo x))) (.slice (some ⟨b,off,none⟩) l.length c):=by
 obtain ⟨Ab,T,hc⟩:=hf b (bNs (by omega))
 have hn:=heap_setCell_same _ b (off + k * 2 + 1) _ T (.int .u64 (wLo x)) (heap_setCell_same w b (off + k * 2) Ab T (.int .i64 (wHi x)) hc)
 obtain ⟨a,c',hv,h1,h2,h3,h4⟩:=h
 cases hv
 obtain ⟨b',Ac,ha,hb,hp,Aa⟩:=h4 (by omega)
 cases ha
 refine ⟨⟨_,_,by rw [List.length_set],by rw [List.length_set];exact h1,by rw [List.length_set];exact h2,h3,fun _=>⟨b,off,rfl,by simp [World.setCell];exact hb,hp,fun j hj i hi => ?_⟩⟩,fun g hg => ?_⟩
 ·rw [List.length_set] at hj
  have h0:=Aa j hj i hi
  rw [cell_of_row _ _ _ _ _ _ hc] at h0
  rw [cell_of_row _ _ _ _ _ _ hn,Array.getElem?_setIfInBounds,Array.getElem?_setIfInBounds]
  have hl:∃ u,(wF l[j])[i]? = some u:=by
   rcases (by omega:i=0∨i=1) with rfl | rfl <;> exact ⟨_,rfl⟩
  obtain ⟨u,hu⟩:=hl
  rw [hu] at h0
  have Ad:off + j * 2 + i < Ab.size:=(Array.getElem?_eq_some_iff.1 h0).1
  by_cases e:j=k
  ·subst e
   rcases (by omega:i=0∨i=1) with rfl | rfl
   ·rw [if_neg (by omega),if_pos (by omega),if_pos (by omega)];simp [wF]
   ·rw [if_pos (by omega),if_pos (by simp;omega)];simp [wF]
  ·rw [if_neg (by omega),if_neg (by omega),h0,List.getElem_set_ne (by omega),hu]
 ·rw [bNs (by omega)] at hg
  cases hg
  exact ⟨_,_,hn⟩
end Go.Proofs.YtaddkkkchkdgkaaGreatDoor
