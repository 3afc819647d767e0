/- Joined by mergeK.py: FlX, K14, K15 -/
import Derived.Test.YtaddkkkchkdgkaaGreatDoorWC01
import Derived.Test.YtaddkkkchkdgkaaGreatDoorWC13
import Derived.Test.YtaddkkkchkdgkaaGreatDoorWC08
namespace Go.FlX
open Go Go.RowKit
open Go.Flow (yields yields_mono wp_of_yields dep not_dep)
abbrev Spec:=Option (Value ⊕ (Value→Nat→Nat→World→Prop))
def Spec.holds:Spec→Value→Nat→Nat→World→Prop
 | some (.inl u),v,_,_,_=>v=u
 | some (.inr V),v,s,e,w=>V v s e w
 | none,_,_,_,_=>True
def Spec.ok (P:Program) (w0:World) (s:Spec) (o:Oper) (a:Act) (v:Value):Prop:=match s with
 | some (.inl u)=>v=u
 | some (.inr _)=>True
 | none => ∀ u,(execOp a.eval o).run P w0 = .ok (.value u) w0→v=u
abbrev Ctx:=Nat→Nat→Nat→World→Prop
def Mono (p:Nat→Nat→World→Prop):Prop:=∀ s e w w',p s e w→Below w.heap.size w w'→p s e w'
def Spec.mono (s:Spec):Prop:=∀ v,Mono (s.holds v)
theorem mono_inl (u:Value):Spec.mono (some (.inl u)):=fun _ _ _ _ _ h _=>h
theorem mono_none:Spec.mono none:=fun _ _ _ _ _ h _=>h
section
variable {P:Program} {ops:Array Oper}
def Runs (P:Program) (ops:Array Oper) (w0:World) (o:Oper) (s:Spec) (a:Act) (w:World):Prop:=
 if Region.wanted o (yielded ops a.tmps) then yields P o a.eval w (fun v w'=>Below w.heap.size w w'∧s.ok P w0 o a v∧s.holds v w.heap.size w'.heap.size w') else s.ok P w0 o a undef∧s.holds undef w.heap.size w.heap.size w
def Runs' (P:Program) (ops:Array Oper) (w0:World) (o:Oper) (s:Spec) (a:Act) (Γ:Ctx):Prop:=
 ∀ w,Below w0.heap.size w0 w→(∀ j,dep o j=true→∃ b e,Γ j b e w)→Runs P ops w0 o s a w
def upd (Γ:Ctx) (i:Nat) (p:Nat→Nat→World→Prop):Ctx:=fun j=>if j=i then p else Γ j
theorem upd_ne {Γ:Ctx} {i j:Nat} {p:Nat→Nat→World→Prop} (h:j≠i):upd Γ i p j=Γ j:=by simp [upd,h]
theorem upd_same {Γ:Ctx} {i:Nat} {p:Nat→Nat→World→Prop}:upd Γ i p i=p:=by simp [upd]
theorem upd_comm {Γ:Ctx} {i j:Nat} {p q:Nat→Nat→World→Prop} (h:j≠i):upd (upd Γ i p) j q=upd (upd Γ j q) i p:=by
 funext k;unfold upd
 by_cases h1:k=j
 ·subst h1;simp [h]
 ·simp [h1]
def fOp (P:Program) (ops:Array Oper) (S:Nat→Spec) (w0:World) (i:Nat) (K:Act→Ctx→Prop) (a:Act) (Γ:Ctx):Prop:=
 match ops[i]? with
 | none=>K a Γ
 | some o=>(∃ v,(S i).ok P w0 o a v)∧Runs' P ops w0 o (S i) a Γ∧∀ v,(S i).ok P w0 o a v→K (a.put o.dst v) (upd Γ i ((S i).holds v))
theorem ok_same {w0:World} {s:Spec} {o:Oper} {a a':Act} {v:Value} (he:execOp a'.eval o=execOp a.eval o):s.ok P w0 o a' v↔s.ok P w0 o a v:=by
 unfold Spec.ok
 cases s with
 | none=>simp only [he]
 | some x=>cases x <;> exact Iff.rfl
theorem Runs'.of_same {w0:World} {o:Oper} {s:Spec} {a a':Act} {Γ Γ':Ctx} (h:Runs' P ops w0 o s a Γ) (he:execOp a'.eval o=execOp a.eval o)
  (hw:Region.wanted o (yielded ops a'.tmps)=Region.wanted o (yielded ops a.tmps)) (hg:∀ j,dep o j=true→Γ' j=Γ j):Runs' P ops w0 o s a' Γ':=by
 intro w hB hG
 have:=h w hB (fun j hj=>by rw [← hg j hj];exact hG j hj)
 unfold Runs yields at *
 simp only [ok_same he]
 rw [he,hw]
 exact this
def Tree (P:Program) (ops:Array Oper) (S:Nat→Spec) (w0:World) (E:Act→Ctx→Prop):List Oper→Nat→Act→Ctx→Prop
 | [],_,a,Γ=>E a Γ
 | o :: rest,i,a,Γ=>(∃ v,(S i).ok P w0 o a v)∧Runs' P ops w0 o (S i) a Γ∧∀ v,(S i).ok P w0 o a v→Tree P ops S w0 E rest (i + 1) (a.put o.dst v) (upd Γ i ((S i).holds v))
def anyFL (P:Program) (ops:Array Oper) (S:Nat→Spec) (w0:World) (n:Nat) (L:Array Bool→Act→Ctx→Prop):Nat→Array Bool→Act→Ctx→Prop
 | 0,listed,a,Γ=>L listed a Γ
 | f + 1,listed,a,Γ=>Region.ready .any ops listed≠[]∧∀ i ∈ Region.ready .any ops listed,i < n∧fOp P ops S w0 i (anyFL P ops S w0 n L f (listed.setIfInBounds i true)) a Γ
structure Told (w0:World) (Γ:Ctx) (I:Nat→Nat×Nat) (w:World):Prop where
 holds:∀ j,Γ j (I j).1 (I j).2 w
 le:∀ j,w0.heap.size≤(I j).1∧(I j).1≤(I j).2∧(I j).2≤w.heap.size
 apart:∀ j k,j≠k→(I j).2≤(I k).1∨(I k).2≤(I j).1
theorem Told.step {S:Nat→Spec} {w0 w w':World} {Γ:Ctx} {I:Nat→Nat×Nat} (h:Told w0 Γ I w) (hM:∀ j,Mono (Γ j)) (hB:Below w0.heap.size w0 w) (i:Nat) (v:Value) (hb:Below w.heap.size w w')
  (hv:(S i).holds v w.heap.size w'.heap.size w'):Told w0 (upd Γ i ((S i).holds v)) (fun j=>if j=i then (w.heap.size,w'.heap.size) else I j) w':=by
 refine ⟨fun j => ?_,fun j => ?_,fun j k hjk => ?_⟩
 ·by_cases e:j=i
  ·subst e;rw [upd_same,if_pos rfl];exact hv
  ·rw [upd_ne e,if_neg e];exact hM j _ _ _ _ (h.holds j) hb
 ·by_cases e:j=i
  ·rw [if_pos e];exact ⟨hB.size,hb.size,Nat.le_refl _⟩
  ·rw [if_neg e];exact ⟨(h.le j).1,(h.le j).2.1,Nat.le_trans (h.le j).2.2 hb.size⟩
 ·by_cases e:j=i
  ·have ek:k≠i:=fun e2=>hjk (e.trans e2.symm)
   rw [if_pos e,if_neg ek];exact .inr (h.le k).2.2
  ·rw [if_neg e]
   by_cases ek:k=i
   ·rw [if_pos ek];exact .inl (h.le j).2.2
   ·rw [if_neg ek];exact h.apart j k hjk
theorem mono_upd {S:Nat→Spec} (hS:∀ i,(S i).mono) {Γ:Ctx} (hM:∀ j,Mono (Γ j)) (i:Nat) (v:Value):∀ j,Mono (upd Γ i ((S i).holds v) j):=fun j=>by
 by_cases e:j=i
 ·subst e;rw [upd_same];exact hS j v
 ·rw [upd_ne e];exact hM j
theorem wpAny_of_anyFL {S:Nat→Spec} {w0:World} (hS:∀ i,(S i).mono) {n g:Nat} {L:Array Bool→Act→Ctx→Prop} {Q:Exit→Act→World→Prop}
  (hL:∀ listed a Γ w I,L listed a Γ→Below w0.heap.size w0 w→Told w0 Γ I w→wpAny P .any ops Q g listed a w):∀ (f:Nat) (listed:Array Bool) (a:Act) (Γ:Ctx) (w:World) (I:Nat→Nat×Nat),
  anyFL P ops S w0 n L f listed a Γ→Below w0.heap.size w0 w→Told w0 Γ I w→(∀ j,Mono (Γ j))→wpAny P .any ops Q (f + g) listed a w
 | 0,_,_,_,_,_,h,hB,hG,_=>by rw [Nat.zero_add];exact hL _ _ _ _ _ h hB hG
 | f + 1,listed,a,Γ,w,I,h,hB,hG,hM=>by
   rw [show f + 1 + g=(f + g) + 1 by omega]
   refine ⟨fun h0=>absurd h0 h.1,fun i hi => ?_⟩
   have h1:=(h.2 i hi).2
   unfold fOp at h1
   unfold wpOp
   split
   ·rename_i ho
    simp only [ho] at h1
    exact wpAny_of_anyFL hS hL f _ _ _ _ _ h1 hB hG hM
   ·rename_i o ho
    simp only [ho] at h1
    have h2:=h1.2.1 w hB (fun j _=>⟨_,_,hG.holds j⟩)
    unfold Runs at h2
    split
    ·rename_i hw
     simp only [hw,if_true] at h2
     refine .inl (wp_of_yields (yields_mono ?_ h2))
     intro v w' ⟨hb,ho,hv⟩
     exact wpAny_of_anyFL hS hL f _ _ _ _ _ (h1.2.2 v ho) (hB.trans (hb.mono hB.size)) (hG.step hM hB i v hb hv) (mono_upd hS hM i v)
    ·rename_i hw
     simp only [hw] at h2
     exact wpAny_of_anyFL hS hL f _ _ _ _ _ (h1.2.2 undef h2.1) hB (hG.step hM hB i undef (Below.refl _ _) h2.2) (mono_upd hS hM i undef)
theorem anyFL_first {S:Nat→Spec} {w0:World} {n i:Nat} {oi:Oper} {L:Array Bool→Act→Ctx→Prop} (hi:ops[i]? = some oi) (hsel:∀ (j:Nat) (o:Oper) cs b,ops[j]? = some o→o.op ≠ .select cs b)
  (hs:Region.sinkB .any ops n=true) (hc:Region.chainB .any ops n=true) (hn:n < ops.size) (hin:i < n)
  (hdone:∀ listed a Γ,L listed a Γ→∀ j ∈ Region.ready .any ops listed,n≤j) :
  ∀ (f:Nat) (listed:Array Bool) (a:Act) (Γ:Ctx),HeadInv .any ops n listed →
    (∀ j oj,ops[j]? = some oj→j≠i→listed.getD j true=false→(∀ e ∈ oj.after,Region.binds .any e=true→e.on≠i)→oi.apart ops oj=true) →
    i ∈ Region.ready .any ops listed→(∃ v,(S i).ok P w0 oi a v)→Runs' P ops w0 oi (S i) a Γ →
    (∀ v,(S i).ok P w0 oi a v→anyFL P ops S w0 n L f (listed.setIfInBounds i true) (a.put oi.dst v) (upd Γ i ((S i).holds v)))→anyFL P ops S w0 n L (f + 1) listed a Γ:=by
 intro f
 induction f with
 | zero=>
   intro listed a Γ inv _ hr hex hy H
   obtain ⟨v0,hv0⟩:=hex
   have hun:=(mem_ready.1 hr).1
   refine ⟨fun h=>(by rw [h] at hr;cases hr),fun j hj => ?_⟩
   have hjn:j < n:=by
    rcases Nat.lt_or_ge j n with h | h
    ·exact h
    ·exact absurd hj (tail_waits hs hc hn inv _ i rfl hin hun j h)
   refine ⟨hjn,?_⟩
   by_cases hji:j=i
   ·subst hji
    unfold fOp;simp only [hi];exact ⟨⟨v0,hv0⟩,hy,H⟩
   ·have:=hdone _ _ _ (H v0 hv0) j (ready_mono hj hji)
    omega
 | succ f ih=>
   intro listed a Γ inv hfree hr hex hy H
   obtain ⟨v0,hv0⟩:=hex
   have hun:=(mem_ready.1 hr).1
   refine ⟨fun h=>(by rw [h] at hr;cases hr),fun j hj => ?_⟩
   have hjn:j < n:=by
    rcases Nat.lt_or_ge j n with h | h
    ·exact h
    ·exact absurd hj (tail_waits hs hc hn inv _ i rfl hin hun j h)
   refine ⟨hjn,?_⟩
   by_cases hji:j=i
   ·subst hji
    unfold fOp;simp only [hi];exact ⟨⟨v0,hv0⟩,hy,H⟩
   ·obtain ⟨hjun,oj,hoj,hall⟩:=mem_ready.1 hj
    have unl:∀ k,listed.getD k true=false→listed.getD k false=true→False:=fun k h1 h0=>by rw [getD_both h1] at h0;cases h0
    have hnot:∀ e ∈ oj.after,Region.binds .any e=true→e.on≠i:=fun e he hb heq=>unl i hun (by rw [← heq];exact hall e he hb)
    have hnoti:∀ e ∈ oi.after,Region.binds .any e=true→e.on≠j:=fun e he hb heq=>by
     obtain ⟨_,o',ho',hall'⟩:=mem_ready.1 hr
     rw [hi] at ho';cases ho'
     exact unl j hjun (by rw [← heq];exact hall' e he hb)
    have hap:=hfree j oj hoj hji hjun hnot
    obtain ⟨h1,h2,h3⟩:=Oper.apart_spec hap
    have hfree':∀ k ok,ops[k]? = some ok→k≠i→(listed.setIfInBounds j true).getD k true=false →
      (∀ e ∈ ok.after,Region.binds .any e=true→e.on≠i)→oi.apart ops ok=true:=fun k ok hk hki hun hno=>by
     refine hfree k ok hk hki ?_ hno
     by_cases hjk:j=k
     ·subst hjk;exact hjun
     ·rw [getD_set_ne true hjk] at hun;exact hun
    have Hj:∀ v,(S i).ok P w0 oi a v→(∃ u,(S j).ok P w0 oj (a.put oi.dst v) u)∧Runs' P ops w0 oj (S j) (a.put oi.dst v) (upd Γ i ((S i).holds v))∧∀ u,(S j).ok P w0 oj (a.put oi.dst v) u →
      anyFL P ops S w0 n L f ((listed.setIfInBounds i true).setIfInBounds j true) ((a.put oi.dst v).put oj.dst u) (upd (upd Γ i ((S i).holds v)) j ((S j).holds u)):=fun v hv=>by
     have:=((H v hv).2 j (ready_mono hj hji)).2
     unfold fOp at this
     simpa only [hoj] using this
    unfold fOp
    simp only [hoj]
    have ej:=fun v=>execOp_put oj (fun cs b=>hsel j oj cs b hoj) a oi.dst v h1
    have ei:=fun u=>execOp_put oi (fun cs b=>hsel i oi cs b hi) a oj.dst u h3
    refine ⟨(Hj v0 hv0).1.imp fun u hu=>(ok_same (ej v0)).1 hu,(Hj v0 hv0).2.1.of_same (ej v0).symm (wanted_put oj a oi.dst v0 h1).symm (fun k hk => ?_),fun u hu => ?_⟩
    ·exact (upd_ne (not_dep hnot hk)).symm
    ·refine ih (listed.setIfInBounds j true) _ _ (inv.set hj hjn) hfree' (ready_mono hr (Ne.symm hji)) ⟨v0,(ok_same (ei u)).2 hv0⟩ ?_ (fun v hv => ?_)
     ·exact hy.of_same (execOp_put oi (fun cs b=>hsel i oi cs b hi) a oj.dst u h3) (wanted_put oi a oj.dst u h3) (fun k hk=>upd_ne (not_dep hnoti hk))
     ·have hv':=(ok_same (ei u)).1 hv
      have:=(Hj v hv').2.2 u ((ok_same (ej v)).2 hu)
      rw [Array.setIfInBounds_comm _ _ hji,← Act.put_comm a v u h2,← upd_comm hji]
      exact this
theorem anyFL_lex {S:Nat→Spec} {w0:World} {n g:Nat} {Lq:Act→Ctx→Prop} (hsel:Region.noSelect ops=true) (hs:Region.sinkB .any ops n=true) (hc:Region.chainB .any ops n=true) (hn:n < ops.size) :
  ∀ (l:List Oper) (k:Nat) (listed:Array Bool) (a:Act) (Γ:Ctx),(∀ j,j < l.length→l[j]? = ops[k + j]?)→k + l.length=n→HeadInv .any ops n listed →
  Region.lexHead .any ops g l.length k listed=true→Tree P ops S w0 Lq l k a Γ →
  anyFL P ops S w0 n (fun listed' a' Γ'=>Region.seqB .any ops g n listed'=true∧Lq a' Γ') l.length listed a Γ
 | [],k,listed,a,Γ,_,hk,_,hB,h=>by
   have:k=n:=by simpa using hk
   subst this
   exact ⟨by simpa [Region.lexHead] using hB,h⟩
 | o :: l,k,listed,a,Γ,hl,hk,inv,hB,h=>by
   have h0:ops[k]? = some o:=by simpa using (hl 0 (by simp)).symm
   simp only [List.length_cons,Region.lexHead,Bool.and_eq_true] at hB
   obtain ⟨⟨hr,hf⟩,hB'⟩:=hB
   have hkn:k < n:=by simp only [List.length_cons] at hk;omega
   have hr':k ∈ Region.ready .any ops listed:=by simpa using hr
   exact anyFL_first h0 (Region.noSelect_spec hsel) hs hc hn hkn (fun listed' a' Γ' hL=>seqB_ready hL.1) l.length listed a Γ inv (Region.free_spec h0 hf) hr' h.1 h.2.1
    (fun v hv=>anyFL_lex hsel hs hc hn l (k + 1) _ _ _ (fun j hj=>by have:=hl (j + 1) (by simp;omega);simpa [Nat.add_assoc,Nat.add_comm 1 j] using this) (by simp only [List.length_cons] at hk;omega) (inv.set hr' hkn) hB' (h.2.2 v hv))
theorem wp_region_flow_tail {id:Nat} {Q:Exit→Act→World→Prop} {a:Act} {w:World} {l:List Oper} (n:Nat) (S:Nat→Spec) (hm:P.follows .mixedOrders=true) (hB:Region.lexTailB .any l.toArray n=true) (hS:∀ i,(S i).mono)
  (h:Tree P l.toArray S w (fun a' Γ => ∀ w',Below w.heap.size w w'→(∃ I,Told w Γ I w')→wpList P l.toArray Q (l.drop n) a' w') (l.take n) 0 a (fun _ _ _ _=>True)):(Code.region id l.toArray true).wp P Q a w:=by
 simp only [Region.lexTailB,Bool.and_eq_true,decide_eq_true_eq] at hB
 obtain ⟨⟨⟨⟨hsel,hn⟩,hs⟩,hc⟩,hlex⟩:=hB
 have hn':n < l.length:=by simpa using hn
 have htl:(l.take n).length=n:=by simp;omega
 have hdl:(l.drop n).length=l.toArray.size - n:=by simp
 have inv0:HeadInv .any l.toArray n (Array.replicate l.toArray.size false):=
  ⟨by simp,fun j oj _ hl=>(by rw [getD_replicate_false] at hl;cases hl),fun t _ ht=>getD_in (by simpa using ht) (getD_replicate_false _ _)⟩
 have H:=anyFL_lex (g:=l.toArray.size - n) hsel hs hc hn (l.take n) 0 _ a (fun _ _ _ _=>True) (fun j hj=>by
  have hj':j < n:=by rw [htl] at hj;exact hj
  simp [hj']) (by simpa using htl) inv0 (by rw [htl];exact hlex) h
 refine wp_region_any hm ?_
 have:=wpAny_of_anyFL (Q:=Q) (g:=l.toArray.size - n) hS (fun listed a' Γ' w' I hL hb hG=>by
  have:=wpAny_of_seq (md:=.any) (Q':=Q) (l.drop n) n listed a' w' (fun j=>by simp [List.getElem?_drop]) (by rw [hdl];exact hL.1) (hL.2 w' hb ⟨I,hG⟩)
  rwa [hdl] at this) _ _ _ _ { w with drawn:=w.drawn + 1 } (fun _=>(w.heap.size,w.heap.size)) H ((Below.refl _ _).drew) ⟨fun _=>trivial,fun _=>⟨Nat.le_refl _,Nat.le_refl _,Nat.le_refl _⟩,fun _ _ _ => .inl (Nat.le_refl _)⟩ (fun _ _ _ _ _ _ _=>trivial)
 rw [htl,show n + (l.toArray.size - n)=l.toArray.size by omega] at this
 exact this
theorem tree_nil {S:Nat→Spec} {w0:World} {E:Act→Ctx→Prop} {i:Nat} {a:Act} {Γ:Ctx} (h:E a Γ):Tree P ops S w0 E [] i a Γ:=h
def specs (l:List Spec):Nat→Spec:=fun i=>l.getD i none
theorem specs_mono {l:List Spec} (h:∀ s ∈ l,Spec.mono s):∀ i,(specs l i).mono:=fun i=>by
 unfold specs
 rcases Nat.lt_or_ge i l.length with h' | h'
 ·rw [List.getD_eq_getElem?_getD,List.getElem?_eq_getElem h'];exact h _ (List.getElem_mem h')
 ·rw [List.getD_eq_getElem?_getD,List.getElem?_eq_none h'];exact mono_none
def RunsV (P:Program) (ops:Array Oper) (o:Oper) (u:Value) (a:Act) (w:World):Prop:=
 if Region.wanted o (yielded ops a.tmps) then yields P o a.eval w (fun v w'=>Below w.heap.size w w'∧v=u) else undef=u
def RunsR (P:Program) (ops:Array Oper) (o:Oper) (V:Value→Nat→Nat→World→Prop) (a:Act) (w:World):Prop:=
 if Region.wanted o (yielded ops a.tmps) then yields P o a.eval w (fun v w'=>Below w.heap.size w w'∧V v w.heap.size w'.heap.size w') else V undef w.heap.size w.heap.size w
theorem tree_valK {S:Nat→Spec} {w0:World} {E:Act→Ctx→Prop} {o:Oper} {rest:List Oper} {i:Nat} {a:Act} {Γ:Ctx} {u:Value} (hs:S i=some (.inl u))
  (h:∀ K:Act→Prop,(∀ a',Tree P ops S w0 E rest (i + 1) a' (upd Γ i (fun _ _ _=>True))→K a')→(∀ w,Below w0.heap.size w0 w→(∀ j,dep o j=true→∃ b e,Γ j b e w)→RunsV P ops o u a w)∧K (a.put o.dst u)):Tree P ops S w0 E (o :: rest) i a Γ:=by
 refine ⟨by rw [hs];exact ⟨u,rfl⟩,?_,fun v hv => ?_⟩
 ·intro w hB hG
  have:=(h (fun _=>True) (fun _ _=>trivial)).1 w hB hG
  rw [hs]
  unfold RunsV at this
  unfold Runs
  split
  ·rename_i hw;simp only [hw,if_true] at this
   exact yields_mono (fun v w' h=>⟨h.1,h.2,h.2⟩) this
  ·rename_i hw;simp only [hw] at this
   exact ⟨this,this⟩
 ·rw [hs] at hv ⊢
  have hv':v=u:=hv
  subst hv'
  have e:Spec.holds (some (.inl v)) v=fun _ _ _=>True:=by funext a b c;simp [Spec.holds]
  rw [e]
  exact (h (fun a'=>Tree P ops S w0 E rest (i + 1) a' (upd Γ i (fun _ _ _=>True))) (fun _ h=>h)).2
theorem tree_varK {S:Nat→Spec} {w0:World} {E:Act→Ctx→Prop} {o:Oper} {rest:List Oper} {i:Nat} {a:Act} {Γ:Ctx} {V:Value→Nat→Nat→World→Prop} (hs:S i=some (.inr V))
  (h:∀ K:Act→(Nat→Nat→World→Prop)→Prop,(∀ a' v,Tree P ops S w0 E rest (i + 1) a' (upd Γ i (V v))→K a' (V v))→(∀ w,Below w0.heap.size w0 w→(∀ j,dep o j=true→∃ b e,Γ j b e w)→RunsR P ops o V a w)∧∀ v,K (a.put o.dst v) (V v)):Tree P ops S w0 E (o :: rest) i a Γ:=by
 refine ⟨by rw [hs];exact ⟨undef,trivial⟩,?_,fun v _ => ?_⟩
 ·intro w hB hG
  have:=(h (fun _ _=>True) (fun _ _ _=>trivial)).1 w hB hG
  rw [hs]
  unfold RunsR at this
  unfold Runs
  split
  ·rename_i hw;simp only [hw,if_true] at this
   exact yields_mono (fun v w' h=>⟨h.1,trivial,h.2⟩) this
  ·rename_i hw;simp only [hw] at this
   exact ⟨trivial,this⟩
 ·rw [hs]
  exact (h (fun a' p=>Tree P ops S w0 E rest (i + 1) a' (upd Γ i p)) (fun _ _ h=>h)).2 v
theorem tree_pureK {S:Nat→Spec} {w0:World} {E:Act→Ctx→Prop} {o:Oper} {rest:List Oper} {i:Nat} {a:Act} {Γ:Ctx} (hs:S i=none)
  (h:∀ K:Act→Prop,(∀ a',Tree P ops S w0 E rest (i + 1) a' (upd Γ i (fun _ _ _=>True))→K a')→(∀ w,Below w0.heap.size w0 w→(∀ j,dep o j=true→∃ b e,Γ j b e w)→Region.wanted o (yielded ops a.tmps)=true∧∃ u,(execOp a.eval o).run P w = .ok (.value u) w∧(execOp a.eval o).run P w0 = .ok (.value u) w0) ∧
    ∀ v,(∀ u,(execOp a.eval o).run P w0 = .ok (.value u) w0→v=u)→K (a.put o.dst v)):Tree P ops S w0 E (o :: rest) i a Γ:=by
 refine ⟨?_,?_,fun v hv => ?_⟩
 ·rw [hs]
  by_cases hu:∃ u,(execOp a.eval o).run P w0 = .ok (.value u) w0
  ·obtain ⟨u,hu⟩:=hu
   exact ⟨u,fun u' h'=>by rw [hu] at h';simpa using h'⟩
  ·exact ⟨undef,fun u' h'=>absurd ⟨u',h'⟩ hu⟩
 ·intro w hB hG
  obtain ⟨hw,u,h1,h2⟩:=(h (fun _=>True) (fun _ _=>trivial)).1 w hB hG
  rw [hs]
  unfold Runs yields
  rw [if_pos hw,h1]
  exact ⟨Below.refl _ _,fun u' h'=>by rw [h2] at h';simpa using h',trivial⟩
 ·rw [hs] at hv ⊢
  have e:Spec.holds none v=fun _ _ _=>True:=by funext a b c;simp [Spec.holds]
  rw [e]
  exact (h (fun a'=>Tree P ops S w0 E rest (i + 1) a' (upd Γ i (fun _ _ _=>True))) (fun _ h=>h)).2 v hv
theorem lmono_nil:∀ s ∈ ([]:List Spec),s.mono:=fun _ h=>by cases h
theorem lmono_inl {u:Value} {l:List Spec} (h:∀ s ∈ l,s.mono):∀ s ∈ (some (.inl u) :: l:List Spec),s.mono:=fun s hs=>by
 rcases List.mem_cons.1 hs with rfl | hs
 ·exact mono_inl u
 ·exact h s hs
theorem lmono_none {l:List Spec} (h:∀ s ∈ l,s.mono):∀ s ∈ (none :: l:List Spec),s.mono:=fun s hs=>by
 rcases List.mem_cons.1 hs with rfl | hs
 ·exact mono_none
 ·exact h s hs
theorem lmono_inr {V:Value→Nat→Nat→World→Prop} {l:List Spec} (hV:Spec.mono (some (.inr V))) (h:∀ s ∈ l,s.mono):∀ s ∈ (some (.inr V) :: l:List Spec),s.mono:=fun s hs=>by
 rcases List.mem_cons.1 hs with rfl | hs
 ·exact hV
 ·exact h s hs
end
end Go.FlX
namespace Go.Proofs.YtaddkkkchkdgkaaGreatDoor
open Go.RowKit Go.Sort
open Tess (CK Pay)
theorem flat_at {α:Type} {k:Nat} {f:α→List Value} (hk:0 < k) {l:List α} (h:∀ x ∈ l,(f x).length=k) {j:Nat} {u:Value} (hj:(l.flatMap f)[j]? = some u):∃ q i,∃ hq:q < l.length,i < k∧j=q * k + i∧(f l[q])[i]? = some u:=by
 have hlen:∀ l:List α,(∀ x ∈ l,(f x).length=k)→(l.flatMap f).length=l.length * k:=fun l=>by
  induction l with
  | nil=>intro _;simp
  | cons a r ih=>intro h;rw [List.flatMap_cons,List.length_append,ih fun x hx=>h x (List.mem_cons_of_mem _ hx),h a (List.mem_cons_self),List.length_cons,Nat.succ_mul];omega
 obtain ⟨hlt,_⟩:=List.getElem?_eq_some_iff.1 hj
 rw [hlen l h] at hlt
 have hq:j / k < l.length:=Nat.div_lt_of_lt_mul (by rw [Nat.mul_comm];exact hlt)
 have hi:j % k < k:=Nat.mod_lt _ hk
 have e:j=j / k * k + j % k:=by rw [Nat.mul_comm];exact (Nat.div_add_mod j k).symm
 refine ⟨j / k,j % k,hq,hi,e,?_⟩
 rw [← flatK l h (j / k) (j % k) hq hi,← e];exact hj
def blkN:Value→Option Nat
 | .slice (some a) (_ + 1) _=>some a.block
 | _=>none
def Fr (w:World) (v:Value):Prop:=∀ b,blkN v=some b→∃ cur T,w.heap[b]? = some (.cells cur T (0,0))
theorem Fr.same {w w':World} {v:Value} (h:Fr w v) (hs:∀ b,blkN v=some b→w'.heap[b]? = w.heap[b]?):Fr w' v:=fun b hb=>let ⟨c,T,e⟩:=h b hb;⟨c,T,(hs b hb).trans e⟩
theorem Fr.below {w w':World} {v:Value} (h:Fr w v) (hb:Below w.heap.size w w'):Fr w' v:=fun b hv=>let ⟨c,T,e⟩:=h b hv;⟨c,T,(hb.block _ (Array.getElem?_eq_some_iff.1 e).1).trans e⟩
def Clones (F:FuncId) (T:TypeId) (k:Nat):Prop:=∀ (a:Option Addr) (n cap:Nat) (xs:List Value) (w:World),n≤1000000→xs.length=n * k→(a=none→n=0∧cap=0)→(∀ ad,a=some ad→∀ j u,xs[j]? = some u→w.cell? (ad.add j)=some u)→(∀ u ∈ xs,u.oneCell'=true) →
 Calls Tryz.prog F #[.slice a n cap] w fun e w' => ∃ v',e = .returned v'∧w'.ownsRow w.heap.size T k v' n xs∧(v' = .slice none 0 0∨∃ g c,v' = .slice (some ⟨g,0,none⟩) n c)∧Below w.heap.size w w'
theorem clone_rows {α:Type} {F:FuncId} {T:TypeId} {k:Nat} {f:α→List Value} (hk:0 < k) (hf:∀ x,(f x).length=k) (h1:∀ x,∀ u ∈ f x,u.oneCell'=true) (H:Clones F T k) {p:Nat→Prop} {w:World} {v:Value} {l:List α} (hv:RowsAt k f p w v l) (hl:l.length≤1000000) :
  Calls Tryz.prog F #[v] w fun e w' => ∃ v',e = .returned v'∧(RowsAt k f (fun b=>w.heap.size≤b∧b < w'.heap.size) w' v' l∧Fr w' v')∧Below w.heap.size w w':=by
 obtain ⟨a,cap,rfl,h2,h3,hnil,hc⟩:=hv
 have hlen:(l.flatMap f).length=l.length * k:=by
  clear hc hl h2 h3
  induction l with
  | nil=>simp
  | cons a r ih=>rw [List.flatMap_cons,List.length_append,ih,hf,List.length_cons,Nat.succ_mul];omega
 refine (H a l.length cap (l.flatMap f) w hl hlen (fun e=>⟨?_,hnil e⟩) (fun ad e j u hj => ?_) (fun u hu => ?_)).mono ?_
 ·rcases Nat.eq_zero_or_pos l.length with h | h
  ·exact h
  ·obtain ⟨b,off,ha,_⟩:=hc h
   rw [e] at ha;cases ha
 ·obtain ⟨q,i,hq,hi,rfl,he⟩:=flat_at hk (fun x _=>hf x) hj
  obtain ⟨b,off,ha,_,_,hcell⟩:=hc (by omega)
  rw [e] at ha
  cases ha
  rw [addr_add,← Nat.add_assoc,hcell q hq i hi,he]
 ·obtain ⟨x,_,hx⟩:=List.mem_flatMap.1 hu
  exact h1 x u hx
 ·rintro e w' ⟨v',rfl,ho,hsh,hb⟩
  refine ⟨v',rfl,?_,hb⟩
  rcases ho.2 with ⟨rfl,h0⟩ | ⟨g,cap',cur,rfl,hg,hh,hcap,hm,_⟩
  ·have:l=[]:=List.eq_nil_of_length_eq_zero h0
   subst this
   exact ⟨RowsAt.nil _ _ _ _,fun b hb=>by cases hb⟩
  ·have hgl:g < w'.heap.size:=(Array.getElem?_eq_some_iff.1 hh).1
   refine ⟨⟨_,_,rfl,h2,hcap,(fun e=>by cases e),fun h0=>⟨g,0,rfl,hgl,⟨hg,hgl⟩,fun j hj i hi => ?_⟩⟩,fun b hb => ?_⟩
   rotate_left
   ·unfold blkN at hb
    split at hb
    ·rename_i a' n' c' heq
     simp only [Value.slice.injEq,Option.some.injEq] at heq
     obtain ⟨rfl,_,_⟩:=heq
     cases hb;exact ⟨_,_,hh⟩
    ·cases hb
   obtain ⟨g',cap2,hv2,_,_,_,_,hc2⟩:=owns_cell_any ho h0
   cases hv2
   have hjk:j * k + i < l.length * k:=by
    have:=Nat.mul_le_mul_right k (show j + 1≤l.length from hj)
    rw [Nat.succ_mul] at this;omega
   rw [Nat.zero_add,hc2 _ hjk]
   exact flatK l (fun x _=>hf x) j i hj hi
theorem wideF_one (n:Int):∀ u ∈ wideF n,u.oneCell'=true:=fun u hu=>by
 simp only [wideF,List.mem_cons,List.not_mem_nil,or_false] at hu
 rcases hu with rfl | rfl <;> rfl
theorem intF_one (n:Int):∀ u ∈ intF n,u.oneCell'=true:=fun u hu=>by
 simp only [intF,List.mem_cons,List.not_mem_nil,or_false] at hu
 rw [hu];rfl
theorem cloneI6 {p:Nat→Prop} {w:World} {v:Value} {l:List Int} (hv:RowsAt 1 intF p w v l) (hl:l.length≤1000000) :
  Calls Tryz.prog 94 #[v] w fun e w' => ∃ v',e = .returned v'∧(RowsAt 1 intF (fun b=>w.heap.size≤b∧b < w'.heap.size) w' v' l∧Fr w' v')∧Below w.heap.size w w':=
 clone_rows (k:=1) (f:=intF) (by omega) (fun _=>rfl) intF_one (fun a n cap xs w h1 h2 h3 h4 h5=>cloneInts_any a n cap xs w h1 h2 h3 h4 h5) hv hl
theorem cloneW6 {p:Nat→Prop} {w:World} {v:Value} {l:List Int} (hv:RowsAt 2 wideF p w v l) (hl:l.length≤1000000) :
  Calls Tryz.prog 93 #[v] w fun e w' => ∃ v',e = .returned v'∧(RowsAt 2 wideF (fun b=>w.heap.size≤b∧b < w'.heap.size) w' v' l∧Fr w' v')∧Below w.heap.size w w':=
 clone_rows (k:=2) (f:=wideF) (by omega) (fun _=>rfl) wideF_one (fun a n cap xs w h1 h2 h3 h4 h5=>cloneWides_any a n cap xs w h1 h2 h3 h4 h5) hv hl
def muts (cs:List Value):List Nat:=cs.filterMap blkN
theorem RowsAt.blk {α:Type} {k:Nat} {f:α→List Value} {p:Nat→Prop} {w:World} {v:Value} {l:List α} (h:RowsAt k f p w v l) {b:Nat} (hb:blkN v=some b):p b:=by
 obtain ⟨a,cap,rfl,_,_,_,hc⟩:=h
 cases l with
 | nil=>cases a <;> cases hb
 | cons x l=>
   obtain ⟨b',off,rfl,_,hp,_⟩:=hc (by simp)
   cases hb;exact hp
theorem ValsAt.blk {p:Nat→Prop} {w:World} {v:Value} {l:List Tess.Val} (h:ValsAt p w v l) {b:Nat} (hb:blkN v=some b):p b:=by
 obtain ⟨a,cap,rfl,_,_,_,hc⟩:=h
 cases l with
 | nil=>cases a <;> cases hb
 | cons x l=>
   obtain ⟨b',off,rfl,_,hp,_⟩:=hc (by simp)
   cases hb;exact hp
def Free (w:World) (cs:List Value):Prop:=∀ v ∈ cs.drop 3,Fr w v
def isValsX (l:List Tess.Val) (v:Value) (s e:Nat) (W:World):Prop:=ValsAt (fun b=>s≤b∧b < e) W v l
theorem isValsX_mono (l:List Tess.Val):FlX.Spec.mono (some (.inr (isValsX l))):=fun _ _ _ _ _ h hb=>ValsAt.ag h (Ag.new _ hb)
def isWidesX (l:List Int) (v:Value) (s e:Nat) (W:World):Prop:=RowsAt 2 wideF (fun b=>s≤b∧b < e) W v l∧Fr W v
theorem isWidesX_mono (l:List Int):FlX.Spec.mono (some (.inr (isWidesX l))):=fun _ _ _ _ _ h hb=>⟨RowsAt.ag h.1 (Ag.new _ hb),h.2.below hb⟩
def isIntsX (l:List Int) (v:Value) (s e:Nat) (W:World):Prop:=RowsAt 1 intF (fun b=>s≤b∧b < e) W v l∧Fr W v
theorem isIntsX_mono (l:List Int):FlX.Spec.mono (some (.inr (isIntsX l))):=fun _ _ _ _ _ h hb=>⟨RowsAt.ag h.1 (Ag.new _ hb),h.2.below hb⟩
theorem apart4 {v1 v3 v4 v5:Value} {t n:Int} {p1 p3 p4 p5:Nat→Prop} (h1:∀ b,blkN v1=some b→p1 b) (h3:∀ b,blkN v3=some b→p3 b) (h4:∀ b,blkN v4=some b→p4 b) (h5:∀ b,blkN v5=some b→p5 b)
  (d:∀ b,¬ (p1 b∧p3 b)∧¬ (p1 b∧p4 b)∧¬ (p1 b∧p5 b)∧¬ (p3 b∧p4 b)∧¬ (p3 b∧p5 b)∧¬ (p4 b∧p5 b)):(muts [.int .i64 t,v1,.int .i64 n,v3,v4,v5]).Nodup:=by
 unfold muts
 rw [List.nodup_iff_pairwise_ne,List.pairwise_filterMap]
 have e1:∀ z b,¬ blkN (.int .i64 z)=some b:=fun _ _ e=>by cases e
 have key:∀ {u v:Value} {p q:Nat→Prop},(∀ b,blkN u=some b→p b)→(∀ b,blkN v=some b→q b)→(∀ b,¬ (p b∧q b))→∀ b,blkN u=some b→∀ b',blkN v=some b'→b≠b':=fun hu hv hd b hb b' hb' e=>hd b ⟨hu b hb,by rw [e];exact hv b' hb'⟩
 have k13:=key h1 h3 fun b=>(d b).1
 have k14:=key h1 h4 fun b=>(d b).2.1
 have k15:=key h1 h5 fun b=>(d b).2.2.1
 have k34:=key h3 h4 fun b=>(d b).2.2.2.1
 have k35:=key h3 h5 fun b=>(d b).2.2.2.2.1
 have k45:=key h4 h5 fun b=>(d b).2.2.2.2.2
 simp only [List.pairwise_cons,List.mem_cons,List.not_mem_nil,or_false,forall_eq_or_imp,forall_eq,List.Pairwise.nil,and_true]
 refine ⟨⟨?_,?_,?_,?_,?_⟩,⟨?_,k13,k14,k15⟩,⟨?_,?_,?_⟩,⟨k34,k35⟩,k45,fun _ h=>h.elim⟩
 all_goals first | (intro b hb;exact absurd hb (e1 _ _)) | (intro b hb b' hb';exact absurd hb' (e1 _ _))
set_option maxRecDepth 100000 in
set_option maxHeartbeats 8000000 in
theorem own6_any (p:Nat→Prop) (cs:List Value) (x:CK×Pay) (w:World) (h:CelAt p w cs x) (hl:x.1.2.length≤1000000∧x.2.sums.length≤1000000∧x.2.mins.length≤1000000∧x.2.maxs.length≤1000000) :
  Calls Tryz.prog 56 #[.agg cs.toArray] w fun e w' => ∃ cs',e = .returned (.agg cs'.toArray)∧CelAt (fun b=>w.heap.size≤b) w' cs' x∧(muts cs').Nodup∧Free w' cs'∧Below w.heap.size w w':=by
 obtain ⟨vd,vs,vn,vx,rfl,hd,hs,hn,hx⟩:=h
 obtain ⟨⟨t,ds⟩,c,sl,nl,xl⟩:=x
 simp only at hd hs hn hx hl ⊢
 have hdl:(ds.map Tess.valOf).length≤1000000:=by rw [List.length_map];exact hl.1
 obtain ⟨l,hle⟩:∃ l,ds.map Tess.valOf=l:=⟨_,rfl⟩
 rw [hle] at hd hdl
 have HLE:=Lib.hid hle
 clear hle
 have HD:=Lib.hid (fun W (hB:Below w.heap.size w W)=>cloneV_any p vd l W (hd.ag (Ag.new p hB)) hdl)
 have HS:=Lib.hid (fun W (hB:Below w.heap.size w W)=>cloneW6 (hs.ag (Ag.new p hB)) hl.2.1)
 have HN:=Lib.hid (fun W (hB:Below w.heap.size w W)=>cloneI6 (hn.ag (Ag.new p hB)) hl.2.2.1)
 have HX:=Lib.hid (fun W (hB:Below w.heap.size w W)=>cloneI6 (hx.ag (Ag.new p hB)) hl.2.2.2)
 obtain ⟨ad,cd,rfl⟩:=hd.shape
 obtain ⟨sa,cs,rfl⟩:=hs.shape
 obtain ⟨an,cn,rfl⟩:=hn.shape
 obtain ⟨ax,cx,rfl⟩:=hx.shape
 clear hs hn hx hd hl hdl
 obtain ⟨W0,hW0⟩:∃ W0,((w.alloc (.cells #[.int .i64 t,.slice ad l.length cd,.int .i64 c,.slice sa sl.length cs,.slice an nl.length cn,.slice ax xl.length cx] 126)).alloc (.cells #[.int .i64 0,.slice none 0 0,.int .i64 0,.slice none 0 0,.slice none 0 0,.slice none 0 0] 83)).alloc (.cells #[.int .i64 t,.slice ad l.length cd,.int .i64 c,.slice sa sl.length cs,.slice an nl.length cn,.slice ax xl.length cx] 83)=W0:=⟨_,rfl⟩
 obtain ⟨h0,h1,h2,hS,hB⟩:=laid3 w (.cells #[.int .i64 t,.slice ad l.length cd,.int .i64 c,.slice sa sl.length cs,.slice an nl.length cn,.slice ax xl.length cx] 126) (.cells #[.int .i64 0,.slice none 0 0,.int .i64 0,.slice none 0 0,.slice none 0 0,.slice none 0 0] 83) (.cells #[.int .i64 t,.slice ad l.length cd,.int .i64 c,.slice sa sl.length cs,.slice an nl.length cn,.slice ax xl.length cx] 83)
 rw [hW0] at h0 h1 h2 hS hB
 rw [show w.heap.size + 2=w.heap.size + 1 + 1 by omega] at h2
 have H0:=Lib.hid h0
 have H1:=Lib.hid h1
 have H2:=Lib.hid h2
 have HB:=Lib.hid hB
 have HSZ:=Lib.hid hS
 go_enter Tryz.func56,Tryz.ntmps56
 go_wp2_with (fail)
 clear hW0 h1 h2 hB
 obtain ⟨⟨c0,c1,c2,c3,c4,c5⟩,_⟩:=can6 h0
 have hb0:w.heap.size < W0.heap.size:=by omega
 clear h0 hS
 refine FlX.wp_region_flow_tail 9 (FlX.specs [some (.inl ?_),some (.inl ?_),some (.inl ?_),some (.inr (isValsX l)),some (.inl ?_),some (.inl ?_),some (.inl ?_),some (.inr (isWidesX sl)),some (.inl ?_)]) (by kernel_rfl) (by kernel_rfl) ?_ ?_
 rotate_left 7
 ·refine FlX.specs_mono ?_
  repeat (first | exact FlX.lmono_nil | refine FlX.lmono_inl ?_ | refine FlX.lmono_inr (isValsX_mono _) ?_ | refine FlX.lmono_inr (isWidesX_mono _) ?_)
 all_goals try simp only [List.take_succ_cons,List.take_zero,List.drop_succ_cons,List.drop_zero]
 iterate 3 (refine FlX.tree_valK rfl (fun K hK=>⟨fun w hw hG => ?_,?_⟩);(have hcl:=Flow.bcell hw;clear hG hw;unfold FlX.RunsV Flow.yields;go_simp;try rfl);go_simp;refine hK _ ?_;clear hK K)
 (refine FlX.tree_varK rfl (fun K hK=>⟨fun w hw hG => ?_,?_⟩);(have HW:=Lib.hid hw;clear hG hw;unfold FlX.RunsR Flow.yields;go_simp;refine (HD.out _ (Bt HB.out HW.out)).mono ?_;rintro e w3 ⟨v3,rfl,hf3,hb3⟩;exact ⟨v3,rfl,hb3,hf3.lt⟩);intro vz;go_simp;refine hK _ _ ?_;clear hK K)
 iterate 3 (refine FlX.tree_valK rfl (fun K hK=>⟨fun w hw hG => ?_,?_⟩);(have hcl:=Flow.bcell hw;clear hG hw;unfold FlX.RunsV Flow.yields;go_simp;try rfl);go_simp;refine hK _ ?_;clear hK K)
 (refine FlX.tree_varK rfl (fun K hK=>⟨fun w hw hG => ?_,?_⟩);(have HW:=Lib.hid hw;clear hG hw;unfold FlX.RunsR Flow.yields;go_simp;refine (HS.out _ (Bt HB.out HW.out)).mono ?_;rintro e w3 ⟨v3,rfl,hf3,hb3⟩;exact ⟨v3,rfl,hb3,hf3⟩);intro vy;go_simp;refine hK _ _ ?_;clear hK K)
 (refine FlX.tree_valK rfl (fun K hK=>⟨fun w hw hG => ?_,?_⟩);(clear hG hw;unfold FlX.RunsV Flow.yields;go_simp;try rfl);go_simp;refine hK _ ?_;clear hK K)
 refine FlX.tree_nil fun w2 hw2 hG => ?_
 obtain ⟨I,hI⟩:=hG
 have hvz:=(show isValsX l vz _ _ w2 by simpa [FlX.upd] using hI.holds 3)
 have hvy:=(show isWidesX sl vy _ _ w2 by simpa [FlX.upd] using hI.holds 7)
 have hap:=hI.apart 3 7 (by decide)
 have hl3:=hI.le 3
 have hl7:=hI.le 7
 clear hI
 generalize (I 3).1=s3 at *
 generalize (I 3).2=e3 at *
 generalize (I 7).1=s7 at *
 generalize (I 7).2=e7 at *
 clear I
 have HVZ:=Lib.hid (show ValsAt _ w2 vz l from hvz)
 have HVY:=Lib.hid (show RowsAt 2 wideF _ w2 vy sl from hvy.1)
 have HFY:=Lib.hid hvy.2
 obtain ⟨za,zc,rfl⟩:=HVZ.out.shape
 obtain ⟨ya,yc,rfl⟩:=HVY.out.shape
 have hB2:=Bt HB.out hw2
 have h02:=(hw2.block _ (by have:=HSZ.out;omega)).trans H0.out
 have h12:=(hw2.block _ (by have:=HSZ.out;omega)).trans H1.out
 have h22:=(hw2.block _ (by have:=HSZ.out;omega)).trans H2.out
 have hs2:=hw2.size
 obtain ⟨_,f0,f1,f2,f3,f4,f5⟩:=can6 h22
 obtain ⟨W3,hW3,k2,ko,ks,kB⟩:=two13 (.slice za l.length zc) (.slice ya sl.length yc) h22 hB2 (by omega)
 have HK2:=Lib.hid k2
 have HK0:=Lib.hid ((ko w.heap.size (by omega)).trans h02)
 have HK1:=Lib.hid ((ko (w.heap.size + 1) (by omega)).trans h12)
 have HKB:=Lib.hid kB
 have HVZ3:=Lib.hid (HVZ.out.ag (w':=W3) ⟨by rw [ks];exact Nat.le_refl _,fun b _ hb=>ko b (by have:=HSZ.out;omega)⟩)
 have HVY3:=Lib.hid (HVY.out.ag (w':=W3) ⟨by rw [ks];exact Nat.le_refl _,fun b _ hb=>ko b (by have:=HSZ.out;omega)⟩)
 have HFY3:=Lib.hid (HFY.out.same (w':=W3) fun b hb=>ko b (by have:=HVY.out.blk hb;have:=HSZ.out;omega))
 have hb3:w.heap.size < W3.heap.size:=by have:=HSZ.out;omega
 have HS3:=Lib.hid (show W0.heap.size≤W3.heap.size by omega)
 have HI:=Lib.hid (show (e3≤s7∨e7≤s3)∧W0.heap.size≤s3∧W0.heap.size≤s7∧e3≤W3.heap.size∧e7≤W3.heap.size from ⟨hap,hl3.1,hl7.1,by rw [ks];exact hl3.2.2,by rw [ks];exact hl7.2.2⟩)
 clear h02 h12 h22 k2 ko kB hw2 hB2 c0 c1 c2 c3 c4 c5 ks hs2 hvz hvy hap hl3 hl7
 obtain ⟨⟨c0,c1,c2,c3,c4,c5⟩,_⟩:=can6 HK0.out
 go_wp2_with (fail)
 refine FlX.wp_region_flow_tail 9 (FlX.specs [some (.inl ?_),some (.inl ?_),some (.inl ?_),some (.inr (isIntsX nl)),some (.inl ?_),some (.inl ?_),some (.inl ?_),some (.inr (isIntsX xl)),some (.inl ?_)]) (by kernel_rfl) (by kernel_rfl) ?_ ?_
 rotate_left 7
 ·refine FlX.specs_mono ?_
  repeat (first | exact FlX.lmono_nil | refine FlX.lmono_inl ?_ | refine FlX.lmono_inr (isIntsX_mono _) ?_)
 all_goals try simp only [List.take_succ_cons,List.take_zero,List.drop_succ_cons,List.drop_zero]
 iterate 3 (refine FlX.tree_valK rfl (fun K hK=>⟨fun w hw hG => ?_,?_⟩);(have hcl:=Flow.bcell hw;clear hG hw;unfold FlX.RunsV Flow.yields;go_simp;try rfl);go_simp;refine hK _ ?_;clear hK K)
 (refine FlX.tree_varK rfl (fun K hK=>⟨fun w hw hG => ?_,?_⟩);(have HW:=Lib.hid hw;clear hG hw;unfold FlX.RunsR Flow.yields;go_simp;refine (HN.out _ (Bt HKB.out HW.out)).mono ?_;rintro e w3 ⟨v3,rfl,hf3,hb3⟩;exact ⟨v3,rfl,hb3,hf3⟩);intro vy;go_simp;refine hK _ _ ?_;clear hK K)
 iterate 3 (refine FlX.tree_valK rfl (fun K hK=>⟨fun w hw hG => ?_,?_⟩);(have hcl:=Flow.bcell hw;clear hG hw;unfold FlX.RunsV Flow.yields;go_simp;try rfl);go_simp;refine hK _ ?_;clear hK K)
 (refine FlX.tree_varK rfl (fun K hK=>⟨fun w hw hG => ?_,?_⟩);(have HW:=Lib.hid hw;clear hG hw;unfold FlX.RunsR Flow.yields;go_simp;refine (HX.out _ (Bt HKB.out HW.out)).mono ?_;rintro e w3 ⟨v3,rfl,hf3,hb3⟩;exact ⟨v3,rfl,hb3,hf3⟩);intro vx;go_simp;refine hK _ _ ?_;clear hK K)
 (refine FlX.tree_valK rfl (fun K hK=>⟨fun w hw hG => ?_,?_⟩);(clear hG hw;unfold FlX.RunsV Flow.yields;go_simp;try rfl);go_simp;refine hK _ ?_;clear hK K)
 refine FlX.tree_nil fun w4 hw4 hG => ?_
 obtain ⟨I,hI⟩:=hG
 have hvy:=(show isIntsX nl vy _ _ w4 by simpa [FlX.upd] using hI.holds 3)
 have hvx:=(show isIntsX xl vx _ _ w4 by simpa [FlX.upd] using hI.holds 7)
 have hap:=hI.apart 3 7 (by decide)
 have hl3:=hI.le 3
 have hl7:=hI.le 7
 clear hI
 generalize (I 3).1=s4 at *
 generalize (I 3).2=e4 at *
 generalize (I 7).1=s5 at *
 generalize (I 7).2=e5 at *
 clear I
 have HVN:=Lib.hid (show RowsAt 1 intF _ w4 vy nl from hvy.1)
 have HFN:=Lib.hid hvy.2
 have HFX:=Lib.hid hvx.2
 have HVX:=Lib.hid (show RowsAt 1 intF _ w4 vx xl from hvx.1)
 obtain ⟨qa,qc,rfl⟩:=HVN.out.shape
 obtain ⟨ra,rc,rfl⟩:=HVX.out.shape
 clear c0 c1 c2 c3 c4 c5 hW3 f0 f1 f2 f3 f4 f5 hvy hvx
 have hB4:=Bt HKB.out hw4
 have hs4:=hw4.size
 have hSZ:=HSZ.out
 have hs3:=HS3.out
 have h24:=(hw4.block _ (by omega)).trans HK2.out
 have h14:=(hw4.block _ (by omega)).trans HK1.out
 obtain ⟨_,f0,f1,f2,f3,f4,f5⟩:=can6 h24
 obtain ⟨W5,hW5,k2,ko,ks5,kB⟩:=two45 (.slice qa nl.length qc) (.slice ra xl.length rc) h24 hB4 (by omega)
 obtain ⟨⟨c0,c1,c2,c3,c4,c5⟩,_⟩:=can6 k2
 have k1:=(ko (w.heap.size + 1) (by omega)).trans h14
 obtain ⟨_,g0,g1,g2,g3,g4,g5⟩:=can6 k1
 have hi:=HI.out
 have HVZ5:=Lib.hid ((HVZ3.out.ag (Ag.new _ hw4)).ag (w':=W5) ⟨by rw [ks5];exact Nat.le_refl _,fun b _ hb=>ko b (by omega)⟩)
 have HVY5:=Lib.hid ((HVY3.out.ag (Ag.new _ hw4)).ag (w':=W5) ⟨by rw [ks5];exact Nat.le_refl _,fun b _ hb=>ko b (by omega)⟩)
 have HVN5:=Lib.hid (HVN.out.ag (w':=W5) ⟨by rw [ks5];exact Nat.le_refl _,fun b _ hb=>ko b (by omega)⟩)
 have HVX5:=Lib.hid (HVX.out.ag (w':=W5) ⟨by rw [ks5];exact Nat.le_refl _,fun b _ hb=>ko b (by omega)⟩)
 have HFY5:=Lib.hid ((HFY3.out.below hw4).same (w':=W5) fun b hb=>ko b (by have:=HVY3.out.blk hb;omega))
 have HFN5:=Lib.hid (HFN.out.same (w':=W5) fun b hb=>ko b (by have:=HVN.out.blk hb;omega))
 have HFX5:=Lib.hid (HFX.out.same (w':=W5) fun b hb=>ko b (by have:=HVX.out.blk hb;omega))
 have HK1':=Lib.hid k1
 have HKB5:=Lib.hid kB
 have hs5:W3.heap.size≤W5.heap.size:=by omega
 have HJ:=Lib.hid (show (e4≤s5∨e5≤s4)∧W3.heap.size≤s4∧W3.heap.size≤s5 from ⟨hap,hl3.1,hl7.1⟩)
 clear h24 h14 k2 ko kB k1 hw4 hB4 hap hl3 hl7 hi
 go_wp2_with (fail)
 have q1:=set6 (.int .i64 t) (.slice za l.length zc) (.int .i64 c) (.slice ya sl.length yc) (.slice qa nl.length qc) (.slice ra xl.length rc) HK1'.out
 have qB:=set6_below (.int .i64 t) (.slice za l.length zc) (.int .i64 c) (.slice ya sl.length yc) (.slice qa nl.length qc) (.slice ra xl.length rc) HKB5.out (show w.heap.size≤w.heap.size + 1 by omega)
 obtain ⟨⟨e0,e1,e2,e3',e4',e5'⟩,_⟩:=can6 q1
 have hi:=HI.out
 have hj:=HJ.out
 have qA:∀ W6,W6=((((((W5.setCell ⟨w.heap.size + 1,0,none⟩ (.int .i64 t)).setCell ⟨w.heap.size + 1,1,none⟩ (.slice za l.length zc)).setCell ⟨w.heap.size + 1,2,none⟩ (.int .i64 c)).setCell ⟨w.heap.size + 1,3,none⟩ (.slice ya sl.length yc)).setCell ⟨w.heap.size + 1,4,none⟩ (.slice qa nl.length qc)).setCell ⟨w.heap.size + 1,5,none⟩ (.slice ra xl.length rc))→Ag (fun b=>W0.heap.size≤b) W5 W6:=fun W6 e=>by
  rw [e]
  exact ⟨by rw [set6_size];exact Nat.le_refl _,fun b _ hb=>set6_other _ _ _ _ _ _ (by omega)⟩
 refine bodyPost_ret (v:=.agg #[.int .i64 t,.slice za l.length zc,.int .i64 c,.slice ya sl.length yc,.slice qa nl.length qc,.slice ra xl.length rc]) (by simp [results,Tryz.results56,go_sem,e0,e1,e2,e3',e4',e5']) rfl ⟨[.int .i64 t,.slice za l.length zc,.int .i64 c,.slice ya sl.length yc,.slice qa nl.length qc,.slice ra xl.length rc],rfl,⟨_,_,_,_,rfl,?_,?_,?_,?_⟩,?_,?_,qB⟩
 ·show ValsAt _ _ _ (ds.map Tess.valOf)
  rw [HLE.out]
  exact (HVZ5.out.weak fun b hb=>by omega).ag (qA _ rfl) |>.weak fun b hb=>by omega
 ·exact (HVY5.out.weak fun b hb=>by omega).ag (qA _ rfl) |>.weak fun b hb=>by omega
 ·exact (HVN5.out.weak fun b hb=>by omega).ag (qA _ rfl) |>.weak fun b hb=>by omega
 ·exact (HVX5.out.weak fun b hb=>by omega).ag (qA _ rfl) |>.weak fun b hb=>by omega
 ·exact apart4 (fun b hb=>HVZ5.out.blk hb) (fun b hb=>HVY5.out.blk hb) (fun b hb=>HVN5.out.blk hb) (fun b hb=>HVX5.out.blk hb) fun b=>by omega
 ·have hne:∀ b,W0.heap.size≤b→((((((W5.setCell ⟨w.heap.size + 1,0,none⟩ (.int .i64 t)).setCell ⟨w.heap.size + 1,1,none⟩ (.slice za l.length zc)).setCell ⟨w.heap.size + 1,2,none⟩ (.int .i64 c)).setCell ⟨w.heap.size + 1,3,none⟩ (.slice ya sl.length yc)).setCell ⟨w.heap.size + 1,4,none⟩ (.slice qa nl.length qc)).setCell ⟨w.heap.size + 1,5,none⟩ (.slice ra xl.length rc)).heap[b]? = W5.heap[b]? := fun b hb=>set6_other _ _ _ _ _ _ (by omega)
  intro v hv
  simp only [List.drop_succ_cons,List.drop_zero,List.mem_cons,List.not_mem_nil,or_false] at hv
  rcases hv with rfl | rfl | rfl
  ·exact HFY5.out.same fun b hb=>hne b (by have:=HVY5.out.blk hb;omega)
  ·exact HFN5.out.same fun b hb=>hne b (by have:=HVN5.out.blk hb;omega)
  ·exact HFX5.out.same fun b hb=>hne b (by have:=HVX5.out.blk hb;omega)
end Go.Proofs.YtaddkkkchkdgkaaGreatDoor
namespace Go.Proofs.YtaddkkkchkdgkaaGreatDoor
open Go.RowKit Go.Sort
open Tess (CK Pay)
structure Tch (S:Nat→Prop) (w w':World):Prop where
 os:w'.os=w.os
 tape:w'.tape=w.tape
 output:w'.output=w.output
 size:w.heap.size≤w'.heap.size
 block:∀ b,b < w.heap.size→¬ S b→w'.heap[b]? = w.heap[b]?
theorem Tch.refl (S:Nat→Prop) (w:World):Tch S w w:=⟨rfl,rfl,rfl,Nat.le_refl _,fun _ _ _=>rfl⟩
theorem Tch.trans {S:Nat→Prop} {a b c:World} (h:Tch S a b) (k:Tch S b c):Tch S a c:=
 ⟨k.os.trans h.os,k.tape.trans h.tape,k.output.trans h.output,Nat.le_trans h.size k.size,fun x hx hs=>(k.block x (Nat.lt_of_lt_of_le hx h.size) hs).trans (h.block x hx hs)⟩
theorem Tch.new {S:Nat→Prop} {a b:World} (h:Below a.heap.size a b):Tch S a b:=⟨h.os,h.tape,h.output,h.size,fun x hx _=>h.block x hx⟩
theorem Tch.set {S:Nat→Prop} (w:World) (a:Addr) (v:Value) (h:S a.block):Tch S w (w.setCell a v):=
 ⟨rfl,rfl,rfl,by simp [World.setCell],fun b _ hb=>heap_setCell_other w a b v (fun e=>hb (e ▸ h))⟩
theorem Tch.below {S:Nat→Prop} {N:Nat} {w w':World} (h:Tch S w w') (hN:N≤w.heap.size) (hS:∀ b,S b→N≤b):Below N w w':=
 ⟨h.os,h.tape,h.output,h.size,fun b hb=>h.block b (by omega) fun e=>by have:=hS b e;omega⟩
theorem Tch.ag {S p:Nat→Prop} {w w':World} (h:Tch S w w') (hp:∀ b,p b→¬ S b):Ag p w w':=⟨h.size,fun b hb hpb=>h.block b hb (hp b hpb)⟩
theorem Tch.weak {S S':Nat→Prop} {w w':World} (h:Tch S w w') (hS:∀ b,S b→S' b):Tch S' w w':=⟨h.os,h.tape,h.output,h.size,fun b hb hn=>h.block b hb fun e=>hn (hS b e)⟩
def mix (f:Int→Int→Int):Nat→List Int→List Int→List Int
 | 0,l,_=>l
 | _ + 1,[],_=>[]
 | _ + 1,l,[]=>l
 | k + 1,a :: l,b :: m=>f a b :: mix f k l m
theorem mix_len (f:Int→Int→Int):∀ (k:Nat) (l m:List Int),(mix f k l m).length=l.length
 | 0,_,_=>rfl
 | _ + 1,[],_=>rfl
 | _ + 1,_ :: _,[]=>rfl
 | k + 1,a :: l,b :: m=>by rw [mix,List.length_cons,mix_len f k l m,List.length_cons]
theorem mix_at (f:Int→Int→Int):∀ (k:Nat) (l m:List Int) (h:k < l.length) (h':k < (mix f k l m).length),(mix f k l m)[k]=l[k]
 | 0,_,_,_,_=>rfl
 | k + 1,[],_,h,_=>by simp at h
 | k + 1,_ :: _,[],_,_=>rfl
 | k + 1,a :: l,b :: m,h,h'=>by
   simp only [mix,List.getElem_cons_succ]
   exact mix_at f k l m (by simpa using h) (by simpa [mix] using h')
theorem mix_succ (f:Int→Int→Int):∀ (k:Nat) (l m:List Int) (h:k < l.length) (h':k < m.length),mix f (k + 1) l m=(mix f k l m).set k (f l[k] m[k])
 | k,[],_,h,_=>by simp at h
 | k,_ :: _,[],_,h=>by simp at h
 | 0,a :: l,b :: m,_,_=>by simp [mix]
 | k + 1,a :: l,b :: m,h,h'=>by
   rw [mix,mix_succ f k l m (by simpa using h) (by simpa using h'),mix]
   simp
theorem mix_all (f:Int→Int→Int):∀ (l m:List Int),l.length=m.length→mix f l.length l m=List.zipWith f l m
 | [],_,_=>by simp [mix]
 | _ :: _,[],h=>by simp at h
 | a :: l,b :: m,h=>by rw [List.length_cons,mix,mix_all f l m (by simpa using h),List.zipWith_cons_cons]
theorem RowsAt.shapeM {α:Type} {k:Nat} {f:α→List Value} {p:Nat→Prop} {w:World} {v:Value} {l:List α} (h:RowsAt k f p w v l) {M:Nat} (hl:l.length=M):∃ a c,v = .slice a M c∧M≤c∧M≤9223372036854775807∧∀ j (hj:j < l.length),∃ b off,a=some ⟨b,off,none⟩∧b < w.heap.size∧p b∧∀ i,i < k→w.cell? ⟨b,off + j * k + i,none⟩=(f l[j])[i]? := by
 obtain ⟨a,c,hv,h1,h2,_,h4⟩:=h
 subst hl
 refine ⟨a,c,hv,h2,by unfold maxLen at h1;omega,fun j hj => ?_⟩
 obtain ⟨b,off,ha,hb,hp,hc⟩:=h4 (by omega)
 exact ⟨b,off,ha,hb,hp,hc j hj⟩
theorem blkN_slice {b off n c:Nat} (h:0 < n):blkN (.slice (some ⟨b,off,none⟩) n c)=some b:=by
 cases n with
 | zero=>omega
 | succ n=>rfl
theorem RowsAt.set1 {p:Nat→Prop} {w:World} {b off c:Nat} {l:List Int} (h:RowsAt 1 intF p w (.slice (some ⟨b,off,none⟩) l.length c) l) (hf:Fr w (.slice (some ⟨b,off,none⟩) l.length c)) {k:Nat} (hk:k < l.length) (x:Int) :
  RowsAt 1 intF p (w.setCell ⟨b,off + k,none⟩ (.int .i64 x)) (.slice (some ⟨b,off,none⟩) l.length c) (l.set k x)∧Fr (w.setCell ⟨b,off + k,none⟩ (.int .i64 x)) (.slice (some ⟨b,off,none⟩) l.length c):=by
 obtain ⟨cur,T,hc⟩:=hf b (blkN_slice (by omega))
 have hn:=heap_setCell_same w b (off + k) cur T (.int .i64 x) hc
 obtain ⟨a,c',hv,h1,h2,h3,h4⟩:=h
 cases hv
 obtain ⟨b',off',ha,hb,hp,hcell⟩:=h4 (by omega)
 cases ha
 refine ⟨⟨_,_,by rw [List.length_set],by rw [List.length_set];exact h1,by rw [List.length_set];exact h2,h3,fun _=>⟨b,off,rfl,by simp [World.setCell];exact hb,hp,fun j hj i hi => ?_⟩⟩,fun g hg => ?_⟩
 ·rw [List.length_set] at hj
  obtain rfl:i=0:=by omega
  have h0:=hcell j hj 0 hi
  rw [cell_of_row _ _ _ _ _ _ hc] at h0
  rw [cell_of_row _ _ _ _ _ _ hn,Array.getElem?_setIfInBounds]
  simp only [Nat.mul_one,Nat.add_zero] at h0 ⊢
  by_cases e:j=k
  ·subst e
   have hlt:off + j < cur.size:=(Array.getElem?_eq_some_iff.1 (by rw [h0];rfl:cur[off + j]? = some _)).1
   rw [if_pos rfl,if_pos hlt]
   simp [intF]
  ·rw [if_neg (by omega),h0,List.getElem_set_ne (by omega)]
 ·rw [blkN_slice (by omega)] at hg
  cases hg
  exact ⟨_,_,hn⟩
theorem RowsAt.set2 {p:Nat→Prop} {w:World} {b off c:Nat} {l:List Int} (h:RowsAt 2 wideF p w (.slice (some ⟨b,off,none⟩) l.length c) l) (hf:Fr w (.slice (some ⟨b,off,none⟩) l.length c)) {k:Nat} (hk:k < l.length) (x:Int) :
  RowsAt 2 wideF p ((w.setCell ⟨b,off + k * 2,none⟩ (.int .i64 (wHi x))).setCell ⟨b,off + k * 2 + 1,none⟩ (.int .u64 (wLo x))) (.slice (some ⟨b,off,none⟩) l.length c) (l.set k x)∧Fr ((w.setCell ⟨b,off + k * 2,none⟩ (.int .i64 (wHi x))).setCell ⟨b,off + k * 2 + 1,none⟩ (.int .u64 (wLo x))) (.slice (some ⟨b,off,none⟩) l.length c):=by
 obtain ⟨cur,T,hc⟩:=hf b (blkN_slice (by omega))
 have hn:=heap_setCell_same _ b (off + k * 2 + 1) _ T (.int .u64 (wLo x)) (heap_setCell_same w b (off + k * 2) cur T (.int .i64 (wHi x)) hc)
 obtain ⟨a,c',hv,h1,h2,h3,h4⟩:=h
 cases hv
 obtain ⟨b',off',ha,hb,hp,hcell⟩:=h4 (by omega)
 cases ha
 refine ⟨⟨_,_,by rw [List.length_set],by rw [List.length_set];exact h1,by rw [List.length_set];exact h2,h3,fun _=>⟨b,off,rfl,by simp [World.setCell];exact hb,hp,fun j hj i hi => ?_⟩⟩,fun g hg => ?_⟩
 ·rw [List.length_set] at hj
  have h0:=hcell j hj i hi
  rw [cell_of_row _ _ _ _ _ _ hc] at h0
  rw [cell_of_row _ _ _ _ _ _ hn,Array.getElem?_setIfInBounds,Array.getElem?_setIfInBounds]
  have hl:∃ u,(wideF l[j])[i]? = some u:=by
   rcases (by omega:i=0∨i=1) with rfl | rfl <;> exact ⟨_,rfl⟩
  obtain ⟨u,hu⟩:=hl
  rw [hu] at h0
  have hlt:off + j * 2 + i < cur.size:=(Array.getElem?_eq_some_iff.1 h0).1
  by_cases e:j=k
  ·subst e
   rcases (by omega:i=0∨i=1) with rfl | rfl
   ·rw [if_neg (by omega),if_pos (by omega),if_pos (by omega)];simp [wideF]
   ·rw [if_pos (by omega),if_pos (by simp;omega)];simp [wideF]
  ·rw [if_neg (by omega),if_neg (by omega),h0,List.getElem_set_ne (by omega),hu]
 ·rw [blkN_slice (by omega)] at hg
  cases hg
  exact ⟨_,_,hn⟩
end Go.Proofs.YtaddkkkchkdgkaaGreatDoor
