/- Joined by mergeQ.py: FlX, H2c, H2s, H7, H8 -/
import Derived.Test.YtbbgjjjeecfnoaaGreatDoorXFl
import Derived.Test.YtbbgjjjeecfnoaaGreatDoorXFB
import Derived.Test.YtbbgjjjeecfnoaaGreatDoorXFC
namespace Go.FlX
open Go Go.RowKit
open Go.Flow (yields yields_mono wp_of_yields dep not_dep)
abbrev Spec:=Option (Value ⊕ (Value→Nat→Nat→World→Prop))
def Spec.holds:Spec→Value→Nat→Nat→World→Prop
 | some (.inl u),v,_,_,_=>v=u
 | some (.inr V),v,s,e,w=>V v s e w
 | none,_,_,_,_=>True
def Spec.ok (P:Program) (w0:World) (s:Spec) (o:Oper) (a:Act) (v:Value):Prop:=match s with
 | some (.inl u)=>v=u
 | some (.inr _)=>True
 | none => ∀ u,(execOp a.eval o).run P w0 = .ok (.value u) w0→v=u
abbrev Ctx:=Nat→Nat→Nat→World→Prop
def Mono (p:Nat→Nat→World→Prop):Prop:=∀ s e w w',p s e w→Below w.heap.size w w'→p s e w'
def Spec.mono (s:Spec):Prop:=∀ v,Mono (s.holds v)
theorem mono_inl (u:Value):Spec.mono (some (.inl u)):=fun _ _ _ _ _ h _=>h
theorem mono_none:Spec.mono none:=fun _ _ _ _ _ h _=>h
section
variable {P:Program} {ops:Array Oper}
def Runs (P:Program) (ops:Array Oper) (w0:World) (o:Oper) (s:Spec) (a:Act) (w:World):Prop:=
 if Region.wanted o (yielded ops a.tmps) then yields P o a.eval w (fun v w'=>Below w.heap.size w w'∧s.ok P w0 o a v∧s.holds v w.heap.size w'.heap.size w') else s.ok P w0 o a undef∧s.holds undef w.heap.size w.heap.size w
def Runs' (P:Program) (ops:Array Oper) (w0:World) (o:Oper) (s:Spec) (a:Act) (Γ:Ctx):Prop:=
 ∀ w,Below w0.heap.size w0 w→(∀ j,dep o j=true→∃ b e,Γ j b e w)→Runs P ops w0 o s a w
def upd (Γ:Ctx) (i:Nat) (p:Nat→Nat→World→Prop):Ctx:=fun j=>if j=i then p else Γ j
theorem upd_ne {Γ:Ctx} {i j:Nat} {p:Nat→Nat→World→Prop} (h:j≠i):upd Γ i p j=Γ j:=by simp [upd,h]
theorem upd_same {Γ:Ctx} {i:Nat} {p:Nat→Nat→World→Prop}:upd Γ i p i=p:=by simp [upd]
theorem upd_comm {Γ:Ctx} {i j:Nat} {p q:Nat→Nat→World→Prop} (h:j≠i):upd (upd Γ i p) j q=upd (upd Γ j q) i p:=by
 funext k;unfold upd
 by_cases h1:k=j
 ·subst h1;simp [h]
 ·simp [h1]
def fOp (P:Program) (ops:Array Oper) (S:Nat→Spec) (w0:World) (i:Nat) (K:Act→Ctx→Prop) (a:Act) (Γ:Ctx):Prop:=
 match ops[i]? with
 | none=>K a Γ
 | some o=>(∃ v,(S i).ok P w0 o a v)∧Runs' P ops w0 o (S i) a Γ∧∀ v,(S i).ok P w0 o a v→K (a.put o.dst v) (upd Γ i ((S i).holds v))
theorem ok_same {w0:World} {s:Spec} {o:Oper} {a a':Act} {v:Value} (he:execOp a'.eval o=execOp a.eval o):s.ok P w0 o a' v↔s.ok P w0 o a v:=by
 unfold Spec.ok
 cases s with
 | none=>simp only [he]
 | some x=>cases x <;> exact Iff.rfl
theorem Runs'.of_same {w0:World} {o:Oper} {s:Spec} {a a':Act} {Γ Γ':Ctx} (h:Runs' P ops w0 o s a Γ) (he:execOp a'.eval o=execOp a.eval o)
  (hw:Region.wanted o (yielded ops a'.tmps)=Region.wanted o (yielded ops a.tmps)) (hg:∀ j,dep o j=true→Γ' j=Γ j):Runs' P ops w0 o s a' Γ':=by
 intro w hB hG
 have:=h w hB (fun j hj=>by rw [← hg j hj];exact hG j hj)
 unfold Runs yields at *
 simp only [ok_same he]
 rw [he,hw]
 exact this
def Tree (P:Program) (ops:Array Oper) (S:Nat→Spec) (w0:World) (E:Act→Ctx→Prop):List Oper→Nat→Act→Ctx→Prop
 | [],_,a,Γ=>E a Γ
 | o :: rest,i,a,Γ=>(∃ v,(S i).ok P w0 o a v)∧Runs' P ops w0 o (S i) a Γ∧∀ v,(S i).ok P w0 o a v→Tree P ops S w0 E rest (i + 1) (a.put o.dst v) (upd Γ i ((S i).holds v))
def anyFL (P:Program) (ops:Array Oper) (S:Nat→Spec) (w0:World) (n:Nat) (L:Array Bool→Act→Ctx→Prop):Nat→Array Bool→Act→Ctx→Prop
 | 0,listed,a,Γ=>L listed a Γ
 | f + 1,listed,a,Γ=>Region.ready .any ops listed≠[]∧∀ i ∈ Region.ready .any ops listed,i < n∧fOp P ops S w0 i (anyFL P ops S w0 n L f (listed.setIfInBounds i true)) a Γ
structure Told (w0:World) (Γ:Ctx) (I:Nat→Nat×Nat) (w:World):Prop where
 holds:∀ j,Γ j (I j).1 (I j).2 w
 le:∀ j,w0.heap.size≤(I j).1∧(I j).1≤(I j).2∧(I j).2≤w.heap.size
 apart:∀ j k,j≠k→(I j).2≤(I k).1∨(I k).2≤(I j).1
theorem Told.step {S:Nat→Spec} {w0 w w':World} {Γ:Ctx} {I:Nat→Nat×Nat} (h:Told w0 Γ I w) (hM:∀ j,Mono (Γ j)) (hB:Below w0.heap.size w0 w) (i:Nat) (v:Value) (hb:Below w.heap.size w w')
  (hv:(S i).holds v w.heap.size w'.heap.size w'):Told w0 (upd Γ i ((S i).holds v)) (fun j=>if j=i then (w.heap.size,w'.heap.size) else I j) w':=by
 refine ⟨fun j => ?_,fun j => ?_,fun j k hjk => ?_⟩
 ·by_cases e:j=i
  ·subst e;rw [upd_same,if_pos rfl];exact hv
  ·rw [upd_ne e,if_neg e];exact hM j _ _ _ _ (h.holds j) hb
 ·by_cases e:j=i
  ·rw [if_pos e];exact ⟨hB.size,hb.size,Nat.le_refl _⟩
  ·rw [if_neg e];exact ⟨(h.le j).1,(h.le j).2.1,Nat.le_trans (h.le j).2.2 hb.size⟩
 ·by_cases e:j=i
  ·have ek:k≠i:=fun e2=>hjk (e.trans e2.symm)
   rw [if_pos e,if_neg ek];exact .inr (h.le k).2.2
  ·rw [if_neg e]
   by_cases ek:k=i
   ·rw [if_pos ek];exact .inl (h.le j).2.2
   ·rw [if_neg ek];exact h.apart j k hjk
theorem mono_upd {S:Nat→Spec} (hS:∀ i,(S i).mono) {Γ:Ctx} (hM:∀ j,Mono (Γ j)) (i:Nat) (v:Value):∀ j,Mono (upd Γ i ((S i).holds v) j):=fun j=>by
 by_cases e:j=i
 ·subst e;rw [upd_same];exact hS j v
 ·rw [upd_ne e];exact hM j
theorem wpAny_of_anyFL {S:Nat→Spec} {w0:World} (hS:∀ i,(S i).mono) {n g:Nat} {L:Array Bool→Act→Ctx→Prop} {Q:Exit→Act→World→Prop}
  (hL:∀ listed a Γ w I,L listed a Γ→Below w0.heap.size w0 w→Told w0 Γ I w→wpAny P .any ops Q g listed a w):∀ (f:Nat) (listed:Array Bool) (a:Act) (Γ:Ctx) (w:World) (I:Nat→Nat×Nat),
  anyFL P ops S w0 n L f listed a Γ→Below w0.heap.size w0 w→Told w0 Γ I w→(∀ j,Mono (Γ j))→wpAny P .any ops Q (f + g) listed a w
 | 0,_,_,_,_,_,h,hB,hG,_=>by rw [Nat.zero_add];exact hL _ _ _ _ _ h hB hG
 | f + 1,listed,a,Γ,w,I,h,hB,hG,hM=>by
   rw [show f + 1 + g=(f + g) + 1 by omega]
   refine ⟨fun h0=>absurd h0 h.1,fun i hi => ?_⟩
   have h1:=(h.2 i hi).2
   unfold fOp at h1
   unfold wpOp
   split
   ·rename_i ho
    simp only [ho] at h1
    exact wpAny_of_anyFL hS hL f _ _ _ _ _ h1 hB hG hM
   ·rename_i o ho
    simp only [ho] at h1
    have h2:=h1.2.1 w hB (fun j _=>⟨_,_,hG.holds j⟩)
    unfold Runs at h2
    split
    ·rename_i hw
     simp only [hw,if_true] at h2
     refine .inl (wp_of_yields (yields_mono ?_ h2))
     intro v w' ⟨hb,ho,hv⟩
     exact wpAny_of_anyFL hS hL f _ _ _ _ _ (h1.2.2 v ho) (hB.trans (hb.mono hB.size)) (hG.step hM hB i v hb hv) (mono_upd hS hM i v)
    ·rename_i hw
     simp only [hw] at h2
     exact wpAny_of_anyFL hS hL f _ _ _ _ _ (h1.2.2 undef h2.1) hB (hG.step hM hB i undef (Below.refl _ _) h2.2) (mono_upd hS hM i undef)
theorem anyFL_first {S:Nat→Spec} {w0:World} {n i:Nat} {oi:Oper} {L:Array Bool→Act→Ctx→Prop} (hi:ops[i]? = some oi) (hsel:∀ (j:Nat) (o:Oper) cs b,ops[j]? = some o→o.op ≠ .select cs b)
  (hs:Region.sinkB .any ops n=true) (hc:Region.chainB .any ops n=true) (hn:n < ops.size) (hin:i < n)
  (hdone:∀ listed a Γ,L listed a Γ→∀ j ∈ Region.ready .any ops listed,n≤j) :
  ∀ (f:Nat) (listed:Array Bool) (a:Act) (Γ:Ctx),HeadInv .any ops n listed →
    (∀ j oj,ops[j]? = some oj→j≠i→listed.getD j true=false→(∀ e ∈ oj.after,Region.binds .any e=true→e.on≠i)→oi.apart ops oj=true) →
    i ∈ Region.ready .any ops listed→(∃ v,(S i).ok P w0 oi a v)→Runs' P ops w0 oi (S i) a Γ →
    (∀ v,(S i).ok P w0 oi a v→anyFL P ops S w0 n L f (listed.setIfInBounds i true) (a.put oi.dst v) (upd Γ i ((S i).holds v)))→anyFL P ops S w0 n L (f + 1) listed a Γ:=by
 intro f
 induction f with
 | zero=>
   intro listed a Γ inv _ hr hex hy H
   obtain ⟨v0,hv0⟩:=hex
   have hun:=(mem_ready.1 hr).1
   refine ⟨fun h=>(by rw [h] at hr;cases hr),fun j hj => ?_⟩
   have hjn:j < n:=by
    rcases Nat.lt_or_ge j n with h | h
    ·exact h
    ·exact absurd hj (tail_waits hs hc hn inv _ i rfl hin hun j h)
   refine ⟨hjn,?_⟩
   by_cases hji:j=i
   ·subst hji
    unfold fOp;simp only [hi];exact ⟨⟨v0,hv0⟩,hy,H⟩
   ·have:=hdone _ _ _ (H v0 hv0) j (ready_mono hj hji)
    omega
 | succ f ih=>
   intro listed a Γ inv hfree hr hex hy H
   obtain ⟨v0,hv0⟩:=hex
   have hun:=(mem_ready.1 hr).1
   refine ⟨fun h=>(by rw [h] at hr;cases hr),fun j hj => ?_⟩
   have hjn:j < n:=by
    rcases Nat.lt_or_ge j n with h | h
    ·exact h
    ·exact absurd hj (tail_waits hs hc hn inv _ i rfl hin hun j h)
   refine ⟨hjn,?_⟩
   by_cases hji:j=i
   ·subst hji
    unfold fOp;simp only [hi];exact ⟨⟨v0,hv0⟩,hy,H⟩
   ·obtain ⟨hjun,oj,hoj,hall⟩:=mem_ready.1 hj
    have unl:∀ k,listed.getD k true=false→listed.getD k false=true→False:=fun k h1 h0=>by rw [getD_both h1] at h0;cases h0
    have hnot:∀ e ∈ oj.after,Region.binds .any e=true→e.on≠i:=fun e he hb heq=>unl i hun (by rw [← heq];exact hall e he hb)
    have hnoti:∀ e ∈ oi.after,Region.binds .any e=true→e.on≠j:=fun e he hb heq=>by
     obtain ⟨_,o',ho',hall'⟩:=mem_ready.1 hr
     rw [hi] at ho';cases ho'
     exact unl j hjun (by rw [← heq];exact hall' e he hb)
    have hap:=hfree j oj hoj hji hjun hnot
    obtain ⟨h1,h2,h3⟩:=Oper.apart_spec hap
    have hfree':∀ k ok,ops[k]? = some ok→k≠i→(listed.setIfInBounds j true).getD k true=false →
      (∀ e ∈ ok.after,Region.binds .any e=true→e.on≠i)→oi.apart ops ok=true:=fun k ok hk hki hun hno=>by
     refine hfree k ok hk hki ?_ hno
     by_cases hjk:j=k
     ·subst hjk;exact hjun
     ·rw [getD_set_ne true hjk] at hun;exact hun
    have Hj:∀ v,(S i).ok P w0 oi a v→(∃ u,(S j).ok P w0 oj (a.put oi.dst v) u)∧Runs' P ops w0 oj (S j) (a.put oi.dst v) (upd Γ i ((S i).holds v))∧∀ u,(S j).ok P w0 oj (a.put oi.dst v) u →
      anyFL P ops S w0 n L f ((listed.setIfInBounds i true).setIfInBounds j true) ((a.put oi.dst v).put oj.dst u) (upd (upd Γ i ((S i).holds v)) j ((S j).holds u)):=fun v hv=>by
     have:=((H v hv).2 j (ready_mono hj hji)).2
     unfold fOp at this
     simpa only [hoj] using this
    unfold fOp
    simp only [hoj]
    have ej:=fun v=>execOp_put oj (fun cs b=>hsel j oj cs b hoj) a oi.dst v h1
    have ei:=fun u=>execOp_put oi (fun cs b=>hsel i oi cs b hi) a oj.dst u h3
    refine ⟨(Hj v0 hv0).1.imp fun u hu=>(ok_same (ej v0)).1 hu,(Hj v0 hv0).2.1.of_same (ej v0).symm (wanted_put oj a oi.dst v0 h1).symm (fun k hk => ?_),fun u hu => ?_⟩
    ·exact (upd_ne (not_dep hnot hk)).symm
    ·refine ih (listed.setIfInBounds j true) _ _ (inv.set hj hjn) hfree' (ready_mono hr (Ne.symm hji)) ⟨v0,(ok_same (ei u)).2 hv0⟩ ?_ (fun v hv => ?_)
     ·exact hy.of_same (execOp_put oi (fun cs b=>hsel i oi cs b hi) a oj.dst u h3) (wanted_put oi a oj.dst u h3) (fun k hk=>upd_ne (not_dep hnoti hk))
     ·have hv':=(ok_same (ei u)).1 hv
      have:=(Hj v hv').2.2 u ((ok_same (ej v)).2 hu)
      rw [Array.setIfInBounds_comm _ _ hji,← Act.put_comm a v u h2,← upd_comm hji]
      exact this
theorem anyFL_lex {S:Nat→Spec} {w0:World} {n g:Nat} {Lq:Act→Ctx→Prop} (hsel:Region.noSelect ops=true) (hs:Region.sinkB .any ops n=true) (hc:Region.chainB .any ops n=true) (hn:n < ops.size) :
  ∀ (l:List Oper) (k:Nat) (listed:Array Bool) (a:Act) (Γ:Ctx),(∀ j,j < l.length→l[j]? = ops[k + j]?)→k + l.length=n→HeadInv .any ops n listed →
  Region.lexHead .any ops g l.length k listed=true→Tree P ops S w0 Lq l k a Γ →
  anyFL P ops S w0 n (fun listed' a' Γ'=>Region.seqB .any ops g n listed'=true∧Lq a' Γ') l.length listed a Γ
 | [],k,listed,a,Γ,_,hk,_,hB,h=>by
   have:k=n:=by simpa using hk
   subst this
   exact ⟨by simpa [Region.lexHead] using hB,h⟩
 | o :: l,k,listed,a,Γ,hl,hk,inv,hB,h=>by
   have h0:ops[k]? = some o:=by simpa using (hl 0 (by simp)).symm
   simp only [List.length_cons,Region.lexHead,Bool.and_eq_true] at hB
   obtain ⟨⟨hr,hf⟩,hB'⟩:=hB
   have hkn:k < n:=by simp only [List.length_cons] at hk;omega
   have hr':k ∈ Region.ready .any ops listed:=by simpa using hr
   exact anyFL_first h0 (Region.noSelect_spec hsel) hs hc hn hkn (fun listed' a' Γ' hL=>seqB_ready hL.1) l.length listed a Γ inv (Region.free_spec h0 hf) hr' h.1 h.2.1
    (fun v hv=>anyFL_lex hsel hs hc hn l (k + 1) _ _ _ (fun j hj=>by have:=hl (j + 1) (by simp;omega);simpa [Nat.add_assoc,Nat.add_comm 1 j] using this) (by simp only [List.length_cons] at hk;omega) (inv.set hr' hkn) hB' (h.2.2 v hv))
theorem wp_region_flow_tail {id:Nat} {Q:Exit→Act→World→Prop} {a:Act} {w:World} {l:List Oper} (n:Nat) (S:Nat→Spec) (hm:P.follows .mixedOrders=true) (hB:Region.lexTailB .any l.toArray n=true) (hS:∀ i,(S i).mono)
  (h:Tree P l.toArray S w (fun a' Γ => ∀ w',Below w.heap.size w w'→(∃ I,Told w Γ I w')→wpList P l.toArray Q (l.drop n) a' w') (l.take n) 0 a (fun _ _ _ _=>True)):(Code.region id l.toArray true).wp P Q a w:=by
 simp only [Region.lexTailB,Bool.and_eq_true,decide_eq_true_eq] at hB
 obtain ⟨⟨⟨⟨hsel,hn⟩,hs⟩,hc⟩,hlex⟩:=hB
 have hn':n < l.length:=by simpa using hn
 have htl:(l.take n).length=n:=by simp;omega
 have hdl:(l.drop n).length=l.toArray.size - n:=by simp
 have inv0:HeadInv .any l.toArray n (Array.replicate l.toArray.size false):=
  ⟨by simp,fun j oj _ hl=>(by rw [getD_replicate_false] at hl;cases hl),fun t _ ht=>getD_in (by simpa using ht) (getD_replicate_false _ _)⟩
 have H:=anyFL_lex (g:=l.toArray.size - n) hsel hs hc hn (l.take n) 0 _ a (fun _ _ _ _=>True) (fun j hj=>by
  have hj':j < n:=by rw [htl] at hj;exact hj
  simp [hj']) (by simpa using htl) inv0 (by rw [htl];exact hlex) h
 refine wp_region_any hm ?_
 have:=wpAny_of_anyFL (Q:=Q) (g:=l.toArray.size - n) hS (fun listed a' Γ' w' I hL hb hG=>by
  have:=wpAny_of_seq (md:=.any) (Q':=Q) (l.drop n) n listed a' w' (fun j=>by simp [List.getElem?_drop]) (by rw [hdl];exact hL.1) (hL.2 w' hb ⟨I,hG⟩)
  rwa [hdl] at this) _ _ _ _ { w with drawn:=w.drawn + 1 } (fun _=>(w.heap.size,w.heap.size)) H ((Below.refl _ _).drew) ⟨fun _=>trivial,fun _=>⟨Nat.le_refl _,Nat.le_refl _,Nat.le_refl _⟩,fun _ _ _ => .inl (Nat.le_refl _)⟩ (fun _ _ _ _ _ _ _=>trivial)
 rw [htl,show n + (l.toArray.size - n)=l.toArray.size by omega] at this
 exact this
theorem tree_nil {S:Nat→Spec} {w0:World} {E:Act→Ctx→Prop} {i:Nat} {a:Act} {Γ:Ctx} (h:E a Γ):Tree P ops S w0 E [] i a Γ:=h
def specs (l:List Spec):Nat→Spec:=fun i=>l.getD i none
theorem specs_mono {l:List Spec} (h:∀ s ∈ l,Spec.mono s):∀ i,(specs l i).mono:=fun i=>by
 unfold specs
 rcases Nat.lt_or_ge i l.length with h' | h'
 ·rw [List.getD_eq_getElem?_getD,List.getElem?_eq_getElem h'];exact h _ (List.getElem_mem h')
 ·rw [List.getD_eq_getElem?_getD,List.getElem?_eq_none h'];exact mono_none
def RunsV (P:Program) (ops:Array Oper) (o:Oper) (u:Value) (a:Act) (w:World):Prop:=
 if Region.wanted o (yielded ops a.tmps) then yields P o a.eval w (fun v w'=>Below w.heap.size w w'∧v=u) else undef=u
def RunsR (P:Program) (ops:Array Oper) (o:Oper) (V:Value→Nat→Nat→World→Prop) (a:Act) (w:World):Prop:=
 if Region.wanted o (yielded ops a.tmps) then yields P o a.eval w (fun v w'=>Below w.heap.size w w'∧V v w.heap.size w'.heap.size w') else V undef w.heap.size w.heap.size w
theorem tree_valK {S:Nat→Spec} {w0:World} {E:Act→Ctx→Prop} {o:Oper} {rest:List Oper} {i:Nat} {a:Act} {Γ:Ctx} {u:Value} (hs:S i=some (.inl u))
  (h:∀ K:Act→Prop,(∀ a',Tree P ops S w0 E rest (i + 1) a' (upd Γ i (fun _ _ _=>True))→K a')→(∀ w,Below w0.heap.size w0 w→(∀ j,dep o j=true→∃ b e,Γ j b e w)→RunsV P ops o u a w)∧K (a.put o.dst u)):Tree P ops S w0 E (o :: rest) i a Γ:=by
 refine ⟨by rw [hs];exact ⟨u,rfl⟩,?_,fun v hv => ?_⟩
 ·intro w hB hG
  have:=(h (fun _=>True) (fun _ _=>trivial)).1 w hB hG
  rw [hs]
  unfold RunsV at this
  unfold Runs
  split
  ·rename_i hw;simp only [hw,if_true] at this
   exact yields_mono (fun v w' h=>⟨h.1,h.2,h.2⟩) this
  ·rename_i hw;simp only [hw] at this
   exact ⟨this,this⟩
 ·rw [hs] at hv ⊢
  have hv':v=u:=hv
  subst hv'
  have e:Spec.holds (some (.inl v)) v=fun _ _ _=>True:=by funext a b c;simp [Spec.holds]
  rw [e]
  exact (h (fun a'=>Tree P ops S w0 E rest (i + 1) a' (upd Γ i (fun _ _ _=>True))) (fun _ h=>h)).2
theorem tree_varK {S:Nat→Spec} {w0:World} {E:Act→Ctx→Prop} {o:Oper} {rest:List Oper} {i:Nat} {a:Act} {Γ:Ctx} {V:Value→Nat→Nat→World→Prop} (hs:S i=some (.inr V))
  (h:∀ K:Act→(Nat→Nat→World→Prop)→Prop,(∀ a' v,Tree P ops S w0 E rest (i + 1) a' (upd Γ i (V v))→K a' (V v))→(∀ w,Below w0.heap.size w0 w→(∀ j,dep o j=true→∃ b e,Γ j b e w)→RunsR P ops o V a w)∧∀ v,K (a.put o.dst v) (V v)):Tree P ops S w0 E (o :: rest) i a Γ:=by
 refine ⟨by rw [hs];exact ⟨undef,trivial⟩,?_,fun v _ => ?_⟩
 ·intro w hB hG
  have:=(h (fun _ _=>True) (fun _ _ _=>trivial)).1 w hB hG
  rw [hs]
  unfold RunsR at this
  unfold Runs
  split
  ·rename_i hw;simp only [hw,if_true] at this
   exact yields_mono (fun v w' h=>⟨h.1,trivial,h.2⟩) this
  ·rename_i hw;simp only [hw] at this
   exact ⟨trivial,this⟩
 ·rw [hs]
  exact (h (fun a' p=>Tree P ops S w0 E rest (i + 1) a' (upd Γ i p)) (fun _ _ h=>h)).2 v
theorem tree_pureK {S:Nat→Spec} {w0:World} {E:Act→Ctx→Prop} {o:Oper} {rest:List Oper} {i:Nat} {a:Act} {Γ:Ctx} (hs:S i=none)
  (h:∀ K:Act→Prop,(∀ a',Tree P ops S w0 E rest (i + 1) a' (upd Γ i (fun _ _ _=>True))→K a')→(∀ w,Below w0.heap.size w0 w→(∀ j,dep o j=true→∃ b e,Γ j b e w)→Region.wanted o (yielded ops a.tmps)=true∧∃ u,(execOp a.eval o).run P w = .ok (.value u) w∧(execOp a.eval o).run P w0 = .ok (.value u) w0) ∧
    ∀ v,(∀ u,(execOp a.eval o).run P w0 = .ok (.value u) w0→v=u)→K (a.put o.dst v)):Tree P ops S w0 E (o :: rest) i a Γ:=by
 refine ⟨?_,?_,fun v hv => ?_⟩
 ·rw [hs]
  by_cases hu:∃ u,(execOp a.eval o).run P w0 = .ok (.value u) w0
  ·obtain ⟨u,hu⟩:=hu
   exact ⟨u,fun u' h'=>by rw [hu] at h';simpa using h'⟩
  ·exact ⟨undef,fun u' h'=>absurd ⟨u',h'⟩ hu⟩
 ·intro w hB hG
  obtain ⟨hw,u,h1,h2⟩:=(h (fun _=>True) (fun _ _=>trivial)).1 w hB hG
  rw [hs]
  unfold Runs yields
  rw [if_pos hw,h1]
  exact ⟨Below.refl _ _,fun u' h'=>by rw [h2] at h';simpa using h',trivial⟩
 ·rw [hs] at hv ⊢
  have e:Spec.holds none v=fun _ _ _=>True:=by funext a b c;simp [Spec.holds]
  rw [e]
  exact (h (fun a'=>Tree P ops S w0 E rest (i + 1) a' (upd Γ i (fun _ _ _=>True))) (fun _ h=>h)).2 v hv
theorem lmono_nil:∀ s ∈ ([]:List Spec),s.mono:=fun _ h=>by cases h
theorem lmono_inl {u:Value} {l:List Spec} (h:∀ s ∈ l,s.mono):∀ s ∈ (some (.inl u) :: l:List Spec),s.mono:=fun s hs=>by
 rcases List.mem_cons.1 hs with rfl | hs
 ·exact mono_inl u
 ·exact h s hs
theorem lmono_none {l:List Spec} (h:∀ s ∈ l,s.mono):∀ s ∈ (none :: l:List Spec),s.mono:=fun s hs=>by
 rcases List.mem_cons.1 hs with rfl | hs
 ·exact mono_none
 ·exact h s hs
theorem lmono_inr {V:Value→Nat→Nat→World→Prop} {l:List Spec} (hV:Spec.mono (some (.inr V))) (h:∀ s ∈ l,s.mono):∀ s ∈ (some (.inr V) :: l:List Spec),s.mono:=fun s hs=>by
 rcases List.mem_cons.1 hs with rfl | hs
 ·exact hV
 ·exact h s hs
end
end Go.FlX
namespace Go.Proofs.YtbbgjjjeecfnoaaGreatDoor
open Go.RowKit Go.Sort
def CapOk (v:Value) (n:Nat):Prop:=(match v with | .slice _ m _=>m=n | _=>False)∧(match v with | .slice _ _ c=>n≤c | _=>False)
theorem owns_cap {w:World} {base:Nat} {e:TypeId} {size:Nat} {v:Value} {n:Nat} {xs:List Value} (h:w.ownsRow base e size v n xs) (h0:n=0→v = .slice none 0 0):CapOk v n:=by
 rcases Nat.eq_zero_or_pos n with e0 | e0
 ·rw [h0 e0,e0];exact ⟨rfl,Nat.le_refl _⟩
 ·obtain ⟨g,cap,hv,_,_,hc,_⟩:=owns_cell_any h e0
  rw [hv];exact ⟨rfl,hc⟩
end Go.Proofs.YtbbgjjjeecfnoaaGreatDoor
namespace Go.Proofs.YtbbgjjjeecfnoaaGreatDoor
open Go.RowKit Go.Sort
section
variable {p:Nat→Prop} {w:World} {v:Value}
theorem SetsAt.shape {l:List (List ByteArray)} (h:SetsAt p w v l):∃ a cap,v = .slice a l.length cap:=let ⟨a,cap,hv,_⟩:=h;⟨a,cap,hv⟩
theorem RowsAt.shape {α:Type} {k:Nat} {f:α→List Value} {l:List α} (h:RowsAt k f p w v l):∃ a cap,v = .slice a l.length cap:=let ⟨a,cap,hv,_⟩:=h;⟨a,cap,hv⟩
theorem RowsAt.len {α:Type} {k:Nat} {f:α→List Value} {l:List α} (h:RowsAt k f p w v l):l.length≤9223372036854775807:=by obtain ⟨_,_,_,h,_⟩:=h;unfold maxLen at h;omega
theorem SetsAt.len {l:List (List ByteArray)} (h:SetsAt p w v l):l.length≤9223372036854775807:=by obtain ⟨_,_,_,h,_⟩:=h;unfold maxLen at h;omega
end
end Go.Proofs.YtbbgjjjeecfnoaaGreatDoor
namespace Go.Proofs.YtbbgjjjeecfnoaaGreatDoor
open Go.RowKit Go.Sort
open Tess (Fil Que)
set_option maxRecDepth 100000 in
set_option maxHeartbeats 2000000 in
theorem names15_any (p:Nat→Prop) (v:Value) (l:List ByteArray) (w:World) (hv:SlP p w v (l.map .string)) (hs:∀ x ∈ l,x.size≤maxLen) :
  Calls Tryz.prog 33 #[v] w fun e w' => ∃ v',e = .returned v'∧SlP (fun b=>w.heap.size≤b) w' v' ((namesN 30 10 l).map .string)∧CapOk v' (namesN 30 10 l).length∧Below w.heap.size w w':=by
 obtain ⟨a,cap,rfl,hl,hc⟩:=sls_open hv.1
 have HC:=Lib.hid hc
 have HS:=Lib.hid hs
 clear hc hs hv
 obtain ⟨i0,hi,hz0,hz1,hz2⟩:=info_parts infoStr
 go_enter Tryz.func33,Tryz.ntmps33
 go_wp2
 go_loopw [3,4] (fun v i wr => ∃ k:Nat,k≤l.length∧k≤10∧i = .int .i64 k∧wr.ownsRow w.heap.size 9 1 v k (namesV 30 10 l k)∧(k=0→v = .slice none 0 0)∧Below w.heap.size w wr) (fun _ i _=>10 - (intOf i).toNat)
 case atStart=>exact ⟨0,Nat.zero_le _,Nat.zero_le _,rfl,by simpa [namesV] using World.ownsRow_nil w w.heap.size 9 1,fun _=>rfl,Below.refl _ _⟩
 case round=>
  obtain ⟨k,hk,hkn,rfl,hown,hnil,hB⟩:=hrel
  have HN:=Lib.hid hnil
  clear hnil
  by_cases hlt:k < l.length∧k < 10
  ·obtain ⟨h1,h2⟩:=hlt
   obtain ⟨b,off,rfl,hb,hel⟩:=HC.out k h1
   have hck:wr.cell? ⟨b,off + k,none⟩=some (.string l[k]):=(hB.cell (p:=⟨b,off + k,none⟩) hb).trans hel
   have hsz:l[k].size≤9223372036854775807:=HS.out _ (List.getElem_mem h1)
   have HO:=Lib.hid hown
   have HB:=Lib.hid hB
   have hbw:b < wr.heap.size:=Nat.lt_of_lt_of_le hb HB.out.size
   obtain ⟨x,hx⟩:∃ x,x=cutN 30 l[k]:=⟨_,rfl⟩
   have HE:=Lib.hid (names_snoc 30 10 l k h1 x hx.symm)
   have HX:=Lib.hid hx
   clear hx hown hB hel hb
   generalize l[k]=xs at *
   go_wp2
   rcases (show ((30:Int) < (xs.size:Int)∧(¬ (xs.size:Int)≤30∧(30:Int)≤(xs.size:Int))∧min (xs.size:Int) 30=30)∨(¬ (30:Int) < (xs.size:Int)∧(xs.size:Int)≤30∧min (xs.size:Int) 30=(xs.size:Int)) by omega) with ⟨h3i,h3j,hmin⟩ | ⟨h3i,h3j,hmin⟩
   all_goals
    refine Flow.wp_region_flow_tail 13 (Flow.specs [.inl ?_,.inl ?_,.inl ?_,.inl ?_,.inl ?_,.inl ?_,.inl ?_,.inl ?_,.inl ?_,.inl ?_,.inl ?_,.inl ?_,.inr (newOne (.string x))]) (by kernel_rfl) (by kernel_rfl) ?_ ?_
    rotate_left 12
    ·refine Flow.specs_mono ?_
     repeat (first | exact Flow.lmono_nil | refine Flow.lmono_inl ?_ | refine Flow.lmono_inr (newOne_mono _) ?_)
    all_goals try simp only [List.take_succ_cons,List.take_zero,List.drop_succ_cons,List.drop_zero]
    iterate 12 (refine Flow.tree_valK rfl (fun K hK=>⟨fun w hw hG => ?_,?_⟩);(have hcl:=Flow.bcell hw;clear hG hw;unfold Flow.Runs Flow.yields;go_simp;try rfl);go_simp;refine hK _ ?_;clear hK K)
    (refine Flow.tree_varK rfl (fun K hK=>⟨fun w hw hG => ?_,?_⟩);(clear hG hw;unfold Flow.Runs Flow.yields;go_simp;refine ⟨(Below.refl _ _).alloc (Nat.le_refl _) _,?_⟩;rw [HX.out]);rotate_left;intro vz;go_simp;refine hK _ _ ?_;clear hK K;rotate_left)
    ·first | exact newOne_mk _ _ _ | (rw [cutN_self _ _ (by omega)];exact newOne_mk _ _ _)
    refine Flow.tree_nil fun w2 hw2 hG => ?_
    obtain ⟨gn,rfl,hgn,hcn⟩:=(show newOne (.string x) vz w2 by simpa [Flow.upd] using hG 12)
    clear hG
    have HO2:=Lib.hid (owns_below HO.out hw2)
    have hB2:=HB.out.trans (hw2.mono HB.out.size)
    go_wp2_with (at_builtin;refine wpList_append_own _ rfl _ _ 22 rfl w.heap.size 9 i0 (.string ByteArray.empty) 1 16 Tryz.underlying22 hi hz0 hz1 hz2 rfl (by decide) _ _ _ rfl HO2.out ⟨gn,0,none⟩ 1 1 [.string x] rfl rfl ?_ ?_ ?_ ?_ ?_ ?_)
    ·intro j u hj;rcases j with _ | j <;> simp at hj;subst hj;simpa [Addr.add] using hcn
    ·simp [Value.oneCell']
    ·unfold maxLen;omega
    ·omega
    ·exact hB2.size
    intro v' w3 hown3 hgrow hnil3
    have HB3:=Lib.hid (hB2.grown hgrow hB2.size (fun j e=>(HO2.out.lt j e).1))
    have HO3:=Lib.hid (joinl_owned hown3 HE.out)
    clear hown3 hgrow hB2
    go_wp2
    go_roundw
    case rel=>exact ⟨k + 1,by omega,by omega,by go_num,HO3.out,fun h=>by omega,HB3.out⟩
    case measure=>simp [intOf];omega
  ·have HE:=names_end 30 10 l k (by omega) hk hkn
   have HP:=Lib.hid (SlP.owned (HE ▸ hown))
   have hkl:(namesN 30 10 l).length=k:=by unfold namesN;rw [List.length_map,List.length_take];omega
   have HQ:=Lib.hid (owns_cap hown HN.out)
   rw [← hkl] at HQ
   clear hkl
   have HB:=Lib.hid hB
   clear hown hB HE
   rcases (show (¬ (k:Int) < (l.length:Int))∨((k:Int) < (l.length:Int)∧¬ (k:Int) < 10) by omega) with hni | ⟨hkl,hni⟩
   all_goals
    clear hlt
    go_wp2
    go_ret
    exact ⟨_,rfl,HP.out,HQ.out,HB.out⟩
end Go.Proofs.YtbbgjjjeecfnoaaGreatDoor
namespace Tess
open Go
def cutAgg (a:Agg):Agg:=⟨a.kind,cutN 30 a.met⟩
def Que.few (q:Que):Que:=⟨(q.aggs.take 10).map cutAgg,(q.names.take 10).map (cutN 30),q.mode,(q.sets.take 10).map (fun l=>(l.take 10).map (cutN 30)),q.every,Fil.few q.fil,q.conds.take 10,q.keys.take 10,q.limit⟩
end Tess
namespace Go.Proofs.YtbbgjjjeecfnoaaGreatDoor
open Go.RowKit Go.Sort
open Tess (Fil Que)
def putAll (g:Nat):Nat→List Value→World→World
 | _,[],W=>W
 | i,y :: r,W=>putAll g (i + 1) r (W.setCell ⟨g,i,none⟩ y)
def setArr:Nat→List Value→Array Value→Array Value
 | _,[],cs=>cs
 | i,y :: r,cs=>setArr (i + 1) r (cs.setIfInBounds i y)
theorem putAll_same {g:Nat} {t:TypeId} (ys:List Value):∀ (i:Nat) (W:World) (cs:Array Value),W.heap[g]? = some (.cells cs t (0,0))→(putAll g i ys W).heap[g]? = some (.cells (setArr i ys cs) t (0,0)):=by
 induction ys with
 | nil=>intro i W cs h;exact h
 | cons y r ih=>intro i W cs h;exact ih (i + 1) _ _ (heap_setCell_same _ _ _ _ _ _ h)
theorem putAll_other {g k:Nat} (hk:k≠g) (ys:List Value):∀ (i:Nat) (W:World),(putAll g i ys W).heap[k]? = W.heap[k]? := by
 induction ys with
 | nil=>intro i W;rfl
 | cons y r ih=>intro i W;exact (ih (i + 1) _).trans (heap_setCell_other _ _ _ _ hk)
theorem putAll_size {g:Nat} (ys:List Value):∀ (i:Nat) (W:World),(putAll g i ys W).heap.size=W.heap.size:=by
 induction ys with
 | nil=>intro i W;rfl
 | cons y r ih=>intro i W;exact (ih (i + 1) _).trans (by simp [World.setCell])
theorem putAll_below {g B:Nat} {a:World} (hg:B≤g) (ys:List Value):∀ (i:Nat) (W:World),Below B a W→Below B a (putAll g i ys W):=by
 induction ys with
 | nil=>intro i W h;exact h
 | cons y r ih=>intro i W h;exact ih (i + 1) _ (h.setCell hg _)
theorem putAll_ag {g:Nat} {q:Nat→Prop} (hq:¬ q g) (ys:List Value):∀ (i:Nat) (W:World),Ag q W (putAll g i ys W):=by
 induction ys with
 | nil=>intro i W;exact Ag.refl _ _
 | cons y r ih=>intro i W;exact (Ag.set q W y hq).trans (ih (i + 1) _)
theorem put14 {W:World} {g:Nat} {t:TypeId} {x0 x1 x2 x3 x4 x5 x6 x7 x8 x9 xa xb xc xd:Value} (y0 y1 y2 y3 y4 y5 y6 y7 y8 y9 ya yb yc yd:Value) (h:W.heap[g]? = some (.cells #[x0,x1,x2,x3,x4,x5,x6,x7,x8,x9,xa,xb,xc,xd] t (0,0))) :
  ∃ W1,((((((((((((((W.setCell ⟨g,0,none⟩ y0).setCell ⟨g,1,none⟩ y1).setCell ⟨g,2,none⟩ y2).setCell ⟨g,3,none⟩ y3).setCell ⟨g,4,none⟩ y4).setCell ⟨g,5,none⟩ y5).setCell ⟨g,6,none⟩ y6).setCell ⟨g,7,none⟩ y7).setCell ⟨g,8,none⟩ y8).setCell ⟨g,9,none⟩ y9).setCell ⟨g,10,none⟩ ya).setCell ⟨g,11,none⟩ yb).setCell ⟨g,12,none⟩ yc).setCell ⟨g,13,none⟩ yd)=W1∧W1.heap[g]? = some (.cells #[y0,y1,y2,y3,y4,y5,y6,y7,y8,y9,ya,yb,yc,yd] t (0,0))∧(∀ k,k≠g→W1.heap[k]? = W.heap[k]?)∧W1.heap.size=W.heap.size∧(∀ B a,Below B a W→B≤g→Below B a W1)∧(∀ q:Nat→Prop,¬ q g→Ag q W W1):=by
 have e:putAll g 0 [y0,y1,y2,y3,y4,y5,y6,y7,y8,y9,ya,yb,yc,yd] W=((((((((((((((W.setCell ⟨g,0,none⟩ y0).setCell ⟨g,1,none⟩ y1).setCell ⟨g,2,none⟩ y2).setCell ⟨g,3,none⟩ y3).setCell ⟨g,4,none⟩ y4).setCell ⟨g,5,none⟩ y5).setCell ⟨g,6,none⟩ y6).setCell ⟨g,7,none⟩ y7).setCell ⟨g,8,none⟩ y8).setCell ⟨g,9,none⟩ y9).setCell ⟨g,10,none⟩ ya).setCell ⟨g,11,none⟩ yb).setCell ⟨g,12,none⟩ yc).setCell ⟨g,13,none⟩ yd):=by simp only [putAll,Nat.reduceAdd]
 have e2:setArr 0 [y0,y1,y2,y3,y4,y5,y6,y7,y8,y9,ya,yb,yc,yd] #[x0,x1,x2,x3,x4,x5,x6,x7,x8,x9,xa,xb,xc,xd]=#[y0,y1,y2,y3,y4,y5,y6,y7,y8,y9,ya,yb,yc,yd]:=by simp [setArr]
 have h1:=putAll_same [y0,y1,y2,y3,y4,y5,y6,y7,y8,y9,ya,yb,yc,yd] 0 W _ h
 have h2:=fun k (hk:k≠g)=>putAll_other hk [y0,y1,y2,y3,y4,y5,y6,y7,y8,y9,ya,yb,yc,yd] 0 W
 have h3:=putAll_size (g:=g) [y0,y1,y2,y3,y4,y5,y6,y7,y8,y9,ya,yb,yc,yd] 0 W
 have h4:=fun B a (hb:Below B a W) (hg:B≤g)=>putAll_below hg [y0,y1,y2,y3,y4,y5,y6,y7,y8,y9,ya,yb,yc,yd] 0 W hb
 have h5:=fun (q:Nat→Prop) (hq:¬ q g)=>putAll_ag hq [y0,y1,y2,y3,y4,y5,y6,y7,y8,y9,ya,yb,yc,yd] 0 W
 rw [e] at h1 h2 h3 h4 h5
 rw [e2] at h1
 exact ⟨_,rfl,h1,h2,h3,h4,h5⟩
abbrev zeroQue:Array Value:=#[.slice none 0 0,.slice none 0 0,.int .i64 0,.slice none 0 0,.int .i64 0,.int .i64 0,.string ⟨#[]⟩,.slice none 0 0,.int .i64 0,.int .i64 0,.slice none 0 0,.slice none 0 0,.slice none 0 0,.int .i64 0]
structure Cq (w:World) (g:Nat) (bx:Array Value) (cs:Array Value) (W:World):Prop where
 k1:W.heap[w.heap.size]? = some (.cells bx 35 (0,0))
 k2:W.heap[w.heap.size + 1]? = some (.cells zeroQue 35 (0,0))
 k3:W.heap[g]? = some (.cells cs 35 (0,0))
 below:Below w.heap.size w W
 hg:w.heap.size + 2≤g
section
variable {w W W':World} {g:Nat} {bx cs:Array Value}
theorem Cq.lt (h:Cq w g bx cs W):g < W.heap.size:=(Array.getElem?_eq_some_iff.1 h.k3).1
theorem Cq.later (h:Cq w g bx cs W) (hb:Below W.heap.size W W'):Cq w g bx cs W':=
 have:=h.lt;have:=h.hg
 ⟨(hb.block _ (by omega)).trans h.k1,(hb.block _ (by omega)).trans h.k2,(hb.block _ (by omega)).trans h.k3,Bt h.below hb,h.hg⟩
theorem Cq.grown (h:Cq w g bx cs W) {o:Option Nat} (hg:W.grownBy W' o) (ho:∀ k,o=some k→g < k):Cq w g bx cs W':=
 have h1:=h.lt;have h2:=h.hg
 ⟨(hg.block _ (by omega) (fun e=>by have:=ho _ e.symm;omega)).trans h.k1,(hg.block _ (by omega) (fun e=>by have:=ho _ e.symm;omega)).trans h.k2,(hg.block _ (by omega) (fun e=>by have:=ho _ e.symm;omega)).trans h.k3,
   h.below.grown hg h.below.size (fun k e=>by have:=ho k e;omega),h.hg⟩
theorem Cq.set (h:Cq w g bx cs W) (i:Nat) (u:Value) (cs':Array Value) (hcs:cs.setIfInBounds i u=cs'):Cq w g bx cs' (W.setCell ⟨g,i,none⟩ u):=by
 have h2:=h.hg
 subst hcs
 refine ⟨(heap_setCell_other _ _ _ _ (by show _≠g;omega)).trans h.k1,(heap_setCell_other _ _ _ _ (by show _≠g;omega)).trans h.k2,?_,h.below.setCell (by show _≤g;omega) _,h.hg⟩
 have:=heap_setCell_same W g i cs 35 u h.k3
 exact this
end
theorem aggs_snoc (l:List Tess.Agg) (k:Nat) (h:k < l.length):((l.take k).map Tess.cutAgg).flatMap aggF ++ [.int .i64 l[k].kind,.string (cutN 30 l[k].met)]=((l.take (k + 1)).map Tess.cutAgg).flatMap aggF:=by
 rw [List.take_succ_eq_append_getElem h,List.map_append,List.flatMap_append];rfl
def isNames (l:List ByteArray) (v:Value) (s e:Nat) (W:World):Prop:=e≤W.heap.size∧SlP (fun b=>s≤b∧b < e) W v ((namesN 30 10 l).map .string)∧CapOk v (namesN 30 10 l).length
theorem isNames_mono (l:List ByteArray):FlX.Spec.mono (some (.inr (isNames l))):=fun _ _ _ _ _ ⟨h0,h,h1⟩ hb=>⟨Nat.le_trans h0 hb.size,SlP.ag h (Ag.new _ hb),h1⟩
def isFilX (n:Nat) (f:Fil) (v:Value) (s e:Nat) (W:World):Prop:=e≤W.heap.size∧FilAt (fun b=>s≤b∧b < e) n W v f
theorem isFilX_mono (n:Nat) (f:Fil):FlX.Spec.mono (some (.inr (isFilX n f))):=fun _ _ _ _ _ ⟨h0,h⟩ hb=>⟨Nat.le_trans h0 hb.size,FilAt.ag h (Ag.new _ hb)⟩
def newAtX (cs:Array Value) (t:TypeId) (v:Value) (s e:Nat) (w:World):Prop:=∃ g,v = .pointer (some ⟨g,0,none⟩)∧s≤g∧g < e∧w.heap[g]? = some (.cells cs t (0,0))
theorem newAtX_mono (cs:Array Value) (t:TypeId):FlX.Spec.mono (some (.inr (newAtX cs t))):=fun _ _ _ _ _ ⟨g,h1,h2,h3,h4⟩ hb=>⟨g,h1,h2,h3,(hb.block g (Array.getElem?_eq_some_iff.1 h4).1).trans h4⟩
def isNamesF (N:Nat) (l:List ByteArray) (v:Value) (W:World):Prop:=SlP (fun b=>N≤b) W v ((namesN 30 10 l).map .string)
theorem isNamesF_mono (N:Nat) (l:List ByteArray):Flow.Spec.mono (.inr (isNamesF N l)):=fun _ _ _ h hb=>SlP.ag h (Ag.new _ hb)
def newNames (N:Nat) (l:List ByteArray) (v:Value) (W:World):Prop:=∃ gn x,v = .slice (some ⟨gn,0,none⟩) 1 1∧gn < W.heap.size∧SlP (fun b=>N≤b) W x ((namesN 30 10 l).map .string)∧W.cell? ⟨gn,0,none⟩=some x
theorem newNames_mono (N:Nat) (l:List ByteArray):Flow.Spec.mono (.inr (newNames N l)):=fun _ _ _ ⟨gn,x,h1,h2,h3,h4⟩ hb=>⟨gn,x,h1,Nat.lt_of_lt_of_le h2 hb.size,h3.ag (Ag.new _ hb),(hb.cell (p:=⟨gn,0,none⟩) h2).trans h4⟩
end Go.Proofs.YtbbgjjjeecfnoaaGreatDoor
