/- A region that draws its order, whose operations read, call, or make memory, and write nothing that was there: one walk in the order of the text serves every order. Each operation's word is given ahead: a value (.inl v), or what is known of the value and the world behind it (.inr V). -/
import Derived.Still
import Derived.StillTail
import Derived.Below
import Derived.Deep.QuietTactic
import Derived.WalkKit
import Derived.Test.YtbbgjjjeecfnoaaGreatDoorXB
namespace Go.Flow
open Go Go.RowKit
abbrev Spec:=Value ⊕ (Value→World→Prop)
def Spec.holds:Spec→Value→World→Prop
 | .inl u,v,_=>v=u
 | .inr V,v,w=>V v w
def Spec.ok:Spec→Value→Prop
 | .inl u,v=>v=u
 | .inr _,_=>True
def Mono (p:World→Prop):Prop:=∀ w w',p w→Below w.heap.size w w'→p w'
def Spec.mono (s:Spec):Prop:=∀ v,Mono (s.holds v)
theorem mono_inl (u:Value):Spec.mono (.inl u):=fun _ _ _ h _=>h
section
variable {P:Program} {ops:Array Oper}
def yields (P:Program) (o:Oper) (ρ:Operand→Value) (w:World) (R:Value→World→Prop):Prop:=
 match (execOp ρ o).run P w with
 | .ok (.value v) w'=>R v w'
 | .ok .skip w'=>R undef w'
 | .ok (.enter f args) w'=>Calls P f args w' fun e w'' => ∃ v,e = .returned v∧R v w''
 | _=>False
theorem yields_mono {o:Oper} {ρ:Operand→Value} {w:World} {R R':Value→World→Prop} (h:∀ v w,R v w→R' v w) (hy:yields P o ρ w R):yields P o ρ w R':=by
 unfold yields at *
 generalize (execOp ρ o).run P w=r at *
 cases r with
 | ok n w'=>
   cases n <;> first
    | exact h _ _ hy
    | exact Calls.mono hy (fun e w'' ⟨v,he,hr⟩=>⟨v,he,h _ _ hr⟩)
    | exact hy
 | halt x w'=>exact hy
theorem wp_of_yields {o:Oper} {a:Act} {w:World} {K:Act→World→Prop} {Q:Exit→Act→World→Prop} (hy:yields P o a.eval w fun v w'=>K (a.put o.dst v) w'):o.wp P a w K Q:=by
 unfold yields at hy
 unfold Oper.wp
 generalize (execOp a.eval o).run P w=r at *
 cases r with
 | ok n w'=>
   cases n <;> simp only [Oper.upon] <;> first
    | exact hy
    | exact (show False from hy).elim
    | exact Calls.mono hy (fun e w'' ⟨v,he,hr⟩=>by subst he;exact hr)
 | halt x w'=>exact hy.elim
def Runs (P:Program) (ops:Array Oper) (o:Oper) (s:Spec) (a:Act) (w:World):Prop:=
 if Region.wanted o (yielded ops a.tmps) then yields P o a.eval w (fun v w'=>Below w.heap.size w w'∧s.holds v w') else s.holds undef w
def dep (o:Oper) (j:Nat):Bool:=o.after.any fun e=>Region.binds .any e && e.on == j
def Runs' (P:Program) (ops:Array Oper) (w0:World) (o:Oper) (s:Spec) (a:Act) (Γ:Nat→World→Prop):Prop:=
 ∀ w,Below w0.heap.size w0 w→(∀ j,dep o j=true→Γ j w)→Runs P ops o s a w
def upd (Γ:Nat→World→Prop) (i:Nat) (p:World→Prop):Nat→World→Prop:=fun j=>if j=i then p else Γ j
theorem upd_ne {Γ:Nat→World→Prop} {i j:Nat} {p:World→Prop} (h:j≠i):upd Γ i p j=Γ j:=by simp [upd,h]
theorem upd_same {Γ:Nat→World→Prop} {i:Nat} {p:World→Prop}:upd Γ i p i=p:=by simp [upd]
theorem upd_comm {Γ:Nat→World→Prop} {i j:Nat} {p q:World→Prop} (h:j≠i):upd (upd Γ i p) j q=upd (upd Γ j q) i p:=by
 funext k;unfold upd
 by_cases h1:k=j
 ·subst h1;simp [h]
 ·simp [h1]
def fOp (P:Program) (ops:Array Oper) (S:Nat→Spec) (w0:World) (i:Nat) (K:Act→(Nat→World→Prop)→Prop) (a:Act) (Γ:Nat→World→Prop):Prop:=
 match ops[i]? with
 | none=>K a Γ
 | some o=>Runs' P ops w0 o (S i) a Γ∧∀ v,(S i).ok v→K (a.put o.dst v) (upd Γ i ((S i).holds v))
def anyF (P:Program) (ops:Array Oper) (S:Nat→Spec) (w0:World) (E:Act→(Nat→World→Prop)→Prop):Nat→Array Bool→Act→(Nat→World→Prop)→Prop
 | 0,listed,a,Γ=>Region.ready .any ops listed=[]∧E a Γ
 | fuel + 1,listed,a,Γ=>
   (Region.ready .any ops listed=[]→E a Γ) ∧
   ∀ i ∈ Region.ready .any ops listed,fOp P ops S w0 i (anyF P ops S w0 E fuel (listed.setIfInBounds i true)) a Γ
theorem wpAny_of_anyF {S:Nat→Spec} {w0:World} (hS:∀ i,(S i).mono) {E:Act→(Nat→World→Prop)→Prop} {Q:Exit→Act→World→Prop}
  (hE:∀ a Γ w,E a Γ→Below w0.heap.size w0 w→(∀ j,Γ j w)→Q .normal a w):∀ (fuel:Nat) (listed:Array Bool) (a:Act) (Γ:Nat→World→Prop) (w:World),
  anyF P ops S w0 E fuel listed a Γ→Below w0.heap.size w0 w→(∀ j,Γ j w)→(∀ j,Mono (Γ j))→wpAny P .any ops Q fuel listed a w
 | 0,_,_,_,_,h,hB,hG,_=>⟨h.1,hE _ _ _ h.2 hB hG⟩
 | fuel + 1,listed,a,Γ,w,h,hB,hG,hM=>by
   refine ⟨fun h0=>hE _ _ _ (h.1 h0) hB hG,fun i hi => ?_⟩
   have h1:=h.2 i hi
   unfold fOp at h1
   unfold wpOp
   have hM':∀ v j,Mono (upd Γ i ((S i).holds v) j):=fun v j=>by
    by_cases e:j=i
    ·subst e;rw [upd_same];exact hS j v
    ·rw [upd_ne e];exact hM j
   have hG':∀ v w',Below w.heap.size w w'→(S i).holds v w'→∀ j,upd Γ i ((S i).holds v) j w':=fun v w' hb hv j=>by
    by_cases e:j=i
    ·subst e;rw [upd_same];exact hv
    ·rw [upd_ne e];exact hM j _ _ (hG j) hb
   have hok:∀ v w',(S i).holds v w'→(S i).ok v:=fun v w' hv=>by
    cases hs:S i with
    | inl u=>rw [hs] at hv;exact hv
    | inr V=>trivial
   split
   ·rename_i ho
    simp only [ho] at h1
    exact wpAny_of_anyF hS hE fuel _ _ _ _ h1 hB hG hM
   ·rename_i o ho
    simp only [ho] at h1
    have h2:=h1.1 w hB (fun j _=>hG j)
    unfold Runs at h2
    split
    ·rename_i hw
     simp only [hw,if_true] at h2
     refine .inl (wp_of_yields (yields_mono ?_ h2))
     intro v w' ⟨hb,hv⟩
     exact wpAny_of_anyF hS hE fuel _ _ _ _ (h1.2 v (hok v w' hv)) (hB.trans (hb.mono hB.size)) (hG' v w' hb hv) (hM' v)
    ·rename_i hw
     simp only [hw] at h2
     exact wpAny_of_anyF hS hE fuel _ _ _ _ (h1.2 undef (hok _ _ h2)) hB (hG' _ _ (Below.refl _ _) h2) (hM' _)
theorem Runs'.of_same {w0:World} {o:Oper} {s:Spec} {a a':Act} {Γ Γ':Nat→World→Prop} (h:Runs' P ops w0 o s a Γ) (he:execOp a'.eval o=execOp a.eval o)
  (hw:Region.wanted o (yielded ops a'.tmps)=Region.wanted o (yielded ops a.tmps)) (hg:∀ j,dep o j=true→Γ' j=Γ j):Runs' P ops w0 o s a' Γ':=by
 intro w hB hG
 have:=h w hB (fun j hj=>by rw [← hg j hj];exact hG j hj)
 unfold Runs yields at *
 rw [he,hw]
 exact this
theorem not_dep {o:Oper} {i:Nat} (h:∀ e ∈ o.after,Region.binds .any e=true→e.on≠i) {j:Nat} (hj:dep o j=true):j≠i:=by
 obtain ⟨e,he,hb⟩:=Array.any_eq_true'.1 hj
 rw [Bool.and_eq_true,beq_iff_eq] at hb
 intro e2
 exact h e he hb.1 (by rw [hb.2,e2])
theorem anyF_first {S:Nat→Spec} {w0:World} {E:Act→(Nat→World→Prop)→Prop} {i:Nat} {oi:Oper} (hi:ops[i]? = some oi) (hsel:∀ (j:Nat) (o:Oper) cs b,ops[j]? = some o→o.op ≠ .select cs b) :
  ∀ (fuel:Nat) (listed:Array Bool) (a:Act) (Γ:Nat→World→Prop),
    (∀ j oj,ops[j]? = some oj→j≠i→listed.getD j true=false→(∀ e ∈ oj.after,Region.binds .any e=true→e.on≠i)→oi.apart ops oj=true) →
    i ∈ Region.ready .any ops listed→Runs' P ops w0 oi (S i) a Γ →
    (∀ v,(S i).ok v→anyF P ops S w0 E fuel (listed.setIfInBounds i true) (a.put oi.dst v) (upd Γ i ((S i).holds v)))→anyF P ops S w0 E (fuel + 1) listed a Γ:=by
 have hex:∃ v,(S i).ok v:=by
  cases hs:S i with
  | inl u=>exact ⟨u,rfl⟩
  | inr V=>exact ⟨undef,trivial⟩
 obtain ⟨v0,hv0⟩:=hex
 intro fuel
 induction fuel with
 | zero=>
   intro listed a Γ _ hr hy H
   refine ⟨fun h=>(by rw [h] at hr;cases hr),fun j hj => ?_⟩
   by_cases hji:j=i
   ·subst hji
    unfold fOp;simp only [hi];exact ⟨hy,H⟩
   ·have:=ready_mono hj hji
    rw [(H v0 hv0).1] at this
    cases this
 | succ fuel ih=>
   intro listed a Γ hfree hr hy H
   refine ⟨fun h=>(by rw [h] at hr;cases hr),fun j hj => ?_⟩
   by_cases hji:j=i
   ·subst hji
    unfold fOp;simp only [hi];exact ⟨hy,H⟩
   ·obtain ⟨hjun,oj,hoj,hall⟩:=mem_ready.1 hj
    have hiun:=(mem_ready.1 hr).1
    have unl:∀ k,listed.getD k true=false→listed.getD k false=true→False:=fun k h1 h0=>by
     rcases Nat.lt_or_ge k listed.size with h' | h'
     ·simp [h'] at h0 h1;rw [h0] at h1;cases h1
     ·simp [Array.getElem?_eq_none h'] at h1
    have hnot:∀ e ∈ oj.after,Region.binds .any e=true→e.on≠i:=fun e he hb heq=>unl i hiun (by rw [← heq];exact hall e he hb)
    have hnoti:∀ e ∈ oi.after,Region.binds .any e=true→e.on≠j:=fun e he hb heq=>by
     obtain ⟨_,o',ho',hall'⟩:=mem_ready.1 hr
     rw [hi] at ho';cases ho'
     exact unl j hjun (by rw [← heq];exact hall' e he hb)
    have hap:=hfree j oj hoj hji hjun hnot
    obtain ⟨h1,h2,h3⟩:=Oper.apart_spec hap
    have hfree':∀ k ok,ops[k]? = some ok→k≠i→(listed.setIfInBounds j true).getD k true=false →
      (∀ e ∈ ok.after,Region.binds .any e=true→e.on≠i)→oi.apart ops ok=true:=fun k ok hk hki hun hno=>by
     refine hfree k ok hk hki ?_ hno
     by_cases hjk:j=k
     ·subst hjk;exact hjun
     ·rw [getD_set_ne true hjk] at hun;exact hun
    have Hj:∀ v,(S i).ok v→Runs' P ops w0 oj (S j) (a.put oi.dst v) (upd Γ i ((S i).holds v))∧∀ u,(S j).ok u →
      anyF P ops S w0 E fuel ((listed.setIfInBounds i true).setIfInBounds j true) ((a.put oi.dst v).put oj.dst u) (upd (upd Γ i ((S i).holds v)) j ((S j).holds u)):=fun v hv=>by
     have:=(H v hv).2 j (ready_mono hj hji)
     unfold fOp at this
     simpa only [hoj] using this
    unfold fOp
    simp only [hoj]
    refine ⟨(Hj v0 hv0).1.of_same (execOp_put oj (fun cs b=>hsel j oj cs b hoj) a oi.dst v0 h1).symm (wanted_put oj a oi.dst v0 h1).symm (fun k hk => ?_),fun u hu => ?_⟩
    ·exact (upd_ne (not_dep hnot hk)).symm
    ·refine ih (listed.setIfInBounds j true) _ _ hfree' (ready_mono hr (Ne.symm hji)) ?_ (fun v hv => ?_)
     ·exact hy.of_same (execOp_put oi (fun cs b=>hsel i oi cs b hi) a oj.dst u h3) (wanted_put oi a oj.dst u h3) (fun k hk=>upd_ne (not_dep hnoti hk))
     ·have:=(Hj v hv).2 u hu
      rw [Array.setIfInBounds_comm _ _ hji,← Act.put_comm a v u h2,← upd_comm hji]
      exact this
def Tree (P:Program) (ops:Array Oper) (S:Nat→Spec) (w0:World) (E:Act→(Nat→World→Prop)→Prop):List Oper→Nat→Act→(Nat→World→Prop)→Prop
 | [],_,a,Γ=>E a Γ
 | o :: rest,i,a,Γ=>Runs' P ops w0 o (S i) a Γ∧∀ v,(S i).ok v→Tree P ops S w0 E rest (i + 1) (a.put o.dst v) (upd Γ i ((S i).holds v))
theorem anyF_lex {S:Nat→Spec} {w0:World} {E:Act→(Nat→World→Prop)→Prop} (hs:Region.noSelect ops=true):∀ (l:List Oper) (k:Nat) (listed:Array Bool) (a:Act) (Γ:Nat→World→Prop),(∀ j,l[j]? = ops[k + j]?) →
  Region.lexFrom .any ops l.length k listed=true→Tree P ops S w0 E l k a Γ→anyF P ops S w0 E l.length listed a Γ
 | [],_,_,_,_,_,hB,h=>⟨by simpa [Region.lexFrom] using hB,h⟩
 | o :: l,k,listed,a,Γ,hl,hB,h=>by
   have h0:ops[k]? = some o:=by simpa using (hl 0).symm
   simp only [List.length_cons,Region.lexFrom,Bool.and_eq_true] at hB
   obtain ⟨⟨hr,hf⟩,hB'⟩:=hB
   exact anyF_first h0 (Region.noSelect_spec hs) l.length listed a Γ (Region.free_spec h0 hf) (by simpa using hr) h.1
    (fun v hv=>anyF_lex hs l (k + 1) _ _ _ (fun j=>by have:=hl (j + 1);simpa [Nat.add_assoc,Nat.add_comm 1 j] using this) hB' (h.2 v hv))
theorem wp_region_flow {id:Nat} {Q:Exit→Act→World→Prop} {a:Act} {w:World} {l:List Oper} (S:Nat→Spec) (hm:P.follows .mixedOrders=true) (hB:Region.lexB .any l.toArray=true) (hS:∀ i,(S i).mono)
  (h:Tree P l.toArray S w (fun a' Γ => ∀ w',Below w.heap.size w w'→(∀ j,Γ j w')→Q .normal a' w') l 0 a (fun _ _=>True)):(Code.region id l.toArray true).wp P Q a w:=by
 simp only [Region.lexB,Bool.and_eq_true] at hB
 refine wp_region_any hm (wpAny_of_anyF (S:=S) (w0:=w) (E:=fun a' Γ => ∀ w',Below w.heap.size w w'→(∀ j,Γ j w')→Q .normal a' w') (Γ:=fun _ _=>True) hS (fun a' Γ w' hE hb hG=>hE w' hb hG) _ _ _ _ ?_ ((Below.refl _ _).drew) (fun _=>trivial) (fun _ _ _ _ _=>trivial))
 have:=anyF_lex hB.1 l 0 (Array.replicate l.toArray.size false) a (fun _ _=>True) (by simp) (by simpa using hB.2) h
 simpa using this
theorem tree_nil {S:Nat→Spec} {w0:World} {E:Act→(Nat→World→Prop)→Prop} {i:Nat} {a:Act} {Γ:Nat→World→Prop} (h:E a Γ):Tree P ops S w0 E [] i a Γ:=h
theorem tree_val {S:Nat→Spec} {w0:World} {E:Act→(Nat→World→Prop)→Prop} {o:Oper} {rest:List Oper} {i:Nat} {a:Act} {Γ:Nat→World→Prop} (u:Value) (hs:S i = .inl u)
  (hr:∀ w,Below w0.heap.size w0 w→(∀ j,dep o j=true→Γ j w)→Runs P ops o (.inl u) a w) (h:Tree P ops S w0 E rest (i + 1) (a.put o.dst u) (upd Γ i (fun _=>True))):Tree P ops S w0 E (o :: rest) i a Γ:=by
 refine ⟨by rw [hs];exact hr,fun v hv => ?_⟩
 rw [hs] at hv ⊢
 cases hv
 have:(fun w=>Spec.holds (.inl u) u w)=fun _=>True:=by funext w;simp [Spec.holds]
 rw [show Spec.holds (.inl u) u=fun _=>True from this]
 exact h
theorem tree_var {S:Nat→Spec} {w0:World} {E:Act→(Nat→World→Prop)→Prop} {o:Oper} {rest:List Oper} {i:Nat} {a:Act} {Γ:Nat→World→Prop} (V:Value→World→Prop) (hs:S i = .inr V)
  (hr:∀ w,Below w0.heap.size w0 w→(∀ j,dep o j=true→Γ j w)→Runs P ops o (.inr V) a w) (h:∀ v,Tree P ops S w0 E rest (i + 1) (a.put o.dst v) (upd Γ i (V v))):Tree P ops S w0 E (o :: rest) i a Γ:=by
 refine ⟨by rw [hs];exact hr,fun v _ => ?_⟩
 rw [hs]
 exact h v
def specs (l:List Spec):Nat→Spec:=fun i=>l.getD i (.inl undef)
theorem specs_mono {l:List Spec} (h:∀ s ∈ l,Spec.mono s):∀ i,(specs l i).mono:=fun i=>by
 unfold specs
 rcases Nat.lt_or_ge i l.length with h' | h'
 ·rw [List.getD_eq_getElem?_getD,List.getElem?_eq_getElem h'];exact h _ (List.getElem_mem h')
 ·rw [List.getD_eq_getElem?_getD,List.getElem?_eq_none h'];exact mono_inl _
theorem tree_valK {S:Nat→Spec} {w0:World} {E:Act→(Nat→World→Prop)→Prop} {o:Oper} {rest:List Oper} {i:Nat} {a:Act} {Γ:Nat→World→Prop} {u:Value} (hs:S i = .inl u)
  (h:∀ K:Act→Prop,(∀ a',Tree P ops S w0 E rest (i + 1) a' (upd Γ i (fun _=>True))→K a')→(∀ w,Below w0.heap.size w0 w→(∀ j,dep o j=true→Γ j w)→Runs P ops o (.inl u) a w)∧K (a.put o.dst u)):Tree P ops S w0 E (o :: rest) i a Γ:=
 tree_val u hs (h (fun _=>True) (fun _ _=>trivial)).1 (h _ (fun _ h=>h)).2
theorem tree_varK {S:Nat→Spec} {w0:World} {E:Act→(Nat→World→Prop)→Prop} {o:Oper} {rest:List Oper} {i:Nat} {a:Act} {Γ:Nat→World→Prop} {V:Value→World→Prop} (hs:S i = .inr V)
  (h:∀ K:Act→(World→Prop)→Prop,(∀ a' v,Tree P ops S w0 E rest (i + 1) a' (upd Γ i (V v))→K a' (V v))→(∀ w,Below w0.heap.size w0 w→(∀ j,dep o j=true→Γ j w)→Runs P ops o (.inr V) a w)∧∀ v,K (a.put o.dst v) (V v)):Tree P ops S w0 E (o :: rest) i a Γ:=by
 refine tree_var V hs (h (fun _ _=>True) (fun _ _ _=>trivial)).1 fun v => ?_
 have:=(h (fun a' p=>Tree P ops S w0 E rest (i + 1) a' (upd Γ i p)) (fun _ _ h=>h)).2 v
 exact this
@[go_sem] theorem below_self (w:World):Below w.heap.size w w=True:=eq_true (Below.refl _ _)
@[go_sem] theorem holds_inl (u v:Value) (w:World):Spec.holds (.inl u) v w=(v=u):=rfl
theorem lmono_nil:∀ s ∈ ([]:List Spec),s.mono:=fun _ h=>by cases h
theorem lmono_inl {u:Value} {l:List Spec} (h:∀ s ∈ l,s.mono):∀ s ∈ (.inl u :: l:List Spec),s.mono:=fun s hs=>by
 rcases List.mem_cons.1 hs with rfl | hs
 ·exact mono_inl u
 ·exact h s hs
theorem lmono_inr {V:Value→World→Prop} {l:List Spec} (hV:Spec.mono (.inr V)) (h:∀ s ∈ l,s.mono):∀ s ∈ (.inr V :: l:List Spec),s.mono:=fun s hs=>by
 rcases List.mem_cons.1 hs with rfl | hs
 ·exact hV
 ·exact h s hs
def anyFL (P:Program) (ops:Array Oper) (S:Nat→Spec) (w0:World) (n:Nat) (L:Array Bool→Act→(Nat→World→Prop)→Prop):Nat→Array Bool→Act→(Nat→World→Prop)→Prop
 | 0,listed,a,Γ=>L listed a Γ
 | f + 1,listed,a,Γ=>Region.ready .any ops listed≠[]∧∀ i ∈ Region.ready .any ops listed,i < n∧fOp P ops S w0 i (anyFL P ops S w0 n L f (listed.setIfInBounds i true)) a Γ
theorem wpAny_of_anyFL {S:Nat→Spec} {w0:World} (hS:∀ i,(S i).mono) {n g:Nat} {L:Array Bool→Act→(Nat→World→Prop)→Prop} {Q:Exit→Act→World→Prop}
  (hL:∀ listed a Γ w,L listed a Γ→Below w0.heap.size w0 w→(∀ j,Γ j w)→wpAny P .any ops Q g listed a w):∀ (f:Nat) (listed:Array Bool) (a:Act) (Γ:Nat→World→Prop) (w:World),
  anyFL P ops S w0 n L f listed a Γ→Below w0.heap.size w0 w→(∀ j,Γ j w)→(∀ j,Mono (Γ j))→wpAny P .any ops Q (f + g) listed a w
 | 0,_,_,_,_,h,hB,hG,_=>by rw [Nat.zero_add];exact hL _ _ _ _ h hB hG
 | f + 1,listed,a,Γ,w,h,hB,hG,hM=>by
   rw [show f + 1 + g=(f + g) + 1 by omega]
   refine ⟨fun h0=>absurd h0 h.1,fun i hi => ?_⟩
   have h1:=(h.2 i hi).2
   unfold fOp at h1
   unfold wpOp
   have hM':∀ v j,Mono (upd Γ i ((S i).holds v) j):=fun v j=>by
    by_cases e:j=i
    ·subst e;rw [upd_same];exact hS j v
    ·rw [upd_ne e];exact hM j
   have hG':∀ v w',Below w.heap.size w w'→(S i).holds v w'→∀ j,upd Γ i ((S i).holds v) j w':=fun v w' hb hv j=>by
    by_cases e:j=i
    ·subst e;rw [upd_same];exact hv
    ·rw [upd_ne e];exact hM j _ _ (hG j) hb
   have hok:∀ v w',(S i).holds v w'→(S i).ok v:=fun v w' hv=>by
    cases hs:S i with
    | inl u=>rw [hs] at hv;exact hv
    | inr V=>trivial
   split
   ·rename_i ho
    simp only [ho] at h1
    exact wpAny_of_anyFL hS hL f _ _ _ _ h1 hB hG hM
   ·rename_i o ho
    simp only [ho] at h1
    have h2:=h1.1 w hB (fun j _=>hG j)
    unfold Runs at h2
    split
    ·rename_i hw
     simp only [hw,if_true] at h2
     refine .inl (wp_of_yields (yields_mono ?_ h2))
     intro v w' ⟨hb,hv⟩
     exact wpAny_of_anyFL hS hL f _ _ _ _ (h1.2 v (hok v w' hv)) (hB.trans (hb.mono hB.size)) (hG' v w' hb hv) (hM' v)
    ·rename_i hw
     simp only [hw] at h2
     exact wpAny_of_anyFL hS hL f _ _ _ _ (h1.2 undef (hok _ _ h2)) hB (hG' _ _ (Below.refl _ _) h2) (hM' _)
theorem anyFL_first {S:Nat→Spec} {w0:World} {n i:Nat} {oi:Oper} {L:Array Bool→Act→(Nat→World→Prop)→Prop} (hi:ops[i]? = some oi) (hsel:∀ (j:Nat) (o:Oper) cs b,ops[j]? = some o→o.op ≠ .select cs b)
  (hs:Region.sinkB .any ops n=true) (hc:Region.chainB .any ops n=true) (hn:n < ops.size) (hin:i < n)
  (hdone:∀ listed a Γ,L listed a Γ→∀ j ∈ Region.ready .any ops listed,n≤j) :
  ∀ (f:Nat) (listed:Array Bool) (a:Act) (Γ:Nat→World→Prop),HeadInv .any ops n listed →
    (∀ j oj,ops[j]? = some oj→j≠i→listed.getD j true=false→(∀ e ∈ oj.after,Region.binds .any e=true→e.on≠i)→oi.apart ops oj=true) →
    i ∈ Region.ready .any ops listed→Runs' P ops w0 oi (S i) a Γ →
    (∀ v,(S i).ok v→anyFL P ops S w0 n L f (listed.setIfInBounds i true) (a.put oi.dst v) (upd Γ i ((S i).holds v)))→anyFL P ops S w0 n L (f + 1) listed a Γ:=by
 have hex:∃ v,(S i).ok v:=by
  cases hs:S i with
  | inl u=>exact ⟨u,rfl⟩
  | inr V=>exact ⟨undef,trivial⟩
 obtain ⟨v0,hv0⟩:=hex
 intro f
 induction f with
 | zero=>
   intro listed a Γ inv _ hr hy H
   have hun:=(mem_ready.1 hr).1
   refine ⟨fun h=>(by rw [h] at hr;cases hr),fun j hj => ?_⟩
   have hjn:j < n:=by
    rcases Nat.lt_or_ge j n with h | h
    ·exact h
    ·exact absurd hj (tail_waits hs hc hn inv _ i rfl hin hun j h)
   refine ⟨hjn,?_⟩
   by_cases hji:j=i
   ·subst hji
    unfold fOp;simp only [hi];exact ⟨hy,H⟩
   ·have:=hdone _ _ _ (H v0 hv0) j (ready_mono hj hji)
    omega
 | succ f ih=>
   intro listed a Γ inv hfree hr hy H
   have hun:=(mem_ready.1 hr).1
   refine ⟨fun h=>(by rw [h] at hr;cases hr),fun j hj => ?_⟩
   have hjn:j < n:=by
    rcases Nat.lt_or_ge j n with h | h
    ·exact h
    ·exact absurd hj (tail_waits hs hc hn inv _ i rfl hin hun j h)
   refine ⟨hjn,?_⟩
   by_cases hji:j=i
   ·subst hji
    unfold fOp;simp only [hi];exact ⟨hy,H⟩
   ·obtain ⟨hjun,oj,hoj,hall⟩:=mem_ready.1 hj
    have unl:∀ k,listed.getD k true=false→listed.getD k false=true→False:=fun k h1 h0=>by rw [getD_both h1] at h0;cases h0
    have hnot:∀ e ∈ oj.after,Region.binds .any e=true→e.on≠i:=fun e he hb heq=>unl i hun (by rw [← heq];exact hall e he hb)
    have hnoti:∀ e ∈ oi.after,Region.binds .any e=true→e.on≠j:=fun e he hb heq=>by
     obtain ⟨_,o',ho',hall'⟩:=mem_ready.1 hr
     rw [hi] at ho';cases ho'
     exact unl j hjun (by rw [← heq];exact hall' e he hb)
    have hap:=hfree j oj hoj hji hjun hnot
    obtain ⟨h1,h2,h3⟩:=Oper.apart_spec hap
    have hfree':∀ k ok,ops[k]? = some ok→k≠i→(listed.setIfInBounds j true).getD k true=false →
      (∀ e ∈ ok.after,Region.binds .any e=true→e.on≠i)→oi.apart ops ok=true:=fun k ok hk hki hun hno=>by
     refine hfree k ok hk hki ?_ hno
     by_cases hjk:j=k
     ·subst hjk;exact hjun
     ·rw [getD_set_ne true hjk] at hun;exact hun
    have Hj:∀ v,(S i).ok v→Runs' P ops w0 oj (S j) (a.put oi.dst v) (upd Γ i ((S i).holds v))∧∀ u,(S j).ok u →
      anyFL P ops S w0 n L f ((listed.setIfInBounds i true).setIfInBounds j true) ((a.put oi.dst v).put oj.dst u) (upd (upd Γ i ((S i).holds v)) j ((S j).holds u)):=fun v hv=>by
     have:=((H v hv).2 j (ready_mono hj hji)).2
     unfold fOp at this
     simpa only [hoj] using this
    unfold fOp
    simp only [hoj]
    refine ⟨(Hj v0 hv0).1.of_same (execOp_put oj (fun cs b=>hsel j oj cs b hoj) a oi.dst v0 h1).symm (wanted_put oj a oi.dst v0 h1).symm (fun k hk => ?_),fun u hu => ?_⟩
    ·exact (upd_ne (not_dep hnot hk)).symm
    ·refine ih (listed.setIfInBounds j true) _ _ (inv.set hj hjn) hfree' (ready_mono hr (Ne.symm hji)) ?_ (fun v hv => ?_)
     ·exact hy.of_same (execOp_put oi (fun cs b=>hsel i oi cs b hi) a oj.dst u h3) (wanted_put oi a oj.dst u h3) (fun k hk=>upd_ne (not_dep hnoti hk))
     ·have:=(Hj v hv).2 u hu
      rw [Array.setIfInBounds_comm _ _ hji,← Act.put_comm a v u h2,← upd_comm hji]
      exact this
theorem anyFL_lex {S:Nat→Spec} {w0:World} {n g:Nat} {Lq:Act→(Nat→World→Prop)→Prop} (hsel:Region.noSelect ops=true) (hs:Region.sinkB .any ops n=true) (hc:Region.chainB .any ops n=true) (hn:n < ops.size) :
  ∀ (l:List Oper) (k:Nat) (listed:Array Bool) (a:Act) (Γ:Nat→World→Prop),(∀ j,j < l.length→l[j]? = ops[k + j]?)→k + l.length=n→HeadInv .any ops n listed →
  Region.lexHead .any ops g l.length k listed=true→Tree P ops S w0 Lq l k a Γ →
  anyFL P ops S w0 n (fun listed' a' Γ'=>Region.seqB .any ops g n listed'=true∧Lq a' Γ') l.length listed a Γ
 | [],k,listed,a,Γ,_,hk,_,hB,h=>by
   have:k=n:=by simpa using hk
   subst this
   exact ⟨by simpa [Region.lexHead] using hB,h⟩
 | o :: l,k,listed,a,Γ,hl,hk,inv,hB,h=>by
   have h0:ops[k]? = some o:=by simpa using (hl 0 (by simp)).symm
   simp only [List.length_cons,Region.lexHead,Bool.and_eq_true] at hB
   obtain ⟨⟨hr,hf⟩,hB'⟩:=hB
   have hkn:k < n:=by simp only [List.length_cons] at hk;omega
   have hr':k ∈ Region.ready .any ops listed:=by simpa using hr
   exact anyFL_first h0 (Region.noSelect_spec hsel) hs hc hn hkn (fun listed' a' Γ' hL=>seqB_ready hL.1) l.length listed a Γ inv (Region.free_spec h0 hf) hr' h.1
    (fun v hv=>anyFL_lex hsel hs hc hn l (k + 1) _ _ _ (fun j hj=>by have:=hl (j + 1) (by simp;omega);simpa [Nat.add_assoc,Nat.add_comm 1 j] using this) (by simp only [List.length_cons] at hk;omega) (inv.set hr' hkn) hB' (h.2 v hv))
theorem wp_region_flow_tail {id:Nat} {Q:Exit→Act→World→Prop} {a:Act} {w:World} {l:List Oper} (n:Nat) (S:Nat→Spec) (hm:P.follows .mixedOrders=true) (hB:Region.lexTailB .any l.toArray n=true) (hS:∀ i,(S i).mono)
  (h:Tree P l.toArray S w (fun a' Γ => ∀ w',Below w.heap.size w w'→(∀ j,Γ j w')→wpList P l.toArray Q (l.drop n) a' w') (l.take n) 0 a (fun _ _=>True)):(Code.region id l.toArray true).wp P Q a w:=by
 simp only [Region.lexTailB,Bool.and_eq_true,decide_eq_true_eq] at hB
 obtain ⟨⟨⟨⟨hsel,hn⟩,hs⟩,hc⟩,hlex⟩:=hB
 have hn':n < l.length:=by simpa using hn
 have htl:(l.take n).length=n:=by simp;omega
 have hdl:(l.drop n).length=l.toArray.size - n:=by simp
 have inv0:HeadInv .any l.toArray n (Array.replicate l.toArray.size false):=
  ⟨by simp,fun j oj _ hl=>(by rw [getD_replicate_false] at hl;cases hl),fun t _ ht=>getD_in (by simpa using ht) (getD_replicate_false _ _)⟩
 have H:=anyFL_lex (g:=l.toArray.size - n) hsel hs hc hn (l.take n) 0 _ a (fun _ _=>True) (fun j hj=>by
  have hj':j < n:=by rw [htl] at hj;exact hj
  simp [hj']) (by simpa using htl) inv0 (by rw [htl];exact hlex) h
 refine wp_region_any hm ?_
 have:=wpAny_of_anyFL (Q:=Q) (g:=l.toArray.size - n) hS (fun listed a' Γ' w' hL hb hG=>by
  have:=wpAny_of_seq (md:=.any) (Q':=Q) (l.drop n) n listed a' w' (fun j=>by simp [List.getElem?_drop]) (by rw [hdl];exact hL.1) (hL.2 w' hb hG)
  rwa [hdl] at this) _ _ _ _ { w with drawn:=w.drawn + 1 } H ((Below.refl _ _).drew) (fun _=>trivial) (fun _ _ _ _ _=>trivial)
 rw [htl,show n + (l.toArray.size - n)=l.toArray.size by omega] at this
 exact this
end
end Go.Flow
namespace Go
open Go.RowKit
def newOne (x:Value) (v:Value) (w:World):Prop:=∃ g,v = .slice (some ⟨g,0,none⟩) 1 1∧g < w.heap.size∧w.cell? ⟨g,0,none⟩=some x
theorem newOne_mono (x:Value):Flow.Spec.mono (.inr (newOne x)):=fun _ _ _ ⟨g,h1,h2,h3⟩ hb=>⟨g,h1,Nat.lt_of_lt_of_le h2 hb.size,(hb.cell (p:=⟨g,0,none⟩) h2).trans h3⟩
theorem newOne_mk (x:Value) (w:World) (t:TypeId):newOne x (.slice (some ⟨w.heap.size,0,none⟩) 1 1) (w.alloc (.cells #[x] t)):=⟨_,rfl,by simp,by simp⟩
end Go
