/- Joined by mergeQ.py: FlR, F15, F16 -/
import Derived.Still
import Derived.StillTail
import Derived.Below
import Derived.Deep.QuietTactic
import Derived.WalkKit
import Derived.Test.YtbbgjjjeecfnoaaGreatDoorXFl
import Derived.Test.YtbbgjjjeecfnoaaGreatDoorXFC
namespace Go.FlowR
open Go Go.RowKit
structure Rel where
 r:World→World→Prop
 rf:∀ w,r w w
 tr:∀ {a b c},r a b→r b c→r a c
 drew:∀ w:World,r w { w with drawn:=w.drawn + 1 }
abbrev Spec:=Value ⊕ (Value→World→Prop)
def Spec.holds:Spec→Value→World→Prop
 | .inl u,v,_=>v=u
 | .inr V,v,w=>V v w
def Spec.ok:Spec→Value→Prop
 | .inl u,v=>v=u
 | .inr _,_=>True
def Mono (R:Rel) (p:World→Prop):Prop:=∀ w w',p w→R.r w w'→p w'
def Spec.mono (R:Rel) (s:Spec):Prop:=∀ v,Mono R (s.holds v)
theorem mono_inl {R:Rel} (u:Value):Spec.mono R (.inl u):=fun _ _ _ h _=>h
section
variable {R:Rel} {P:Program} {ops:Array Oper}
def yields (P:Program) (o:Oper) (ρ:Operand→Value) (w:World) (R:Value→World→Prop):Prop:=
 match (execOp ρ o).run P w with
 | .ok (.value v) w'=>R v w'
 | .ok .skip w'=>R undef w'
 | .ok (.enter f args) w'=>Calls P f args w' fun e w'' => ∃ v,e = .returned v∧R v w''
 | _=>False
theorem yields_mono {o:Oper} {ρ:Operand→Value} {w:World} {R R':Value→World→Prop} (h:∀ v w,R v w→R' v w) (hy:yields P o ρ w R):yields P o ρ w R':=by
 unfold yields at *
 generalize (execOp ρ o).run P w=r at *
 cases r with
 | ok n w'=>
   cases n <;> first
    | exact h _ _ hy
    | exact Calls.mono hy (fun e w'' ⟨v,he,hr⟩=>⟨v,he,h _ _ hr⟩)
    | exact hy
 | halt x w'=>exact hy
theorem wp_of_yields {o:Oper} {a:Act} {w:World} {K:Act→World→Prop} {Q:Exit→Act→World→Prop} (hy:yields P o a.eval w fun v w'=>K (a.put o.dst v) w'):o.wp P a w K Q:=by
 unfold yields at hy
 unfold Oper.wp
 generalize (execOp a.eval o).run P w=r at *
 cases r with
 | ok n w'=>
   cases n <;> simp only [Oper.upon] <;> first
    | exact hy
    | exact (show False from hy).elim
    | exact Calls.mono hy (fun e w'' ⟨v,he,hr⟩=>by subst he;exact hr)
 | halt x w'=>exact hy.elim
def Runs (R:Rel) (P:Program) (ops:Array Oper) (o:Oper) (s:Spec) (a:Act) (w:World):Prop:=
 if Region.wanted o (yielded ops a.tmps) then yields P o a.eval w (fun v w'=>R.r w w'∧s.holds v w') else s.holds undef w
def dep (o:Oper) (j:Nat):Bool:=o.after.any fun e=>Region.binds .any e && e.on == j
def Runs' (R:Rel) (P:Program) (ops:Array Oper) (w0:World) (o:Oper) (s:Spec) (a:Act) (Γ:Nat→World→Prop):Prop:=
 ∀ w,R.r w0 w→(∀ j,dep o j=true→Γ j w)→Runs R P ops o s a w
def upd (Γ:Nat→World→Prop) (i:Nat) (p:World→Prop):Nat→World→Prop:=fun j=>if j=i then p else Γ j
theorem upd_ne {Γ:Nat→World→Prop} {i j:Nat} {p:World→Prop} (h:j≠i):upd Γ i p j=Γ j:=by simp [upd,h]
theorem upd_same {Γ:Nat→World→Prop} {i:Nat} {p:World→Prop}:upd Γ i p i=p:=by simp [upd]
theorem upd_comm {Γ:Nat→World→Prop} {i j:Nat} {p q:World→Prop} (h:j≠i):upd (upd Γ i p) j q=upd (upd Γ j q) i p:=by
 funext k;unfold upd
 by_cases h1:k=j
 ·subst h1;simp [h]
 ·simp [h1]
def sp (S:Nat→Value→Spec) (σ:Nat→Nat) (i:Nat) (a:Act):Spec:=S i (a.tmps.getD (σ i) undef)
def SpOk (ops:Array Oper) (S:Nat→Value→Spec) (σ:Nat→Nat):Prop:=∀ i oi,ops[i]? = some oi→σ i ∈ oi.looksAt ops∨∀ x y,S i x=S i y
theorem sp_put {S:Nat→Value→Spec} {σ:Nat→Nat} (hS:SpOk ops S σ) {i:Nat} {oi:Oper} (hi:ops[i]? = some oi) (a:Act) (dst:Option Tmp) (v:Value) (h:∀ d,dst=some d→d ∉ oi.looksAt ops):sp S σ i (a.put dst v)=sp S σ i a:=by
 rcases hS i oi hi with h1 | h1
 ·unfold sp
  cases dst with
  | none=>rfl
  | some d=>
    have hne:d≠σ i:=fun e=>h d rfl (e ▸ h1)
    congr 1
    simp [Act.put,hne]
 ·exact h1 _ _
def fOp (R:Rel) (P:Program) (ops:Array Oper) (S:Nat→Value→Spec) (σ:Nat→Nat) (w0:World) (i:Nat) (K:Act→(Nat→World→Prop)→Prop) (a:Act) (Γ:Nat→World→Prop):Prop:=
 match ops[i]? with
 | none=>K a Γ
 | some o=>Runs' R P ops w0 o (sp S σ i a) a Γ∧∀ v,(sp S σ i a).ok v→K (a.put o.dst v) (upd Γ i ((sp S σ i a).holds v))
def anyF (R:Rel) (P:Program) (ops:Array Oper) (S:Nat→Value→Spec) (σ:Nat→Nat) (w0:World) (E:Act→(Nat→World→Prop)→Prop):Nat→Array Bool→Act→(Nat→World→Prop)→Prop
 | 0,listed,a,Γ=>Region.ready .any ops listed=[]∧E a Γ
 | fuel + 1,listed,a,Γ=>
   (Region.ready .any ops listed=[]→E a Γ) ∧
   ∀ i ∈ Region.ready .any ops listed,fOp R P ops S σ w0 i (anyF R P ops S σ w0 E fuel (listed.setIfInBounds i true)) a Γ
theorem wpAny_of_anyF {S:Nat→Value→Spec} {σ:Nat→Nat} {w0:World} (hS:∀ i x,Spec.mono R (S i x)) {E:Act→(Nat→World→Prop)→Prop} {Q:Exit→Act→World→Prop}
  (hE:∀ a Γ w,E a Γ→R.r w0 w→(∀ j,Γ j w)→Q .normal a w):∀ (fuel:Nat) (listed:Array Bool) (a:Act) (Γ:Nat→World→Prop) (w:World),
  anyF R P ops S σ w0 E fuel listed a Γ→R.r w0 w→(∀ j,Γ j w)→(∀ j,Mono R (Γ j))→wpAny P .any ops Q fuel listed a w
 | 0,_,_,_,_,h,hB,hG,_=>⟨h.1,hE _ _ _ h.2 hB hG⟩
 | fuel + 1,listed,a,Γ,w,h,hB,hG,hM=>by
   refine ⟨fun h0=>hE _ _ _ (h.1 h0) hB hG,fun i hi => ?_⟩
   have h1:=h.2 i hi
   unfold fOp at h1
   unfold wpOp
   have hM':∀ v j,Mono R (upd Γ i ((sp S σ i a).holds v) j):=fun v j=>by
    by_cases e:j=i
    ·subst e;rw [upd_same];exact hS j _ v
    ·rw [upd_ne e];exact hM j
   have hG':∀ v w',R.r w w'→(sp S σ i a).holds v w'→∀ j,upd Γ i ((sp S σ i a).holds v) j w':=fun v w' hb hv j=>by
    by_cases e:j=i
    ·subst e;rw [upd_same];exact hv
    ·rw [upd_ne e];exact hM j _ _ (hG j) hb
   have hok:∀ v w',(sp S σ i a).holds v w'→(sp S σ i a).ok v:=fun v w' hv=>by
    cases hs:sp S σ i a with
    | inl u=>rw [hs] at hv;exact hv
    | inr V=>trivial
   split
   ·rename_i ho
    simp only [ho] at h1
    exact wpAny_of_anyF hS hE fuel _ _ _ _ h1 hB hG hM
   ·rename_i o ho
    simp only [ho] at h1
    have h2:=h1.1 w hB (fun j _=>hG j)
    unfold Runs at h2
    split
    ·rename_i hw
     simp only [hw,if_true] at h2
     refine .inl (wp_of_yields (yields_mono ?_ h2))
     intro v w' ⟨hb,hv⟩
     exact wpAny_of_anyF hS hE fuel _ _ _ _ (h1.2 v (hok v w' hv)) (R.tr hB hb) (hG' v w' hb hv) (hM' v)
    ·rename_i hw
     simp only [hw] at h2
     exact wpAny_of_anyF hS hE fuel _ _ _ _ (h1.2 undef (hok _ _ h2)) hB (hG' _ _ (R.rf _) h2) (hM' _)
theorem Runs'.of_same {w0:World} {o:Oper} {s:Spec} {a a':Act} {Γ Γ':Nat→World→Prop} (h:Runs' R P ops w0 o s a Γ) (he:execOp a'.eval o=execOp a.eval o)
  (hw:Region.wanted o (yielded ops a'.tmps)=Region.wanted o (yielded ops a.tmps)) (hg:∀ j,dep o j=true→Γ' j=Γ j):Runs' R P ops w0 o s a' Γ':=by
 intro w hB hG
 have:=h w hB (fun j hj=>by rw [← hg j hj];exact hG j hj)
 unfold Runs yields at *
 rw [he,hw]
 exact this
theorem not_dep {o:Oper} {i:Nat} (h:∀ e ∈ o.after,Region.binds .any e=true→e.on≠i) {j:Nat} (hj:dep o j=true):j≠i:=by
 obtain ⟨e,he,hb⟩:=Array.any_eq_true'.1 hj
 rw [Bool.and_eq_true,beq_iff_eq] at hb
 intro e2
 exact h e he hb.1 (by rw [hb.2,e2])
theorem anyF_first {S:Nat→Value→Spec} {σ:Nat→Nat} {w0:World} {E:Act→(Nat→World→Prop)→Prop} {i:Nat} {oi:Oper} (hSp:SpOk ops S σ) (hi:ops[i]? = some oi) (hsel:∀ (j:Nat) (o:Oper) cs b,ops[j]? = some o→o.op ≠ .select cs b) :
  ∀ (fuel:Nat) (listed:Array Bool) (a:Act) (Γ:Nat→World→Prop),
    (∀ j oj,ops[j]? = some oj→j≠i→listed.getD j true=false→(∀ e ∈ oj.after,Region.binds .any e=true→e.on≠i)→oi.apart ops oj=true) →
    i ∈ Region.ready .any ops listed→Runs' R P ops w0 oi (sp S σ i a) a Γ →
    (∀ v,(sp S σ i a).ok v→anyF R P ops S σ w0 E fuel (listed.setIfInBounds i true) (a.put oi.dst v) (upd Γ i ((sp S σ i a).holds v)))→anyF R P ops S σ w0 E (fuel + 1) listed a Γ:=by
 have hex:∀ a,∃ v,(sp S σ i a).ok v:=fun a=>by
  cases hs:sp S σ i a with
  | inl u=>exact ⟨u,rfl⟩
  | inr V=>exact ⟨undef,trivial⟩
 intro fuel
 induction fuel with
 | zero=>
   intro listed a Γ _ hr hy H
   obtain ⟨v0,hv0⟩:=hex a
   refine ⟨fun h=>(by rw [h] at hr;cases hr),fun j hj => ?_⟩
   by_cases hji:j=i
   ·subst hji
    unfold fOp;simp only [hi];exact ⟨hy,H⟩
   ·have:=ready_mono hj hji
    rw [(H v0 hv0).1] at this
    cases this
 | succ fuel ih=>
   intro listed a Γ hfree hr hy H
   obtain ⟨v0,hv0⟩:=hex a
   refine ⟨fun h=>(by rw [h] at hr;cases hr),fun j hj => ?_⟩
   by_cases hji:j=i
   ·subst hji
    unfold fOp;simp only [hi];exact ⟨hy,H⟩
   ·obtain ⟨hjun,oj,hoj,hall⟩:=mem_ready.1 hj
    have hiun:=(mem_ready.1 hr).1
    have unl:∀ k,listed.getD k true=false→listed.getD k false=true→False:=fun k h1 h0=>by
     rcases Nat.lt_or_ge k listed.size with h' | h'
     ·simp [h'] at h0 h1;rw [h0] at h1;cases h1
     ·simp [Array.getElem?_eq_none h'] at h1
    have hnot:∀ e ∈ oj.after,Region.binds .any e=true→e.on≠i:=fun e he hb heq=>unl i hiun (by rw [← heq];exact hall e he hb)
    have hnoti:∀ e ∈ oi.after,Region.binds .any e=true→e.on≠j:=fun e he hb heq=>by
     obtain ⟨_,o',ho',hall'⟩:=mem_ready.1 hr
     rw [hi] at ho';cases ho'
     exact unl j hjun (by rw [← heq];exact hall' e he hb)
    have hap:=hfree j oj hoj hji hjun hnot
    obtain ⟨h1,h2,h3⟩:=Oper.apart_spec hap
    have hfree':∀ k ok,ops[k]? = some ok→k≠i→(listed.setIfInBounds j true).getD k true=false →
      (∀ e ∈ ok.after,Region.binds .any e=true→e.on≠i)→oi.apart ops ok=true:=fun k ok hk hki hun hno=>by
     refine hfree k ok hk hki ?_ hno
     by_cases hjk:j=k
     ·subst hjk;exact hjun
     ·rw [getD_set_ne true hjk] at hun;exact hun
    have ej:∀ v,sp S σ j (a.put oi.dst v)=sp S σ j a:=fun v=>sp_put hSp hoj a oi.dst v h1
    have ei:∀ u,sp S σ i (a.put oj.dst u)=sp S σ i a:=fun u=>sp_put hSp hi a oj.dst u h3
    have Hj:∀ v,(sp S σ i a).ok v→Runs' R P ops w0 oj (sp S σ j a) (a.put oi.dst v) (upd Γ i ((sp S σ i a).holds v))∧∀ u,(sp S σ j a).ok u →
      anyF R P ops S σ w0 E fuel ((listed.setIfInBounds i true).setIfInBounds j true) ((a.put oi.dst v).put oj.dst u) (upd (upd Γ i ((sp S σ i a).holds v)) j ((sp S σ j a).holds u)):=fun v hv=>by
     have:=(H v hv).2 j (ready_mono hj hji)
     unfold fOp at this
     simpa only [hoj,ej v] using this
    unfold fOp
    simp only [hoj]
    refine ⟨(Hj v0 hv0).1.of_same (execOp_put oj (fun cs b=>hsel j oj cs b hoj) a oi.dst v0 h1).symm (wanted_put oj a oi.dst v0 h1).symm (fun k hk => ?_),fun u hu => ?_⟩
    ·exact (upd_ne (not_dep hnot hk)).symm
    ·refine ih (listed.setIfInBounds j true) _ _ hfree' (ready_mono hr (Ne.symm hji)) ?_ (fun v hv => ?_)
     ·rw [ei u]
      exact hy.of_same (execOp_put oi (fun cs b=>hsel i oi cs b hi) a oj.dst u h3) (wanted_put oi a oj.dst u h3) (fun k hk=>upd_ne (not_dep hnoti hk))
     ·rw [ei u] at hv ⊢
      have:=(Hj v hv).2 u hu
      rw [Array.setIfInBounds_comm _ _ hji,← Act.put_comm a v u h2,← upd_comm hji]
      exact this
def Tree (R:Rel) (P:Program) (ops:Array Oper) (S:Nat→Value→Spec) (σ:Nat→Nat) (w0:World) (E:Act→(Nat→World→Prop)→Prop):List Oper→Nat→Act→(Nat→World→Prop)→Prop
 | [],_,a,Γ=>E a Γ
 | o :: rest,i,a,Γ=>Runs' R P ops w0 o (sp S σ i a) a Γ∧∀ v,(sp S σ i a).ok v→Tree R P ops S σ w0 E rest (i + 1) (a.put o.dst v) (upd Γ i ((sp S σ i a).holds v))
theorem anyF_lex {S:Nat→Value→Spec} {σ:Nat→Nat} {w0:World} {E:Act→(Nat→World→Prop)→Prop} (hSp:SpOk ops S σ) (hs:Region.noSelect ops=true):∀ (l:List Oper) (k:Nat) (listed:Array Bool) (a:Act) (Γ:Nat→World→Prop),(∀ j,l[j]? = ops[k + j]?) →
  Region.lexFrom .any ops l.length k listed=true→Tree R P ops S σ w0 E l k a Γ→anyF R P ops S σ w0 E l.length listed a Γ
 | [],_,_,_,_,_,hB,h=>⟨by simpa [Region.lexFrom] using hB,h⟩
 | o :: l,k,listed,a,Γ,hl,hB,h=>by
   have h0:ops[k]? = some o:=by simpa using (hl 0).symm
   simp only [List.length_cons,Region.lexFrom,Bool.and_eq_true] at hB
   obtain ⟨⟨hr,hf⟩,hB'⟩:=hB
   exact anyF_first hSp h0 (Region.noSelect_spec hs) l.length listed a Γ (Region.free_spec h0 hf) (by simpa using hr) h.1
    (fun v hv=>anyF_lex hSp hs l (k + 1) _ _ _ (fun j=>by have:=hl (j + 1);simpa [Nat.add_assoc,Nat.add_comm 1 j] using this) hB' (h.2 v hv))
theorem wp_region_flow {id:Nat} {Q:Exit→Act→World→Prop} {a:Act} {w:World} {l:List Oper} (S:Nat→Value→Spec) (σ:Nat→Nat) (hSp:SpOk l.toArray S σ) (hm:P.follows .mixedOrders=true) (hB:Region.lexB .any l.toArray=true) (hS:∀ i x,Spec.mono R (S i x))
  (h:Tree R P l.toArray S σ w (fun a' Γ => ∀ w',R.r w w'→(∀ j,Γ j w')→Q .normal a' w') l 0 a (fun _ _=>True)):(Code.region id l.toArray true).wp P Q a w:=by
 simp only [Region.lexB,Bool.and_eq_true] at hB
 refine wp_region_any hm (wpAny_of_anyF (S:=S) (σ:=σ) (w0:=w) (E:=fun a' Γ => ∀ w',R.r w w'→(∀ j,Γ j w')→Q .normal a' w') (Γ:=fun _ _=>True) hS (fun a' Γ w' hE hb hG=>hE w' hb hG) _ _ _ _ ?_ (R.drew _) (fun _=>trivial) (fun _ _ _ _ _=>trivial))
 have:=anyF_lex hSp hB.1 l 0 (Array.replicate l.toArray.size false) a (fun _ _=>True) (by simp) (by simpa using hB.2) h
 simpa using this
theorem tree_nil {S:Nat→Value→Spec} {σ:Nat→Nat} {w0:World} {E:Act→(Nat→World→Prop)→Prop} {i:Nat} {a:Act} {Γ:Nat→World→Prop} (h:E a Γ):Tree R P ops S σ w0 E [] i a Γ:=h
theorem tree_val {S:Nat→Value→Spec} {σ:Nat→Nat} {w0:World} {E:Act→(Nat→World→Prop)→Prop} {o:Oper} {rest:List Oper} {i:Nat} {a:Act} {Γ:Nat→World→Prop} (u:Value) (hs:sp S σ i a = .inl u)
  (hr:∀ w,R.r w0 w→(∀ j,dep o j=true→Γ j w)→Runs R P ops o (.inl u) a w) (h:Tree R P ops S σ w0 E rest (i + 1) (a.put o.dst u) (upd Γ i (fun _=>True))):Tree R P ops S σ w0 E (o :: rest) i a Γ:=by
 refine ⟨by rw [hs];exact hr,fun v hv => ?_⟩
 rw [hs] at hv ⊢
 cases hv
 have:(fun w=>Spec.holds (.inl u) u w)=fun _=>True:=by funext w;simp [Spec.holds]
 rw [show Spec.holds (.inl u) u=fun _=>True from this]
 exact h
theorem tree_var {S:Nat→Value→Spec} {σ:Nat→Nat} {w0:World} {E:Act→(Nat→World→Prop)→Prop} {o:Oper} {rest:List Oper} {i:Nat} {a:Act} {Γ:Nat→World→Prop} (V:Value→World→Prop) (hs:sp S σ i a = .inr V)
  (hr:∀ w,R.r w0 w→(∀ j,dep o j=true→Γ j w)→Runs R P ops o (.inr V) a w) (h:∀ v,Tree R P ops S σ w0 E rest (i + 1) (a.put o.dst v) (upd Γ i (V v))):Tree R P ops S σ w0 E (o :: rest) i a Γ:=by
 refine ⟨by rw [hs];exact hr,fun v _ => ?_⟩
 rw [hs]
 exact h v
@[go_sem] theorem rel_rf (R:Rel) (w:World):R.r w w=True:=eq_true (R.rf w)
def specs (n:Nat) (f:Value→Spec) (l:List Spec):Nat→Value→Spec:=fun i x=>if i=n then f x else l.getD i (.inl undef)
theorem specs_mono {n:Nat} {f:Value→Spec} {l:List Spec} (hf:∀ x,Spec.mono R (f x)) (h:∀ s ∈ l,Spec.mono R s):∀ i x,Spec.mono R (specs n f l i x):=fun i x=>by
 unfold specs
 split
 ·exact hf x
 ·rcases Nat.lt_or_ge i l.length with h' | h'
  ·rw [List.getD_eq_getElem?_getD,List.getElem?_eq_getElem h'];exact h _ (List.getElem_mem h')
  ·rw [List.getD_eq_getElem?_getD,List.getElem?_eq_none h'];exact mono_inl _
theorem specs_ok {n s:Nat} {f:Value→Spec} {l:List Spec} (h:(match ops[n]? with | some o=>(o.looksAt ops).contains s | none=>true)=true):SpOk ops (specs n f l) (fun _=>s):=fun i oi hi=>by
 by_cases e:i=n
 ·subst e
  rw [hi] at h
  exact .inl (by simpa using h)
 ·exact .inr fun x y=>by unfold specs;rw [if_neg e,if_neg e]
theorem tree_valK {S:Nat→Value→Spec} {σ:Nat→Nat} {w0:World} {E:Act→(Nat→World→Prop)→Prop} {o:Oper} {rest:List Oper} {i:Nat} {a:Act} {Γ:Nat→World→Prop} {u:Value} (hs:sp S σ i a = .inl u)
  (h:∀ K:Act→Prop,(∀ a',Tree R P ops S σ w0 E rest (i + 1) a' (upd Γ i (fun _=>True))→K a')→(∀ w,R.r w0 w→(∀ j,dep o j=true→Γ j w)→Runs R P ops o (.inl u) a w)∧K (a.put o.dst u)):Tree R P ops S σ w0 E (o :: rest) i a Γ:=
 tree_val u hs (h (fun _=>True) (fun _ _=>trivial)).1 (h _ (fun _ h=>h)).2
theorem tree_varK {S:Nat→Value→Spec} {σ:Nat→Nat} {w0:World} {E:Act→(Nat→World→Prop)→Prop} {o:Oper} {rest:List Oper} {i:Nat} {a:Act} {Γ:Nat→World→Prop} {V:Value→World→Prop} (hs:sp S σ i a = .inr V)
  (h:∀ K:Act→(World→Prop)→Prop,(∀ a' v,Tree R P ops S σ w0 E rest (i + 1) a' (upd Γ i (V v))→K a' (V v))→(∀ w,R.r w0 w→(∀ j,dep o j=true→Γ j w)→Runs R P ops o (.inr V) a w)∧∀ v,K (a.put o.dst v) (V v)):Tree R P ops S σ w0 E (o :: rest) i a Γ:=by
 refine tree_var V hs (h (fun _ _=>True) (fun _ _ _=>trivial)).1 fun v => ?_
 have:=(h (fun a' p=>Tree R P ops S σ w0 E rest (i + 1) a' (upd Γ i p)) (fun _ _ h=>h)).2 v
 exact this
@[go_sem] theorem holds_inl (u v:Value) (w:World):Spec.holds (.inl u) v w=(v=u):=rfl
theorem lmono_nil:∀ s ∈ ([]:List Spec),Spec.mono R s:=fun _ h=>by cases h
theorem lmono_inl {u:Value} {l:List Spec} (h:∀ s ∈ l,Spec.mono R s):∀ s ∈ (.inl u :: l:List Spec),Spec.mono R s:=fun s hs=>by
 rcases List.mem_cons.1 hs with rfl | hs
 ·exact mono_inl u
 ·exact h s hs
theorem lmono_inr {V:Value→World→Prop} {l:List Spec} (hV:Spec.mono R (.inr V)) (h:∀ s ∈ l,Spec.mono R s):∀ s ∈ (.inr V :: l:List Spec),Spec.mono R s:=fun s hs=>by
 rcases List.mem_cons.1 hs with rfl | hs
 ·exact hV
 ·exact h s hs
end
end Go.FlowR
namespace Go.FlowR
open Go Go.RowKit
def once (B:Nat) (t:TypeId) (Z Y:Array Value):Rel where
 r w w':=w'.os=w.os∧w'.tape=w.tape∧w'.output=w.output∧w.heap.size≤w'.heap.size∧(∀ k,k < B→w'.heap[k]? = w.heap[k]?) ∧
   ∀ k,k < w.heap.size→w'.heap[k]? = w.heap[k]? ∨ (w.heap[k]? = some (.cells Z t (0,0))∧w'.heap[k]? = some (.cells Y t (0,0)))
 rf w:=⟨rfl,rfl,rfl,Nat.le_refl _,fun _ _=>rfl,fun _ _ => .inl rfl⟩
 tr:=by
  rintro a b c ⟨h1,h2,h3,h4,h5,h6⟩ ⟨k1,k2,k3,k4,k5,k6⟩
  refine ⟨k1.trans h1,k2.trans h2,k3.trans h3,Nat.le_trans h4 k4,fun k hk=>(k5 k hk).trans (h5 k hk),fun k hk => ?_⟩
  rcases h6 k hk with e1 | ⟨e1,e1'⟩ <;> rcases k6 k (Nat.lt_of_lt_of_le hk h4) with e2 | ⟨e2,e2'⟩
  ·exact .inl (e2.trans e1)
  ·exact .inr ⟨e1 ▸ e2,e2'⟩
  ·exact .inr ⟨e1,e2.trans e1'⟩
  ·exact .inr ⟨e1,e2'⟩
 drew w:=⟨rfl,rfl,rfl,Nat.le_refl _,fun _ _=>rfl,fun _ _ => .inl rfl⟩
section
variable {B:Nat} {t:TypeId} {Z Y:Array Value} {w w':World}
theorem once_below (h:(once B t Z Y).r w w'):Below B w w':=⟨h.1,h.2.1,h.2.2.1,h.2.2.2.1,h.2.2.2.2.1⟩
theorem once_of (h:Below w.heap.size w w') (hB:B≤w.heap.size):(once B t Z Y).r w w':=⟨h.os,h.tape,h.output,h.size,fun k hk=>h.block k (by omega),fun k hk => .inl (h.block k hk)⟩
def One (B:Nat) (t:TypeId) (Z Y:Array Value) (v:Value) (w:World):Prop:=∃ g,v = .pointer (some ⟨g,0,none⟩)∧B≤g∧(w.heap[g]? = some (.cells Z t (0,0))∨w.heap[g]? = some (.cells Y t (0,0)))
def Done (B:Nat) (t:TypeId) (Y:Array Value) (x:Value) (_:Value) (w:World):Prop:=∃ g,x = .pointer (some ⟨g,0,none⟩)∧B≤g∧w.heap[g]? = some (.cells Y t (0,0))
theorem one_mono:Spec.mono (once B t Z Y) (.inr (One B t Z Y)):=by
 rintro v a b ⟨g,h1,h2,h3⟩ hr
 refine ⟨g,h1,h2,?_⟩
 have hlt:g < a.heap.size:=by rcases h3 with h | h <;> exact (Array.getElem?_eq_some_iff.1 h).1
 rcases hr.2.2.2.2.2 g hlt with e | ⟨_,e⟩
 ·rcases h3 with h | h
  ·exact .inl (e.trans h)
  ·exact .inr (e.trans h)
 ·exact .inr e
theorem done_mono (x:Value):Spec.mono (once B t Z Y) (.inr (Done B t Y x)):=by
 rintro v a b ⟨g,h1,h2,h3⟩ hr
 refine ⟨g,h1,h2,?_⟩
 rcases hr.2.2.2.2.2 g (Array.getElem?_eq_some_iff.1 h3).1 with e | ⟨_,e⟩
 ·exact e.trans h3
 ·exact e
end
end Go.FlowR
namespace Tess
def isLong (s:ByteArray):Bool:=decide (100 < s.size)
end Tess
namespace Go.Proofs.YtbbgjjjeecfnoaaGreatDoor
open Go.RowKit Go.Sort
theorem fwithin_any (n a b:Nat) (w:World):Calls Tryz.prog 258 #[.int .i64 n,.agg #[.int .i64 a,.int .i64 b]] w fun e w'=>e = .returned (.bool (Tess.Fil.inW n (a,b)))∧Below w.heap.size w w':=by
 unfold Tess.Fil.inW
 by_cases h1:a≤n
 ·have h1i:(a:Int)≤(n:Int):=by omega
  have h1d:decide ((a:Int)≤(n:Int))=true:=decide_eq_true h1i
  obtain ⟨r,hr⟩:∃ r,decide (n≤b)=r:=⟨_,rfl⟩
  have hri:decide ((n:Int)≤(b:Int))=r:=by rw [← hr];exact decide_eq_decide.2 (by omega)
  rw [decide_eq_true h1,hr]
  go_enter Tryz.func258,Tryz.ntmps258
  go_wp2
  go_ret
  exact ⟨rfl,(Below.refl _ _).alloc (Nat.le_refl _) _⟩
 ·have h1d:decide ((a:Int)≤(n:Int))=false:=decide_eq_false (by omega)
  rw [decide_eq_false h1,Bool.false_and]
  go_enter Tryz.func258,Tryz.ntmps258
  go_wp2
  go_ret
  exact ⟨rfl,(Below.refl _ _).alloc (Nat.le_refl _) _⟩
theorem long_any (s:ByteArray) (w:World):Calls Tryz.prog 257 #[.string s] w fun e w'=>e = .returned (.bool (Tess.isLong s))∧w=w':=by
 go_enter Tryz.func257,Tryz.ntmps257
 go_wp2
 go_ret
 exact ⟨by unfold Tess.isLong;exact congrArg (fun b=>Ending.returned (Value.bool b)) (decide_eq_decide.2 (by omega)),rfl⟩
set_option maxHeartbeats 1000000 in
theorem index_long (v:Value) (l:List ByteArray) (w:World) (hv:SlOf w v (l.map .string)) :
  Calls Tryz.prog 249 #[v,.func (.func 257) #[] #[]] w fun e w' => ∃ i:Int,e = .returned (.int .i64 i)∧decide (0≤i)=l.any Tess.isLong∧Below w.heap.size w w':=by
 obtain ⟨a,cap,rfl,hlen,hc⟩:=sls_open hv
 have HC:=Lib.hid hc
 clear hc hv
 go_enter Tryz.func249,Tryz.ntmps249
 go_wp2
 go_loopw [8] (fun i wr => ∃ k:Nat,k≤l.length∧i = .int .i64 k∧(∀ j (hj:j < l.length),j < k→Tess.isLong l[j]=false)∧Below w.heap.size w wr) (fun i _=>l.length - (intOf i).toNat)
 case atStart=>exact ⟨0,Nat.zero_le _,rfl,fun j _ h=>absurd h (Nat.not_lt_zero _),Below.refl _ _⟩
 case round=>
  obtain ⟨k,hk,rfl,hall,hB⟩:=hrel
  have HA:=Lib.hid hall
  have HB:=Lib.hid hB
  clear hall hB
  by_cases hlt:k < l.length
  ·obtain ⟨b,off,rfl,hb,hcell⟩:=HC.out k hlt
   have hck:wr.cell? ⟨b,off + k,none⟩=some (.string l[k]):=(HB.out.cell (p:=⟨b,off + k,none⟩) hb).trans hcell
   have hki:(k:Int) < (l.length:Int):=by omega
   obtain ⟨y,hy⟩:∃ y,y=l[k]:=⟨_,rfl⟩
   rw [← hy] at hck
   have HE:=Lib.hid hy
   clear hcell hy
   go_wp2_with (go_at_call 257;refine (long_any y _).mono ?_;rintro e w2 ⟨rfl,rfl⟩;cases hyx:Tess.isLong y)
   ·go_roundw
    case rel=>
     refine ⟨k + 1,by omega,by go_num,fun j hj hjk => ?_,HB.out⟩
     by_cases hjk':j < k
     ·exact HA.out j hj hjk'
     ·obtain rfl:j=k:=by omega
      rw [← HE.out];exact hyx
    case measure=>simp [intOf];omega
   ·go_ret
    refine ⟨(k:Int),rfl,?_,HB.out⟩
    rw [decide_eq_true (by omega),eq_comm,List.any_eq_true]
    exact ⟨l[k],List.getElem_mem hlt,by rw [← HE.out];exact hyx⟩
  ·have hki:¬ (k:Int) < (l.length:Int):=by omega
   go_wp2
   go_ret
   refine ⟨-1,rfl,?_,HB.out⟩
   rw [decide_eq_false (by omega),eq_comm,List.any_eq_false]
   intro y hy
   obtain ⟨j,hj,rfl⟩:=List.getElem_of_mem hy
   rw [HA.out j hj (by omega)];simp
theorem contains_long (v:Value) (l:List ByteArray) (w:World) (hv:SlOf w v (l.map .string)) :
  Calls Tryz.prog 181 #[v,.func (.func 257) #[] #[]] w fun e w'=>e = .returned (.bool (l.any Tess.isLong))∧Below w.heap.size w w':=by
 have HI:=Lib.hid (index_long v l w hv)
 obtain ⟨a,cap,rfl,hlen,hc⟩:=sls_open hv
 clear hc hv
 go_enter Tryz.func181,Tryz.ntmps181
 go_wp2_with (go_at_call 249;refine HI.out.mono ?_;rintro e w2 ⟨i,rfl,hi,hB⟩;have HH:=Lib.hid hi;have HB:=Lib.hid hB;clear hi hB)
 go_ret
 refine ⟨?_,HB.out⟩
 rw [← HH.out];rfl
end Go.Proofs.YtbbgjjjeecfnoaaGreatDoor
namespace Go.Proofs.YtbbgjjjeecfnoaaGreatDoor
open Go.RowKit Go.Sort
open Tess (Fil)
def isForms (v:Value) (w:World):Prop:=∃ b,v = .map (some b)∧FormsAt w b
theorem FormsAt.below {w w':World} {b:Nat} (h:FormsAt w b) (hb:Below w.heap.size w w'):FormsAt w' b:=World.ownsMap.kept h (Below.grownNone hb) (by simp)
theorem isFormsR_mono {B:Nat} {t:TypeId} {Z Y:Array Value}:FlowR.Spec.mono (FlowR.once B t Z Y) (.inr isForms):=by
 rintro v a b ⟨g,h1,es,clock,hb,hf⟩ hr
 refine ⟨g,h1,es,clock,?_,hf⟩
 rcases hr.2.2.2.2.2 g (Array.getElem?_eq_some_iff.1 hb).1 with e | ⟨e,_⟩
 ·exact e.trans hb
 ·rw [hb] at e;cases e
theorem once_set6 {B:Nat} {t:TypeId} {Z:Array Value} {w:World} {g:Nat} {x0 x1 x2 x3 x4 x5 y0 y1 y2 y3 y4 y5:Value} (v:Value) (h:w.heap[g]? = some (.cells #[x0,x1,x2,x3,x4,x5] t (0,0))) (hx : #[x0,x1,x2,x3,x4,x5]=Z∨#[x0,x1,x2,x3,x4,x5]=#[y0,y1,y2,y3,y4,y5]) (hB:B≤g) :
  (FlowR.once B t Z #[y0,y1,y2,y3,y4,y5]).r w ((((((w.setCell ⟨g,0,none⟩ y0).setCell ⟨g,1,none⟩ y1).setCell ⟨g,2,none⟩ y2).setCell ⟨g,3,none⟩ y3).setCell ⟨g,4,none⟩ y4).setCell ⟨g,5,none⟩ y5) ∧
   FlowR.Done B t #[y0,y1,y2,y3,y4,y5] (.pointer (some ⟨g,0,none⟩)) v ((((((w.setCell ⟨g,0,none⟩ y0).setCell ⟨g,1,none⟩ y1).setCell ⟨g,2,none⟩ y2).setCell ⟨g,3,none⟩ y3).setCell ⟨g,4,none⟩ y4).setCell ⟨g,5,none⟩ y5):=by
 have hb:=set6_below y0 y1 y2 y3 y4 y5 (Below.refl B w) hB
 have hs:=set6 y0 y1 y2 y3 y4 y5 h
 have ho:∀ k,k≠g→_:=fun k e=>set6_other (W:=w) (g:=g) (k:=k) y0 y1 y2 y3 y4 y5 e
 generalize ((((((w.setCell ⟨g,0,none⟩ y0).setCell ⟨g,1,none⟩ y1).setCell ⟨g,2,none⟩ y2).setCell ⟨g,3,none⟩ y3).setCell ⟨g,4,none⟩ y4).setCell ⟨g,5,none⟩ y5)=W at *
 refine ⟨⟨hb.os,hb.tape,hb.output,hb.size,hb.block,fun k hk => ?_⟩,g,rfl,hB,hs⟩
 by_cases e:k=g
 ·subst e
  rcases hx with hx | hx
  ·exact .inr ⟨hx ▸ h,hs⟩
  ·exact .inl (hs.trans (hx ▸ h).symm)
 ·exact .inl (ho k e)
theorem right_cells {w w':World} {g b:Nat} {x0 x1 x2 x3 x4 x5 y0 y1 y2 y3 y4 y5:Value} {t u:TypeId} (hB:Below w.heap.size w w') (hg:w.heap[g]? = some (.cells #[x0,x1,x2,x3,x4,x5] t (0,0))) (hb:w.heap[b]? = some (.cells #[y0,y1,y2,y3,y4,y5] u (0,0))) :
  w'.cell? ⟨g,0,none⟩=some x0∧w'.cell? ⟨g,1,none⟩=some x1∧w'.cell? ⟨g,2,none⟩=some x2∧w'.cell? ⟨g,3,none⟩=some x3∧w'.cell? ⟨g,4,none⟩=some x4∧w'.cell? ⟨g,5,none⟩=some x5 ∧
   w'.cell? ⟨b,1,none⟩=some y1∧w'.cell? ⟨b,2,none⟩=some y2∧w'.cell? ⟨b,3,none⟩=some y3∧w'.cell? ⟨b,4,none⟩=some y4∧w'.cell? ⟨b,5,none⟩=some y5:=by
 have hg':=(hB.block _ (Array.getElem?_eq_some_iff.1 hg).1).trans hg
 have hb':=(hB.block _ (Array.getElem?_eq_some_iff.1 hb).1).trans hb
 exact ⟨cell_of_row _ _ 0 _ _ _ hg',cell_of_row _ _ 1 _ _ _ hg',cell_of_row _ _ 2 _ _ _ hg',cell_of_row _ _ 3 _ _ _ hg',cell_of_row _ _ 4 _ _ _ hg',cell_of_row _ _ 5 _ _ _ hg',cell_of_row _ _ 1 _ _ _ hb',cell_of_row _ _ 2 _ _ _ hb',cell_of_row _ _ 3 _ _ _ hb',cell_of_row _ _ 4 _ _ _ hb',cell_of_row _ _ 5 _ _ _ hb'⟩
theorem forms_run (w:World):Calls Tryz.prog 256 #[] w fun e w' => ∃ v,e = .returned v∧Below w.heap.size w w'∧isForms v w':=
 (forms_any w).mono fun _ _ ⟨b,h1,h2,h3⟩=>⟨_,h1,h3,b,rfl,h2⟩
set_option maxRecDepth 100000 in
set_option maxHeartbeats 4000000 in
theorem isRight_any (p:Nat→Prop) (n:Nat) (vs v:Value) (s:Tess.Sch) (f:Fil) (w:World) (hs:SchAt p w vs s) (hv:FilAt p n w v f) (hk : -9223372036854775808≤f.kind∧f.kind≤9223372036854775807) :
  Calls Tryz.prog 192 #[vs,v] w fun e w'=>e = .returned (.bool (Fil.own s f))∧Below w.heap.size w w':=by
 have HDIM:=Lib.hid (fun W (hB:Below w.heap.size w W)=>dim_any vs s f.name p W (hs.ag (Ag.new p hB)))
 obtain ⟨vd,vm,rfl,hd,hm,_,_⟩:=hs
 obtain ⟨ad,capd,rfl,_⟩:=slp_len hd
 obtain ⟨am,capm,rfl,_⟩:=slp_len hm
 cases n with
 | zero=>exact hv.elim
 | succ n=>
 obtain ⟨vw,a,cap,rfl,hnm,hw,_,hll,_,_⟩:=hv
 have HCL:=Lib.hid (fun W (hB:Below w.heap.size w W)=>contains_long vw f.words W (hw.1.below hB))
 obtain ⟨aw,capw,rfl,hwl⟩:=slp_len hw
 obtain ⟨x,hx⟩:∃ x,x=(Fil.form f.kind).getD zeroForm:=⟨_,rfl⟩
 obtain ⟨ok,hok⟩:∃ ok,ok=(Fil.form f.kind).isSome:=⟨_,rfl⟩
 have HLOOK:RowKit.Hid (∀ (W:World) (b:Nat),FormsAt W b→(Instr.lookup 331 (.map (some b)) (.int .i64 f.kind) true).run Tryz.prog W = .ok (.tuple #[formV x,.bool ok]) W):=Lib.hid (fun W b h=>by rw [hx,hok];exact h.look f.kind hk)
 have HOWN:RowKit.Hid (Fil.own s f=(ok && ((Tess.dimW s f.name).2 == x.1) && ((Tess.dimW s f.name).2 || f.name.size == 0) && (x.2.1 || (decide (f.frm=0) && decide (f.to=0))) && Fil.inW f.words.length x.2.2.1 && Fil.inW f.l.length x.2.2.2 && !f.words.any Tess.isLong)):=Lib.hid (by
  rw [hx,hok]
  unfold Fil.own
  cases Fil.form f.kind with
  | none=>rfl
  | some y=>obtain ⟨y1,y2,y3,y4⟩:=y;simp only [Option.getD_some,Option.isSome_some,Bool.true_and];rfl)
 clear hd hm hw hx hok
 obtain ⟨hn,hsp,⟨w0,w1⟩,l0,l1⟩:=x
 have HW:=Lib.hid (fun w=>fwithin_any f.words.length w0 w1 w)
 have HL:=Lib.hid (fun w=>fwithin_any f.l.length l0 l1 w)
 simp only [formV] at HLOOK
 simp only at HOWN
 generalize Fil.own s f=ow at *
 generalize Tess.dimW s f.name=dm at *
 obtain ⟨di,isD⟩:=dm
 simp only at HDIM HOWN
 go_enter Tryz.func192,Tryz.ntmps192
 go_wp2
 obtain ⟨W0,hW0⟩:∃ W0,(w.alloc (.cells #[.slice ad s.dims.length capd,.slice am s.mets.length capm,.int .i64 s.grain] 24)).alloc (.cells #[.int .i64 f.kind,.string f.name,.slice aw f.words.length capw,.int .i64 f.frm,.int .i64 f.to,.slice a f.l.length cap] 31)=W0:=⟨_,rfl⟩
 obtain ⟨hk1,hk2,hS0,hB0⟩:W0.heap[w.heap.size]? = some (.cells #[.slice ad s.dims.length capd,.slice am s.mets.length capm,.int .i64 s.grain] 24 (0,0))∧W0.heap[w.heap.size + 1]? = some (.cells #[.int .i64 f.kind,.string f.name,.slice aw f.words.length capw,.int .i64 f.frm,.int .i64 f.to,.slice a f.l.length cap] 31 (0,0))∧W0.heap.size=w.heap.size + 2∧Below w.heap.size w W0:=by rw [← hW0];exact laid2 w _ _
 rw [hW0]
 clear hW0
 have s1:w.heap.size + 1 < W0.heap.size:=by omega
 have c0:=cell_of_row W0 (w.heap.size + 1) 0 _ _ _ hk2
 simp only [List.getElem?_toArray,List.getElem?_cons_zero] at c0
 have HS0:=Lib.hid hS0
 have HB0:=Lib.hid hB0
 have HK1:=Lib.hid hk1
 have HK2:=Lib.hid hk2
 clear hS0 hB0 hk1 hk2
 obtain ⟨Z,hZ⟩:∃ Z:Array Value,Z=#[.bool false,.bool false,.int .i64 0,.int .i64 0,.int .i64 0,.int .i64 0]:=⟨_,rfl⟩
 obtain ⟨Y,hY⟩:∃ Y:Array Value,Y=#[.bool hn,.bool hsp,.int .i64 (w0:Nat),.int .i64 (w1:Nat),.int .i64 (l0:Nat),.int .i64 (l1:Nat)]:=⟨_,rfl⟩
 have HZ:=Lib.hid hZ
 have HY:=Lib.hid hY
 clear hZ hY
 refine FlowR.wp_region_flow (R:=FlowR.once (w.heap.size + 2) 329 Z Y) (FlowR.specs 8 (fun x => .inr (FlowR.Done (w.heap.size + 2) 329 Y x)) [.inr isForms,.inl ?_,.inl ?_,.inl ?_,.inl ?_,.inl ?_,.inl ?_,.inr (FlowR.One (w.heap.size + 2) 329 Z Y),.inl undef,.inl ?_]) (fun _=>5) (FlowR.specs_ok (by kernel_rfl)) (by kernel_rfl) (by kernel_rfl) ?_ ?_
 rotate_left 7
 ·refine FlowR.specs_mono (fun x=>FlowR.done_mono x) ?_
  repeat (first | exact FlowR.lmono_nil | refine FlowR.lmono_inl ?_ | refine FlowR.lmono_inr isFormsR_mono ?_ | refine FlowR.lmono_inr FlowR.one_mono ?_)
 (refine FlowR.tree_varK rfl (fun K hK=>⟨fun w hw hG => ?_,?_⟩);(have hws:=hw.2.2.2.1;rw [HS0.out] at hws;clear hG hw;unfold FlowR.Runs FlowR.yields;go_simp;exact (forms_run w).mono fun e w' ⟨v,h1,h2,h3⟩=>⟨v,h1,FlowR.once_of h2 hws,h3⟩);intro vb;go_simp;refine hK _ _ ?_;clear hK K)
 iterate 2 (refine FlowR.tree_valK rfl (fun K hK=>⟨fun w hw hG => ?_,?_⟩);(have hcl:=Flow.bcell (HS0.out ▸ FlowR.once_below hw);clear hG hw;unfold FlowR.Runs FlowR.yields;go_simp;try rfl);go_simp;refine hK _ ?_;clear hK K)
 (refine FlowR.tree_valK rfl (fun K hK=>⟨fun w hw hG => ?_,?_⟩);(obtain ⟨b3,rfl,hf3⟩:=(show isForms vb w by simpa [FlowR.upd] using hG 0 (by kernel_rfl));have hlk:=HLOOK.out w b3 hf3;clear hG hw;unfold FlowR.Runs FlowR.yields;go_simp;try rfl);go_simp;refine hK _ ?_;clear hK K)
 iterate 3 (refine FlowR.tree_valK rfl (fun K hK=>⟨fun w hw hG => ?_,?_⟩);(clear hG hw;unfold FlowR.Runs FlowR.yields;go_simp;try rfl);go_simp;refine hK _ ?_;clear hK K)
 (refine FlowR.tree_varK rfl (fun K hK=>⟨fun w hw hG => ?_,?_⟩);(have hws:=hw.2.2.2.1;rw [HS0.out] at hws;clear hG hw;unfold FlowR.Runs FlowR.yields;go_simp;exact ⟨FlowR.once_of ((Below.refl _ _).alloc (Nat.le_refl _) _) hws,_,rfl,hws,.inl (by rw [HZ.out];exact heap_alloc_new _ _)⟩);intro vz;go_simp;refine hK _ _ ?_;clear hK K)
 (refine FlowR.tree_varK rfl (fun K hK=>⟨fun w hw hG => ?_,?_⟩);(obtain ⟨g,rfl,hgb,hg⟩:=(show FlowR.One _ _ Z Y vz w by simpa [FlowR.upd] using hG 7 (by kernel_rfl));obtain ⟨x0,x1,x2,x3,x4,x5,hg1,hg2⟩:∃ x0 x1 x2 x3 x4 x5,w.heap[g]? = some (.cells #[x0,x1,x2,x3,x4,x5] 329 (0,0))∧(#[x0,x1,x2,x3,x4,x5]=Z∨#[x0,x1,x2,x3,x4,x5]=Y):=(by rcases hg with hg | hg;exact ⟨_,_,_,_,_,_,by rw [hg,HZ.out],.inl HZ.out.symm⟩;exact ⟨_,_,_,_,_,_,by rw [hg,HY.out],.inr HY.out.symm⟩);have HG2:=Lib.hid hg2;have z0:=frozen_of_row w g 0 _ _ hg1;have z1:=frozen_of_row w g 1 _ _ hg1;have z2:=frozen_of_row w g 2 _ _ hg1;have z3:=frozen_of_row w g 3 _ _ hg1;have z4:=frozen_of_row w g 4 _ _ hg1;have z5:=frozen_of_row w g 5 _ _ hg1;have e0:=cell_of_row w g 0 _ _ _ hg1;have e1:=cell_of_row w g 1 _ _ _ hg1;have e2:=cell_of_row w g 2 _ _ _ hg1;have e3:=cell_of_row w g 3 _ _ _ hg1;have e4:=cell_of_row w g 4 _ _ _ hg1;have e5:=cell_of_row w g 5 _ _ _ hg1;simp only [List.getElem?_toArray,List.getElem?_cons_succ,List.getElem?_cons_zero] at e0 e1 e2 e3 e4 e5;have HG1:=Lib.hid hg1;clear hG hw hg hg1 hg2;unfold FlowR.Runs FlowR.yields;go_simp;rw [HY.out];exact once_set6 undef HG1.out (by rw [← HY.out];exact HG2.out) hgb);intro vs;go_simp;refine hK _ _ ?_;clear hK K)
 (refine FlowR.tree_valK rfl (fun K hK=>⟨fun w hw hG => ?_,?_⟩);(clear hG hw;unfold FlowR.Runs FlowR.yields;go_simp;try rfl);go_simp;refine hK _ ?_;clear hK K)
 refine FlowR.tree_nil fun w2 hw2 hG => ?_
 obtain ⟨g,rfl,hgb,hg⟩:=(show FlowR.Done (w.heap.size + 2) 329 Y vz vs w2 by simpa [FlowR.upd] using hG 8)
 rw [HY.out] at hg
 have hB2:=FlowR.once_below hw2
 rw [← HS0.out] at hB2
 have hk1:=(hB2.block _ (by omega)).trans HK1.out
 have hk2:=(hB2.block _ (by omega)).trans HK2.out
 have HBW:=Lib.hid (HB0.out.trans (hB2.mono (by omega)))
 have HKG:=Lib.hid hg
 have HK1':=Lib.hid hk1
 have HK2':=Lib.hid hk2
 have c0:=cell_of_row w2 w.heap.size 0 _ _ _ hk1
 have c1:=cell_of_row w2 w.heap.size 1 _ _ _ hk1
 have c2:=cell_of_row w2 w.heap.size 2 _ _ _ hk1
 have d1:=cell_of_row w2 (w.heap.size + 1) 1 _ _ _ hk2
 simp only [List.getElem?_toArray,List.getElem?_cons_succ,List.getElem?_cons_zero] at c0 c1 c2 d1
 clear hG hw2 hg hB2 hk1 hk2 HK1 HK2 HB0
 obtain ⟨b3,hb3⟩:∃ b3,f.name.toList.isEmpty=b3:=⟨_,rfl⟩
 have hb3':(f.name.size == 0)=b3:=by
  rw [← hb3,Tess.tl,Bool.eq_iff_iff,beq_iff_eq,List.isEmpty_iff,Array.toList_eq_nil_iff]
  exact ⟨fun h=>Array.eq_empty_of_size_eq_zero h,fun h=>by show f.name.data.size=0;rw [h];rfl⟩
 obtain ⟨b5,hb5⟩:∃ b5,Fil.inW f.words.length (w0,w1)=b5:=⟨_,rfl⟩
 obtain ⟨b6,hb6⟩:∃ b6,Fil.inW f.l.length (l0,l1)=b6:=⟨_,rfl⟩
 obtain ⟨b7,hb7⟩:∃ b7,f.words.any Tess.isLong=b7:=⟨_,rfl⟩
 rw [hb3',hb5,hb6,hb7] at HOWN
 rw [hb5] at HW
 rw [hb6] at HL
 rw [hb7] at HCL
 clear hb3' hb5 hb6 hb7
 cases ok
 ·go_wp2_with (first
   | (go_at_call 107;refine (HDIM.out _ HBW.out).mono ?_;rintro e3 w3 ⟨rfl,hB3⟩;obtain ⟨g0,g1,g2,g3,g4,g5,f1,f2,f3,f4,f5⟩:=right_cells hB3 HKG.out HK2'.out;have HB23:=Lib.hid hB3;clear hB3)
   | (go_at_call 258;((with_reducible refine (HW.out _).mono ?_);rintro e4 w4 ⟨rfl,hB4⟩;obtain ⟨g0,g1,g2,g3,g4,g5,f1,f2,f3,f4,f5⟩:=right_cells (Bt HB23.out hB4) HKG.out HK2'.out;have HBX:=Lib.hid (Bt HB23.out hB4);clear hB4 HB23;have HB23:=HBX;clear HBX))
   | (go_at_call 258;((with_reducible refine (HL.out _).mono ?_);rintro e4 w4 ⟨rfl,hB4⟩;obtain ⟨g0,g1,g2,g3,g4,g5,f1,f2,f3,f4,f5⟩:=right_cells (Bt HB23.out hB4) HKG.out HK2'.out;have HBX:=Lib.hid (Bt HB23.out hB4);clear hB4 HB23;have HB23:=HBX;clear HBX))
   | (go_at_call 181;refine (HCL.out _ (Bt HBW.out HB23.out)).mono ?_;rintro e4 w4 ⟨rfl,hB4⟩;have HBX:=Lib.hid (Bt HB23.out hB4);clear hB4 HB23;have HB23:=HBX;clear HBX))
  go_ret
  exact ⟨ret_bool' (by rw [HOWN.out];simp),Bt HBW.out HB23.out⟩
 ·cases isD
  ·cases hn
   ·cases b3
    ·go_wp2_with (first
      | (go_at_call 107;refine (HDIM.out _ HBW.out).mono ?_;rintro e3 w3 ⟨rfl,hB3⟩;obtain ⟨g0,g1,g2,g3,g4,g5,f1,f2,f3,f4,f5⟩:=right_cells hB3 HKG.out HK2'.out;have HB23:=Lib.hid hB3;clear hB3)
      | (go_at_call 258;((with_reducible refine (HW.out _).mono ?_);rintro e4 w4 ⟨rfl,hB4⟩;obtain ⟨g0,g1,g2,g3,g4,g5,f1,f2,f3,f4,f5⟩:=right_cells (Bt HB23.out hB4) HKG.out HK2'.out;have HBX:=Lib.hid (Bt HB23.out hB4);clear hB4 HB23;have HB23:=HBX;clear HBX))
      | (go_at_call 258;((with_reducible refine (HL.out _).mono ?_);rintro e4 w4 ⟨rfl,hB4⟩;obtain ⟨g0,g1,g2,g3,g4,g5,f1,f2,f3,f4,f5⟩:=right_cells (Bt HB23.out hB4) HKG.out HK2'.out;have HBX:=Lib.hid (Bt HB23.out hB4);clear hB4 HB23;have HB23:=HBX;clear HBX))
      | (go_at_call 181;refine (HCL.out _ (Bt HBW.out HB23.out)).mono ?_;rintro e4 w4 ⟨rfl,hB4⟩;have HBX:=Lib.hid (Bt HB23.out hB4);clear hB4 HB23;have HB23:=HBX;clear HBX))
     go_ret
     exact ⟨ret_bool' (by rw [HOWN.out];simp),Bt HBW.out HB23.out⟩
    ·cases hsp
     ·by_cases hz1:f.frm=0
      ·by_cases hz2:f.to=0
       ·cases b5
        ·go_wp2_with (first
          | (go_at_call 107;refine (HDIM.out _ HBW.out).mono ?_;rintro e3 w3 ⟨rfl,hB3⟩;obtain ⟨g0,g1,g2,g3,g4,g5,f1,f2,f3,f4,f5⟩:=right_cells hB3 HKG.out HK2'.out;have HB23:=Lib.hid hB3;clear hB3)
          | (go_at_call 258;((with_reducible refine (HW.out _).mono ?_);rintro e4 w4 ⟨rfl,hB4⟩;obtain ⟨g0,g1,g2,g3,g4,g5,f1,f2,f3,f4,f5⟩:=right_cells (Bt HB23.out hB4) HKG.out HK2'.out;have HBX:=Lib.hid (Bt HB23.out hB4);clear hB4 HB23;have HB23:=HBX;clear HBX))
          | (go_at_call 258;((with_reducible refine (HL.out _).mono ?_);rintro e4 w4 ⟨rfl,hB4⟩;obtain ⟨g0,g1,g2,g3,g4,g5,f1,f2,f3,f4,f5⟩:=right_cells (Bt HB23.out hB4) HKG.out HK2'.out;have HBX:=Lib.hid (Bt HB23.out hB4);clear hB4 HB23;have HB23:=HBX;clear HBX))
          | (go_at_call 181;refine (HCL.out _ (Bt HBW.out HB23.out)).mono ?_;rintro e4 w4 ⟨rfl,hB4⟩;have HBX:=Lib.hid (Bt HB23.out hB4);clear hB4 HB23;have HB23:=HBX;clear HBX))
         go_ret
         exact ⟨ret_bool' (by rw [HOWN.out];simp [hz1,hz2]),Bt HBW.out HB23.out⟩
        ·cases b6
         ·go_wp2_with (first
           | (go_at_call 107;refine (HDIM.out _ HBW.out).mono ?_;rintro e3 w3 ⟨rfl,hB3⟩;obtain ⟨g0,g1,g2,g3,g4,g5,f1,f2,f3,f4,f5⟩:=right_cells hB3 HKG.out HK2'.out;have HB23:=Lib.hid hB3;clear hB3)
           | (go_at_call 258;((with_reducible refine (HW.out _).mono ?_);rintro e4 w4 ⟨rfl,hB4⟩;obtain ⟨g0,g1,g2,g3,g4,g5,f1,f2,f3,f4,f5⟩:=right_cells (Bt HB23.out hB4) HKG.out HK2'.out;have HBX:=Lib.hid (Bt HB23.out hB4);clear hB4 HB23;have HB23:=HBX;clear HBX))
           | (go_at_call 258;((with_reducible refine (HL.out _).mono ?_);rintro e4 w4 ⟨rfl,hB4⟩;obtain ⟨g0,g1,g2,g3,g4,g5,f1,f2,f3,f4,f5⟩:=right_cells (Bt HB23.out hB4) HKG.out HK2'.out;have HBX:=Lib.hid (Bt HB23.out hB4);clear hB4 HB23;have HB23:=HBX;clear HBX))
           | (go_at_call 181;refine (HCL.out _ (Bt HBW.out HB23.out)).mono ?_;rintro e4 w4 ⟨rfl,hB4⟩;have HBX:=Lib.hid (Bt HB23.out hB4);clear hB4 HB23;have HB23:=HBX;clear HBX))
          go_ret
          exact ⟨ret_bool' (by rw [HOWN.out];simp [hz1,hz2]),Bt HBW.out HB23.out⟩
         ·go_wp2_with (first
           | (go_at_call 107;refine (HDIM.out _ HBW.out).mono ?_;rintro e3 w3 ⟨rfl,hB3⟩;obtain ⟨g0,g1,g2,g3,g4,g5,f1,f2,f3,f4,f5⟩:=right_cells hB3 HKG.out HK2'.out;have HB23:=Lib.hid hB3;clear hB3)
           | (go_at_call 258;((with_reducible refine (HW.out _).mono ?_);rintro e4 w4 ⟨rfl,hB4⟩;obtain ⟨g0,g1,g2,g3,g4,g5,f1,f2,f3,f4,f5⟩:=right_cells (Bt HB23.out hB4) HKG.out HK2'.out;have HBX:=Lib.hid (Bt HB23.out hB4);clear hB4 HB23;have HB23:=HBX;clear HBX))
           | (go_at_call 258;((with_reducible refine (HL.out _).mono ?_);rintro e4 w4 ⟨rfl,hB4⟩;obtain ⟨g0,g1,g2,g3,g4,g5,f1,f2,f3,f4,f5⟩:=right_cells (Bt HB23.out hB4) HKG.out HK2'.out;have HBX:=Lib.hid (Bt HB23.out hB4);clear hB4 HB23;have HB23:=HBX;clear HBX))
           | (go_at_call 181;refine (HCL.out _ (Bt HBW.out HB23.out)).mono ?_;rintro e4 w4 ⟨rfl,hB4⟩;have HBX:=Lib.hid (Bt HB23.out hB4);clear hB4 HB23;have HB23:=HBX;clear HBX))
          go_ret
          exact ⟨ret_bool' (by rw [HOWN.out];simp [hz1,hz2]),Bt HBW.out HB23.out⟩
       ·go_wp2_with (first
         | (go_at_call 107;refine (HDIM.out _ HBW.out).mono ?_;rintro e3 w3 ⟨rfl,hB3⟩;obtain ⟨g0,g1,g2,g3,g4,g5,f1,f2,f3,f4,f5⟩:=right_cells hB3 HKG.out HK2'.out;have HB23:=Lib.hid hB3;clear hB3)
         | (go_at_call 258;((with_reducible refine (HW.out _).mono ?_);rintro e4 w4 ⟨rfl,hB4⟩;obtain ⟨g0,g1,g2,g3,g4,g5,f1,f2,f3,f4,f5⟩:=right_cells (Bt HB23.out hB4) HKG.out HK2'.out;have HBX:=Lib.hid (Bt HB23.out hB4);clear hB4 HB23;have HB23:=HBX;clear HBX))
         | (go_at_call 258;((with_reducible refine (HL.out _).mono ?_);rintro e4 w4 ⟨rfl,hB4⟩;obtain ⟨g0,g1,g2,g3,g4,g5,f1,f2,f3,f4,f5⟩:=right_cells (Bt HB23.out hB4) HKG.out HK2'.out;have HBX:=Lib.hid (Bt HB23.out hB4);clear hB4 HB23;have HB23:=HBX;clear HBX))
         | (go_at_call 181;refine (HCL.out _ (Bt HBW.out HB23.out)).mono ?_;rintro e4 w4 ⟨rfl,hB4⟩;have HBX:=Lib.hid (Bt HB23.out hB4);clear hB4 HB23;have HB23:=HBX;clear HBX))
        go_ret
        exact ⟨ret_bool' (by rw [HOWN.out];simp [hz2]),Bt HBW.out HB23.out⟩
      ·go_wp2_with (first
        | (go_at_call 107;refine (HDIM.out _ HBW.out).mono ?_;rintro e3 w3 ⟨rfl,hB3⟩;obtain ⟨g0,g1,g2,g3,g4,g5,f1,f2,f3,f4,f5⟩:=right_cells hB3 HKG.out HK2'.out;have HB23:=Lib.hid hB3;clear hB3)
        | (go_at_call 258;((with_reducible refine (HW.out _).mono ?_);rintro e4 w4 ⟨rfl,hB4⟩;obtain ⟨g0,g1,g2,g3,g4,g5,f1,f2,f3,f4,f5⟩:=right_cells (Bt HB23.out hB4) HKG.out HK2'.out;have HBX:=Lib.hid (Bt HB23.out hB4);clear hB4 HB23;have HB23:=HBX;clear HBX))
        | (go_at_call 258;((with_reducible refine (HL.out _).mono ?_);rintro e4 w4 ⟨rfl,hB4⟩;obtain ⟨g0,g1,g2,g3,g4,g5,f1,f2,f3,f4,f5⟩:=right_cells (Bt HB23.out hB4) HKG.out HK2'.out;have HBX:=Lib.hid (Bt HB23.out hB4);clear hB4 HB23;have HB23:=HBX;clear HBX))
        | (go_at_call 181;refine (HCL.out _ (Bt HBW.out HB23.out)).mono ?_;rintro e4 w4 ⟨rfl,hB4⟩;have HBX:=Lib.hid (Bt HB23.out hB4);clear hB4 HB23;have HB23:=HBX;clear HBX))
       go_ret
       exact ⟨ret_bool' (by rw [HOWN.out];simp [hz1]),Bt HBW.out HB23.out⟩
     ·cases b5
      ·go_wp2_with (first
        | (go_at_call 107;refine (HDIM.out _ HBW.out).mono ?_;rintro e3 w3 ⟨rfl,hB3⟩;obtain ⟨g0,g1,g2,g3,g4,g5,f1,f2,f3,f4,f5⟩:=right_cells hB3 HKG.out HK2'.out;have HB23:=Lib.hid hB3;clear hB3)
        | (go_at_call 258;((with_reducible refine (HW.out _).mono ?_);rintro e4 w4 ⟨rfl,hB4⟩;obtain ⟨g0,g1,g2,g3,g4,g5,f1,f2,f3,f4,f5⟩:=right_cells (Bt HB23.out hB4) HKG.out HK2'.out;have HBX:=Lib.hid (Bt HB23.out hB4);clear hB4 HB23;have HB23:=HBX;clear HBX))
        | (go_at_call 258;((with_reducible refine (HL.out _).mono ?_);rintro e4 w4 ⟨rfl,hB4⟩;obtain ⟨g0,g1,g2,g3,g4,g5,f1,f2,f3,f4,f5⟩:=right_cells (Bt HB23.out hB4) HKG.out HK2'.out;have HBX:=Lib.hid (Bt HB23.out hB4);clear hB4 HB23;have HB23:=HBX;clear HBX))
        | (go_at_call 181;refine (HCL.out _ (Bt HBW.out HB23.out)).mono ?_;rintro e4 w4 ⟨rfl,hB4⟩;have HBX:=Lib.hid (Bt HB23.out hB4);clear hB4 HB23;have HB23:=HBX;clear HBX))
       go_ret
       exact ⟨ret_bool' (by rw [HOWN.out];simp),Bt HBW.out HB23.out⟩
      ·cases b6
       ·go_wp2_with (first
         | (go_at_call 107;refine (HDIM.out _ HBW.out).mono ?_;rintro e3 w3 ⟨rfl,hB3⟩;obtain ⟨g0,g1,g2,g3,g4,g5,f1,f2,f3,f4,f5⟩:=right_cells hB3 HKG.out HK2'.out;have HB23:=Lib.hid hB3;clear hB3)
         | (go_at_call 258;((with_reducible refine (HW.out _).mono ?_);rintro e4 w4 ⟨rfl,hB4⟩;obtain ⟨g0,g1,g2,g3,g4,g5,f1,f2,f3,f4,f5⟩:=right_cells (Bt HB23.out hB4) HKG.out HK2'.out;have HBX:=Lib.hid (Bt HB23.out hB4);clear hB4 HB23;have HB23:=HBX;clear HBX))
         | (go_at_call 258;((with_reducible refine (HL.out _).mono ?_);rintro e4 w4 ⟨rfl,hB4⟩;obtain ⟨g0,g1,g2,g3,g4,g5,f1,f2,f3,f4,f5⟩:=right_cells (Bt HB23.out hB4) HKG.out HK2'.out;have HBX:=Lib.hid (Bt HB23.out hB4);clear hB4 HB23;have HB23:=HBX;clear HBX))
         | (go_at_call 181;refine (HCL.out _ (Bt HBW.out HB23.out)).mono ?_;rintro e4 w4 ⟨rfl,hB4⟩;have HBX:=Lib.hid (Bt HB23.out hB4);clear hB4 HB23;have HB23:=HBX;clear HBX))
        go_ret
        exact ⟨ret_bool' (by rw [HOWN.out];simp),Bt HBW.out HB23.out⟩
       ·go_wp2_with (first
         | (go_at_call 107;refine (HDIM.out _ HBW.out).mono ?_;rintro e3 w3 ⟨rfl,hB3⟩;obtain ⟨g0,g1,g2,g3,g4,g5,f1,f2,f3,f4,f5⟩:=right_cells hB3 HKG.out HK2'.out;have HB23:=Lib.hid hB3;clear hB3)
         | (go_at_call 258;((with_reducible refine (HW.out _).mono ?_);rintro e4 w4 ⟨rfl,hB4⟩;obtain ⟨g0,g1,g2,g3,g4,g5,f1,f2,f3,f4,f5⟩:=right_cells (Bt HB23.out hB4) HKG.out HK2'.out;have HBX:=Lib.hid (Bt HB23.out hB4);clear hB4 HB23;have HB23:=HBX;clear HBX))
         | (go_at_call 258;((with_reducible refine (HL.out _).mono ?_);rintro e4 w4 ⟨rfl,hB4⟩;obtain ⟨g0,g1,g2,g3,g4,g5,f1,f2,f3,f4,f5⟩:=right_cells (Bt HB23.out hB4) HKG.out HK2'.out;have HBX:=Lib.hid (Bt HB23.out hB4);clear hB4 HB23;have HB23:=HBX;clear HBX))
         | (go_at_call 181;refine (HCL.out _ (Bt HBW.out HB23.out)).mono ?_;rintro e4 w4 ⟨rfl,hB4⟩;have HBX:=Lib.hid (Bt HB23.out hB4);clear hB4 HB23;have HB23:=HBX;clear HBX))
        go_ret
        exact ⟨ret_bool' (by rw [HOWN.out];simp),Bt HBW.out HB23.out⟩
   ·go_wp2_with (first
     | (go_at_call 107;refine (HDIM.out _ HBW.out).mono ?_;rintro e3 w3 ⟨rfl,hB3⟩;obtain ⟨g0,g1,g2,g3,g4,g5,f1,f2,f3,f4,f5⟩:=right_cells hB3 HKG.out HK2'.out;have HB23:=Lib.hid hB3;clear hB3)
     | (go_at_call 258;((with_reducible refine (HW.out _).mono ?_);rintro e4 w4 ⟨rfl,hB4⟩;obtain ⟨g0,g1,g2,g3,g4,g5,f1,f2,f3,f4,f5⟩:=right_cells (Bt HB23.out hB4) HKG.out HK2'.out;have HBX:=Lib.hid (Bt HB23.out hB4);clear hB4 HB23;have HB23:=HBX;clear HBX))
     | (go_at_call 258;((with_reducible refine (HL.out _).mono ?_);rintro e4 w4 ⟨rfl,hB4⟩;obtain ⟨g0,g1,g2,g3,g4,g5,f1,f2,f3,f4,f5⟩:=right_cells (Bt HB23.out hB4) HKG.out HK2'.out;have HBX:=Lib.hid (Bt HB23.out hB4);clear hB4 HB23;have HB23:=HBX;clear HBX))
     | (go_at_call 181;refine (HCL.out _ (Bt HBW.out HB23.out)).mono ?_;rintro e4 w4 ⟨rfl,hB4⟩;have HBX:=Lib.hid (Bt HB23.out hB4);clear hB4 HB23;have HB23:=HBX;clear HBX))
    go_ret
    exact ⟨ret_bool' (by rw [HOWN.out];simp),Bt HBW.out HB23.out⟩
  ·cases hn
   ·go_wp2_with (first
     | (go_at_call 107;refine (HDIM.out _ HBW.out).mono ?_;rintro e3 w3 ⟨rfl,hB3⟩;obtain ⟨g0,g1,g2,g3,g4,g5,f1,f2,f3,f4,f5⟩:=right_cells hB3 HKG.out HK2'.out;have HB23:=Lib.hid hB3;clear hB3)
     | (go_at_call 258;((with_reducible refine (HW.out _).mono ?_);rintro e4 w4 ⟨rfl,hB4⟩;obtain ⟨g0,g1,g2,g3,g4,g5,f1,f2,f3,f4,f5⟩:=right_cells (Bt HB23.out hB4) HKG.out HK2'.out;have HBX:=Lib.hid (Bt HB23.out hB4);clear hB4 HB23;have HB23:=HBX;clear HBX))
     | (go_at_call 258;((with_reducible refine (HL.out _).mono ?_);rintro e4 w4 ⟨rfl,hB4⟩;obtain ⟨g0,g1,g2,g3,g4,g5,f1,f2,f3,f4,f5⟩:=right_cells (Bt HB23.out hB4) HKG.out HK2'.out;have HBX:=Lib.hid (Bt HB23.out hB4);clear hB4 HB23;have HB23:=HBX;clear HBX))
     | (go_at_call 181;refine (HCL.out _ (Bt HBW.out HB23.out)).mono ?_;rintro e4 w4 ⟨rfl,hB4⟩;have HBX:=Lib.hid (Bt HB23.out hB4);clear hB4 HB23;have HB23:=HBX;clear HBX))
    go_ret
    exact ⟨ret_bool' (by rw [HOWN.out];simp),Bt HBW.out HB23.out⟩
   ·cases hsp
    ·by_cases hz1:f.frm=0
     ·by_cases hz2:f.to=0
      ·cases b5
       ·go_wp2_with (first
         | (go_at_call 107;refine (HDIM.out _ HBW.out).mono ?_;rintro e3 w3 ⟨rfl,hB3⟩;obtain ⟨g0,g1,g2,g3,g4,g5,f1,f2,f3,f4,f5⟩:=right_cells hB3 HKG.out HK2'.out;have HB23:=Lib.hid hB3;clear hB3)
         | (go_at_call 258;((with_reducible refine (HW.out _).mono ?_);rintro e4 w4 ⟨rfl,hB4⟩;obtain ⟨g0,g1,g2,g3,g4,g5,f1,f2,f3,f4,f5⟩:=right_cells (Bt HB23.out hB4) HKG.out HK2'.out;have HBX:=Lib.hid (Bt HB23.out hB4);clear hB4 HB23;have HB23:=HBX;clear HBX))
         | (go_at_call 258;((with_reducible refine (HL.out _).mono ?_);rintro e4 w4 ⟨rfl,hB4⟩;obtain ⟨g0,g1,g2,g3,g4,g5,f1,f2,f3,f4,f5⟩:=right_cells (Bt HB23.out hB4) HKG.out HK2'.out;have HBX:=Lib.hid (Bt HB23.out hB4);clear hB4 HB23;have HB23:=HBX;clear HBX))
         | (go_at_call 181;refine (HCL.out _ (Bt HBW.out HB23.out)).mono ?_;rintro e4 w4 ⟨rfl,hB4⟩;have HBX:=Lib.hid (Bt HB23.out hB4);clear hB4 HB23;have HB23:=HBX;clear HBX))
        go_ret
        exact ⟨ret_bool' (by rw [HOWN.out];simp [hz1,hz2]),Bt HBW.out HB23.out⟩
       ·cases b6
        ·go_wp2_with (first
          | (go_at_call 107;refine (HDIM.out _ HBW.out).mono ?_;rintro e3 w3 ⟨rfl,hB3⟩;obtain ⟨g0,g1,g2,g3,g4,g5,f1,f2,f3,f4,f5⟩:=right_cells hB3 HKG.out HK2'.out;have HB23:=Lib.hid hB3;clear hB3)
          | (go_at_call 258;((with_reducible refine (HW.out _).mono ?_);rintro e4 w4 ⟨rfl,hB4⟩;obtain ⟨g0,g1,g2,g3,g4,g5,f1,f2,f3,f4,f5⟩:=right_cells (Bt HB23.out hB4) HKG.out HK2'.out;have HBX:=Lib.hid (Bt HB23.out hB4);clear hB4 HB23;have HB23:=HBX;clear HBX))
          | (go_at_call 258;((with_reducible refine (HL.out _).mono ?_);rintro e4 w4 ⟨rfl,hB4⟩;obtain ⟨g0,g1,g2,g3,g4,g5,f1,f2,f3,f4,f5⟩:=right_cells (Bt HB23.out hB4) HKG.out HK2'.out;have HBX:=Lib.hid (Bt HB23.out hB4);clear hB4 HB23;have HB23:=HBX;clear HBX))
          | (go_at_call 181;refine (HCL.out _ (Bt HBW.out HB23.out)).mono ?_;rintro e4 w4 ⟨rfl,hB4⟩;have HBX:=Lib.hid (Bt HB23.out hB4);clear hB4 HB23;have HB23:=HBX;clear HBX))
         go_ret
         exact ⟨ret_bool' (by rw [HOWN.out];simp [hz1,hz2]),Bt HBW.out HB23.out⟩
        ·go_wp2_with (first
          | (go_at_call 107;refine (HDIM.out _ HBW.out).mono ?_;rintro e3 w3 ⟨rfl,hB3⟩;obtain ⟨g0,g1,g2,g3,g4,g5,f1,f2,f3,f4,f5⟩:=right_cells hB3 HKG.out HK2'.out;have HB23:=Lib.hid hB3;clear hB3)
          | (go_at_call 258;((with_reducible refine (HW.out _).mono ?_);rintro e4 w4 ⟨rfl,hB4⟩;obtain ⟨g0,g1,g2,g3,g4,g5,f1,f2,f3,f4,f5⟩:=right_cells (Bt HB23.out hB4) HKG.out HK2'.out;have HBX:=Lib.hid (Bt HB23.out hB4);clear hB4 HB23;have HB23:=HBX;clear HBX))
          | (go_at_call 258;((with_reducible refine (HL.out _).mono ?_);rintro e4 w4 ⟨rfl,hB4⟩;obtain ⟨g0,g1,g2,g3,g4,g5,f1,f2,f3,f4,f5⟩:=right_cells (Bt HB23.out hB4) HKG.out HK2'.out;have HBX:=Lib.hid (Bt HB23.out hB4);clear hB4 HB23;have HB23:=HBX;clear HBX))
          | (go_at_call 181;refine (HCL.out _ (Bt HBW.out HB23.out)).mono ?_;rintro e4 w4 ⟨rfl,hB4⟩;have HBX:=Lib.hid (Bt HB23.out hB4);clear hB4 HB23;have HB23:=HBX;clear HBX))
         go_ret
         exact ⟨ret_bool' (by rw [HOWN.out];simp [hz1,hz2]),Bt HBW.out HB23.out⟩
      ·go_wp2_with (first
        | (go_at_call 107;refine (HDIM.out _ HBW.out).mono ?_;rintro e3 w3 ⟨rfl,hB3⟩;obtain ⟨g0,g1,g2,g3,g4,g5,f1,f2,f3,f4,f5⟩:=right_cells hB3 HKG.out HK2'.out;have HB23:=Lib.hid hB3;clear hB3)
        | (go_at_call 258;((with_reducible refine (HW.out _).mono ?_);rintro e4 w4 ⟨rfl,hB4⟩;obtain ⟨g0,g1,g2,g3,g4,g5,f1,f2,f3,f4,f5⟩:=right_cells (Bt HB23.out hB4) HKG.out HK2'.out;have HBX:=Lib.hid (Bt HB23.out hB4);clear hB4 HB23;have HB23:=HBX;clear HBX))
        | (go_at_call 258;((with_reducible refine (HL.out _).mono ?_);rintro e4 w4 ⟨rfl,hB4⟩;obtain ⟨g0,g1,g2,g3,g4,g5,f1,f2,f3,f4,f5⟩:=right_cells (Bt HB23.out hB4) HKG.out HK2'.out;have HBX:=Lib.hid (Bt HB23.out hB4);clear hB4 HB23;have HB23:=HBX;clear HBX))
        | (go_at_call 181;refine (HCL.out _ (Bt HBW.out HB23.out)).mono ?_;rintro e4 w4 ⟨rfl,hB4⟩;have HBX:=Lib.hid (Bt HB23.out hB4);clear hB4 HB23;have HB23:=HBX;clear HBX))
       go_ret
       exact ⟨ret_bool' (by rw [HOWN.out];simp [hz2]),Bt HBW.out HB23.out⟩
     ·go_wp2_with (first
       | (go_at_call 107;refine (HDIM.out _ HBW.out).mono ?_;rintro e3 w3 ⟨rfl,hB3⟩;obtain ⟨g0,g1,g2,g3,g4,g5,f1,f2,f3,f4,f5⟩:=right_cells hB3 HKG.out HK2'.out;have HB23:=Lib.hid hB3;clear hB3)
       | (go_at_call 258;((with_reducible refine (HW.out _).mono ?_);rintro e4 w4 ⟨rfl,hB4⟩;obtain ⟨g0,g1,g2,g3,g4,g5,f1,f2,f3,f4,f5⟩:=right_cells (Bt HB23.out hB4) HKG.out HK2'.out;have HBX:=Lib.hid (Bt HB23.out hB4);clear hB4 HB23;have HB23:=HBX;clear HBX))
       | (go_at_call 258;((with_reducible refine (HL.out _).mono ?_);rintro e4 w4 ⟨rfl,hB4⟩;obtain ⟨g0,g1,g2,g3,g4,g5,f1,f2,f3,f4,f5⟩:=right_cells (Bt HB23.out hB4) HKG.out HK2'.out;have HBX:=Lib.hid (Bt HB23.out hB4);clear hB4 HB23;have HB23:=HBX;clear HBX))
       | (go_at_call 181;refine (HCL.out _ (Bt HBW.out HB23.out)).mono ?_;rintro e4 w4 ⟨rfl,hB4⟩;have HBX:=Lib.hid (Bt HB23.out hB4);clear hB4 HB23;have HB23:=HBX;clear HBX))
      go_ret
      exact ⟨ret_bool' (by rw [HOWN.out];simp [hz1]),Bt HBW.out HB23.out⟩
    ·cases b5
     ·go_wp2_with (first
       | (go_at_call 107;refine (HDIM.out _ HBW.out).mono ?_;rintro e3 w3 ⟨rfl,hB3⟩;obtain ⟨g0,g1,g2,g3,g4,g5,f1,f2,f3,f4,f5⟩:=right_cells hB3 HKG.out HK2'.out;have HB23:=Lib.hid hB3;clear hB3)
       | (go_at_call 258;((with_reducible refine (HW.out _).mono ?_);rintro e4 w4 ⟨rfl,hB4⟩;obtain ⟨g0,g1,g2,g3,g4,g5,f1,f2,f3,f4,f5⟩:=right_cells (Bt HB23.out hB4) HKG.out HK2'.out;have HBX:=Lib.hid (Bt HB23.out hB4);clear hB4 HB23;have HB23:=HBX;clear HBX))
       | (go_at_call 258;((with_reducible refine (HL.out _).mono ?_);rintro e4 w4 ⟨rfl,hB4⟩;obtain ⟨g0,g1,g2,g3,g4,g5,f1,f2,f3,f4,f5⟩:=right_cells (Bt HB23.out hB4) HKG.out HK2'.out;have HBX:=Lib.hid (Bt HB23.out hB4);clear hB4 HB23;have HB23:=HBX;clear HBX))
       | (go_at_call 181;refine (HCL.out _ (Bt HBW.out HB23.out)).mono ?_;rintro e4 w4 ⟨rfl,hB4⟩;have HBX:=Lib.hid (Bt HB23.out hB4);clear hB4 HB23;have HB23:=HBX;clear HBX))
      go_ret
      exact ⟨ret_bool' (by rw [HOWN.out];simp),Bt HBW.out HB23.out⟩
     ·cases b6
      ·go_wp2_with (first
        | (go_at_call 107;refine (HDIM.out _ HBW.out).mono ?_;rintro e3 w3 ⟨rfl,hB3⟩;obtain ⟨g0,g1,g2,g3,g4,g5,f1,f2,f3,f4,f5⟩:=right_cells hB3 HKG.out HK2'.out;have HB23:=Lib.hid hB3;clear hB3)
        | (go_at_call 258;((with_reducible refine (HW.out _).mono ?_);rintro e4 w4 ⟨rfl,hB4⟩;obtain ⟨g0,g1,g2,g3,g4,g5,f1,f2,f3,f4,f5⟩:=right_cells (Bt HB23.out hB4) HKG.out HK2'.out;have HBX:=Lib.hid (Bt HB23.out hB4);clear hB4 HB23;have HB23:=HBX;clear HBX))
        | (go_at_call 258;((with_reducible refine (HL.out _).mono ?_);rintro e4 w4 ⟨rfl,hB4⟩;obtain ⟨g0,g1,g2,g3,g4,g5,f1,f2,f3,f4,f5⟩:=right_cells (Bt HB23.out hB4) HKG.out HK2'.out;have HBX:=Lib.hid (Bt HB23.out hB4);clear hB4 HB23;have HB23:=HBX;clear HBX))
        | (go_at_call 181;refine (HCL.out _ (Bt HBW.out HB23.out)).mono ?_;rintro e4 w4 ⟨rfl,hB4⟩;have HBX:=Lib.hid (Bt HB23.out hB4);clear hB4 HB23;have HB23:=HBX;clear HBX))
       go_ret
       exact ⟨ret_bool' (by rw [HOWN.out];simp),Bt HBW.out HB23.out⟩
      ·go_wp2_with (first
        | (go_at_call 107;refine (HDIM.out _ HBW.out).mono ?_;rintro e3 w3 ⟨rfl,hB3⟩;obtain ⟨g0,g1,g2,g3,g4,g5,f1,f2,f3,f4,f5⟩:=right_cells hB3 HKG.out HK2'.out;have HB23:=Lib.hid hB3;clear hB3)
        | (go_at_call 258;((with_reducible refine (HW.out _).mono ?_);rintro e4 w4 ⟨rfl,hB4⟩;obtain ⟨g0,g1,g2,g3,g4,g5,f1,f2,f3,f4,f5⟩:=right_cells (Bt HB23.out hB4) HKG.out HK2'.out;have HBX:=Lib.hid (Bt HB23.out hB4);clear hB4 HB23;have HB23:=HBX;clear HBX))
        | (go_at_call 258;((with_reducible refine (HL.out _).mono ?_);rintro e4 w4 ⟨rfl,hB4⟩;obtain ⟨g0,g1,g2,g3,g4,g5,f1,f2,f3,f4,f5⟩:=right_cells (Bt HB23.out hB4) HKG.out HK2'.out;have HBX:=Lib.hid (Bt HB23.out hB4);clear hB4 HB23;have HB23:=HBX;clear HBX))
        | (go_at_call 181;refine (HCL.out _ (Bt HBW.out HB23.out)).mono ?_;rintro e4 w4 ⟨rfl,hB4⟩;have HBX:=Lib.hid (Bt HB23.out hB4);clear hB4 HB23;have HB23:=HBX;clear HBX))
       go_ret
       exact ⟨ret_bool' (by rw [HOWN.out];simp),Bt HBW.out HB23.out⟩
end Go.Proofs.YtbbgjjjeecfnoaaGreatDoor
