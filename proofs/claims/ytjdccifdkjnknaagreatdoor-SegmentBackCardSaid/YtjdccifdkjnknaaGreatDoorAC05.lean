/- Joined by mergeK.py: FlP, FlO, T5, T7, Rs, FlOI, Fr1 -/
import Derived.Test.YtjdccifdkjnknaaGreatDoorAC01
import Derived.Test.YtjdccifdkjnknaaGreatDoorRows
import Derived.Test.YtjdccifdkjnknaaGreatDoorAC00
import Derived.Test.YtjdccifdkjnknaaGreatDoorAC03
import Derived.Test.YtjdccifdkjnknaaGreatDoorAC02
namespace Go.FlowP
open Go Go.RowKit Go.Flow
def Qn (E:Act→World→Prop):Exit→Act→World→Prop:=fun x a w=>x = .normal∧E a w
theorem nl2 (E:Act→World→Prop):¬ LetsOut (Qn E):=fun ⟨_,_,h,_⟩=>by cases h
section
variable {P:Program} {ops:Array Oper}
theorem upon_weak {o:Oper} {a:Act} {K K':Act→World→Prop} {Q:Exit→Act→World→Prop} {r:Result Next} (hK:∀ b w,K b w→K' b w) (h:o.upon P a K (Qn (Q .normal)) r):o.upon P a K' Q r:=by
 cases r with
 | ok n w'=>
   cases n <;> simp only [Oper.upon] at h ⊢
   case value u=>exact hK _ _ h
   case skip=>exact hK _ _ h
   case defer d=>exact hK _ _ h
   case enter f args=>
    refine Calls.mono h fun e w'' he => ?_
    cases e with
    | returned u=>exact hK _ _ he
    | panicked c=>exact (by cases he.1)
    | outgrown=>exact (nl2 _ he).elim
   case row=>exact Rows.mono h fun u w'' he=>hK _ _ he
 | halt x w'=>
   cases x <;> simp only [Oper.upon] at h ⊢
   case panic=>exact (by cases h.1)
theorem wAw {Q:Exit→Act→World→Prop}:∀ (fuel:Nat) (listed:Array Bool) (a:Act) (w:World),wpAny P .any ops (Qn (Q .normal)) fuel listed a w→wpAny P .any ops Q fuel listed a w
 | 0,_,_,_,h=>⟨h.1,h.2.2⟩
 | fuel + 1,listed,a,w,h=>by
   refine ⟨fun h0=>(h.1 h0).2,fun i hi => ?_⟩
   have h1:=h.2 i hi
   unfold wpOp at h1 ⊢
   split
   ·rename_i ho
    simp only [ho] at h1
    exact wAw fuel _ _ _ h1
   ·rename_i o ho
    simp only [ho] at h1
    split
    ·rename_i hw
     simp only [hw,if_true] at h1
     rcases h1 with h1 | h1
     ·exact .inl (upon_weak (fun b w hb=>wAw fuel _ _ _ hb) h1)
     ·exact (nl2 _ h1.2).elim
    ·rename_i hw
     simp only [hw] at h1
     exact wAw fuel _ _ _ h1
theorem wpAny_pure {E:Act→World→Prop} {i:Nat} {oi:Oper} {v:Value} (hi:ops[i]? = some oi) (hsel:∀ (j:Nat) (o:Oper) cs b,ops[j]? = some o→o.op ≠ .select cs b) :
  ∀ (fuel:Nat) (listed:Array Bool) (a:Act) (w:World),
    (∀ j oj,ops[j]? = some oj→j≠i→listed.getD j true=false→(∀ e ∈ oj.after,Region.binds .any e=true→e.on≠i)→oi.apart ops oj=true) →
    i ∈ Region.ready .any ops listed→Region.wanted oi (yielded ops a.tmps)=true→(∀ w,(execOp a.eval oi).run P w = .ok (.value v) w) →
    wpAny P .any ops (Qn E) fuel (listed.setIfInBounds i true) (a.put oi.dst v) w→wpAny P .any ops (Qn E) (fuel + 1) listed a w:=by
 intro fuel
 induction fuel with
 | zero=>
   intro listed a w _ hr hw hp H
   refine ⟨fun h=>(by rw [h] at hr;cases hr),fun j hj => ?_⟩
   by_cases hji:j=i
   ·subst hji
    unfold wpOp;simp only [hi,hw,if_true]
    refine .inl ?_
    unfold Oper.wp;rw [hp];exact H
   ·have:=ready_mono hj hji
    rw [H.1] at this
    cases this
 | succ fuel ih=>
   intro listed a w Ab hr hw hp H
   refine ⟨fun h=>(by rw [h] at hr;cases hr),fun j hj => ?_⟩
   by_cases hji:j=i
   ·subst hji
    unfold wpOp;simp only [hi,hw,if_true]
    refine .inl ?_
    unfold Oper.wp;rw [hp];exact H
   ·obtain ⟨Ad,oj,Ag,Ae⟩:=mem_ready.1 hj
    have Af:=(mem_ready.1 hr).1
    have Ak:∀ k,listed.getD k true=false→listed.getD k false=true→False:=fun k h1 h0=>by rw [getD_both h1] at h0;cases h0
    have Ah:∀ e ∈ oj.after,Region.binds .any e=true→e.on≠i:=fun e he hb heq=>Ak i Af (by rw [← heq];exact Ae e he hb)
    have Al:=Ab j oj Ag hji Ad Ah
    obtain ⟨h1,h2,h3⟩:=Oper.apart_spec Al
    have Ac:∀ k ok,ops[k]? = some ok→k≠i→(listed.setIfInBounds j true).getD k true=false →
      (∀ e ∈ ok.after,Region.binds .any e=true→e.on≠i)→oi.apart ops ok=true:=fun k ok hk hki hun hno=>by
     refine Ab k ok hk hki ?_ hno
     by_cases hjk:j=k
     ·subst hjk;exact Ad
     ·rw [getD_set_ne true hjk] at hun;exact hun
    have Hj:=H.2 j (ready_mono hj hji)
    unfold wpOp at Hj ⊢
    simp only [Ag] at Hj ⊢
    rw [wanted_put oj a oi.dst v h1] at Hj
    have step:∀ (b:Act) (u:Value) (w':World),Region.wanted oi (yielded ops b.tmps)=true→(∀ w,(execOp b.eval oi).run P w = .ok (.value v) w)→wpAny P .any ops (Qn E) fuel ((listed.setIfInBounds i true).setIfInBounds j true) (b.put oi.dst v) w'→wpAny P .any ops (Qn E) (fuel + 1) (listed.setIfInBounds j true) b w':=fun b u w' hw hp H=>by
     refine ih (listed.setIfInBounds j true) b w' Ac (ready_mono hr (Ne.symm hji)) hw hp ?_
     rw [Array.setIfInBounds_comm _ _ hji]
     exact H
    split
    ·rename_i hwj
     simp only [hwj,if_true] at Hj
     rcases Hj with Hj | Hj
     ·refine .inl ?_
      unfold Oper.wp at Hj ⊢
      rw [execOp_put oj (fun cs b=>hsel j oj cs b Ag) a oi.dst v h1] at Hj
      generalize (execOp a.eval oj).run P w=r at Hj ⊢
      have Aj:∀ u,Region.wanted oi (yielded ops (a.put oj.dst u).tmps)=true:=fun u=>by rw [wanted_put oi a oj.dst u h3];exact hw
      have Ai:∀ u w,(execOp (a.put oj.dst u).eval oi).run P w = .ok (.value v) w:=fun u w=>by rw [execOp_put oi (fun cs b=>hsel i oi cs b hi) a oj.dst u h3];exact hp w
      have Aa:∀ u w',wpAny P .any ops (Qn E) fuel ((listed.setIfInBounds i true).setIfInBounds j true) ((a.put oi.dst v).put oj.dst u) w'→wpAny P .any ops (Qn E) (fuel + 1) (listed.setIfInBounds j true) (a.put oj.dst u) w':=fun u w' h=>
       step _ u w' (Aj u) (Ai u) (by rw [← Act.put_comm a v u h2];exact h)
      cases r with
      | ok n w'=>
        cases n <;> simp only [Oper.upon] at Hj ⊢
        case value u=>exact Aa _ _ Hj
        case skip=>exact Aa _ _ Hj
        case defer d=>
         have e1:(({ a with defers:=d :: a.defers }:Act).put oj.dst undef).tmps=(a.put oj.dst undef).tmps:=by cases oj.dst <;> rfl
         have e2:(({ a with defers:=d :: a.defers }:Act).put oj.dst undef).eval=(a.put oj.dst undef).eval:=by funext x;cases oj.dst <;> cases x <;> rfl
         refine step _ undef w' (by rw [e1];exact Aj undef) (fun w=>by rw [e2];exact Ai undef w) ?_
         rw [← Act.put_comm _ v undef h2]
         have:(({ a with defers:=d :: a.defers }:Act).put oi.dst v) = { (a.put oi.dst v) with defers:=d :: (a.put oi.dst v).defers }:=by cases oi.dst <;> rfl
         rw [this]
         exact Hj
        case enter f args=>
         refine Calls.mono Hj fun e w'' he => ?_
         cases e with
         | returned u=>exact Aa _ _ he
         | panicked c=>exact (by cases he.1)
         | outgrown=>exact (nl2 E he).elim
        case row=>exact Rows.mono Hj fun u w'' he=>Aa _ _ he
      | halt x w'=>
        cases x <;> simp only [Oper.upon] at Hj ⊢
        case panic=>exact (by cases Hj.1)
     ·exact (nl2 _ Hj.2).elim
    ·rename_i hwj
     simp only [hwj] at Hj
     refine step _ undef w ?_ ?_ (by rw [← Act.put_comm a v undef h2];exact Hj)
     ·rw [wanted_put oi a oj.dst undef h3];exact hw
     ·intro w
      rw [execOp_put oi (fun cs b=>hsel i oi cs b hi) a oj.dst undef h3];exact hp w
def seqL (ops:Array Oper):List Nat→Array Bool→Bool
 | [],listed=>(Region.ready .any ops listed).isEmpty
 | k :: ks,listed=>decide (Region.ready .any ops listed=[k]) && seqL ops ks (listed.setIfInBounds k true)
theorem wAo3 {Q:Exit→Act→World→Prop}:∀ (ks:List Nat) (l:List Oper) (listed:Array Bool) (a:Act) (w:World),ks.map (fun k=>ops[k]?)=l.map some→seqL ops ks listed=true→wpList P ops Q l a w→wpAny P .any ops Q ks.length listed a w
 | [],l,_,_,_,hl,hB,h=>by
   have:l=[]:=by cases l with
    | nil=>rfl
    | cons=>cases hl
   subst this
   exact ⟨by simpa [seqL] using hB,h⟩
 | k :: ks,[],_,_,_,hl,_,_=>by cases hl
 | k :: ks,o :: l,listed,a,w,hl,hB,h=>by
   simp only [List.map_cons,List.cons.injEq] at hl
   simp only [seqL,Bool.and_eq_true,decide_eq_true_eq] at hB
   refine ⟨fun h1=>(by rw [hB.1] at h1;cases h1),fun i hi => ?_⟩
   rw [hB.1] at hi
   have Aa:i=k:=by simpa using hi
   subst Aa
   have hw:wpOp P ops Q i (wpList P ops Q l) a w:=by unfold wpOp;simp only [hl.1];exact h
   exact wpOp_mono (fun a' w' h'=>wAo3 ks l _ a' w' hl.2 hB.2 h') hw
theorem seqL_ready {ks:List Nat} {n:Nat} {listed:Array Bool} (hn:∀ k ∈ ks,n≤k) (h:seqL ops ks listed=true):∀ j ∈ Region.ready .any ops listed,n≤j:=by
 cases ks with
 | nil=>intro j hj;simp only [seqL,List.isEmpty_iff] at h;rw [h] at hj;cases hj
 | cons k ks=>
   intro j hj
   simp only [seqL,Bool.and_eq_true,decide_eq_true_eq] at h
   rw [h.1] at hj
   have:j=k:=by simpa using hj
   subst this
   exact hn _ (List.mem_cons_self ..)
def sinkT (ops:Array Oper) (n t1:Nat):Bool:=(List.range n).all fun i=>(t1 :: List.range n).any fun j=>decide (i < j) && Region.waitsFor .any ops j i
def cT3 (ops:Array Oper) (t1:Nat) (ks:List Nat):Bool:=ks.all fun t=>t == t1 || ks.any fun p=>Region.waitsFor .any ops t p
structure HInv (ops:Array Oper) (n:Nat) (ks:List Nat) (listed:Array Bool):Prop where
 size:listed.size=ops.size
 closed:∀ j oj,ops[j]? = some oj→listed.getD j false=true→∀ e ∈ oj.after,Region.binds .any e=true→listed.getD e.on false=true
 tail:∀ t ∈ ks,listed.getD t true=false
 rest:∀ j,n≤j→j < ops.size→j ∉ ks→listed.getD j true=true
theorem HInv.set {n i:Nat} {ks:List Nat} {listed:Array Bool} (inv:HInv ops n ks listed) (hi:i ∈ Region.ready .any ops listed) (hin:i ∉ ks):HInv ops n ks (listed.setIfInBounds i true):=by
 obtain ⟨Ac,oi,Ab,Aa⟩:=mem_ready.1 hi
 refine ⟨by simp [inv.size],fun j oj hj hl e he hb => ?_,fun t ht=>by rw [getD_set_ne true (fun e=>hin (by rw [e];exact ht))];exact inv.tail t ht,fun j h1 h2 h3 => ?_⟩
 ·by_cases hij:i=j
  ·subst hij
   have:oj=oi:=Option.some.inj (hj.symm.trans Ab)
   subst this
   exact getD_set_true (Aa e he hb)
  ·rw [getD_set_ne false hij] at hl
   exact getD_set_true (inv.closed j oj hj hl e he hb)
 ·by_cases hij:i=j
  ·subst hij
   have:=inv.rest i h1 h2 h3
   rw [Ac] at this
   cases this
  ·rw [getD_set_ne true hij];exact inv.rest j h1 h2 h3
theorem waits {n t1:Nat} {ks:List Nat} {listed:Array Bool} (hs:sinkT ops n t1=true) (hc:cT3 ops t1 ks=true) (inv:HInv ops n ks listed) :
  ∀ (d i:Nat),n - i=d→i < n→listed.getD i true=false→∀ t,n≤t→t ∉ Region.ready .any ops listed:=by
 intro d
 induction d using Nat.strongRecOn with
 | _ d ih=>
   intro i hd hi Ag t ht hr
   obtain ⟨Ae,ot,Ac,Aa⟩:=mem_ready.1 hr
   have Ad:t < ops.size:=(Array.getElem?_eq_some_iff.1 Ac).1
   by_cases htk:t ∈ ks
   ·have h1:=List.all_eq_true.1 hc t htk
    simp only [Bool.or_eq_true,beq_iff_eq] at h1
    rcases h1 with h1 | h1
    ·subst h1
     have h1:=List.all_eq_true.1 hs i (List.mem_range.2 hi)
     obtain ⟨j,hj,Ah⟩:=List.any_eq_true.1 h1
     simp only [Bool.and_eq_true,decide_eq_true_eq] at Ah
     obtain ⟨oj,Af,e,he,hb,Ab⟩:=Region.waitsFor_spec Ah.2
     rcases List.mem_cons.1 hj with rfl | hj
     ·have:oj=ot:=Option.some.inj (Af.symm.trans Ac)
      subst this
      have h2:=Aa e he hb
      rw [Ab,getD_both Ag] at h2
      cases h2
     ·have Aj:j < n:=List.mem_range.1 hj
      cases hl:listed.getD j false with
      | true=>
        have h2:=inv.closed j oj Af hl e he hb
        rw [Ab,getD_both Ag] at h2
        cases h2
      | false=>
        have Ai:j < listed.size:=by rw [inv.size];omega
        exact ih (n - j) (by omega) j rfl Aj (getD_in Ai hl) t ht hr
    ·obtain ⟨p,hp,hw⟩:=List.any_eq_true.1 h1
     obtain ⟨o',Ak,e,he,hb,Ab⟩:=Region.waitsFor_spec hw
     have:o'=ot:=Option.some.inj (Ak.symm.trans Ac)
     subst this
     have h2:=Aa e he hb
     rw [Ab,getD_both (inv.tail p hp)] at h2
     cases h2
   ·have:=inv.rest t ht Ad htk
    rw [Ae] at this
    cases this
theorem aFf {S:Nat→Flow.Spec} {w0:World} {n t1 i:Nat} {ks:List Nat} {oi:Oper} {L:Array Bool→Act→(Nat→World→Prop)→Prop} (hi:ops[i]? = some oi) (hsel:∀ (j:Nat) (o:Oper) cs b,ops[j]? = some o→o.op ≠ .select cs b)
  (hs:sinkT ops n t1=true) (hc:cT3 ops t1 ks=true) (hin:i < n) (hks:∀ k ∈ ks,n≤k)
  (hdone:∀ listed a Γ,L listed a Γ→∀ j ∈ Region.ready .any ops listed,n≤j) :
  ∀ (f:Nat) (listed:Array Bool) (a:Act) (Γ:Nat→World→Prop),HInv ops n ks listed →
    (∀ j oj,ops[j]? = some oj→j≠i→listed.getD j true=false→(∀ e ∈ oj.after,Region.binds .any e=true→e.on≠i)→oi.apart ops oj=true) →
    i ∈ Region.ready .any ops listed→Ru P ops w0 oi (S i) a Γ →
    (∀ v,(S i).ok v→aF P ops S w0 n L f (listed.setIfInBounds i true) (a.put oi.dst v) (upd Γ i ((S i).holds v)))→aF P ops S w0 n L (f + 1) listed a Γ:=by
 have Ap:∃ v,(S i).ok v:=by
  cases hs:S i with
  | inl u=>exact ⟨u,rfl⟩
  | inr V=>exact ⟨undef,trivial⟩
 obtain ⟨v0,Am⟩:=Ap
 intro f
 induction f with
 | zero=>
   intro listed a Γ Ah _ hr hy H
   have Ab:=(mem_ready.1 hr).1
   refine ⟨fun h=>(by rw [h] at hr;cases hr),fun j hj => ?_⟩
   have Ak:j < n:=by
    rcases Nat.lt_or_ge j n with h | h
    ·exact h
    ·exact absurd hj (waits hs hc Ah _ i rfl hin Ab j h)
   refine ⟨Ak,?_⟩
   by_cases hji:j=i
   ·subst hji
    unfold fOp;simp only [hi];exact ⟨hy,H⟩
   ·have:=hdone _ _ _ (H v0 Am) j (ready_mono hj hji)
    omega
 | succ f ih=>
   intro listed a Γ Ah Aa hr hy H
   have Ab:=(mem_ready.1 hr).1
   refine ⟨fun h=>(by rw [h] at hr;cases hr),fun j hj => ?_⟩
   have Ak:j < n:=by
    rcases Nat.lt_or_ge j n with h | h
    ·exact h
    ·exact absurd hj (waits hs hc Ah _ i rfl hin Ab j h)
   refine ⟨Ak,?_⟩
   by_cases hji:j=i
   ·subst hji
    unfold fOp;simp only [hi];exact ⟨hy,H⟩
   ·obtain ⟨Ad,oj,Ai,Aj⟩:=mem_ready.1 hj
    have Al:∀ k,listed.getD k true=false→listed.getD k false=true→False:=fun k h1 h0=>by rw [getD_both h1] at h0;cases h0
    have Af:∀ e ∈ oj.after,Region.binds .any e=true→e.on≠i:=fun e he hb heq=>Al i Ab (by rw [← heq];exact Aj e he hb)
    have Ag:∀ e ∈ oi.after,Region.binds .any e=true→e.on≠j:=fun e he hb heq=>by
     obtain ⟨_,o',An,Ae⟩:=mem_ready.1 hr
     rw [hi] at An;cases An
     exact Al j Ad (by rw [← heq];exact Ae e he hb)
    have Ao:=Aa j oj Ai hji Ad Af
    obtain ⟨h1,h2,h3⟩:=Oper.apart_spec Ao
    have Ac:∀ k ok,ops[k]? = some ok→k≠i→(listed.setIfInBounds j true).getD k true=false →
      (∀ e ∈ ok.after,Region.binds .any e=true→e.on≠i)→oi.apart ops ok=true:=fun k ok hk hki Ab hno=>by
     refine Aa k ok hk hki ?_ hno
     by_cases hjk:j=k
     ·subst hjk;exact Ad
     ·rw [getD_set_ne true hjk] at Ab;exact Ab
    have Hj:∀ v,(S i).ok v→Ru P ops w0 oj (S j) (a.put oi.dst v) (upd Γ i ((S i).holds v))∧∀ u,(S j).ok u →
      aF P ops S w0 n L f ((listed.setIfInBounds i true).setIfInBounds j true) ((a.put oi.dst v).put oj.dst u) (upd (upd Γ i ((S i).holds v)) j ((S j).holds u)):=fun v hv=>by
     have:=((H v hv).2 j (ready_mono hj hji)).2
     unfold fOp at this
     simpa only [Ai] using this
    unfold fOp
    simp only [Ai]
    refine ⟨(Hj v0 Am).1.of_same (execOp_put oj (fun cs b=>hsel j oj cs b Ai) a oi.dst v0 h1).symm (wanted_put oj a oi.dst v0 h1).symm (fun k hk => ?_),fun u hu => ?_⟩
    ·exact (upd_ne (nd2 Af hk)).symm
    ·refine ih (listed.setIfInBounds j true) _ _ (Ah.set hj (fun hk=>by have:=hks j hk;omega)) Ac (ready_mono hr (Ne.symm hji)) ?_ (fun v hv => ?_)
     ·exact hy.of_same (execOp_put oi (fun cs b=>hsel i oi cs b hi) a oj.dst u h3) (wanted_put oi a oj.dst u h3) (fun k hk=>upd_ne (nd2 Ag hk))
     ·have:=(Hj v hv).2 u hu
      rw [Array.setIfInBounds_comm _ _ hji,← Act.put_comm a v u h2,← uc2 hji]
      exact this
def lHT (ops:Array Oper) (ks:List Nat):Nat→Nat→Array Bool→Bool
 | 0,_,listed=>seqL ops ks listed
 | f + 1,k,listed=>(Region.ready .any ops listed).contains k && Region.free .any ops listed k && lHT ops ks f (k + 1) (listed.setIfInBounds k true)
theorem aFl {S:Nat→Flow.Spec} {w0:World} {n t1:Nat} {ks:List Nat} {Lq:Act→(Nat→World→Prop)→Prop} (hsel:Region.noSelect ops=true) (hs:sinkT ops n t1=true) (hc:cT3 ops t1 ks=true) (hks:∀ k ∈ ks,n≤k) :
  ∀ (l:List Oper) (k:Nat) (listed:Array Bool) (a:Act) (Γ:Nat→World→Prop),(∀ j,j < l.length→l[j]? = ops[k + j]?)→k + l.length=n→HInv ops n ks listed →
  lHT ops ks l.length k listed=true→Tree P ops S w0 Lq l k a Γ →
  aF P ops S w0 n (fun listed' a' Γ'=>seqL ops ks listed'=true∧Lq a' Γ') l.length listed a Γ
 | [],k,listed,a,Γ,_,hk,_,hB,h=>⟨by simpa [lHT] using hB,h⟩
 | o :: l,k,listed,a,Γ,hl,hk,inv,hB,h=>by
   have h0:ops[k]? = some o:=by simpa using (hl 0 (by simp)).symm
   simp only [List.length_cons,lHT,Bool.and_eq_true] at hB
   obtain ⟨⟨hr,hf⟩,Ac⟩:=hB
   have Ab:k < n:=by simp only [List.length_cons] at hk;omega
   have Aa:k ∈ Region.ready .any ops listed:=by simpa using hr
   exact aFf h0 (Region.noSelect_spec hsel) hs hc Ab hks (fun listed' a' Γ' hL=>seqL_ready hks hL.1) l.length listed a Γ inv (Region.free_spec h0 hf) Aa h.1
    (fun v hv=>aFl hsel hs hc hks l (k + 1) _ _ _ (fun j hj=>by have:=hl (j + 1) (by simp;omega);simpa [Nat.add_assoc,Nat.add_comm 1 j] using this) (by simp only [List.length_cons] at hk;omega) (inv.set Aa (fun hk=>by have:=hks k hk;omega)) Ac (h.2 v hv))
def pO (ops:Array Oper):List Nat→Array Bool→Bool
 | [],_=>true
 | p :: ps,listed=>(Region.ready .any ops listed).contains p && Region.free .any ops listed p && pO ops ps (listed.setIfInBounds p true)
def after (ps:List Nat) (listed:Array Bool):Array Bool:=ps.foldl (fun l p=>l.setIfInBounds p true) listed
def Pure (P:Program) (ops:Array Oper):List Nat→(Act→Prop)→Act→Prop
 | [],K,a=>K a
 | p :: ps,K,a => ∃ o v,ops[p]? = some o∧Region.wanted o (yielded ops a.tmps)=true∧(∀ w,(execOp a.eval o).run P w = .ok (.value v) w)∧Pure P ops ps K (a.put o.dst v)
theorem wAp {E:Act→World→Prop} {fuel:Nat} {w:World} (hsel:Region.noSelect ops=true):∀ (ps:List Nat) (listed:Array Bool) (a:Act),pO ops ps listed=true →
  Pure P ops ps (fun a'=>wpAny P .any ops (Qn E) fuel (after ps listed) a' w) a→wpAny P .any ops (Qn E) (fuel + ps.length) listed a w
 | [],_,_,_,h=>h
 | p :: ps,listed,a,hB,h=>by
   simp only [pO,Bool.and_eq_true] at hB
   obtain ⟨⟨hr,hf⟩,hB'⟩:=hB
   obtain ⟨o,v,ho,hw,hp,hK⟩:=h
   have:=wAp hsel ps (listed.setIfInBounds p true) (a.put o.dst v) hB' hK
   exact wpAny_pure ho (Region.noSelect_spec hsel) (fuel + ps.length) listed a w (Region.free_spec ho hf) (by simpa using hr) hw hp this
theorem pm {K K':Act→Prop} (h:∀ a,K a→K' a):∀ (ps:List Nat) (a:Act),Pure P ops ps K a→Pure P ops ps K' a
 | [],_,hh=>h _ hh
 | _ :: ps,_,⟨o,v,h1,h2,h3,h4⟩=>⟨o,v,h1,h2,h3,pm h ps _ h4⟩
def okB (ops:Array Oper) (n t1:Nat) (ps ks:List Nat):Bool:=
 Region.noSelect ops && decide (n≤ops.size) && sinkT ops n t1 && cT3 ops t1 ks && (ks.all fun k=>decide (n≤k)) && (ks.all fun k=>decide (k < ops.size)) && pO ops ps (Array.replicate ops.size false) && lHT ops ks n 0 (after ps (Array.replicate ops.size false)) &&
  (ps.length + n + ks.length == ops.size) && ((List.range ops.size).all fun j=>decide (j < n) || ks.contains j || (after ps (Array.replicate ops.size false)).getD j true) && (ks.all fun k => !(after ps (Array.replicate ops.size false)).getD k true) &&
  ((after ps (Array.replicate ops.size false)).size == ops.size) &&
  ((List.range ops.size).all fun j => !(after ps (Array.replicate ops.size false)).getD j false || match ops[j]? with
    | some oj=>oj.after.all fun e => !Region.binds .any e || (after ps (Array.replicate ops.size false)).getD e.on false
    | none=>true)
def pick (l:List Oper) (ks:List Nat):List Oper:=ks.flatMap fun k=>(l.drop k).take 1
theorem pm2 (l:List Oper):∀ (ks:List Nat),(∀ k ∈ ks,k < l.length)→ks.map (fun k=>l.toArray[k]?)=(pick l ks).map some
 | [],_=>rfl
 | k :: ks,h=>by
   have hk:=h k (List.mem_cons_self ..)
   have ih:=pm2 l ks (fun j hj=>h j (List.mem_cons_of_mem _ hj))
   have e:(l.drop k).take 1=[l[k]]:=by rw [List.drop_eq_getElem_cons hk];rfl
   simp only [pick,List.flatMap_cons,List.map_cons,List.map_append,e,List.map_nil] at ih ⊢
   rw [ih]
   simp [hk]
theorem wp_region {id:Nat} {Q:Exit→Act→World→Prop} {a:Act} {w:World} {l:List Oper} (n t1:Nat) (ps ks:List Nat) (S:Nat→Flow.Spec) (hm:P.follows .mixedOrders=true) (hB:okB l.toArray n t1 ps ks=true) (hS:∀ i,(S i).mono)
  (h:Pure P l.toArray ps (fun a0=>Tree P l.toArray S w (fun a' Γ => ∀ w',Below w.heap.size w w'→(∀ j,Γ j w')→wpList P l.toArray (Qn (Q .normal)) (pick l ks) a' w') (l.take n) 0 a0 (fun _ _=>True)) a):(Code.region id l.toArray true).wp P Q a w:=by
 simp only [okB,Bool.and_eq_true,decide_eq_true_eq,beq_iff_eq,List.all_eq_true,Bool.or_eq_true,List.mem_range,Bool.not_eq_true'] at hB
 obtain ⟨⟨⟨⟨⟨⟨⟨⟨⟨⟨⟨⟨Ab,hn⟩,hs⟩,hc⟩,Al⟩,Ag⟩,Ai⟩,Ae⟩,Ak⟩,Aa⟩,Ac⟩,Ah⟩,Am⟩:=hB
 have An:n≤l.length:=by simpa using hn
 have Ad:(l.take n).length=n:=by simp;omega
 have Af:HInv l.toArray n ks (after ps (Array.replicate l.toArray.size false)):=by
  refine ⟨Ah,fun j oj hj hl e he hb => ?_,Ac,fun j h1 h2 h3 => ?_⟩
  ·rcases Am j (Array.getElem?_eq_some_iff.1 hj).1 with h | h
   ·rw [hl] at h;cases h
   ·simp only [hj] at h
    have:=Array.all_eq_true'.1 h e he
    simp only [Bool.or_eq_true,Bool.not_eq_true'] at this
    rcases this with h | h
    ·rw [hb] at h;cases h
    ·exact h
  ·rcases Aa j h2 with (h | h) | h
   ·exact absurd h (by omega)
   ·exact absurd (by simpa using h) h3
   ·exact h
 refine wp_region_any hm (wAw _ _ _ _ ?_)
 have H:=wAp (P:=P) (E:=Q .normal) (fuel:=n + ks.length) (w:={ w with drawn:=w.drawn + 1 }) Ab ps (Array.replicate l.toArray.size false) a Ai (pm (fun a0 h0=>by
  have H:=aFl Ab hs hc Al (l.take n) 0 _ a0 (fun _ _=>True) (fun j hj=>by
   have Aj:j < n:=by rw [Ad] at hj;exact hj
   simp [Aj]) (by simpa using Ad) Af (by rw [Ad];exact Ae) h0
  have:=wAo (Q:=Qn (Q .normal)) (g:=ks.length) hS (fun listed a' Γ' w' hL hb hG=>wAo3 ks (pick l ks) listed a' w' (pm2 l ks (fun k hk=>by simpa using Ag k hk)) hL.1 (hL.2 w' hb hG)) _ _ _ _ { w with drawn:=w.drawn + 1 } H ((Below.refl _ _).drew) (fun _=>trivial) (fun _ _ _ _ _=>trivial)
  rw [Ad] at this
  exact this) ps a h)
 rw [show n + ks.length + ps.length=l.toArray.size by omega] at H
 exact H
end
end Go.FlowP
namespace Go.FlowO
open Go Go.RowKit Go.FlowP
section
variable {P:Program} {ops:Array Oper}
theorem upon_qn {o:Oper} {a:Act} {K:Act→World→Prop} {E E':Act→World→Prop} {r:Result Next} (h:o.upon P a K (Qn E) r):o.upon P a K (Qn E') r:=by
 cases r with
 | ok n w'=>
   cases n <;> simp only [Oper.upon] at h ⊢
   case value u=>exact h
   case skip=>exact h
   case defer d=>exact h
   case enter f args=>
    refine Calls.mono h fun e w'' he => ?_
    cases e with
    | returned u=>exact he
    | panicked c=>exact (by cases he.1)
    | outgrown=>exact (nl2 _ he).elim
   case row=>exact h
 | halt x w'=>
   cases x <;> simp only [Oper.upon] at h ⊢
   case panic=>exact (by cases h.1)
theorem one {E:Act→World→Prop} {f i:Nat} {oi:Oper} {listed:Array Bool} {a:Act} {w:World} (hi:ops[i]? = some oi) (h:wpList P ops (Qn fun a' w'=>wpAny P .any ops (Qn E) f (listed.setIfInBounds i true) a' w') [oi] a w):wpOp P ops (Qn E) i (wpAny P .any ops (Qn E) f (listed.setIfInBounds i true)) a w:=by
 unfold wpOp
 rw [hi]
 simp only [wpList] at h
 simp only
 split at h
 ·rename_i hw
  rw [if_pos hw]
  rcases h with h | h
  ·left
   unfold Oper.wp at h ⊢
   have h2:=upon_qn (E':=E) h
   have e:(fun a' w'=>Qn (fun a' w'=>wpAny P .any ops (Qn E) f (listed.setIfInBounds i true) a' w') Exit.normal a' w')=wpAny P .any ops (Qn E) f (listed.setIfInBounds i true):=by
    funext a' w'
    exact propext ⟨fun h=>h.2,fun h=>⟨rfl,h⟩⟩
   rw [← e]
   exact h2
  ·exact (nl2 _ h.2).elim
 ·rename_i hw
  rw [if_neg hw]
  exact h.2
theorem two {E:Act→World→Prop} {f:Nat} (i j:Nat) {oi oj:Oper} {listed:Array Bool} {a:Act} {w:World} (hr:Region.ready .any ops listed=[i,j]) (hi:ops[i]? = some oi) (hj:ops[j]? = some oj)
  (h1:wpList P ops (Qn fun a' w'=>wpAny P .any ops (Qn E) f (listed.setIfInBounds i true) a' w') [oi] a w) (h2:wpList P ops (Qn fun a' w'=>wpAny P .any ops (Qn E) f (listed.setIfInBounds j true) a' w') [oj] a w):wpAny P .any ops (Qn E) (f + 1) listed a w:=by
 refine ⟨fun h=>(by rw [hr] at h;cases h),fun k hk => ?_⟩
 rw [hr] at hk
 simp only [List.mem_cons,List.not_mem_nil,or_false] at hk
 rcases hk with rfl | rfl
 ·exact one hi h1
 ·exact one hj h2
theorem single {E:Act→World→Prop} {f:Nat} (i:Nat) {oi:Oper} {listed:Array Bool} {a:Act} {w:World} (hr:Region.ready .any ops listed=[i]) (hi:ops[i]? = some oi) (h:wpList P ops (Qn fun a' w'=>wpAny P .any ops (Qn E) f (listed.setIfInBounds i true) a' w') [oi] a w):wpAny P .any ops (Qn E) (f + 1) listed a w:=by
 refine ⟨fun h=>(by rw [hr] at h;cases h),fun k hk => ?_⟩
 rw [hr] at hk
 rw [List.mem_singleton.1 hk]
 exact one hi h
theorem pures {E:Act→World→Prop} {l:List Oper} (ps:List Nat) (f:Nat) {listed:Array Bool} {a:Act} {w:World} (hB:(Region.noSelect l.toArray && pO l.toArray ps listed)=true) (h:Pure P l.toArray ps (fun a'=>wpAny P .any l.toArray (Qn E) f (after ps listed) a' w) a):wpAny P .any l.toArray (Qn E) (f + ps.length) listed a w:=by
 simp only [Bool.and_eq_true] at hB
 exact wAp hB.1 ps listed a hB.2 h
theorem seq {E:Act→World→Prop} {l:List Oper} (ks:List Nat) {listed:Array Bool} {a:Act} {w:World} (hB:seqL l.toArray ks listed=true) (hk:(ks.all fun k=>decide (k < l.length))=true) (h:wpList P l.toArray (Qn E) (pick l ks) a w):wpAny P .any l.toArray (Qn E) ks.length listed a w:=
 wAo3 ks (pick l ks) listed a w (pm2 l ks (fun k hk'=>by simpa using List.all_eq_true.1 hk k hk')) hB h
theorem wp_region {id:Nat} {Q:Exit→Act→World→Prop} {a:Act} {w:World} {l:List Oper} (ps:List Nat) (f:Nat) (hm:P.follows .mixedOrders=true) (hB:(Region.noSelect l.toArray && pO l.toArray ps (Array.replicate l.length false) && (f + ps.length == l.length))=true)
  (h:Pure P l.toArray ps (fun a' => ∀ w',Below w.heap.size w w'→w'.heap=w.heap→wpAny P .any l.toArray (Qn (Q .normal)) f (after ps (Array.replicate l.length false)) a' w') a):(Code.region id l.toArray true).wp P Q a w:=by
 simp only [Bool.and_eq_true,beq_iff_eq] at hB
 obtain ⟨⟨Aa,Ac⟩,Ab⟩:=hB
 refine wp_region_any hm (wAw _ _ _ _ ?_)
 have H:=wAp (P:=P) (E:=Q .normal) (fuel:=f) (w:={ w with drawn:=w.drawn + 1 }) Aa ps (Array.replicate l.length false) a Ac (pm (fun a' h'=>h' _ (Below.refl _ _).drew rfl) ps a h)
 rw [Ab] at H
 have e:l.toArray.size=l.length:=by simp
 rw [e]
 exact H
end
end Go.FlowO
namespace Go
theorem shl_u64 (n k:Nat) (h:n * 2 ^ k < 18446744073709551616):IntKind.u64.wrap ((n:Int) * 2 ^ k)=((n * 2 ^ k:Nat):Int):=by
 rw [wrap_u64,show ((n:Int) * 2 ^ k)=((n * 2 ^ k:Nat):Int) by simp]
 omega
theorem or_add (n k x:Nat) (hx:x < 2 ^ k) (h:n * 2 ^ k + x < 18446744073709551616):bits .or .u64 ((n * 2 ^ k:Nat):Int) (x:Int)=((n * 2 ^ k + x:Nat):Int):=by
 rw [bits_or_u64_nat _ _ (by omega) (by omega),← Nat.shiftLeft_eq,Nat.shiftLeft_add_eq_or_of_lt hx]
theorem and_mod (n k:Nat) (hk:2 ^ k≤18446744073709551616) (h:n < 18446744073709551616):bits .and .u64 (n:Int) ((2 ^ k - 1:Nat):Int)=((n % 2 ^ k:Nat):Int):=by
 rw [u64_and_nat _ _ h (by omega),Nat.and_two_pow_sub_one_eq_mod]
end Go
namespace Go.Proofs.YtjdccifdkjnknaaGreatDoor
open Go.RowKit Go.Sort
abbrev Dg (b T n c:Nat) (x:Value) (w:World):Prop:=w.heap[b]? = some (.cells #[.int .u64 n,.int .i64 c,x] T (0,0))
theorem Dg.cells {b T n c:Nat} {x:Value} {w:World} (h:Dg b T n c x w):(w.cell? ⟨b,0,none⟩=some (.int .u64 n)∧w.cell? ⟨b,1,none⟩=some (.int .i64 c)∧w.cell? ⟨b,2,none⟩=some x)∧(w.frozen? ⟨b,0,none⟩=false∧w.frozen? ⟨b,1,none⟩=false∧w.frozen? ⟨b,2,none⟩=false)∧b < w.heap.size:=by
 refine ⟨⟨?_,?_,?_⟩,⟨?_,?_,?_⟩,(Array.getElem?_eq_some_iff.1 h).1⟩
 all_goals first | (rw [Lib.cell_of_heap h];rfl) | exact Lib.frozen_of_heap h _
theorem Dg.set0 {b T n c:Nat} {x:Value} {w:World} (h:Dg b T n c x w) (m:Nat):Dg b T m c x (w.setCell ⟨b,0,none⟩ (.int .u64 m)):=by
 show (w.setCell ⟨b,0,none⟩ _).heap[b]? = _
 simp [World.setCell,Array.getElem?_modify,h]
theorem Dg.set1 {b T n c:Nat} {x:Value} {w:World} (h:Dg b T n c x w) (m:Nat):Dg b T n m x (w.setCell ⟨b,1,none⟩ (.int .i64 m)):=by
 show (w.setCell ⟨b,1,none⟩ _).heap[b]? = _
 simp [World.setCell,Array.getElem?_modify,h]
theorem Dg.set2 {b T n c:Nat} {x:Value} {w:World} (h:Dg b T n c x w) (m:Value):Dg b T n c m (w.setCell ⟨b,2,none⟩ m):=by
 show (w.setCell ⟨b,2,none⟩ _).heap[b]? = _
 simp [World.setCell,Array.getElem?_modify,h]
structure OneB (b:Nat) (w w':World):Prop where
 os:w'.os=w.os
 tape:w'.tape=w.tape
 output:w'.output=w.output
 size:w.heap.size≤w'.heap.size
 block:∀ k,k < w.heap.size→k≠b→w'.heap[k]? = w.heap[k]?
theorem OneB.set (b i:Nat) (v:Value) {w w':World} (h:OneB b w w'):OneB b w (w'.setCell ⟨b,i,none⟩ v):=⟨h.os,h.tape,h.output,by simpa [World.setCell] using h.size,fun k hk hb=>(Below.heap_setCell _ _ _ _ hb).trans (h.block k hk hb)⟩
theorem OneB.of {b:Nat} {w w':World} (h:Below w.heap.size w w'):OneB b w w':=⟨h.os,h.tape,h.output,h.size,fun k hk _=>h.block k hk⟩
theorem OneB.trans {b:Nat} {w w1 w2:World} (h:OneB b w w1) (h':OneB b w1 w2):OneB b w w2:=⟨h'.os.trans h.os,h'.tape.trans h.tape,h'.output.trans h.output,Nat.le_trans h.size h'.size,fun k h1 h2=>(h'.block k (Nat.lt_of_lt_of_le h1 h.size) h2).trans (h.block k h1 h2)⟩
theorem OneB.below {b:Nat} {w w':World} (h:OneB b w w') (hb:b≤w.heap.size):Below b w w':=⟨h.os,h.tape,h.output,h.size,fun k hk=>h.block k (by omega) (by omega)⟩
set_option maxRecDepth 100000 in
set_option maxHeartbeats 1000000 in
theorem dadd_any (b T n c k x:Nat) (v:Value) (w:World) (h:Dg b T n c v w) (hx:x < 2 ^ k) (hn:n * 2 ^ k + x < 18446744073709551616) (hk:k≤64) (hc:c≤1000) :
  Calls Tryz.prog 165 #[.pointer (some ⟨b,0,none⟩),.int .u64 x,.int .i64 k] w fun e w'=>e = .returned (.tuple #[])∧Dg b T (n * 2 ^ k + x) (c + k) v w'∧OneB b w w':=by
 have h1:=shl_u64 n k (by omega)
 have h2:=or_add n k x hx hn
 obtain ⟨A,hA⟩:∃ A,A=n * 2 ^ k:=⟨_,rfl⟩
 obtain ⟨B,hB⟩:∃ B,B=A + x:=⟨_,rfl⟩
 rw [← hA] at h1 h2 ⊢
 rw [← hB] at h2 ⊢
 have h3:IntKind.i64.wrap ((c:Int) + (k:Int))=((c + k:Nat):Int):=by rw [wrap_i64];unfold wrap64;omega
 have Ad:(0:Int)≤(k:Int):=by omega
 have Ac:(k:Int)≤64:=by omega
 obtain ⟨⟨c0,c1,c2⟩,⟨z0,z1,z2⟩,hb⟩:=Dg.cells h
 have H:=Hd h
 clear h hA hB hn hx
 go_enter Tryz.func165,Tryz.ntmps165
 go_wp2_with (fail)
 refine FlowO.wp_region [0,1,2,3,4,6,8,10,11,12,14] 11 rfl (by kernel_rfl) ?_
 iterate 11 (refine ⟨_,_,rfl,rfl,(fun w=>by go_simp;try rfl),?_⟩)
 intro w1 Aa Ab
 have H1:=Hd (show Dg b T n c v w1 from (Aa.block _ hb).trans H.out)
 have hO:=Hd (OneB.of (b:=b) Aa)
 clear Aa Ab c0 c1 c2 z0 z1 z2 hb
 obtain ⟨⟨c0,c1,c2⟩,⟨z0,z1,z2⟩,hb⟩:=Dg.cells H1.out
 refine FlowO.two 5 13 (by kernel_rfl) rfl rfl ?_ ?_
 ·go_wp2
  refine ⟨rfl,FlowO.pures [7,9] 8 (by kernel_rfl) ?_⟩
  iterate 2 (refine ⟨_,_,rfl,rfl,(fun w=>by go_simp;try rfl),?_⟩)
  refine FlowO.single 13 (by kernel_rfl) rfl ?_
  go_wp2
  refine ⟨rfl,FlowO.pures [15] 6 (by kernel_rfl) ?_⟩
  iterate 1 (refine ⟨_,_,rfl,rfl,(fun w=>by go_simp;try rfl),?_⟩)
  refine FlowO.seq [16,17,18,19,20,21] (by kernel_rfl) (by kernel_rfl) ?_
  simp only [FlowP.pick,List.flatMap_cons,List.flatMap_nil,List.drop_succ_cons,List.drop_zero,List.take_succ_cons,List.take_zero,List.append_nil,List.cons_append,List.nil_append]
  go_wp2
  refine ⟨rfl,?_⟩
  go_end0
  exact ⟨rfl,(H1.out.set0 _).set1 _,(hO.out.set b 0 _).set b 1 _⟩
 ·go_wp2
  refine ⟨rfl,FlowO.pures [15] 9 (by kernel_rfl) ?_⟩
  iterate 1 (refine ⟨_,_,rfl,rfl,(fun w=>by go_simp;try rfl),?_⟩)
  refine FlowO.single 5 (by kernel_rfl) rfl ?_
  go_wp2
  refine ⟨rfl,FlowO.pures [7,9] 6 (by kernel_rfl) ?_⟩
  iterate 2 (refine ⟨_,_,rfl,rfl,(fun w=>by go_simp;try rfl),?_⟩)
  refine FlowO.seq [16,17,18,19,20,21] (by kernel_rfl) (by kernel_rfl) ?_
  simp only [FlowP.pick,List.flatMap_cons,List.flatMap_nil,List.drop_succ_cons,List.drop_zero,List.take_succ_cons,List.take_zero,List.append_nil,List.cons_append,List.nil_append]
  go_wp2
  refine ⟨rfl,?_⟩
  go_end0
  exact ⟨rfl,(H1.out.set0 _).set1 _,(hO.out.set b 0 _).set b 1 _⟩
end Go.Proofs.YtjdccifdkjnknaaGreatDoor
namespace Go.Proofs.YtjdccifdkjnknaaGreatDoor
open Go.RowKit Go.Sort
set_option maxRecDepth 100000 in
set_option maxHeartbeats 1000000 in
theorem da4 (b T n m k:Nat) (v:Value) (w:World) (h:Dg b T n (m + k) v w) (hn:n < 18446744073709551616) (hm:m≤60) :
  Calls Tryz.prog 166 #[.pointer (some ⟨b,0,none⟩),.int .i64 k] w fun e w'=>e = .returned (.int .u64 (n / 2 ^ m:Nat))∧Dg b T (n % 2 ^ m) m v w'∧OneB b w w':=by
 obtain ⟨P,hP⟩:∃ P,P=2 ^ m:=⟨_,rfl⟩
 have Ae:0 < P:=by rw [hP];exact Nat.two_pow_pos _
 have Ai:P≤1152921504606846976:=by rw [hP,show (1152921504606846976:Nat)=2 ^ 60 by decide];exact Nat.pow_le_pow_right (by omega) hm
 have h2:(2:Int) ^ m=(P:Int):=by rw [hP];simp
 have Aa:=and_mod n m (by rw [← hP];omega) hn
 rw [← hP] at Aa ⊢
 have h3:IntKind.i64.wrap (((m + k:Nat):Int) - (k:Int))=(m:Int):=by rw [wrap_i64];unfold wrap64;omega
 have Ag:wrap64 (m:Int)=(m:Int):=by unfold wrap64;omega
 have h4:IntKind.u64.wrap ((P:Int) - 1)=((P - 1:Nat):Int):=by rw [wrap_u64];omega
 have h5:IntKind.u64.wrap (P:Int)=(P:Int):=by rw [wrap_u64];omega
 have h6:(n:Int) / 2 ^ min m 64=((n / P:Nat):Int):=by rw [show min m 64=m by omega,h2];omega
 have h7:IntKind.u64.wrap ((2:Int) ^ m)=(P:Int):=by rw [h2];exact h5
 have h8:bits .and .u64 (n:Int) (IntKind.u64.wrap (IntKind.u64.wrap (2 ^ min m 64) - 1))=((n % P:Nat):Int):=by rw [show min m 64=m by omega,h2,h5,h4];exact Aa
 have Ah:(0:Int)≤(m:Int):=by omega
 obtain ⟨⟨c0,c1,c2⟩,⟨z0,z1,z2⟩,hb⟩:=Dg.cells h
 have H1:=h.set1 m
 have HO:=Hd ((OneB.of (Below.refl w.heap.size w)).set b 1 (.int .i64 m))
 obtain ⟨w1,Ab⟩:∃ w1,w.setCell ⟨b,1,none⟩ (.int .i64 m)=w1:=⟨_,rfl⟩
 rw [Ab] at H1 HO
 obtain ⟨⟨d0,d1,d2⟩,⟨y0,y1,y2⟩,Ac⟩:=Dg.cells H1
 have HH:=Hd H1
 clear hP Ae h H1 hm hn
 go_enter Tryz.func166,Tryz.ntmps166
 go_wp2_with (fail)
 go_quiet (fail)
 go_wp2_with (fail)
 generalize hw3:w1.drewN _=w3
 have H3:=Hd (show Dg b T n m v w3 by rw [← hw3];exact HH.out)
 have Af:=Hd (show OneB b w w3 by rw [← hw3];exact ⟨HO.out.os,HO.out.tape,HO.out.output,HO.out.size,HO.out.block⟩)
 clear c0 c1 c2 z0 z1 z2 hb d0 d1 d2 y0 y1 y2 Ac hw3 Ab
 obtain ⟨⟨c0,c1,c2⟩,⟨z0,z1,z2⟩,hb⟩:=Dg.cells H3.out
 refine Flow.wrf 11 (Flow.sp3 [.inl ?_,.inl ?_,.inl ?_,.inl ?_,.inl ?_,.inl ?_,.inl ?_,.inl ?_,.inl ?_,.inl ?_,.inl ?_]) (by kernel_rfl) (by kernel_rfl) ?_ ?_
 rotate_left 11
 ·refine Flow.sm2 ?_
  repeat (first | exact Flow.ln2 | refine Flow.li2 ?_)
 all_goals try simp only [List.take_succ_cons,List.take_zero,List.drop_succ_cons,List.drop_zero]
 iterate 11 (refine Flow.tvK rfl (fun K hK=>⟨fun w hw hG => ?_,?_⟩);(have Aj:=Flow.bc4 hw;clear hG hw;unfold Flow.Runs Flow.yields;go_simp;try rfl);go_simp;refine hK _ ?_;clear hK K)
 refine Flow.tn2 fun w2 hw2 hG => ?_
 clear hG
 have H2:=Hd (show Dg b T n m v w2 from (hw2.block _ hb).trans H3.out)
 have Ad:=Hd (Af.out.trans (OneB.of (b:=b) hw2))
 clear hw2 c0 c1 c2 z0 z1 z2 hb
 obtain ⟨⟨c0,c1,c2⟩,⟨z0,z1,z2⟩,hb⟩:=Dg.cells H2.out
 go_simp
 go_wp2
 go_ret
 exact ⟨rfl,H2.out.set0 _,Ad.out.set b 0 _⟩
end Go.Proofs.YtjdccifdkjnknaaGreatDoor
namespace Go.Rf
open Go
variable {P:Program} {n:Nat}
theorem wIs2 {F:Fence} {c rest:Code} {Q:Exit→Act→World→Prop} {a:Act} {w:World} (l:Nat) (hf:findLabel c l=some rest) (h:c.wpIn F n P (Exit.fwd l (rest.wpIn F n P (Exit.noGoto Q)) Q) a w):(Code.scope c).wpIn F n P Q a w:=by
 intro b k cs Ac hb hr
 have h0:(lone (b.atR a (.code (.scope c) :: k)) cs w).fenced P F:=fenced_calm hb hr rfl
 have hx:∀ id,exitTo id (.inScope c :: k)=exitTo id k:=fun id=>by simp [exitTo]
 obtain ⟨e,a₁,w₁,hq,Ab⟩:=h b (.inScope c :: k) cs Ac hb hr
 cases e with
 | normal=>exact ⟨.normal,a₁,w₁,hq,.head h0 sRs (StepsIn.trans Ab (.one (fenced_calm hb hr rfl) sRi))⟩
 | exit id=>
   exact ⟨.exit id,a₁,w₁,hq,fun k' hk => .head h0 sRs (Ab.1 k' (by rw [hx];exact hk)),
    fun hr' hk=>let ⟨k₁,h1,h2⟩:=Ab.2 hr' (by rw [hx];exact hk);⟨k₁,h1,.head h0 sRs h2⟩⟩
 | goto l'=>
   obtain ⟨rfl,hJ⟩:=hq
   have hg:gotoIn l' (.inScope c :: k)=some (.code rest :: .inScope c :: k):=by simp [gotoIn,hf]
   have h1:=Ab.1 _ hg
   obtain ⟨e,a₂,w₂,hq,Aa⟩:=hJ b (.inScope c :: k) cs Ac hb hr
   have pre:=StepsIn.head h0 sRs h1
   cases e with
   | normal=>exact ⟨.normal,a₂,w₂,hq,pre.trans (StepsIn.trans Aa (.one (fenced_calm hb hr rfl) sRi))⟩
   | exit id=>
     exact ⟨.exit id,a₂,w₂,hq,fun k' hk=>pre.trans (Aa.1 k' (by rw [hx];exact hk)),
      fun hr' hk=>let ⟨k₁,g1,g2⟩:=Aa.2 hr' (by rw [hx];exact hk);⟨k₁,g1,pre.trans g2⟩⟩
   | goto l=>exact hq.elim
   | ret=>exact ⟨_,a₂,w₂,hq,.of_steps pre Aa⟩
   | panic ch=>exact ⟨_,a₂,w₂,hq,.of_steps pre Aa⟩
   | outgrown=>exact ⟨_,a₂,w₂,hq,.of_steps pre Aa⟩
 | ret=>exact ⟨_,a₁,w₁,hq,.of_steps (.one h0 sRs) Ab⟩
 | panic ch=>exact ⟨_,a₁,w₁,hq,.of_steps (.one h0 sRs) Ab⟩
 | outgrown=>exact ⟨_,a₁,w₁,hq,.of_steps (.one h0 sRs) Ab⟩
theorem range_fin {g:Operand} {ps:Array Tmp} {assign body:Code} {Q:Exit→Act→World→Prop} {a:Act} {w:World} {gf:Nat} {lb:Array Value} (i:Nat) (Fin:World→Prop)
  (hg:a.eval g = .func (.func gf) #[] lb) (eg:∀ args w,(callFunc gf args).run P w = .ok (.enter gf args) w)
  (h:∀ (fn:Nat) (W1:World),W1.heap[w.heap.size + 1]? = some (.loop { state:=.ready,pending:=none,fn,tmps:=a.tmps,params:=ps,assign,body,defers:=w.heap.size })→W1.heap[w.heap.size]? = some (.deferred (some [])) →
    RowKit.Below w.heap.size w W1→W1.heap.size=w.heap.size + 2 →
    CallsIn Fence.wide (n - 1) P gf (#[.func (.yield (w.heap.size + 1)) #[] #[]] ++ lb) W1 fun e W3=>(∃ v,e = .returned v)∧∃ r:Loop,W3.heap[w.heap.size + 1]? = some (.loop r)∧r.state ≠ .busy∧(r.pending=none∨r.pending=some (.exit i)) ∧
     ∀ W4,SB (w.heap.size + 1) W3 W4→Fin W4)
  (hn:∀ W4,Fin W4→Q .normal { a with defers:={ target:=.collected w.heap.size,args:=#[] } :: a.defers } W4)
  (he:∀ W4,Fin W4→(Code.exit i).wpIn Fence.wide n P Q { a with defers:={ target:=.collected w.heap.size,args:=#[] } :: a.defers } W4):(Code.rangeFunc g ps assign body).wpIn Fence.wide n P Q a w:=by
 refine rw3 hg eg fun fn W1 h1 h2 h3 h4=>CallsIn.mono (h fn W1 h1 h2 h3 h4) ?_
 rintro e W3 ⟨hv,r,hr,hs,hp,hf⟩
 refine ⟨hv,r,hr,hs,fun W4 h5 => ?_⟩
 rcases hp with hp | hp
 ·rw [hp];exact hn W4 (hf W4 h5)
 ·rw [hp];exact he W4 (hf W4 h5)
end Go.Rf
namespace Go.FlowO
open Go Go.RowKit Go.FlowP Go.Flow
section
variable {P:Program} {ops:Array Oper} {n:Nat}
theorem sAw (o:Oper) (ρ:Operand→Value):o.semAt Fence.wide.round ρ=execOp ρ o:=by simp [Oper.semAt,Fence.wide]
theorem uponIn_weak {o:Oper} {a:Act} {K K':Act→World→Prop} {Q:Exit→Act→World→Prop} {r:Result Next} (hK:∀ b w,K b w→K' b w) (h:o.uponIn Fence.wide n P a K (Qn (Q .normal)) r):o.uponIn Fence.wide n P a K' Q r:=by
 cases r with
 | ok nx w'=>
   cases nx <;> simp only [Oper.uponIn] at h ⊢
   case value u=>exact hK _ _ h
   case skip=>exact hK _ _ h
   case defer d=>exact hK _ _ h
   case enter f args=>
    refine ⟨h.1,CallsIn.mono h.2 fun e w'' he => ?_⟩
    cases e with
    | returned u=>exact hK _ _ he
    | panicked c=>exact (by cases he.1)
    | outgrown=>exact (nl2 _ he).elim
   case row=>exact ⟨h.1,RowsIn.mono h.2 fun u w'' he=>hK _ _ he⟩
   case round=>
    refine ⟨h.1,RoundIn.mono h.2 fun e w'' he => ?_⟩
    cases e with
    | returned u=>exact hK _ _ he
    | panicked c=>exact (by cases he.1)
    | outgrown=>exact (nl2 _ he).elim
 | halt x w'=>
   cases x <;> simp only [Oper.uponIn] at h ⊢
   case panic=>exact (by cases h.1)
theorem wAI3 {Q:Exit→Act→World→Prop}:∀ (fuel:Nat) (listed:Array Bool) (a:Act) (w:World),wpAnyIn Fence.wide n P .any ops (Qn (Q .normal)) fuel listed a w→wpAnyIn Fence.wide n P .any ops Q fuel listed a w
 | 0,_,_,_,h=>⟨h.1,h.2.2⟩
 | fuel + 1,listed,a,w,h=>by
   refine ⟨fun h0=>(h.1 h0).2,fun i hi => ?_⟩
   have h1:=h.2 i hi
   unfold wpOpIn at h1 ⊢
   split
   ·rename_i ho
    simp only [ho] at h1
    exact wAI3 fuel _ _ _ h1
   ·rename_i o ho
    simp only [ho] at h1
    split
    ·rename_i hw
     simp only [hw,if_true] at h1
     exact ⟨h1.1,uponIn_weak (fun b w hb=>wAI3 fuel _ _ _ hb) h1.2⟩
    ·rename_i hw
     simp only [hw] at h1
     exact ⟨h1.1,wAI3 fuel _ _ _ h1.2⟩
theorem wAI6 {E:Act→World→Prop} {i:Nat} {oi:Oper} {v:Value} (hi:ops[i]? = some oi) (hsel:∀ (j:Nat) (o:Oper) cs b,ops[j]? = some o→o.op ≠ .select cs b) :
  ∀ (fuel:Nat) (listed:Array Bool) (a:Act) (w:World),
    (∀ j oj,ops[j]? = some oj→j≠i→listed.getD j true=false→(∀ e ∈ oj.after,Region.binds .any e=true→e.on≠i)→oi.apart ops oj=true) →
    i ∈ Region.ready .any ops listed→Region.wanted oi (yielded ops a.tmps)=true→(∀ w,(execOp a.eval oi).run P w = .ok (.value v) w) →
    wpAnyIn Fence.wide n P .any ops (Qn E) fuel (listed.setIfInBounds i true) (a.put oi.dst v) w→wpAnyIn Fence.wide n P .any ops (Qn E) (fuel + 1) listed a w:=by
 intro fuel
 induction fuel with
 | zero=>
   intro listed a w _ hr hw hp H
   refine ⟨fun h=>(by rw [h] at hr;cases hr),fun j hj => ?_⟩
   by_cases hji:j=i
   ·subst hji
    unfold wpOpIn;simp only [hi,hw,if_true]
    refine ⟨fun _ _=>trivial,?_⟩
    rw [sAw,hp];exact H
   ·have:=ready_mono hj hji
    rw [H.1] at this
    cases this
 | succ fuel ih=>
   intro listed a w Ab hr hw hp H
   refine ⟨fun h=>(by rw [h] at hr;cases hr),fun j hj => ?_⟩
   by_cases hji:j=i
   ·subst hji
    unfold wpOpIn;simp only [hi,hw,if_true]
    refine ⟨fun _ _=>trivial,?_⟩
    rw [sAw,hp];exact H
   ·obtain ⟨Ad,oj,Ag,Ae⟩:=mem_ready.1 hj
    have Af:=(mem_ready.1 hr).1
    have Ak:∀ k,listed.getD k true=false→listed.getD k false=true→False:=fun k h1 h0=>by rw [getD_both h1] at h0;cases h0
    have Ah:∀ e ∈ oj.after,Region.binds .any e=true→e.on≠i:=fun e he hb heq=>Ak i Af (by rw [← heq];exact Ae e he hb)
    have Al:=Ab j oj Ag hji Ad Ah
    obtain ⟨h1,h2,h3⟩:=Oper.apart_spec Al
    have Ac:∀ k ok,ops[k]? = some ok→k≠i→(listed.setIfInBounds j true).getD k true=false →
      (∀ e ∈ ok.after,Region.binds .any e=true→e.on≠i)→oi.apart ops ok=true:=fun k ok hk hki hun hno=>by
     refine Ab k ok hk hki ?_ hno
     by_cases hjk:j=k
     ·subst hjk;exact Ad
     ·rw [getD_set_ne true hjk] at hun;exact hun
    have Hj:=H.2 j (ready_mono hj hji)
    unfold wpOpIn at Hj ⊢
    simp only [Ag] at Hj ⊢
    rw [wanted_put oj a oi.dst v h1] at Hj
    have step:∀ (b:Act) (u:Value) (w':World),Region.wanted oi (yielded ops b.tmps)=true→(∀ w,(execOp b.eval oi).run P w = .ok (.value v) w)→wpAnyIn Fence.wide n P .any ops (Qn E) fuel ((listed.setIfInBounds i true).setIfInBounds j true) (b.put oi.dst v) w'→wpAnyIn Fence.wide n P .any ops (Qn E) (fuel + 1) (listed.setIfInBounds j true) b w':=fun b u w' hw hp H=>by
     refine ih (listed.setIfInBounds j true) b w' Ac (ready_mono hr (Ne.symm hji)) hw hp ?_
     rw [Array.setIfInBounds_comm _ _ hji]
     exact H
    split
    ·rename_i hwj
     simp only [hwj,if_true] at Hj
     refine ⟨fun _ _=>trivial,?_⟩
     have Hj:=Hj.2
     rw [sAw] at Hj ⊢
     rw [execOp_put oj (fun cs b=>hsel j oj cs b Ag) a oi.dst v h1] at Hj
     generalize (execOp a.eval oj).run P w=r at Hj ⊢
     have Aj:∀ u,Region.wanted oi (yielded ops (a.put oj.dst u).tmps)=true:=fun u=>by rw [wanted_put oi a oj.dst u h3];exact hw
     have Ai:∀ u w,(execOp (a.put oj.dst u).eval oi).run P w = .ok (.value v) w:=fun u w=>by rw [execOp_put oi (fun cs b=>hsel i oi cs b hi) a oj.dst u h3];exact hp w
     have Aa:∀ u w',wpAnyIn Fence.wide n P .any ops (Qn E) fuel ((listed.setIfInBounds i true).setIfInBounds j true) ((a.put oi.dst v).put oj.dst u) w'→wpAnyIn Fence.wide n P .any ops (Qn E) (fuel + 1) (listed.setIfInBounds j true) (a.put oj.dst u) w':=fun u w' h=>
      step _ u w' (Aj u) (Ai u) (by rw [← Act.put_comm a v u h2];exact h)
     cases r with
     | ok nx w'=>
       cases nx <;> simp only [Oper.uponIn] at Hj ⊢
       case value u=>exact Aa _ _ Hj
       case skip=>exact Aa _ _ Hj
       case defer d=>
        have e1:(({ a with defers:=d :: a.defers }:Act).put oj.dst undef).tmps=(a.put oj.dst undef).tmps:=by cases oj.dst <;> rfl
        have e2:(({ a with defers:=d :: a.defers }:Act).put oj.dst undef).eval=(a.put oj.dst undef).eval:=by funext x;cases oj.dst <;> cases x <;> rfl
        refine step _ undef w' (by rw [e1];exact Aj undef) (fun w=>by rw [e2];exact Ai undef w) ?_
        rw [← Act.put_comm _ v undef h2]
        have:(({ a with defers:=d :: a.defers }:Act).put oi.dst v) = { (a.put oi.dst v) with defers:=d :: (a.put oi.dst v).defers }:=by cases oi.dst <;> rfl
        rw [this]
        exact Hj
       case enter f args=>
        refine ⟨Hj.1,CallsIn.mono Hj.2 fun e w'' he => ?_⟩
        cases e with
        | returned u=>exact Aa _ _ he
        | panicked c=>exact (by cases he.1)
        | outgrown=>exact (nl2 E he).elim
       case row=>exact ⟨Hj.1,RowsIn.mono Hj.2 fun u w'' he=>Aa _ _ he⟩
       case round=>
        refine ⟨Hj.1,RoundIn.mono Hj.2 fun e w'' he => ?_⟩
        cases e with
        | returned u=>exact Aa _ _ he
        | panicked c=>exact (by cases he.1)
        | outgrown=>exact (nl2 E he).elim
     | halt x w'=>
       cases x <;> simp only [Oper.uponIn] at Hj ⊢
       case panic=>exact (by cases Hj.1)
    ·rename_i hwj
     simp only [hwj] at Hj
     refine ⟨fun _ _=>trivial,step _ undef w ?_ ?_ (by rw [← Act.put_comm a v undef h2];exact Hj.2)⟩
     ·rw [wanted_put oi a oj.dst undef h3];exact hw
     ·intro w
      rw [execOp_put oi (fun cs b=>hsel i oi cs b hi) a oj.dst undef h3];exact hp w
theorem pI {E:Act→World→Prop} {fuel:Nat} {w:World} (hsel:Region.noSelect ops=true):∀ (ps:List Nat) (listed:Array Bool) (a:Act),pO ops ps listed=true →
  Pure P ops ps (fun a'=>wpAnyIn Fence.wide n P .any ops (Qn E) fuel (after ps listed) a' w) a→wpAnyIn Fence.wide n P .any ops (Qn E) (fuel + ps.length) listed a w
 | [],_,_,_,h=>h
 | p :: ps,listed,a,hB,h=>by
   simp only [pO,Bool.and_eq_true] at hB
   obtain ⟨⟨hr,hf⟩,hB'⟩:=hB
   obtain ⟨o,v,ho,hw,hp,hK⟩:=h
   have:=pI hsel ps (listed.setIfInBounds p true) (a.put o.dst v) hB' hK
   exact wAI6 ho (Region.noSelect_spec hsel) (fuel + ps.length) listed a w (Region.free_spec ho hf) (by simpa using hr) hw hp this
theorem puresIn {E:Act→World→Prop} {l:List Oper} (ps:List Nat) (f:Nat) {listed:Array Bool} {a:Act} {w:World} (hB:(Region.noSelect l.toArray && pO l.toArray ps listed)=true) (h:Pure P l.toArray ps (fun a'=>wpAnyIn Fence.wide n P .any l.toArray (Qn E) f (after ps listed) a' w) a):wpAnyIn Fence.wide n P .any l.toArray (Qn E) (f + ps.length) listed a w:=by
 simp only [Bool.and_eq_true] at hB
 exact pI hB.1 ps listed a hB.2 h
theorem oneIn {E:Act→World→Prop} {f i:Nat} {oi:Oper} {listed:Array Bool} {a:Act} {w:World} (v:Value) (hi:ops[i]? = some oi) (hw:Region.wanted oi (yielded ops a.tmps)=true) (hv:(execOp a.eval oi).run P w = .ok (.value v) w) (h:wpAnyIn Fence.wide n P .any ops (Qn E) f (listed.setIfInBounds i true) (a.put oi.dst v) w):wpOpIn Fence.wide n P ops (Qn E) i (wpAnyIn Fence.wide n P .any ops (Qn E) f (listed.setIfInBounds i true)) a w:=by
 unfold wpOpIn
 rw [hi]
 simp only [hw,if_true]
 refine ⟨fun _ _=>trivial,?_⟩
 rw [sAw,hv]
 exact h
theorem twoIn {E:Act→World→Prop} {f:Nat} (i j:Nat) {oi oj:Oper} {listed:Array Bool} {a:Act} {w:World} (vi vj:Value) (hr:Region.ready .any ops listed=[i,j]) (hi:ops[i]? = some oi) (hj:ops[j]? = some oj) (hwi:Region.wanted oi (yielded ops a.tmps)=true) (hwj:Region.wanted oj (yielded ops a.tmps)=true)
  (hvi:(execOp a.eval oi).run P w = .ok (.value vi) w) (hvj:(execOp a.eval oj).run P w = .ok (.value vj) w) (h1:wpAnyIn Fence.wide n P .any ops (Qn E) f (listed.setIfInBounds i true) (a.put oi.dst vi) w) (h2:wpAnyIn Fence.wide n P .any ops (Qn E) f (listed.setIfInBounds j true) (a.put oj.dst vj) w):wpAnyIn Fence.wide n P .any ops (Qn E) (f + 1) listed a w:=by
 refine ⟨fun h=>(by rw [hr] at h;cases h),fun k hk => ?_⟩
 rw [hr] at hk
 simp only [List.mem_cons,List.not_mem_nil,or_false] at hk
 rcases hk with rfl | rfl
 ·exact oneIn vi hi hwi hvi h1
 ·exact oneIn vj hj hwj hvj h2
theorem singleIn {E:Act→World→Prop} {f:Nat} (i:Nat) {oi:Oper} {listed:Array Bool} {a:Act} {w:World} (v:Value) (hr:Region.ready .any ops listed=[i]) (hi:ops[i]? = some oi) (hw:Region.wanted oi (yielded ops a.tmps)=true) (hv:(execOp a.eval oi).run P w = .ok (.value v) w) (h:wpAnyIn Fence.wide n P .any ops (Qn E) f (listed.setIfInBounds i true) (a.put oi.dst v) w):wpAnyIn Fence.wide n P .any ops (Qn E) (f + 1) listed a w:=by
 refine ⟨fun h=>(by rw [hr] at h;cases h),fun k hk => ?_⟩
 rw [hr] at hk
 rw [List.mem_singleton.1 hk]
 exact oneIn v hi hw hv h
theorem wAI5 {Q:Exit→Act→World→Prop}:∀ (ks:List Nat) (l:List Oper) (listed:Array Bool) (a:Act) (w:World),ks.map (fun k=>ops[k]?)=l.map some→seqL ops ks listed=true→wpListIn Fence.wide n P ops Q l a w→wpAnyIn Fence.wide n P .any ops Q ks.length listed a w
 | [],l,_,_,_,hl,hB,h=>by
   have:l=[]:=by cases l with
    | nil=>rfl
    | cons=>cases hl
   subst this
   exact ⟨by simpa [seqL] using hB,h⟩
 | k :: ks,[],_,_,_,hl,_,_=>by cases hl
 | k :: ks,o :: l,listed,a,w,hl,hB,h=>by
   simp only [List.map_cons,List.cons.injEq] at hl
   simp only [seqL,Bool.and_eq_true,decide_eq_true_eq] at hB
   refine ⟨fun h1=>(by rw [hB.1] at h1;cases h1),fun i hi => ?_⟩
   rw [hB.1] at hi
   have Aa:i=k:=by simpa using hi
   subst Aa
   have hw:wpOpIn Fence.wide n P ops Q i (wpListIn Fence.wide n P ops Q l) a w:=by unfold wpOpIn;simp only [hl.1];exact h
   exact wpOpIn_mono (fun a' w' h'=>wAI5 ks l _ a' w' hl.2 hB.2 h') hw
theorem seqIn {E:Act→World→Prop} {l:List Oper} (ks:List Nat) {listed:Array Bool} {a:Act} {w:World} (hB:seqL l.toArray ks listed=true) (hk:(ks.all fun k=>decide (k < l.length))=true) (h:wpListIn Fence.wide n P l.toArray (Qn E) (pick l ks) a w):wpAnyIn Fence.wide n P .any l.toArray (Qn E) ks.length listed a w:=
 wAI5 ks (pick l ks) listed a w (pm2 l ks (fun k hk'=>by simpa using List.all_eq_true.1 hk k hk')) hB h
theorem wp_regionIn {id:Nat} {Q:Exit→Act→World→Prop} {a:Act} {w:World} {l:List Oper} (ps:List Nat) (f:Nat) (hm:P.follows .mixedOrders=true) (hB:(Region.noSelect l.toArray && pO l.toArray ps (Array.replicate l.length false) && (f + ps.length == l.length))=true)
  (h:Pure P l.toArray ps (fun a' => ∀ w',Below w.heap.size w w'→w'.heap=w.heap→wpAnyIn Fence.wide n P .any l.toArray (Qn (Q .normal)) f (after ps (Array.replicate l.length false)) a' w') a):(Code.region id l.toArray true).wpIn Fence.wide n P Q a w:=by
 simp only [Bool.and_eq_true,beq_iff_eq] at hB
 obtain ⟨⟨Aa,Ac⟩,Ab⟩:=hB
 refine wpIn_region_any hm (wAI3 _ _ _ _ ?_)
 have H:=pI (P:=P) (n:=n) (E:=Q .normal) (fuel:=f) (w:={ w with drawn:=w.drawn + 1 }) Aa ps (Array.replicate l.length false) a Ac (pm (fun a' h'=>h' _ (Below.refl _ _).drew rfl) ps a h)
 rw [Ab] at H
 have e:l.toArray.size=l.length:=by simp
 rw [e]
 exact H
end
end Go.FlowO
namespace Go.Proofs.YtjdccifdkjnknaaGreatDoor
open Go.RowKit
set_option maxHeartbeats 400000 in
theorem rsum_any (s:ByteArray) (w:World) (hs:s.size≤maxLen) :
  Calls Tryz.prog 79 #[.string s] w fun e w'=>e = .returned (.int .u32 (Tess.csum s.data.toList:Nat))∧w=w':=by
 unfold maxLen at hs
 go_enter Tryz.func79,Tryz.ntmps79
 go_wp2
 go_loop [3,4] (fun n i => ∃ k:Nat,k≤s.size∧i = .int .i64 k∧n = .int .u32 (Tess.crcs (s.data.toList.take k):Nat)) (fun _ i=>s.size - (intOf i).toNat)
 case atStart=>exact ⟨0,Nat.zero_le _,rfl,rfl⟩
 case round=>
  obtain ⟨k,hk,rfl,rfl⟩:=hrel
  have hc:=Tess.crcs_lt (s.data.toList.take k)
  by_cases hlt:k < s.size
  ·have HS:=Hd (Tess.ct3 s k hlt)
   have hx:=Tess.xor_lt _ _ hc (by have:=s[k].toNat_lt;omega:s[k].toNat < 4294967296)
   have hb:=s[k].toNat_lt
   have e1:=u32_xor_nat _ _ hc (by omega:s[k].toNat < 4294967296)
   go_wp2
   clear e1
   generalize Tess.crcs (s.data.toList.take k) ^^^ s[k].toNat=n0 at *
   go_loop [3,5] (fun n i => ∃ j:Nat,j≤8∧i = .int .i64 j∧n = .int .u32 (Tess.cN2 j n0:Nat)) (fun _ i=>8 - (intOf i).toNat)
   case atStart=>exact ⟨0,by omega,rfl,rfl⟩
   case round=>
    obtain ⟨j,hj,rfl,rfl⟩:=hrel
    have Aa:=Tess.cNl j n0 hx
    by_cases hj8:j < 8
    ·have HJ:=Hd (Tess.cNs2 j n0)
     go_wp2
     all_goals
      go_round
      case rel=>exact ⟨j + 1,by omega,by go_num,by rw [HJ.out,Tess.cs4];first | (rw [if_pos (by simp_all;omega)];exact congrArg _ (xh _ Aa)) | (rw [if_neg (by simp_all;omega)];rfl)⟩
      case measure=>simp [intOf];omega
    ·obtain rfl:j=8:=by omega
     go_wp2
     go_round
     case rel=>exact ⟨k + 1,by omega,by go_num,by rw [HS.out]⟩
     case measure=>simp [intOf];omega
  ·rw [List.take_of_length_le (by simp;omega)] at *
   have e1:=xo2 _ hc
   go_wp2
   go_ret
   exact ⟨rfl,rfl⟩
end Go.Proofs.YtjdccifdkjnknaaGreatDoor
