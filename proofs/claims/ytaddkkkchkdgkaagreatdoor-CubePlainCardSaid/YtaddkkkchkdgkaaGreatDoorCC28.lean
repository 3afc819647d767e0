/- As FlP, where the first operation of a region floats: it may be done ahead of, or right behind, the tail's first. -/
import Derived.Test.YtaddkkkchkdgkaaGreatDoorCC27
namespace Go.FlowQ
open Go Go.RowKit Go.Flow Go.FlowP
section
variable {P:Program} {ops:Array Oper}
def sT2 (ops:Array Oper) (n t1:Nat):Bool:=(List.range n).all fun i=>i == 0 || (t1 :: List.range n).any fun j=>decide (i < j) && Region.waitsFor .any ops j i
def cT2 (ops:Array Oper) (t1:Nat) (ks:List Nat):Bool:=ks.all fun t=>t == t1 || ks.any fun p=>Region.waitsFor .any ops t p
structure HInv (ops:Array Oper) (n:Nat) (ks:List Nat) (listed:Array Bool):Prop where
 size:listed.size=ops.size
 first:listed.getD 0 false=true
 closed:∀ j oj,ops[j]? = some oj→listed.getD j false=true→∀ e ∈ oj.after,Region.binds .any e=true→listed.getD e.on false=true
 tail:∀ t ∈ ks,listed.getD t true=false
 rest:∀ j,n≤j→j < ops.size→j ∉ ks→listed.getD j true=true
theorem HInv.set {n i:Nat} {ks:List Nat} {listed:Array Bool} (inv:HInv ops n ks listed) (hi:i ∈ Region.ready .any ops listed) (hin:i ∉ ks):HInv ops n ks (listed.setIfInBounds i true):=by
 obtain ⟨Ab,oi,Ac,Aa⟩:=mem_ready.1 hi
 refine ⟨by simp [inv.size],getD_set_true inv.first,fun j oj hj hl e he hb => ?_,fun t ht=>by rw [getD_set_ne true (fun e=>hin (by rw [e];exact ht))];exact inv.tail t ht,fun j h1 h2 h3 => ?_⟩
 ·by_cases hij:i=j
  ·subst hij
   have:oj=oi:=Option.some.inj (hj.symm.trans Ac)
   subst this
   exact getD_set_true (Aa e he hb)
  ·rw [getD_set_ne false hij] at hl
   exact getD_set_true (inv.closed j oj hj hl e he hb)
 ·by_cases hij:i=j
  ·subst hij
   have:=inv.rest i h1 h2 h3
   rw [Ab] at this
   cases this
  ·rw [getD_set_ne true hij];exact inv.rest j h1 h2 h3
theorem waits {n t1:Nat} {ks:List Nat} {listed:Array Bool} (hs:sT2 ops n t1=true) (hc:cT2 ops t1 ks=true) (inv:HInv ops n ks listed) :
  ∀ (d i:Nat),n - i=d→i < n→listed.getD i true=false→∀ t,n≤t→t ∉ Region.ready .any ops listed:=by
 intro d
 induction d using Nat.strongRecOn with
 | _ d ih=>
   intro i hd hi Af t ht hr
   obtain ⟨Ac,ot,Ae,Aa⟩:=mem_ready.1 hr
   have Ad:t < ops.size:=(Array.getElem?_eq_some_iff.1 Ae).1
   by_cases htk:t ∈ ks
   ·have h1:=List.all_eq_true.1 hc t htk
    simp only [Bool.or_eq_true,beq_iff_eq] at h1
    rcases h1 with h1 | h1
    ·subst h1
     have h1:=List.all_eq_true.1 hs i (List.mem_range.2 hi)
     simp only [Bool.or_eq_true,beq_iff_eq] at h1
     rcases h1 with h1 | h1
     ·subst h1;have h3:=inv.first;rw [getD_both Af] at h3;cases h3
     obtain ⟨j,hj,Ah⟩:=List.any_eq_true.1 h1
     simp only [Bool.and_eq_true,decide_eq_true_eq] at Ah
     obtain ⟨oj,Ag,e,he,hb,Ab⟩:=Region.waitsFor_spec Ah.2
     rcases List.mem_cons.1 hj with rfl | hj
     ·have:oj=ot:=Option.some.inj (Ag.symm.trans Ae)
      subst this
      have h2:=Aa e he hb
      rw [Ab,getD_both Af] at h2
      cases h2
     ·have Ai:j < n:=List.mem_range.1 hj
      cases hl:listed.getD j false with
      | true=>
        have h2:=inv.closed j oj Ag hl e he hb
        rw [Ab,getD_both Af] at h2
        cases h2
      | false=>
        have Aj:j < listed.size:=by rw [inv.size];omega
        exact ih (n - j) (by omega) j rfl Ai (getD_in Aj hl) t ht hr
    ·obtain ⟨p,hp,hw⟩:=List.any_eq_true.1 h1
     obtain ⟨o',Ak,e,he,hb,Ab⟩:=Region.waitsFor_spec hw
     have:o'=ot:=Option.some.inj (Ak.symm.trans Ae)
     subst this
     have h2:=Aa e he hb
     rw [Ab,getD_both (inv.tail p hp)] at h2
     cases h2
   ·have:=inv.rest t ht Ad htk
    rw [Ac] at this
    cases this
theorem aFf {S:Nat→Flow.Spec} {w0:World} {n t1 i:Nat} {ks:List Nat} {oi:Oper} {L:Array Bool→Act→(Nat→World→Prop)→Prop} (hi:ops[i]? = some oi) (hsel:∀ (j:Nat) (o:Oper) cs b,ops[j]? = some o→o.op ≠ .select cs b)
  (hs:sT2 ops n t1=true) (hc:cT2 ops t1 ks=true) (hin:i < n) (hks:∀ k ∈ ks,n≤k)
  (hdone:∀ listed a Γ,L listed a Γ→∀ j ∈ Region.ready .any ops listed,n≤j) :
  ∀ (f:Nat) (listed:Array Bool) (a:Act) (Γ:Nat→World→Prop),HInv ops n ks listed →
    (∀ j oj,ops[j]? = some oj→j≠i→listed.getD j true=false→(∀ e ∈ oj.after,Region.binds .any e=true→e.on≠i)→oi.apart ops oj=true) →
    i ∈ Region.ready .any ops listed→Ru P ops w0 oi (S i) a Γ →
    (∀ v,(S i).ok v→aF P ops S w0 n L f (listed.setIfInBounds i true) (a.put oi.dst v) (upd Γ i ((S i).holds v)))→aF P ops S w0 n L (f + 1) listed a Γ:=by
 have Ao:∃ v,(S i).ok v:=by
  cases hs:S i with
  | inl u=>exact ⟨u,rfl⟩
  | inr V=>exact ⟨undef,trivial⟩
 obtain ⟨v0,Al⟩:=Ao
 intro f
 induction f with
 | zero=>
   intro listed a Γ Ah _ hr hy H
   have Ac:=(mem_ready.1 hr).1
   refine ⟨fun h=>(by rw [h] at hr;cases hr),fun j hj => ?_⟩
   have Aj:j < n:=by
    rcases Nat.lt_or_ge j n with h | h
    ·exact h
    ·exact absurd hj (waits hs hc Ah _ i rfl hin Ac j h)
   refine ⟨Aj,?_⟩
   by_cases hji:j=i
   ·subst hji
    unfold fOp;simp only [hi];exact ⟨hy,H⟩
   ·have:=hdone _ _ _ (H v0 Al) j (ready_mono hj hji)
    omega
 | succ f ih=>
   intro listed a Γ Ah Aa hr hy H
   have Ac:=(mem_ready.1 hr).1
   refine ⟨fun h=>(by rw [h] at hr;cases hr),fun j hj => ?_⟩
   have Aj:j < n:=by
    rcases Nat.lt_or_ge j n with h | h
    ·exact h
    ·exact absurd hj (waits hs hc Ah _ i rfl hin Ac j h)
   refine ⟨Aj,?_⟩
   by_cases hji:j=i
   ·subst hji
    unfold fOp;simp only [hi];exact ⟨hy,H⟩
   ·obtain ⟨Ad,oj,Ai,Ak⟩:=mem_ready.1 hj
    have Am:∀ k,listed.getD k true=false→listed.getD k false=true→False:=fun k h1 h0=>by rw [getD_both h1] at h0;cases h0
    have Af:∀ e ∈ oj.after,Region.binds .any e=true→e.on≠i:=fun e he hb heq=>Am i Ac (by rw [← heq];exact Ak e he hb)
    have Ae:∀ e ∈ oi.after,Region.binds .any e=true→e.on≠j:=fun e he hb heq=>by
     obtain ⟨_,o',An,Ag⟩:=mem_ready.1 hr
     rw [hi] at An;cases An
     exact Am j Ad (by rw [← heq];exact Ag e he hb)
    have Ap:=Aa j oj Ai hji Ad Af
    obtain ⟨h1,h2,h3⟩:=Oper.apart_spec Ap
    have Ab:∀ k ok,ops[k]? = some ok→k≠i→(listed.setIfInBounds j true).getD k true=false →
      (∀ e ∈ ok.after,Region.binds .any e=true→e.on≠i)→oi.apart ops ok=true:=fun k ok hk hki Ac hno=>by
     refine Aa k ok hk hki ?_ hno
     by_cases hjk:j=k
     ·subst hjk;exact Ad
     ·rw [getD_set_ne true hjk] at Ac;exact Ac
    have Hj:∀ v,(S i).ok v→Ru P ops w0 oj (S j) (a.put oi.dst v) (upd Γ i ((S i).holds v))∧∀ u,(S j).ok u →
      aF P ops S w0 n L f ((listed.setIfInBounds i true).setIfInBounds j true) ((a.put oi.dst v).put oj.dst u) (upd (upd Γ i ((S i).holds v)) j ((S j).holds u)):=fun v hv=>by
     have:=((H v hv).2 j (ready_mono hj hji)).2
     unfold fOp at this
     simpa only [Ai] using this
    unfold fOp
    simp only [Ai]
    refine ⟨(Hj v0 Al).1.of_same (execOp_put oj (fun cs b=>hsel j oj cs b Ai) a oi.dst v0 h1).symm (wanted_put oj a oi.dst v0 h1).symm (fun k hk => ?_),fun u hu => ?_⟩
    ·exact (upd_ne (nd2 Af hk)).symm
    ·refine ih (listed.setIfInBounds j true) _ _ (Ah.set hj (fun hk=>by have:=hks j hk;omega)) Ab (ready_mono hr (Ne.symm hji)) ?_ (fun v hv => ?_)
     ·exact hy.of_same (execOp_put oi (fun cs b=>hsel i oi cs b hi) a oj.dst u h3) (wanted_put oi a oj.dst u h3) (fun k hk=>upd_ne (nd2 Ae hk))
     ·have:=(Hj v hv).2 u hu
      rw [Array.setIfInBounds_comm _ _ hji,← Act.put_comm a v u h2,← uc2 hji]
      exact this
def lHT (ops:Array Oper) (ks:List Nat):Nat→Nat→Array Bool→Bool
 | 0,_,listed=>seqL ops ks listed
 | f + 1,k,listed=>(Region.ready .any ops listed).contains k && Region.free .any ops listed k && lHT ops ks f (k + 1) (listed.setIfInBounds k true)
theorem aFl {S:Nat→Flow.Spec} {w0:World} {n t1:Nat} {ks:List Nat} {Lq:Act→(Nat→World→Prop)→Prop} (hsel:Region.noSelect ops=true) (hs:sT2 ops n t1=true) (hc:cT2 ops t1 ks=true) (hks:∀ k ∈ ks,n≤k) :
  ∀ (l:List Oper) (k:Nat) (listed:Array Bool) (a:Act) (Γ:Nat→World→Prop),(∀ j,j < l.length→l[j]? = ops[k + j]?)→k + l.length=n→HInv ops n ks listed →
  lHT ops ks l.length k listed=true→Tree P ops S w0 Lq l k a Γ →
  aF P ops S w0 n (fun listed' a' Γ'=>seqL ops ks listed'=true∧Lq a' Γ') l.length listed a Γ
 | [],k,listed,a,Γ,_,hk,_,hB,h=>⟨by simpa [lHT] using hB,h⟩
 | o :: l,k,listed,a,Γ,hl,hk,inv,hB,h=>by
   have h0:ops[k]? = some o:=by simpa using (hl 0 (by simp)).symm
   simp only [List.length_cons,lHT,Bool.and_eq_true] at hB
   obtain ⟨⟨hr,hf⟩,Ab⟩:=hB
   have Ac:k < n:=by simp only [List.length_cons] at hk;omega
   have Aa:k ∈ Region.ready .any ops listed:=by simpa using hr
   exact aFf h0 (Region.noSelect_spec hsel) hs hc Ac hks (fun listed' a' Γ' hL=>sLr hks hL.1) l.length listed a Γ inv (Region.free_spec h0 hf) Aa h.1
    (fun v hv=>aFl hsel hs hc hks l (k + 1) _ _ _ (fun j hj=>by have:=hl (j + 1) (by simp;omega);simpa [Nat.add_assoc,Nat.add_comm 1 j] using this) (by simp only [List.length_cons] at hk;omega) (inv.set Aa (fun hk=>by have:=hks k hk;omega)) Ab (h.2 v hv))
theorem wAf {S:Nat→Flow.Spec} {w0:World} (hS:∀ i,(S i).mono) {n g:Nat} {oz:Oper} {vz:Value} {E:Act→World→Prop} {L:Array Bool→Act→(Nat→World→Prop)→Prop} (hz:ops[0]? = some oz) (hgd:oz.guard=none)
  (hsel:∀ (j:Nat) (o:Oper) cs b,ops[j]? = some o→o.op ≠ .select cs b)
  (hL:∀ listed a Γ w,L listed a Γ→Below w0.heap.size w0 w→(∀ j,Γ j w)→wpAny P .any ops (Qn E) g listed a w)
  (hL0:∀ listed a Γ w,0 ∈ Region.ready .any ops listed→(∀ w',Below w0.heap.size w0 w'→(execOp a.eval oz).run P w' = .ok (.value vz) w')→L (listed.setIfInBounds 0 true) (a.put oz.dst vz) Γ→Below w0.heap.size w0 w→(∀ j,Γ j w)→wpAny P .any ops (Qn E) (g + 1) listed a w) :
  ∀ (f:Nat) (listed:Array Bool) (a:Act) (Γ:Nat→World→Prop) (w:World),0 ∈ Region.ready .any ops listed →
    (∀ j oj,ops[j]? = some oj→j≠0→j < n→oz.apart ops oj=true) →
    (∀ w',Below w0.heap.size w0 w'→(execOp a.eval oz).run P w' = .ok (.value vz) w') →
    aF P ops S w0 n L f (listed.setIfInBounds 0 true) (a.put oz.dst vz) Γ→Below w0.heap.size w0 w→(∀ j,Γ j w)→(∀ j,Mono (Γ j))→wpAny P .any ops (Qn E) (f + g + 1) listed a w
 | 0,listed,a,Γ,w,hr,_,hrun,h,hB,hG,_=>by rw [Nat.zero_add];exact hL0 _ _ _ _ hr hrun h hB hG
 | f + 1,listed,a,Γ,w,hr,hap,hrun,h,hB,hG,hM=>by
   refine ⟨fun h0=>(by rw [h0] at hr;cases hr),fun i hi => ?_⟩
   by_cases hi0:i=0
   ·subst hi0
    unfold wpOp
    have hw:Region.wanted oz (yielded ops a.tmps)=true:=by unfold Region.wanted;rw [hgd]
    simp only [hz,hw,if_true]
    refine .inl ?_
    unfold Oper.wp
    rw [hrun w hB]
    exact wAo hS hL (f + 1) _ _ _ _ h hB hG hM
   ·have Af:=ready_mono hi hi0
    obtain ⟨Ah,h1⟩:=h.2 i Af
    obtain ⟨_,oi,Aa,_⟩:=mem_ready.1 hi
    obtain ⟨p1,p2,p3⟩:=Oper.apart_spec (hap i oi Aa hi0 Ah)
    unfold fOp at h1
    unfold wpOp
    simp only [Aa] at h1 ⊢
    have Ag:∀ v j,Mono (upd Γ i ((S i).holds v) j):=fun v j=>by
     by_cases e:j=i
     ·subst e;rw [upd_same];exact hS j v
     ·rw [upd_ne e];exact hM j
    have Ac:∀ v w',Below w.heap.size w w'→(S i).holds v w'→∀ j,upd Γ i ((S i).holds v) j w':=fun v w' hb hv j=>by
     by_cases e:j=i
     ·subst e;rw [upd_same];exact hv
     ·rw [upd_ne e];exact hM j _ _ (hG j) hb
    have Ad:∀ v w',(S i).holds v w'→(S i).ok v:=fun v w' hv=>by
     cases hs:S i with
     | inl u=>rw [hs] at hv;exact hv
     | inr V=>trivial
    have go:∀ v w',(S i).ok v→Below w0.heap.size w0 w'→(∀ j,upd Γ i ((S i).holds v) j w')→wpAny P .any ops (Qn E) (f + g + 1) (listed.setIfInBounds i true) (a.put oi.dst v) w':=fun v w' hv hb hg=>by
     refine wAf hS hz hgd hsel hL hL0 f _ _ (upd Γ i ((S i).holds v)) _ (ready_mono hr (fun e=>hi0 e.symm)) hap ?_ ?_ hb hg (Ag v)
     ·intro Ae Ab
      rw [execOp_put oz (fun cs b=>hsel 0 oz cs b hz) a oi.dst v p3]
      exact hrun Ae Ab
     ·have:=h1.2 v hv
      rw [Array.setIfInBounds_comm _ _ hi0,← Act.put_comm a vz v p2]
      exact this
    have h2:=(h1.1.of_same (execOp_put oi (fun cs b=>hsel i oi cs b Aa) a oz.dst vz p1).symm (wanted_put oi a oz.dst vz p1).symm (fun _ _=>rfl):Ru P ops w0 oi (S i) a Γ) w hB (fun j _=>hG j)
    unfold Runs at h2
    rw [show f + 1 + g=f + g + 1 by omega]
    split
    ·rename_i hw
     simp only [hw,if_true] at h2
     refine .inl (woy (ym2 ?_ h2))
     intro v w' ⟨hb,hv⟩
     exact go v w' (Ad v w' hv) (hB.trans (hb.mono hB.size)) (Ac v w' hb hv)
    ·rename_i hw
     simp only [hw] at h2
     exact go undef w (Ad _ _ h2) hB (Ac _ _ (Below.refl _ _) h2)
theorem pp2 (a:Act) (d:Option Tmp) (u v:Value):(a.put d u).put d v=a.put d v:=by
 cases d with
 | none=>rfl
 | some d=>
   show ({ a with tmps:=(a.tmps.setIfInBounds d u).setIfInBounds d v }:Act) = { a with tmps:=a.tmps.setIfInBounds d v }
   rw [Array.setIfInBounds_setIfInBounds]
theorem upon_self {o:Oper} {a:Act} {v:Value} {K:Act→World→Prop} {E:Act→World→Prop} {r:Result Next} (h:o.upon P (a.put o.dst v) K (Qn E) r):o.upon P a K (Qn E) r:=by
 cases r with
 | ok n w'=>
   cases n <;> simp only [Oper.upon] at h ⊢
   case value u=>rwa [pp2] at h
   case skip=>rwa [pp2] at h
   case defer d=>
    have:(({ (a.put o.dst v) with defers:=d :: (a.put o.dst v).defers }:Act).put o.dst undef)=(({ a with defers:=d :: a.defers }:Act).put o.dst undef):=by
     rw [show ({ (a.put o.dst v) with defers:=d :: (a.put o.dst v).defers }:Act)=(({ a with defers:=d :: a.defers }:Act).put o.dst v) by cases o.dst <;> rfl,pp2]
    rw [this] at h
    exact h
   case enter f args=>
    refine Calls.mono h fun e w'' he => ?_
    cases e with
    | returned u=>
      have he:K ((a.put o.dst v).put o.dst u) w'':=he
      rw [pp2] at he
      exact he
    | panicked c=>exact (by cases he.1)
    | outgrown=>exact (nl2 E he).elim
   case row=>exact Rows.mono h fun u w'' he=>by rw [← pp2 a o.dst v u];exact he
 | halt x w'=>
   cases x <;> simp only [Oper.upon] at h ⊢
   case panic=>exact (by cases h.1)
theorem upon_weak' {o:Oper} {a:Act} {K K':Act→World→Prop} {E:Act→World→Prop} {r:Result Next} (h:o.upon P a K (Qn E) r) (hK:∀ b w,K b w→K' b w):o.upon P a K' (Qn E) r:=by
 have e:Qn E=Qn ((Qn E) .normal):=by
  funext x b w
  simp only [Qn,eq_iff_iff]
  exact ⟨fun h=>⟨h.1,trivial,h.2⟩,fun h=>⟨h.1,h.2.2⟩⟩
 rw [e] at h
 exact upon_weak hK h
def z0 (ops:Array Oper) (n:Nat):Bool:=match ops[0]? with
 | some oz=>oz.guard.isNone && (oz.looksAt ops).all (fun d=>oz.dst != some d) && ((List.range (n + 1)).all fun j=>j == 0 || match ops[j]? with
   | some o=>oz.apart ops o
   | none=>false)
 | none=>false
def zn (ops:Array Oper) (n:Nat):Bool:=match ops[n]? with
 | some o=>o.guard.isNone
 | none=>false
def zk (ops:Array Oper) (ks:List Nat):Bool:=match ks with
 | _ :: k2 :: _=>Region.waitsFor .any ops k2 0
 | _=>false
structure OkZ (ops:Array Oper) (n:Nat) (ks:List Nat):Prop where
 sel:Region.noSelect ops=true
 nl:n < ops.size
 n0:0 < n
 s:sT2 ops n n=true
 c:cT2 ops n ks=true
 kn:∀ k ∈ ks,n≤k
 kl:∀ k ∈ ks,k < ops.size
 kh:ks.head? = some n
 len:n + ks.length=ops.size
 r0:(Region.ready .any ops (Array.replicate ops.size false)).contains 0=true
 yz:FlowQ.z0 ops n=true
 yn:FlowQ.zn ops n=true
 yk:FlowQ.zk ops ks=true
 lex:lHT ops ks (n - 1) 1 ((Array.replicate ops.size false).setIfInBounds 0 true)=true
 rest:∀ j,j < ops.size→j < n∨ks.contains j=true
def okZ (ops:Array Oper) (n:Nat) (ks:List Nat):Bool:=
 Region.noSelect ops && (decide (n < ops.size) && (decide (0 < n) && (sT2 ops n n && (cT2 ops n ks && ((ks.all fun k=>decide (n≤k)) && ((ks.all fun k=>decide (k < ops.size)) && (decide (ks.head? = some n) && (decide (n + ks.length=ops.size) &&
  ((Region.ready .any ops (Array.replicate ops.size false)).contains 0 && (FlowQ.z0 ops n && (FlowQ.zn ops n && (FlowQ.zk ops ks && (lHT ops ks (n - 1) 1 ((Array.replicate ops.size false).setIfInBounds 0 true) &&
  ((List.range ops.size).all fun j=>decide (j < n) || ks.contains j))))))))))))))
theorem OkZ.of {n:Nat} {ks:List Nat} (h:okZ ops n ks=true):OkZ ops n ks:=by
 unfold okZ at h
 obtain ⟨a1,h⟩:=Bool.and_eq_true_iff.1 h
 obtain ⟨a2,h⟩:=Bool.and_eq_true_iff.1 h
 obtain ⟨a3,h⟩:=Bool.and_eq_true_iff.1 h
 obtain ⟨a4,h⟩:=Bool.and_eq_true_iff.1 h
 obtain ⟨a5,h⟩:=Bool.and_eq_true_iff.1 h
 obtain ⟨a6,h⟩:=Bool.and_eq_true_iff.1 h
 obtain ⟨a7,h⟩:=Bool.and_eq_true_iff.1 h
 obtain ⟨a8,h⟩:=Bool.and_eq_true_iff.1 h
 obtain ⟨a9,h⟩:=Bool.and_eq_true_iff.1 h
 obtain ⟨b1,h⟩:=Bool.and_eq_true_iff.1 h
 obtain ⟨b2,h⟩:=Bool.and_eq_true_iff.1 h
 obtain ⟨b3,h⟩:=Bool.and_eq_true_iff.1 h
 obtain ⟨b4,h⟩:=Bool.and_eq_true_iff.1 h
 obtain ⟨b5,h⟩:=Bool.and_eq_true_iff.1 h
 refine ⟨a1,of_decide_eq_true a2,of_decide_eq_true a3,a4,a5,fun k hk=>of_decide_eq_true (List.all_eq_true.1 a6 k hk),fun k hk=>of_decide_eq_true (List.all_eq_true.1 a7 k hk),of_decide_eq_true a8,of_decide_eq_true a9,b1,b2,b3,b4,b5,fun j hj => ?_⟩
 have:=List.all_eq_true.1 h j (List.mem_range.2 hj)
 rcases Bool.or_eq_true_iff.1 this with h | h
 ·exact Or.inl (of_decide_eq_true h)
 ·exact Or.inr h
set_option maxHeartbeats 2000000 in
theorem wp_region {id:Nat} {Q:Exit→Act→World→Prop} {a:Act} {w:World} {oz on:Oper} {l lt:List Oper} (n:Nat) (ks:List Nat) (vz:Value) (S:Nat→Flow.Spec) (hm:P.follows .mixedOrders=true) (hB:okZ (oz :: l).toArray n ks=true) (hS:∀ i,(S i).mono)
  (hlt:pick (oz :: l) ks=on :: lt)
  (hz:∀ w',Below w.heap.size w w'→(execOp a.eval oz).run P w' = .ok (.value vz) w')
  (h:Tree P (oz :: l).toArray S w (fun a' Γ => ∀ w',Below w.heap.size w w'→(∀ j,Γ j w')→wpList P (oz :: l).toArray (Qn (Q .normal)) (on :: lt) a' w'∧wpList P (oz :: l).toArray (Qn (Q .normal)) (on :: oz :: lt) a' w') (l.take (n - 1)) 1 (a.put oz.dst vz) (fun _ _=>True)):(Code.region id (oz :: l).toArray true).wp P Q a w:=by
 obtain ⟨Ad,hn,Bf,hs,hc,A6,A5,A3,Av,Ap,As,Aw,Am,Ay,Al⟩:=OkZ.of hB
 have h0:(oz :: l).toArray[0]? = some oz:=by simp
 unfold FlowQ.z0 at As
 simp only [h0,Bool.and_eq_true,List.all_eq_true,List.mem_range,Bool.or_eq_true,beq_iff_eq] at As
 obtain ⟨⟨Ak,Ac⟩,Aq⟩:=As
 have Ak:oz.guard=none:=by simpa using Ak
 have Ac:∀ d,oz.dst=some d→d ∉ oz.looksAt (oz :: l).toArray:=by
  intro d hd hm
  have:=Ac d hm
  simp [hd] at this
 have Aq:∀ j oj,(oz :: l).toArray[j]? = some oj→j≠0→j < n + 1→oz.apart (oz :: l).toArray oj=true:=by
  intro j oj hj Ai A7
  have:=Aq j A7
  simp only [hj] at this
  exact this.resolve_left Ai
 generalize hops:(oz :: l).toArray=ops at *
 have Ap:0 ∈ Region.ready .any ops (Array.replicate ops.size false):=by simpa using Ap
 have An:(l.take (n - 1)).length=n - 1:=by
  have:ops.size=l.length + 1:=by rw [← hops];simp
  simp;omega
 have Az:HInv ops n ks ((Array.replicate ops.size false).setIfInBounds 0 true):=by
  refine ⟨by simp,?_,?_,?_,?_⟩
  ·have:0 < ops.size:=by omega
   simp [Array.getD,this]
  ·intro j oj hj hl e he hb
   exfalso
   by_cases Ai:j=0
   ·subst Ai
    obtain ⟨_,o,ho,Af⟩:=mem_ready.1 Ap
    rw [ho] at hj;cases hj
    have:=Af e he hb
    rw [getD_replicate_false] at this;cases this
   ·rw [getD_set_ne false (fun e=>Ai e.symm),getD_replicate_false] at hl;cases hl
  ·intro t ht
   have h1:=A6 t ht
   rw [getD_set_ne true (by omega)]
   exact getD_in (by simpa using A5 t ht) (getD_replicate_false _ _)
  ·intro j h1 h2 h3
   rcases Al j h2 with h | h
   ·omega
   ·exact absurd (by simpa using h) h3
 obtain ⟨kt,rfl⟩:∃ kt,ks=n :: kt:=by
  cases ks with
  | nil=>cases A3
  | cons k kt=>exact ⟨kt,by rw [Option.some.inj A3]⟩
 obtain ⟨k2,Ab,rfl⟩:∃ k2 Ab,kt=k2 :: Ab:=by
  cases kt with
  | nil=>cases Am
  | cons k kt=>exact ⟨k,kt,rfl⟩
 unfold FlowQ.zk at Am
 simp only at Am
 have Ax:=pick_map (oz :: l) (n :: k2 :: Ab) (fun k hk=>by have:=A5 k hk;rw [← hops] at this;simpa using this)
 rw [hlt,hops] at Ax
 simp only [List.map_cons,List.cons.injEq] at Ax
 obtain ⟨Aa,Ag⟩:=Ax
 unfold FlowQ.zn at Aw
 simp only [Aa] at Aw
 have A0:on.guard=none:=by simpa using Aw
 refine wp_region_any hm (wAw _ _ _ _ ?_)
 have H:=aFl (t1:=n) Ad hs hc A6 (l.take (n - 1)) 1 _ (a.put oz.dst vz) (fun _ _=>True) (fun j hj=>by
   have Bd:j < n - 1:=by rw [An] at hj;exact hj
   rw [← hops]
   rw [List.getElem?_take,if_pos Bd]
   simp [Nat.add_comm 1 j]) (by rw [An];omega) Az (by rw [An];exact Ay) h
 have Bc:∀ (listed:Array Bool) (a':Act) (Γ':Nat→World→Prop) (w':World),(seqL ops (n :: k2 :: Ab) listed=true∧∀ w',Below w.heap.size w w'→(∀ j,Γ' j w')→wpList P ops (Qn (Q .normal)) (on :: lt) a' w'∧wpList P ops (Qn (Q .normal)) (on :: oz :: lt) a' w')→Below w.heap.size w w'→(∀ j,Γ' j w')→wpAny P .any ops (Qn (Q .normal)) (n :: k2 :: Ab).length listed a' w':=by
  intro listed a' Γ' w' hL hb hG
  exact wAo3 (n :: k2 :: Ab) (on :: lt) listed a' w' (by simp only [List.map_cons,List.cons.injEq];exact ⟨Aa,Ag⟩) hL.1 (hL.2 w' hb hG).1
 have H2:=wAf (P:=P) (S:=S) (w0:=w) hS (n:=n) (g:=(n :: k2 :: Ab).length) (E:=Q .normal) (vz:=vz) (L:=fun listed a' Γ'=>seqL ops (n :: k2 :: Ab) listed=true∧∀ w',Below w.heap.size w w'→(∀ j,Γ' j w')→wpList P ops (Qn (Q .normal)) (on :: lt) a' w'∧wpList P ops (Qn (Q .normal)) (on :: oz :: lt) a' w')
  h0 Ak (Region.noSelect_spec Ad) Bc ?_ (l.take (n - 1)).length (Array.replicate ops.size false) a (fun _ _=>True) { w with drawn:=w.drawn + 1 } Ap (fun j oj hj h1 h2=>Aq j oj hj h1 (by omega)) hz H ((Below.refl _ _).drew) (fun _=>trivial) (fun _ _ _ _ _=>trivial)
 ·rw [An] at H2
  rw [show n - 1 + (n :: k2 :: Ab).length + 1=ops.size by rw [← Av];omega] at H2
  exact H2
 ·
  intro listed b Γ' w1 hr Au hL hb hG
  obtain ⟨Aj,hw⟩:=hL
  obtain ⟨A8,Ah⟩:=hw w1 hb hG
  simp only [seqL,Bool.and_eq_true,decide_eq_true_eq] at Aj
  obtain ⟨q1,q2,q3⟩:=Aj
  have Ba:=(mem_ready.1 hr).1
  refine ⟨fun h=>(by rw [h] at hr;cases hr),fun i hi => ?_⟩
  by_cases hi0:i=0
  ·subst hi0
   unfold wpOp
   have Ao:Region.wanted oz (yielded ops b.tmps)=true:=by unfold Region.wanted;rw [Ak]
   simp only [h0,Ao,if_true]
   refine .inl ?_
   unfold Oper.wp
   rw [Au w1 hb]
   exact wAo3 (n :: k2 :: Ab) (on :: lt) _ _ w1 (by simp only [List.map_cons,List.cons.injEq];exact ⟨Aa,Ag⟩) (by simp only [seqL,Bool.and_eq_true,decide_eq_true_eq];exact ⟨q1,q2,q3⟩) A8
  ·have Be:i=n:=by
    have:=ready_mono hi hi0
    rw [q1] at this
    simpa using this
   subst Be
   obtain ⟨p1,p2,p3⟩:=Oper.apart_spec (Aq i on Aa hi0 (by omega))
   have A1:∀ c:Act,Region.wanted on (yielded ops c.tmps)=true:=fun c=>by unfold Region.wanted;rw [A0]
   unfold wpList at Ah
   rw [if_pos (A1 _)] at Ah
   have Ah:=Ah.resolve_right (fun h=>nl2 _ h.2)
   unfold wpOp
   simp only [Aa,A1,if_true]
   refine .inl ?_
   unfold Oper.wp at Ah ⊢
   rw [execOp_put on (fun cs c=>Region.noSelect_spec Ad i on cs c Aa) b oz.dst vz p1] at Ah
   refine upon_put (K:=wpList P ops (Qn (Q .normal)) (oz :: lt)) p2 ?_ Ah
   intro c w3 Ae
   unfold wpList at Ae
   have Ao:∀ c:Act,Region.wanted oz (yielded ops c.tmps)=true:=fun c=>by unfold Region.wanted;rw [Ak]
   rw [if_pos (Ao _)] at Ae
   have Ae:=Ae.resolve_right (fun h=>nl2 _ h.2)
   have A4:0 ∈ Region.ready .any ops (listed.setIfInBounds i true):=ready_mono hr (fun e=>hi0 e.symm)
   show wpAny P .any ops (Qn (Q .normal)) ((k2 :: Ab).length + 1) (listed.setIfInBounds i true) c w3
   refine ⟨fun h=>(by rw [h] at A4;cases A4),fun j hj => ?_⟩
   have Ai:j=0:=by
    by_cases e:j=0
    ·exact e
    ·exfalso
     have Ar:=ready_mono (i:=0) hj e
     rw [Array.setIfInBounds_comm _ _ (fun e=>hi0 e)] at Ar
     rw [q2] at Ar
     have:j=k2:=by simpa using Ar
     subst this
     obtain ⟨oj,A2,e',A9,Bb,At⟩:=Region.waitsFor_spec Am
     obtain ⟨_,o,ho,Af⟩:=mem_ready.1 hj
     rw [ho] at A2;cases A2
     have h3:=Af e' A9 Bb
     rw [At,getD_set_ne false hi0,getD_both Ba] at h3
     cases h3
   subst Ai
   unfold wpOp
   simp only [h0,Ao,if_true]
   refine .inl ?_
   unfold Oper.wp at Ae ⊢
   rw [execOp_put oz (fun cs c=>Region.noSelect_spec Ad 0 oz cs c h0) c oz.dst vz Ac] at Ae
   refine upon_weak' (upon_self Ae) ?_
   intro c' w4 h4
   rw [Array.setIfInBounds_comm _ _ hi0]
   exact wAo3 (k2 :: Ab) lt _ _ w4 Ag (by simp only [seqL,Bool.and_eq_true,decide_eq_true_eq];exact ⟨q2,q3⟩) h4
end
end Go.FlowQ
