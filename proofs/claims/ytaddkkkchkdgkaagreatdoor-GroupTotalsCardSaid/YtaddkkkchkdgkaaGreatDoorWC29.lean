/- As FlP, where the first operation of a region floats: it may be done ahead of, or right behind, the tail's first. -/
import Derived.Test.YtaddkkkchkdgkaaGreatDoorWC28
namespace Go.FlowQ
open Go Go.RowKit Go.Flow Go.FlowP
section
variable {P:Program} {ops:Array Oper}
def sinkT (ops:Array Oper) (n t1:Nat):Bool:=(List.range n).all fun i=>i == 0 || (t1 :: List.range n).any fun j=>decide (i < j) && Region.waitsFor .any ops j i
def chainT (ops:Array Oper) (t1:Nat) (ks:List Nat):Bool:=ks.all fun t=>t == t1 || ks.any fun p=>Region.waitsFor .any ops t p
structure HInv (ops:Array Oper) (n:Nat) (ks:List Nat) (listed:Array Bool):Prop where
 size:listed.size=ops.size
 first:listed.getD 0 false=true
 closed:∀ j oj,ops[j]? = some oj→listed.getD j false=true→∀ e ∈ oj.after,Region.binds .any e=true→listed.getD e.on false=true
 tail:∀ t ∈ ks,listed.getD t true=false
 rest:∀ j,n≤j→j < ops.size→j ∉ ks→listed.getD j true=true
theorem HInv.set {n i:Nat} {ks:List Nat} {listed:Array Bool} (inv:HInv ops n ks listed) (hi:i ∈ Region.ready .any ops listed) (hin:i ∉ ks):HInv ops n ks (listed.setIfInBounds i true):=by
 obtain ⟨hun,oi,hoi,hall⟩:=mem_ready.1 hi
 refine ⟨by simp [inv.size],getD_set_true inv.first,fun j oj hj hl e he hb => ?_,fun t ht=>by rw [getD_set_ne true (fun e=>hin (by rw [e];exact ht))];exact inv.tail t ht,fun j h1 h2 h3 => ?_⟩
 ·by_cases hij:i=j
  ·subst hij
   have:oj=oi:=Option.some.inj (hj.symm.trans hoi)
   subst this
   exact getD_set_true (hall e he hb)
  ·rw [getD_set_ne false hij] at hl
   exact getD_set_true (inv.closed j oj hj hl e he hb)
 ·by_cases hij:i=j
  ·subst hij
   have:=inv.rest i h1 h2 h3
   rw [hun] at this
   cases this
  ·rw [getD_set_ne true hij];exact inv.rest j h1 h2 h3
theorem waits {n t1:Nat} {ks:List Nat} {listed:Array Bool} (hs:sinkT ops n t1=true) (hc:chainT ops t1 ks=true) (inv:HInv ops n ks listed) :
  ∀ (d i:Nat),n - i=d→i < n→listed.getD i true=false→∀ t,n≤t→t ∉ Region.ready .any ops listed:=by
 intro d
 induction d using Nat.strongRecOn with
 | _ d ih=>
   intro i hd hi hun t ht hr
   obtain ⟨htun,ot,hot,hall⟩:=mem_ready.1 hr
   have htlt:t < ops.size:=(Array.getElem?_eq_some_iff.1 hot).1
   by_cases htk:t ∈ ks
   ·have h1:=List.all_eq_true.1 hc t htk
    simp only [Bool.or_eq_true,beq_iff_eq] at h1
    rcases h1 with h1 | h1
    ·subst h1
     have h1:=List.all_eq_true.1 hs i (List.mem_range.2 hi)
     simp only [Bool.or_eq_true,beq_iff_eq] at h1
     rcases h1 with h1 | h1
     ·subst h1;have h3:=inv.first;rw [getD_both hun] at h3;cases h3
     obtain ⟨j,hj,hj2⟩:=List.any_eq_true.1 h1
     simp only [Bool.and_eq_true,decide_eq_true_eq] at hj2
     obtain ⟨oj,hoj,e,he,hb,hon⟩:=Region.waitsFor_spec hj2.2
     rcases List.mem_cons.1 hj with rfl | hj
     ·have:oj=ot:=Option.some.inj (hoj.symm.trans hot)
      subst this
      have h2:=hall e he hb
      rw [hon,getD_both hun] at h2
      cases h2
     ·have hjn:j < n:=List.mem_range.1 hj
      cases hl:listed.getD j false with
      | true=>
        have h2:=inv.closed j oj hoj hl e he hb
        rw [hon,getD_both hun] at h2
        cases h2
      | false=>
        have hjs:j < listed.size:=by rw [inv.size];omega
        exact ih (n - j) (by omega) j rfl hjn (getD_in hjs hl) t ht hr
    ·obtain ⟨p,hp,hw⟩:=List.any_eq_true.1 h1
     obtain ⟨o',ho',e,he,hb,hon⟩:=Region.waitsFor_spec hw
     have:o'=ot:=Option.some.inj (ho'.symm.trans hot)
     subst this
     have h2:=hall e he hb
     rw [hon,getD_both (inv.tail p hp)] at h2
     cases h2
   ·have:=inv.rest t ht htlt htk
    rw [htun] at this
    cases this
theorem anyFL_first {S:Nat→Flow.Spec} {w0:World} {n t1 i:Nat} {ks:List Nat} {oi:Oper} {L:Array Bool→Act→(Nat→World→Prop)→Prop} (hi:ops[i]? = some oi) (hsel:∀ (j:Nat) (o:Oper) cs b,ops[j]? = some o→o.op ≠ .select cs b)
  (hs:sinkT ops n t1=true) (hc:chainT ops t1 ks=true) (hin:i < n) (hks:∀ k ∈ ks,n≤k)
  (hdone:∀ listed a Γ,L listed a Γ→∀ j ∈ Region.ready .any ops listed,n≤j) :
  ∀ (f:Nat) (listed:Array Bool) (a:Act) (Γ:Nat→World→Prop),HInv ops n ks listed →
    (∀ j oj,ops[j]? = some oj→j≠i→listed.getD j true=false→(∀ e ∈ oj.after,Region.binds .any e=true→e.on≠i)→oi.apart ops oj=true) →
    i ∈ Region.ready .any ops listed→Runs' P ops w0 oi (S i) a Γ →
    (∀ v,(S i).ok v→anyFL P ops S w0 n L f (listed.setIfInBounds i true) (a.put oi.dst v) (upd Γ i ((S i).holds v)))→anyFL P ops S w0 n L (f + 1) listed a Γ:=by
 have hex:∃ v,(S i).ok v:=by
  cases hs:S i with
  | inl u=>exact ⟨u,rfl⟩
  | inr V=>exact ⟨undef,trivial⟩
 obtain ⟨v0,hv0⟩:=hex
 intro f
 induction f with
 | zero=>
   intro listed a Γ inv _ hr hy H
   have hun:=(mem_ready.1 hr).1
   refine ⟨fun h=>(by rw [h] at hr;cases hr),fun j hj => ?_⟩
   have hjn:j < n:=by
    rcases Nat.lt_or_ge j n with h | h
    ·exact h
    ·exact absurd hj (waits hs hc inv _ i rfl hin hun j h)
   refine ⟨hjn,?_⟩
   by_cases hji:j=i
   ·subst hji
    unfold fOp;simp only [hi];exact ⟨hy,H⟩
   ·have:=hdone _ _ _ (H v0 hv0) j (ready_mono hj hji)
    omega
 | succ f ih=>
   intro listed a Γ inv hfree hr hy H
   have hun:=(mem_ready.1 hr).1
   refine ⟨fun h=>(by rw [h] at hr;cases hr),fun j hj => ?_⟩
   have hjn:j < n:=by
    rcases Nat.lt_or_ge j n with h | h
    ·exact h
    ·exact absurd hj (waits hs hc inv _ i rfl hin hun j h)
   refine ⟨hjn,?_⟩
   by_cases hji:j=i
   ·subst hji
    unfold fOp;simp only [hi];exact ⟨hy,H⟩
   ·obtain ⟨hjun,oj,hoj,hall⟩:=mem_ready.1 hj
    have unl:∀ k,listed.getD k true=false→listed.getD k false=true→False:=fun k h1 h0=>by rw [getD_both h1] at h0;cases h0
    have hnot:∀ e ∈ oj.after,Region.binds .any e=true→e.on≠i:=fun e he hb heq=>unl i hun (by rw [← heq];exact hall e he hb)
    have hnoti:∀ e ∈ oi.after,Region.binds .any e=true→e.on≠j:=fun e he hb heq=>by
     obtain ⟨_,o',ho',hall'⟩:=mem_ready.1 hr
     rw [hi] at ho';cases ho'
     exact unl j hjun (by rw [← heq];exact hall' e he hb)
    have hap:=hfree j oj hoj hji hjun hnot
    obtain ⟨h1,h2,h3⟩:=Oper.apart_spec hap
    have hfree':∀ k ok,ops[k]? = some ok→k≠i→(listed.setIfInBounds j true).getD k true=false →
      (∀ e ∈ ok.after,Region.binds .any e=true→e.on≠i)→oi.apart ops ok=true:=fun k ok hk hki hun hno=>by
     refine hfree k ok hk hki ?_ hno
     by_cases hjk:j=k
     ·subst hjk;exact hjun
     ·rw [getD_set_ne true hjk] at hun;exact hun
    have Hj:∀ v,(S i).ok v→Runs' P ops w0 oj (S j) (a.put oi.dst v) (upd Γ i ((S i).holds v))∧∀ u,(S j).ok u →
      anyFL P ops S w0 n L f ((listed.setIfInBounds i true).setIfInBounds j true) ((a.put oi.dst v).put oj.dst u) (upd (upd Γ i ((S i).holds v)) j ((S j).holds u)):=fun v hv=>by
     have:=((H v hv).2 j (ready_mono hj hji)).2
     unfold fOp at this
     simpa only [hoj] using this
    unfold fOp
    simp only [hoj]
    refine ⟨(Hj v0 hv0).1.of_same (execOp_put oj (fun cs b=>hsel j oj cs b hoj) a oi.dst v0 h1).symm (wanted_put oj a oi.dst v0 h1).symm (fun k hk => ?_),fun u hu => ?_⟩
    ·exact (upd_ne (not_dep hnot hk)).symm
    ·refine ih (listed.setIfInBounds j true) _ _ (inv.set hj (fun hk=>by have:=hks j hk;omega)) hfree' (ready_mono hr (Ne.symm hji)) ?_ (fun v hv => ?_)
     ·exact hy.of_same (execOp_put oi (fun cs b=>hsel i oi cs b hi) a oj.dst u h3) (wanted_put oi a oj.dst u h3) (fun k hk=>upd_ne (not_dep hnoti hk))
     ·have:=(Hj v hv).2 u hu
      rw [Array.setIfInBounds_comm _ _ hji,← Act.put_comm a v u h2,← upd_comm hji]
      exact this
def lexHeadT (ops:Array Oper) (ks:List Nat):Nat→Nat→Array Bool→Bool
 | 0,_,listed=>seqL ops ks listed
 | f + 1,k,listed=>(Region.ready .any ops listed).contains k && Region.free .any ops listed k && lexHeadT ops ks f (k + 1) (listed.setIfInBounds k true)
theorem anyFL_lex {S:Nat→Flow.Spec} {w0:World} {n t1:Nat} {ks:List Nat} {Lq:Act→(Nat→World→Prop)→Prop} (hsel:Region.noSelect ops=true) (hs:sinkT ops n t1=true) (hc:chainT ops t1 ks=true) (hks:∀ k ∈ ks,n≤k) :
  ∀ (l:List Oper) (k:Nat) (listed:Array Bool) (a:Act) (Γ:Nat→World→Prop),(∀ j,j < l.length→l[j]? = ops[k + j]?)→k + l.length=n→HInv ops n ks listed →
  lexHeadT ops ks l.length k listed=true→Tree P ops S w0 Lq l k a Γ →
  anyFL P ops S w0 n (fun listed' a' Γ'=>seqL ops ks listed'=true∧Lq a' Γ') l.length listed a Γ
 | [],k,listed,a,Γ,_,hk,_,hB,h=>⟨by simpa [lexHeadT] using hB,h⟩
 | o :: l,k,listed,a,Γ,hl,hk,inv,hB,h=>by
   have h0:ops[k]? = some o:=by simpa using (hl 0 (by simp)).symm
   simp only [List.length_cons,lexHeadT,Bool.and_eq_true] at hB
   obtain ⟨⟨hr,hf⟩,hB'⟩:=hB
   have hkn:k < n:=by simp only [List.length_cons] at hk;omega
   have hr':k ∈ Region.ready .any ops listed:=by simpa using hr
   exact anyFL_first h0 (Region.noSelect_spec hsel) hs hc hkn hks (fun listed' a' Γ' hL=>seqL_ready hks hL.1) l.length listed a Γ inv (Region.free_spec h0 hf) hr' h.1
    (fun v hv=>anyFL_lex hsel hs hc hks l (k + 1) _ _ _ (fun j hj=>by have:=hl (j + 1) (by simp;omega);simpa [Nat.add_assoc,Nat.add_comm 1 j] using this) (by simp only [List.length_cons] at hk;omega) (inv.set hr' (fun hk=>by have:=hks k hk;omega)) hB' (h.2 v hv))
theorem wpAny_float {S:Nat→Flow.Spec} {w0:World} (hS:∀ i,(S i).mono) {n g:Nat} {oz:Oper} {vz:Value} {E:Act→World→Prop} {L:Array Bool→Act→(Nat→World→Prop)→Prop} (hz:ops[0]? = some oz) (hgd:oz.guard=none)
  (hsel:∀ (j:Nat) (o:Oper) cs b,ops[j]? = some o→o.op ≠ .select cs b)
  (hL:∀ listed a Γ w,L listed a Γ→Below w0.heap.size w0 w→(∀ j,Γ j w)→wpAny P .any ops (Qn E) g listed a w)
  (hL0:∀ listed a Γ w,0 ∈ Region.ready .any ops listed→(∀ w',Below w0.heap.size w0 w'→(execOp a.eval oz).run P w' = .ok (.value vz) w')→L (listed.setIfInBounds 0 true) (a.put oz.dst vz) Γ→Below w0.heap.size w0 w→(∀ j,Γ j w)→wpAny P .any ops (Qn E) (g + 1) listed a w) :
  ∀ (f:Nat) (listed:Array Bool) (a:Act) (Γ:Nat→World→Prop) (w:World),0 ∈ Region.ready .any ops listed →
    (∀ j oj,ops[j]? = some oj→j≠0→j < n→oz.apart ops oj=true) →
    (∀ w',Below w0.heap.size w0 w'→(execOp a.eval oz).run P w' = .ok (.value vz) w') →
    anyFL P ops S w0 n L f (listed.setIfInBounds 0 true) (a.put oz.dst vz) Γ→Below w0.heap.size w0 w→(∀ j,Γ j w)→(∀ j,Mono (Γ j))→wpAny P .any ops (Qn E) (f + g + 1) listed a w
 | 0,listed,a,Γ,w,hr,_,hrun,h,hB,hG,_=>by rw [Nat.zero_add];exact hL0 _ _ _ _ hr hrun h hB hG
 | f + 1,listed,a,Γ,w,hr,hap,hrun,h,hB,hG,hM=>by
   refine ⟨fun h0=>(by rw [h0] at hr;cases hr),fun i hi => ?_⟩
   by_cases hi0:i=0
   ·subst hi0
    unfold wpOp
    have hw:Region.wanted oz (yielded ops a.tmps)=true:=by unfold Region.wanted;rw [hgd]
    simp only [hz,hw,if_true]
    refine .inl ?_
    unfold Oper.wp
    rw [hrun w hB]
    exact wpAny_of_anyFL hS hL (f + 1) _ _ _ _ h hB hG hM
   ·have hi':=ready_mono hi hi0
    obtain ⟨hin,h1⟩:=h.2 i hi'
    obtain ⟨_,oi,hoi,_⟩:=mem_ready.1 hi
    obtain ⟨p1,p2,p3⟩:=Oper.apart_spec (hap i oi hoi hi0 hin)
    unfold fOp at h1
    unfold wpOp
    simp only [hoi] at h1 ⊢
    have hM':∀ v j,Mono (upd Γ i ((S i).holds v) j):=fun v j=>by
     by_cases e:j=i
     ·subst e;rw [upd_same];exact hS j v
     ·rw [upd_ne e];exact hM j
    have hG':∀ v w',Below w.heap.size w w'→(S i).holds v w'→∀ j,upd Γ i ((S i).holds v) j w':=fun v w' hb hv j=>by
     by_cases e:j=i
     ·subst e;rw [upd_same];exact hv
     ·rw [upd_ne e];exact hM j _ _ (hG j) hb
    have hok:∀ v w',(S i).holds v w'→(S i).ok v:=fun v w' hv=>by
     cases hs:S i with
     | inl u=>rw [hs] at hv;exact hv
     | inr V=>trivial
    have go:∀ v w',(S i).ok v→Below w0.heap.size w0 w'→(∀ j,upd Γ i ((S i).holds v) j w')→wpAny P .any ops (Qn E) (f + g + 1) (listed.setIfInBounds i true) (a.put oi.dst v) w':=fun v w' hv hb hg=>by
     refine wpAny_float hS hz hgd hsel hL hL0 f _ _ (upd Γ i ((S i).holds v)) _ (ready_mono hr (fun e=>hi0 e.symm)) hap ?_ ?_ hb hg (hM' v)
     ·intro w'' hb''
      rw [execOp_put oz (fun cs b=>hsel 0 oz cs b hz) a oi.dst v p3]
      exact hrun w'' hb''
     ·have:=h1.2 v hv
      rw [Array.setIfInBounds_comm _ _ hi0,← Act.put_comm a vz v p2]
      exact this
    have h2:=(h1.1.of_same (execOp_put oi (fun cs b=>hsel i oi cs b hoi) a oz.dst vz p1).symm (wanted_put oi a oz.dst vz p1).symm (fun _ _=>rfl):Runs' P ops w0 oi (S i) a Γ) w hB (fun j _=>hG j)
    unfold Runs at h2
    rw [show f + 1 + g=f + g + 1 by omega]
    split
    ·rename_i hw
     simp only [hw,if_true] at h2
     refine .inl (wp_of_yields (yields_mono ?_ h2))
     intro v w' ⟨hb,hv⟩
     exact go v w' (hok v w' hv) (hB.trans (hb.mono hB.size)) (hG' v w' hb hv)
    ·rename_i hw
     simp only [hw] at h2
     exact go undef w (hok _ _ h2) hB (hG' _ _ (Below.refl _ _) h2)
theorem put_put (a:Act) (d:Option Tmp) (u v:Value):(a.put d u).put d v=a.put d v:=by
 cases d with
 | none=>rfl
 | some d=>
   show ({ a with tmps:=(a.tmps.setIfInBounds d u).setIfInBounds d v }:Act) = { a with tmps:=a.tmps.setIfInBounds d v }
   rw [Array.setIfInBounds_setIfInBounds]
theorem upon_self {o:Oper} {a:Act} {v:Value} {K:Act→World→Prop} {E:Act→World→Prop} {r:Result Next} (h:o.upon P (a.put o.dst v) K (Qn E) r):o.upon P a K (Qn E) r:=by
 cases r with
 | ok n w'=>
   cases n <;> simp only [Oper.upon] at h ⊢
   case value u=>rwa [put_put] at h
   case skip=>rwa [put_put] at h
   case defer d=>
    have:(({ (a.put o.dst v) with defers:=d :: (a.put o.dst v).defers }:Act).put o.dst undef)=(({ a with defers:=d :: a.defers }:Act).put o.dst undef):=by
     rw [show ({ (a.put o.dst v) with defers:=d :: (a.put o.dst v).defers }:Act)=(({ a with defers:=d :: a.defers }:Act).put o.dst v) by cases o.dst <;> rfl,put_put]
    rw [this] at h
    exact h
   case enter f args=>
    refine Calls.mono h fun e w'' he => ?_
    cases e with
    | returned u=>
      have he:K ((a.put o.dst v).put o.dst u) w'':=he
      rw [put_put] at he
      exact he
    | panicked c=>exact (by cases he.1)
    | outgrown=>exact (not_lets E he).elim
   case row=>exact Rows.mono h fun u w'' he=>by rw [← put_put a o.dst v u];exact he
 | halt x w'=>
   cases x <;> simp only [Oper.upon] at h ⊢
   case panic=>exact (by cases h.1)
theorem upon_weak' {o:Oper} {a:Act} {K K':Act→World→Prop} {E:Act→World→Prop} {r:Result Next} (h:o.upon P a K (Qn E) r) (hK:∀ b w,K b w→K' b w):o.upon P a K' (Qn E) r:=by
 have e:Qn E=Qn ((Qn E) .normal):=by
  funext x b w
  simp only [Qn,eq_iff_iff]
  exact ⟨fun h=>⟨h.1,trivial,h.2⟩,fun h=>⟨h.1,h.2.2⟩⟩
 rw [e] at h
 exact upon_weak hK h
def z0 (ops:Array Oper) (n:Nat):Bool:=match ops[0]? with
 | some oz=>oz.guard.isNone && (oz.looksAt ops).all (fun d=>oz.dst != some d) && ((List.range (n + 1)).all fun j=>j == 0 || match ops[j]? with
   | some o=>oz.apart ops o
   | none=>false)
 | none=>false
def zn (ops:Array Oper) (n:Nat):Bool:=match ops[n]? with
 | some o=>o.guard.isNone
 | none=>false
def zk (ops:Array Oper) (ks:List Nat):Bool:=match ks with
 | _ :: k2 :: _=>Region.waitsFor .any ops k2 0
 | _=>false
structure OkZ (ops:Array Oper) (n:Nat) (ks:List Nat):Prop where
 sel:Region.noSelect ops=true
 nl:n < ops.size
 n0:0 < n
 s:sinkT ops n n=true
 c:chainT ops n ks=true
 kn:∀ k ∈ ks,n≤k
 kl:∀ k ∈ ks,k < ops.size
 kh:ks.head? = some n
 len:n + ks.length=ops.size
 r0:(Region.ready .any ops (Array.replicate ops.size false)).contains 0=true
 yz:FlowQ.z0 ops n=true
 yn:FlowQ.zn ops n=true
 yk:FlowQ.zk ops ks=true
 lex:lexHeadT ops ks (n - 1) 1 ((Array.replicate ops.size false).setIfInBounds 0 true)=true
 rest:∀ j,j < ops.size→j < n∨ks.contains j=true
def okZ (ops:Array Oper) (n:Nat) (ks:List Nat):Bool:=
 Region.noSelect ops && (decide (n < ops.size) && (decide (0 < n) && (sinkT ops n n && (chainT ops n ks && ((ks.all fun k=>decide (n≤k)) && ((ks.all fun k=>decide (k < ops.size)) && (decide (ks.head? = some n) && (decide (n + ks.length=ops.size) &&
  ((Region.ready .any ops (Array.replicate ops.size false)).contains 0 && (FlowQ.z0 ops n && (FlowQ.zn ops n && (FlowQ.zk ops ks && (lexHeadT ops ks (n - 1) 1 ((Array.replicate ops.size false).setIfInBounds 0 true) &&
  ((List.range ops.size).all fun j=>decide (j < n) || ks.contains j))))))))))))))
theorem OkZ.of {n:Nat} {ks:List Nat} (h:okZ ops n ks=true):OkZ ops n ks:=by
 unfold okZ at h
 obtain ⟨a1,h⟩:=Bool.and_eq_true_iff.1 h
 obtain ⟨a2,h⟩:=Bool.and_eq_true_iff.1 h
 obtain ⟨a3,h⟩:=Bool.and_eq_true_iff.1 h
 obtain ⟨a4,h⟩:=Bool.and_eq_true_iff.1 h
 obtain ⟨a5,h⟩:=Bool.and_eq_true_iff.1 h
 obtain ⟨a6,h⟩:=Bool.and_eq_true_iff.1 h
 obtain ⟨a7,h⟩:=Bool.and_eq_true_iff.1 h
 obtain ⟨a8,h⟩:=Bool.and_eq_true_iff.1 h
 obtain ⟨a9,h⟩:=Bool.and_eq_true_iff.1 h
 obtain ⟨b1,h⟩:=Bool.and_eq_true_iff.1 h
 obtain ⟨b2,h⟩:=Bool.and_eq_true_iff.1 h
 obtain ⟨b3,h⟩:=Bool.and_eq_true_iff.1 h
 obtain ⟨b4,h⟩:=Bool.and_eq_true_iff.1 h
 obtain ⟨b5,h⟩:=Bool.and_eq_true_iff.1 h
 refine ⟨a1,of_decide_eq_true a2,of_decide_eq_true a3,a4,a5,fun k hk=>of_decide_eq_true (List.all_eq_true.1 a6 k hk),fun k hk=>of_decide_eq_true (List.all_eq_true.1 a7 k hk),of_decide_eq_true a8,of_decide_eq_true a9,b1,b2,b3,b4,b5,fun j hj => ?_⟩
 have:=List.all_eq_true.1 h j (List.mem_range.2 hj)
 rcases Bool.or_eq_true_iff.1 this with h | h
 ·exact Or.inl (of_decide_eq_true h)
 ·exact Or.inr h
set_option maxHeartbeats 2000000 in
theorem wp_region {id:Nat} {Q:Exit→Act→World→Prop} {a:Act} {w:World} {oz on:Oper} {l lt:List Oper} (n:Nat) (ks:List Nat) (vz:Value) (S:Nat→Flow.Spec) (hm:P.follows .mixedOrders=true) (hB:okZ (oz :: l).toArray n ks=true) (hS:∀ i,(S i).mono)
  (hlt:pick (oz :: l) ks=on :: lt)
  (hz:∀ w',Below w.heap.size w w'→(execOp a.eval oz).run P w' = .ok (.value vz) w')
  (h:Tree P (oz :: l).toArray S w (fun a' Γ => ∀ w',Below w.heap.size w w'→(∀ j,Γ j w')→wpList P (oz :: l).toArray (Qn (Q .normal)) (on :: lt) a' w'∧wpList P (oz :: l).toArray (Qn (Q .normal)) (on :: oz :: lt) a' w') (l.take (n - 1)) 1 (a.put oz.dst vz) (fun _ _=>True)):(Code.region id (oz :: l).toArray true).wp P Q a w:=by
 obtain ⟨hsel,hn,hn0,hs,hc,hks,hkl,hkh,hlen,hr0,hz0,hon,hk2,hlex,hrest⟩:=OkZ.of hB
 have h0:(oz :: l).toArray[0]? = some oz:=by simp
 unfold FlowQ.z0 at hz0
 simp only [h0,Bool.and_eq_true,List.all_eq_true,List.mem_range,Bool.or_eq_true,beq_iff_eq] at hz0
 obtain ⟨⟨hgd,hself⟩,hap⟩:=hz0
 have hgd:oz.guard=none:=by simpa using hgd
 have hself:∀ d,oz.dst=some d→d ∉ oz.looksAt (oz :: l).toArray:=by
  intro d hd hm
  have:=hself d hm
  simp [hd] at this
 have hap:∀ j oj,(oz :: l).toArray[j]? = some oj→j≠0→j < n + 1→oz.apart (oz :: l).toArray oj=true:=by
  intro j oj hj hj0 hjn
  have:=hap j hjn
  simp only [hj] at this
  exact this.resolve_left hj0
 generalize hops:(oz :: l).toArray=ops at *
 have hr0:0 ∈ Region.ready .any ops (Array.replicate ops.size false):=by simpa using hr0
 have hsz:(l.take (n - 1)).length=n - 1:=by
  have:ops.size=l.length + 1:=by rw [← hops];simp
  simp;omega
 have inv0:HInv ops n ks ((Array.replicate ops.size false).setIfInBounds 0 true):=by
  refine ⟨by simp,?_,?_,?_,?_⟩
  ·have:0 < ops.size:=by omega
   simp [Array.getD,this]
  ·intro j oj hj hl e he hb
   exfalso
   by_cases hj0:j=0
   ·subst hj0
    obtain ⟨_,o,ho,hall⟩:=mem_ready.1 hr0
    rw [ho] at hj;cases hj
    have:=hall e he hb
    rw [getD_replicate_false] at this;cases this
   ·rw [getD_set_ne false (fun e=>hj0 e.symm),getD_replicate_false] at hl;cases hl
  ·intro t ht
   have h1:=hks t ht
   rw [getD_set_ne true (by omega)]
   exact getD_in (by simpa using hkl t ht) (getD_replicate_false _ _)
  ·intro j h1 h2 h3
   rcases hrest j h2 with h | h
   ·omega
   ·exact absurd (by simpa using h) h3
 obtain ⟨kt,rfl⟩:∃ kt,ks=n :: kt:=by
  cases ks with
  | nil=>cases hkh
  | cons k kt=>exact ⟨kt,by rw [Option.some.inj hkh]⟩
 obtain ⟨k2,kt2,rfl⟩:∃ k2 kt2,kt=k2 :: kt2:=by
  cases kt with
  | nil=>cases hk2
  | cons k kt=>exact ⟨k,kt,rfl⟩
 unfold FlowQ.zk at hk2
 simp only at hk2
 have hpm:=pick_map (oz :: l) (n :: k2 :: kt2) (fun k hk=>by have:=hkl k hk;rw [← hops] at this;simpa using this)
 rw [hlt,hops] at hpm
 simp only [List.map_cons,List.cons.injEq] at hpm
 obtain ⟨hon',hpm2⟩:=hpm
 unfold FlowQ.zn at hon
 simp only [hon'] at hon
 have hong:on.guard=none:=by simpa using hon
 refine wp_region_any hm (wpAny_weak _ _ _ _ ?_)
 have H:=anyFL_lex (t1:=n) hsel hs hc hks (l.take (n - 1)) 1 _ (a.put oz.dst vz) (fun _ _=>True) (fun j hj=>by
   have hj':j < n - 1:=by rw [hsz] at hj;exact hj
   rw [← hops]
   rw [List.getElem?_take,if_pos hj']
   simp [Nat.add_comm 1 j]) (by rw [hsz];omega) inv0 (by rw [hsz];exact hlex) h
 have hLs:∀ (listed:Array Bool) (a':Act) (Γ':Nat→World→Prop) (w':World),(seqL ops (n :: k2 :: kt2) listed=true∧∀ w',Below w.heap.size w w'→(∀ j,Γ' j w')→wpList P ops (Qn (Q .normal)) (on :: lt) a' w'∧wpList P ops (Qn (Q .normal)) (on :: oz :: lt) a' w')→Below w.heap.size w w'→(∀ j,Γ' j w')→wpAny P .any ops (Qn (Q .normal)) (n :: k2 :: kt2).length listed a' w':=by
  intro listed a' Γ' w' hL hb hG
  exact wpAny_of_seqL (n :: k2 :: kt2) (on :: lt) listed a' w' (by simp only [List.map_cons,List.cons.injEq];exact ⟨hon',hpm2⟩) hL.1 (hL.2 w' hb hG).1
 have H2:=wpAny_float (P:=P) (S:=S) (w0:=w) hS (n:=n) (g:=(n :: k2 :: kt2).length) (E:=Q .normal) (vz:=vz) (L:=fun listed a' Γ'=>seqL ops (n :: k2 :: kt2) listed=true∧∀ w',Below w.heap.size w w'→(∀ j,Γ' j w')→wpList P ops (Qn (Q .normal)) (on :: lt) a' w'∧wpList P ops (Qn (Q .normal)) (on :: oz :: lt) a' w')
  h0 hgd (Region.noSelect_spec hsel) hLs ?_ (l.take (n - 1)).length (Array.replicate ops.size false) a (fun _ _=>True) { w with drawn:=w.drawn + 1 } hr0 (fun j oj hj h1 h2=>hap j oj hj h1 (by omega)) hz H ((Below.refl _ _).drew) (fun _=>trivial) (fun _ _ _ _ _=>trivial)
 ·rw [hsz] at H2
  rw [show n - 1 + (n :: k2 :: kt2).length + 1=ops.size by rw [← hlen];omega] at H2
  exact H2
 ·
  intro listed b Γ' w1 hr hrun hL hb hG
  obtain ⟨hseq,hw⟩:=hL
  obtain ⟨hw1,hw2⟩:=hw w1 hb hG
  simp only [seqL,Bool.and_eq_true,decide_eq_true_eq] at hseq
  obtain ⟨q1,q2,q3⟩:=hseq
  have hun:=(mem_ready.1 hr).1
  refine ⟨fun h=>(by rw [h] at hr;cases hr),fun i hi => ?_⟩
  by_cases hi0:i=0
  ·subst hi0
   unfold wpOp
   have hwz:Region.wanted oz (yielded ops b.tmps)=true:=by unfold Region.wanted;rw [hgd]
   simp only [h0,hwz,if_true]
   refine .inl ?_
   unfold Oper.wp
   rw [hrun w1 hb]
   exact wpAny_of_seqL (n :: k2 :: kt2) (on :: lt) _ _ w1 (by simp only [List.map_cons,List.cons.injEq];exact ⟨hon',hpm2⟩) (by simp only [seqL,Bool.and_eq_true,decide_eq_true_eq];exact ⟨q1,q2,q3⟩) hw1
  ·have hin:i=n:=by
    have:=ready_mono hi hi0
    rw [q1] at this
    simpa using this
   subst hin
   obtain ⟨p1,p2,p3⟩:=Oper.apart_spec (hap i on hon' hi0 (by omega))
   have hwn:∀ c:Act,Region.wanted on (yielded ops c.tmps)=true:=fun c=>by unfold Region.wanted;rw [hong]
   unfold wpList at hw2
   rw [if_pos (hwn _)] at hw2
   have hw2:=hw2.resolve_right (fun h=>not_lets _ h.2)
   unfold wpOp
   simp only [hon',hwn,if_true]
   refine .inl ?_
   unfold Oper.wp at hw2 ⊢
   rw [execOp_put on (fun cs c=>Region.noSelect_spec hsel i on cs c hon') b oz.dst vz p1] at hw2
   refine upon_put (K:=wpList P ops (Qn (Q .normal)) (oz :: lt)) p2 ?_ hw2
   intro c w3 hc3
   unfold wpList at hc3
   have hwz:∀ c:Act,Region.wanted oz (yielded ops c.tmps)=true:=fun c=>by unfold Region.wanted;rw [hgd]
   rw [if_pos (hwz _)] at hc3
   have hc3:=hc3.resolve_right (fun h=>not_lets _ h.2)
   have hr8:0 ∈ Region.ready .any ops (listed.setIfInBounds i true):=ready_mono hr (fun e=>hi0 e.symm)
   show wpAny P .any ops (Qn (Q .normal)) ((k2 :: kt2).length + 1) (listed.setIfInBounds i true) c w3
   refine ⟨fun h=>(by rw [h] at hr8;cases hr8),fun j hj => ?_⟩
   have hj0:j=0:=by
    by_cases e:j=0
    ·exact e
    ·exfalso
     have hj2:=ready_mono (i:=0) hj e
     rw [Array.setIfInBounds_comm _ _ (fun e=>hi0 e)] at hj2
     rw [q2] at hj2
     have:j=k2:=by simpa using hj2
     subst this
     obtain ⟨oj,hoj,e',he',hb',hon2⟩:=Region.waitsFor_spec hk2
     obtain ⟨_,o,ho,hall⟩:=mem_ready.1 hj
     rw [ho] at hoj;cases hoj
     have h3:=hall e' he' hb'
     rw [hon2,getD_set_ne false hi0,getD_both hun] at h3
     cases h3
   subst hj0
   unfold wpOp
   simp only [h0,hwz,if_true]
   refine .inl ?_
   unfold Oper.wp at hc3 ⊢
   rw [execOp_put oz (fun cs c=>Region.noSelect_spec hsel 0 oz cs c h0) c oz.dst vz hself] at hc3
   refine upon_weak' (upon_self hc3) ?_
   intro c' w4 h4
   rw [Array.setIfInBounds_comm _ _ hi0]
   exact wpAny_of_seqL (k2 :: kt2) lt _ _ w4 hpm2 (by simp only [seqL,Bool.and_eq_true,decide_eq_true_eq];exact ⟨q2,q3⟩) h4
end
end Go.FlowQ
