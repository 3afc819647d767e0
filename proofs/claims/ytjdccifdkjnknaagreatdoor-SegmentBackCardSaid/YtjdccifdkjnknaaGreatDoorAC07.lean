/- A region that draws its order: a head, one operation, some pure ones, then two that are free of each other. -/
import Derived.Test.YtjdccifdkjnknaaGreatDoorAC05
namespace Go.FlowT
open Go Go.RowKit Go.Flow Go.FlowP
section
variable {P:Program} {ops:Array Oper}
def lHF (ops:Array Oper) (fin:Array Bool→Bool):Nat→Nat→Array Bool→Bool
 | 0,_,listed=>fin listed
 | f + 1,k,listed=>(Region.ready .any ops listed).contains k && Region.free .any ops listed k && lHF ops fin f (k + 1) (listed.setIfInBounds k true)
theorem aFl3 {S:Nat→Flow.Spec} {w0:World} {n t1:Nat} {ks:List Nat} {fin:Array Bool→Bool} {Lq:Act→(Nat→World→Prop)→Prop} (hsel:Region.noSelect ops=true) (hs:sinkT ops n t1=true) (hc:cT3 ops t1 ks=true) (hks:∀ k ∈ ks,n≤k) (hfin:∀ listed,fin listed=true→∀ j ∈ Region.ready .any ops listed,n≤j) :
  ∀ (l:List Oper) (k:Nat) (listed:Array Bool) (a:Act) (Γ:Nat→World→Prop),(∀ j,j < l.length→l[j]? = ops[k + j]?)→k + l.length=n→HInv ops n ks listed →
  lHF ops fin l.length k listed=true→Tree P ops S w0 Lq l k a Γ →
  aF P ops S w0 n (fun listed' a' Γ'=>fin listed'=true∧Lq a' Γ') l.length listed a Γ
 | [],k,listed,a,Γ,_,hk,_,hB,h=>⟨by simpa [lHF] using hB,h⟩
 | o :: l,k,listed,a,Γ,hl,hk,inv,hB,h=>by
   have h0:ops[k]? = some o:=by simpa using (hl 0 (by simp)).symm
   simp only [List.length_cons,lHF,Bool.and_eq_true] at hB
   obtain ⟨⟨hr,hf⟩,Ac⟩:=hB
   have Ab:k < n:=by simp only [List.length_cons] at hk;omega
   have Aa:k ∈ Region.ready .any ops listed:=by simpa using hr
   exact aFf h0 (Region.noSelect_spec hsel) hs hc Ab hks (fun listed' a' Γ' hL=>hfin listed' hL.1) l.length listed a Γ inv (Region.free_spec h0 hf) Aa h.1
    (fun v hv=>aFl3 hsel hs hc hks hfin l (k + 1) _ _ _ (fun j hj=>by have:=hl (j + 1) (by simp;omega);simpa [Nat.add_assoc,Nat.add_comm 1 j] using this) (by simp only [List.length_cons] at hk;omega) (inv.set Aa (fun hk=>by have:=hks k hk;omega)) Ac (h.2 v hv))
structure Fin (ops:Array Oper) (n:Nat) (ps:List Nat) (x y:Nat) (listed:Array Bool):Prop where
 r:Region.ready .any ops listed=[n]
 p:pO ops ps (listed.setIfInBounds n true)=true
 xy:∀ i ∈ Region.ready .any ops (after ps (listed.setIfInBounds n true)),i=x∨i=y
 ne:Region.ready .any ops (after ps (listed.setIfInBounds n true))≠[]
 sx:seqL ops [y] ((after ps (listed.setIfInBounds n true)).setIfInBounds x true)=true
 sy:seqL ops [x] ((after ps (listed.setIfInBounds n true)).setIfInBounds y true)=true
def finB (ops:Array Oper) (n:Nat) (ps:List Nat) (x y:Nat) (listed:Array Bool):Bool:=
 decide (Region.ready .any ops listed=[n]) && (pO ops ps (listed.setIfInBounds n true) && (((Region.ready .any ops (after ps (listed.setIfInBounds n true))).all fun i=>i == x || i == y) && ((!(Region.ready .any ops (after ps (listed.setIfInBounds n true))).isEmpty) &&
  (seqL ops [y] ((after ps (listed.setIfInBounds n true)).setIfInBounds x true) && seqL ops [x] ((after ps (listed.setIfInBounds n true)).setIfInBounds y true)))))
theorem Fin.of {n:Nat} {ps:List Nat} {x y:Nat} {listed:Array Bool} (h:finB ops n ps x y listed=true):Fin ops n ps x y listed:=by
 unfold finB at h
 obtain ⟨a1,h⟩:=Bool.and_eq_true_iff.1 h
 obtain ⟨a2,h⟩:=Bool.and_eq_true_iff.1 h
 obtain ⟨a3,h⟩:=Bool.and_eq_true_iff.1 h
 obtain ⟨a4,h⟩:=Bool.and_eq_true_iff.1 h
 obtain ⟨a5,a6⟩:=Bool.and_eq_true_iff.1 h
 refine ⟨of_decide_eq_true a1,a2,fun i hi => ?_,?_,a5,a6⟩
 ·have:=List.all_eq_true.1 a3 i hi
  simpa using this
 ·intro e;rw [e] at a4;cases a4
structure OkT (ops:Array Oper) (n:Nat) (ks ps:List Nat) (x y:Nat):Prop where
 sel:Region.noSelect ops=true
 s:sinkT ops n n=true
 c:cT3 ops n ks=true
 kn:∀ k ∈ ks,n≤k
 kl:∀ k ∈ ks,k < ops.size
 nl:n < ops.size
 len:n + (1 + (ps.length + 2))=ops.size
 lex:lHF ops (finB ops n ps x y) n 0 (Array.replicate ops.size false)=true
 rest:∀ j,j < ops.size→j < n∨ks.contains j=true
def okT (ops:Array Oper) (n:Nat) (ks ps:List Nat) (x y:Nat):Bool:=
 Region.noSelect ops && (sinkT ops n n && (cT3 ops n ks && ((ks.all fun k=>decide (n≤k)) && ((ks.all fun k=>decide (k < ops.size)) && (decide (n < ops.size) && (decide (n + (1 + (ps.length + 2))=ops.size) && (lHF ops (finB ops n ps x y) n 0 (Array.replicate ops.size false) &&
  ((List.range ops.size).all fun j=>decide (j < n) || ks.contains j))))))))
theorem OkT.of {n:Nat} {ks ps:List Nat} {x y:Nat} (h:okT ops n ks ps x y=true):OkT ops n ks ps x y:=by
 unfold okT at h
 obtain ⟨a1,h⟩:=Bool.and_eq_true_iff.1 h
 obtain ⟨a2,h⟩:=Bool.and_eq_true_iff.1 h
 obtain ⟨a3,h⟩:=Bool.and_eq_true_iff.1 h
 obtain ⟨a4,h⟩:=Bool.and_eq_true_iff.1 h
 obtain ⟨a5,h⟩:=Bool.and_eq_true_iff.1 h
 obtain ⟨a6,h⟩:=Bool.and_eq_true_iff.1 h
 obtain ⟨a7,h⟩:=Bool.and_eq_true_iff.1 h
 obtain ⟨a8,h⟩:=Bool.and_eq_true_iff.1 h
 refine ⟨a1,a2,a3,fun k hk=>of_decide_eq_true (List.all_eq_true.1 a4 k hk),fun k hk=>of_decide_eq_true (List.all_eq_true.1 a5 k hk),of_decide_eq_true a6,of_decide_eq_true a7,a8,fun j hj => ?_⟩
 rcases Bool.or_eq_true_iff.1 (List.all_eq_true.1 h j (List.mem_range.2 hj)) with h | h
 ·exact Or.inl (of_decide_eq_true h)
 ·exact Or.inr h
theorem upon_conv {o:Oper} {a:Act} {E E':Act→World→Prop} {K':Act→World→Prop} {r:Result Next} (hK:∀ b w,Qn E .normal b w→K' b w) (h:o.upon P a (wpList P ops (Qn E) []) (Qn E) r):o.upon P a K' (Qn E') r:=by
 cases r with
 | ok n w'=>
   cases n <;> simp only [Oper.upon] at h ⊢
   case value u=>exact hK _ _ h
   case skip=>exact hK _ _ h
   case defer d=>exact hK _ _ h
   case enter f args=>
    refine Calls.mono h fun e w'' he => ?_
    cases e with
    | returned u=>exact hK _ _ he
    | panicked c=>exact (by cases he.1)
    | outgrown=>exact (nl2 _ he).elim
   case row=>exact Rows.mono h fun u w'' he=>hK _ _ he
 | halt x w'=>
   cases x <;> simp only [Oper.upon] at h ⊢
   case panic=>exact (by cases h.1)
theorem wpAny_two {E:Act→World→Prop} {x y:Nat} {ox oy:Oper} {listed:Array Bool} {a:Act} {w:World} (hx:ops[x]? = some ox) (hy:ops[y]? = some oy)
  (hxy:∀ i ∈ Region.ready .any ops listed,i=x∨i=y) (hne:Region.ready .any ops listed≠[]) (sx:seqL ops [y] (listed.setIfInBounds x true)=true) (sy:seqL ops [x] (listed.setIfInBounds y true)=true)
  (h1:wpList P ops (Qn E) [ox,oy] a w) (h2:wpList P ops (Qn E) [oy,ox] a w):wpAny P .any ops (Qn E) 2 listed a w:=by
 refine ⟨fun h=>absurd h hne,fun i hi => ?_⟩
 rcases hxy i hi with rfl | rfl
 ·refine wpOp_mono (K:=wpList P ops (Qn E) [oy]) (fun b w' hb=>wAo3 [y] [oy] _ b w' (by simp [hy]) sx hb) ?_
  unfold wpOp;simp only [hx];exact h1
 ·refine wpOp_mono (K:=wpList P ops (Qn E) [ox]) (fun b w' hb=>wAo3 [x] [ox] _ b w' (by simp [hx]) sy hb) ?_
  unfold wpOp;simp only [hy];exact h2
set_option maxHeartbeats 1000000 in
theorem wp_region {id:Nat} {Q:Exit→Act→World→Prop} {a:Act} {w:World} {l:List Oper} {on ox oy:Oper} (n:Nat) (ks ps:List Nat) (x y:Nat) (S:Nat→Flow.Spec) (hm:P.follows .mixedOrders=true) (hB:okT l.toArray n ks ps x y=true) (hS:∀ i,(S i).mono)
  (hn:l.toArray[n]? = some on) (hx:l.toArray[x]? = some ox) (hy:l.toArray[y]? = some oy)
  (h:Tree P l.toArray S w (fun a' Γ => ∀ w',Below w.heap.size w w'→(∀ j,Γ j w')→wpList P l.toArray (Qn (fun a2 w2=>Pure P l.toArray ps (fun a3=>wpList P l.toArray (Qn (Q .normal)) [ox,oy] a3 w2∧wpList P l.toArray (Qn (Q .normal)) [oy,ox] a3 w2) a2)) [on] a' w') (l.take n) 0 a (fun _ _=>True)) :
  (Code.region id l.toArray true).wp P Q a w:=by
 obtain ⟨Ac,hs,hc,Am,Ai,Al,Af,Ae,Aa⟩:=OkT.of hB
 have Ad:(l.take n).length=n:=by simp;simp at Al;omega
 have Ag:HInv l.toArray n ks (Array.replicate l.toArray.size false):=
  ⟨by simp,fun j oj hj hl=>(by rw [getD_replicate_false] at hl;cases hl),fun t ht=>getD_in (by simpa using Ai t ht) (getD_replicate_false _ _),fun j h1 h2 h3=>by
    rcases Aa j h2 with h | h
    ·omega
    ·exact absurd (by simpa using h) h3⟩
 have Ah:∀ listed:Array Bool,finB l.toArray n ps x y listed=true→∀ j ∈ Region.ready .any l.toArray listed,n≤j:=by
  intro listed hf j hj
  rw [(Fin.of hf).r] at hj
  have:j=n:=by simpa using hj
  omega
 have H:=aFl3 (t1:=n) Ac hs hc Am (fin:=finB l.toArray n ps x y) Ah (l.take n) 0 _ a (fun _ _=>True) (fun j hj=>by
   have Ak:j < n:=by rw [Ad] at hj;exact hj
   simp [Ak]) (by simpa using Ad) Ag (by rw [Ad];exact Ae) h
 refine wp_region_any hm (wAw _ _ _ _ ?_)
 suffices hLL:∀ (listed:Array Bool) (a':Act) (Γ':Nat→World→Prop) (w':World),(finB l.toArray n ps x y listed=true∧∀ w',Below w.heap.size w w'→(∀ j,Γ' j w')→wpList P l.toArray (Qn (fun a2 w2=>Pure P l.toArray ps (fun a3=>wpList P l.toArray (Qn (Q .normal)) [ox,oy] a3 w2∧wpList P l.toArray (Qn (Q .normal)) [oy,ox] a3 w2) a2)) [on] a' w')→Below w.heap.size w w'→(∀ j,Γ' j w')→wpAny P .any l.toArray (Qn (Q .normal)) (1 + (ps.length + 2)) listed a' w' by
  have H2:=wAo (Q:=Qn (Q .normal)) (g:=1 + (ps.length + 2)) hS hLL _ _ _ _ { w with drawn:=w.drawn + 1 } H ((Below.refl _ _).drew) (fun _=>trivial) (fun _ _ _ _ _=>trivial)
  rw [Ad,Af] at H2
  exact H2
 ·intro listed a' Γ' w' hL hb hG
  obtain ⟨hf,hw⟩:=hL
  have F:=Fin.of hf
  have h1:=hw w' hb hG
  rw [show 1 + (ps.length + 2)=(ps.length + 2) + 1 by omega]
  refine ⟨fun h=>(by rw [F.r] at h;cases h),fun i hi => ?_⟩
  have Aj:i=n:=by rw [F.r] at hi;simpa using hi
  subst Aj
  have Ab:∀ b w2,(Qn (fun a2 w2=>Pure P l.toArray ps (fun a3=>wpList P l.toArray (Qn (Q .normal)) [ox,oy] a3 w2∧wpList P l.toArray (Qn (Q .normal)) [oy,ox] a3 w2) a2)) .normal b w2→wpAny P .any l.toArray (Qn (Q .normal)) (ps.length + 2) (listed.setIfInBounds i true) b w2:=by
   rintro b w2 ⟨_,hp⟩
   rw [show ps.length + 2=2 + ps.length by omega]
   exact wAp Ac ps _ b F.p (pm (fun a3 h3=>wpAny_two hx hy F.xy F.ne F.sx F.sy h3.1 h3.2) ps b hp)
  unfold wpList at h1
  unfold wpOp
  simp only [hn]
  split
  ·rename_i hwt
   rw [if_pos hwt] at h1
   have h1:=h1.resolve_right (fun h=>nl2 _ h.2)
   refine .inl ?_
   unfold Oper.wp at h1 ⊢
   exact upon_conv (fun b w2 hb=>Ab b w2 hb) h1
  ·rename_i hwt
   rw [if_neg hwt] at h1
   exact Ab _ _ h1
end
end Go.FlowT
