/- Joined by mergeK.py: B, Fl, F2, D2p, F1p -/
import Derived.WalkKit
import Derived.WalkSpells
import Derived.WalkLawsBesides
import Derived.Laws.BitsAll
import Derived.Laws.BytesArg
import Derived.Laws.Rows
import Derived.Laws.Tables
import Derived.Scope
import Derived.ScopeJumps
import Derived.WalkMore
import Derived.Laws.IdiomStrings
import Derived.Deep.RegionLaw
import Derived.StillTailTactics
import Derived.SliceStrings
import Derived.WideShapes
import Derived.Lib.Hide
import Derived.Lib.QuietBelow
import Derived.BigQuiet
import Derived.Deep.QuietTactic
import Derived.Still
import Derived.StillTail
import Derived.Below
namespace Go
open Go.RowKit
section
variable {P:Program} {w:World} {ops:Array Oper} {rest:List Oper} {o:Oper} {a:Act} {Q:Exit→Act→World→Prop}
end
theorem oc2 {w:World} {base:Nat} {e:TypeId} {v:Value} {n:Nat} {xs:List Value} (h:w.ownsRow base e 1 v n xs) (hn:0 < n) :
  ∃ g cap,v = .slice (some ⟨g,0,none⟩) n cap∧base≤g∧g < w.heap.size∧n≤cap∧∀ j,j < n→w.cell? ⟨g,0 + j,none⟩=xs[j]? ∧ w.frozen? ⟨g,0 + j,none⟩=false:=by
 obtain ⟨hl,h⟩:=h
 rcases h with ⟨_,h0⟩ | ⟨g,cap,Ab,hv,hb,hg,Aa,_,hs,ht⟩
 ·omega
 ·refine ⟨g,cap,hv,hb,(Array.getElem?_eq_some_iff.1 hg).1,Aa,fun j hj=>⟨?_,frozen_of_row _ _ _ _ _ hg⟩⟩
  rw [cell_of_row _ _ _ _ _ _ hg,← ht,Nat.mul_one,List.getElem?_take,if_pos hj,Nat.zero_add,Array.getElem?_toList]
section
variable {P:Program} {w:World} {ops:Array Oper} {rest:List Oper} {o:Oper} {a:Act} {Q:Exit→Act→World→Prop}
end
def Exit.fwd (l:Nat) (J:Act→World→Prop) (Q:Exit→Act→World→Prop):Exit→Act→World→Prop
 | .goto l',a,w=>l'=l∧J a w
 | e,a,w=>Q e a w
section
variable {P:Program} {w:World} {a:Act} {Q:Exit→Act→World→Prop} {J:Act→World→Prop} {l:Nat}
@[go_sem] theorem Exit.fwd_normal:Exit.fwd l J Q .normal a w=Q .normal a w:=rfl
@[go_sem] theorem Exit.fwd_exit (id:Nat):Exit.fwd l J Q (.exit id) a w=Q (.exit id) a w:=rfl
@[go_sem] theorem Exit.fwd_ret:Exit.fwd l J Q .ret a w=Q .ret a w:=rfl
@[go_sem] theorem Exit.fwd_panic (ch:List PanicEntry):Exit.fwd l J Q (.panic ch) a w=Q (.panic ch) a w:=rfl
theorem Exit.fg2 (h:J a w):Exit.fwd l J Q (.goto l) a w:=⟨rfl,h⟩
theorem Exit.tg2 {K:Act→World→Prop} (h:Q (.goto l) a w):Exit.then K Q (.goto l) a w:=h
theorem wsf {c rest:Code} (l:Nat) (hf:findLabel c l=some rest) (h:c.wp P (Exit.fwd l (rest.wp P (Exit.noGoto Q)) Q) a w):(Code.scope c).wp P Q a w:=by
 refine wp_scope_jumps l (rest.wp P (Exit.noGoto Q)) (fun _ _=>0) hf (wp_mono h ?_) ?_
 ·intro e a w hq;cases e <;> exact hq
 ·intro a w hJ
  refine wp_mono hJ ?_
  intro e a w hq
  cases e <;> first | exact hq | exact hq.elim
end
theorem Bt {w a b:World} (h:Below w.heap.size w a) (k:Below a.heap.size a b):Below w.heap.size w b:=h.trans (k.mono h.size)
section
variable {P:Program} {w:World} {ops:Array Oper} {rest:List Oper} {o:Oper} {a:Act} {Q:Exit→Act→World→Prop}
end
section
variable {P:Program} {w:World} {ops:Array Oper} {rest:List Oper} {o:Oper} {a:Act} {Q:Exit→Act→World→Prop}
end
section
variable {P:Program} {w:World} {ops:Array Oper} {rest:List Oper} {a:Act} {Q:Exit→Act→World→Prop}
end
section
variable {P:Program} {ops:Array Oper} {o:Oper} {a:Act} {w:World} {K:Act→World→Prop} {Q:Exit→Act→World→Prop} {E:Prop}
end
def SlOf (w:World) (v:Value) (cs:List Value):Prop:=
 cs.length≤maxLen∧∃ a cap,v = .slice a cs.length cap∧(0 < cs.length→∃ b off,a=some ⟨b,off,none⟩∧b < w.heap.size∧∀ j,(h:j < cs.length)→w.cell? ⟨b,off + j,none⟩=some cs[j])
theorem SlOf.below {w w':World} {v:Value} {cs:List Value} (h:SlOf w v cs) (hb:Below w.heap.size w w'):SlOf w' v cs:=by
 obtain ⟨h0,a,Ad,hv,hc⟩:=h
 refine ⟨h0,a,Ad,hv,fun hp => ?_⟩
 obtain ⟨b,Ab,ha,Ac,Aa⟩:=hc hp
 exact ⟨b,Ab,ha,Nat.lt_of_lt_of_le Ac hb.size,fun j hj=>(hb.cell (p:=⟨b,Ab + j,none⟩) Ac).trans (Aa j hj)⟩
theorem SlOf.owned {w:World} {base:Nat} {e:TypeId} {v:Value} {n:Nat} {xs:List Value} (h:w.ownsRow base e 1 v n xs):SlOf w v xs:=by
 have hl:xs.length=n:=by have:=h.1;omega
 rcases Nat.eq_zero_or_pos n with h0 | h0
 ·subst h0
  have hx:xs=[]:=List.eq_nil_of_length_eq_zero hl
  subst hx
  obtain ⟨_,⟨hv,_⟩ | ⟨g,Aa,Ad,hv,_⟩⟩:=h
  ·exact ⟨Nat.zero_le _,none,0,hv,fun hp=>absurd hp (by simp)⟩
  ·exact ⟨Nat.zero_le _,some ⟨g,0,none⟩,Aa,hv,fun hp=>absurd hp (by simp)⟩
 ·obtain ⟨g,Aa,hv,_,Ac,Ab,hc⟩:=oc2 h h0
  have hm:n≤maxLen:=by
   obtain ⟨_,⟨_,h1⟩ | ⟨_,_,_,Ae,_,_,h1,h2,_⟩⟩:=h
   ·omega
   ·exact Nat.le_trans h1 h2
  subst hl
  exact ⟨hm,some ⟨g,0,none⟩,Aa,hv,fun _=>⟨g,0,rfl,Ac,fun j hj=>by rw [(hc j hj).1,List.getElem?_eq_getElem hj]⟩⟩
theorem SlOf.nil (w:World):SlOf w (.slice none 0 0) []:=⟨Nat.zero_le _,none,0,rfl,fun hp=>absurd hp (by simp)⟩
section
variable {P:Program} {w:World} {H:Type} {enc:TypeId×Value→H}
end
theorem so2 {w:World} {v:Value} {ss:List ByteArray} (h:SlOf w v (ss.map .string)):∃ a cap,v = .slice a ss.length cap∧ss.length≤9223372036854775807 ∧
  ∀ k,(hk:k < ss.length)→∃ b off,a=some ⟨b,off,none⟩∧b < w.heap.size∧w.cell? ⟨b,off + k,none⟩=some (.string ss[k]):=by
 obtain ⟨h0,a,cap,hv,hc⟩:=h
 simp only [List.length_map] at h0 hv hc
 refine ⟨a,cap,hv,by unfold maxLen at h0;omega,fun k hk => ?_⟩
 obtain ⟨b,off,ha,hb,Aa⟩:=hc (by omega)
 exact ⟨b,off,ha,hb,by rw [Aa k hk];simp⟩
theorem jo2 {w:World} {base:Nat} {e:TypeId} {v:Value} {n:Nat} {xs ys:List Value} (h:w.ownsRow base e 1 v n xs) (e2:xs=ys):w.ownsRow base e 1 v n ys:=e2 ▸ h
theorem Below.gN2 {w w':World} (hb:Below w.heap.size w w'):w.grownBy w' none:=⟨hb.os,hb.tape,hb.output,hb.size,fun k hk _=>hb.block k hk⟩
theorem ob2 {w w':World} {base:Nat} {e:TypeId} {size:Nat} {v:Value} {n:Nat} {xs:List Value} (h:w.ownsRow base e size v n xs) (hb:Below w.heap.size w w'):w'.ownsRow base e size v n xs:=by
 refine h.kept (Below.gN2 hb) ?_
 cases hv:v.ownBlock with
 | none=>exact .inl rfl
 | some k=>exact .inr (by simp)
theorem str_inj {x y:ByteArray} (h:x.toList=y.toList):x=y:=by
 rw [ByteArray.toList_eq,ByteArray.toList_eq] at h
 exact ByteArray.ext (Array.toList_inj.1 h)
theorem str_eq' {x y:ByteArray} (h:(x.toList == y.toList)=true):x=y:=str_inj (by simpa using h)
end Go
namespace Go.Flow
open Go Go.RowKit
abbrev Spec:=Value ⊕ (Value→World→Prop)
def Spec.holds:Spec→Value→World→Prop
 | .inl u,v,_=>v=u
 | .inr V,v,w=>V v w
def Spec.ok:Spec→Value→Prop
 | .inl u,v=>v=u
 | .inr _,_=>True
def Mono (p:World→Prop):Prop:=∀ w w',p w→Below w.heap.size w w'→p w'
def Spec.mono (s:Spec):Prop:=∀ v,Mono (s.holds v)
theorem mi (u:Value):Spec.mono (.inl u):=fun _ _ _ h _=>h
section
variable {P:Program} {ops:Array Oper}
def yields (P:Program) (o:Oper) (ρ:Operand→Value) (w:World) (R:Value→World→Prop):Prop:=
 match (execOp ρ o).run P w with
 | .ok (.value v) w'=>R v w'
 | .ok .skip w'=>R undef w'
 | .ok (.enter f args) w'=>Calls P f args w' fun e w'' => ∃ v,e = .returned v∧R v w''
 | _=>False
theorem ym2 {o:Oper} {ρ:Operand→Value} {w:World} {R R':Value→World→Prop} (h:∀ v w,R v w→R' v w) (hy:yields P o ρ w R):yields P o ρ w R':=by
 unfold yields at *
 generalize (execOp ρ o).run P w=r at *
 cases r with
 | ok n w'=>
   cases n <;> first
    | exact h _ _ hy
    | exact Calls.mono hy (fun e w'' ⟨v,he,hr⟩=>⟨v,he,h _ _ hr⟩)
    | exact hy
 | halt x w'=>exact hy
theorem woy {o:Oper} {a:Act} {w:World} {K:Act→World→Prop} {Q:Exit→Act→World→Prop} (hy:yields P o a.eval w fun v w'=>K (a.put o.dst v) w'):o.wp P a w K Q:=by
 unfold yields at hy
 unfold Oper.wp
 generalize (execOp a.eval o).run P w=r at *
 cases r with
 | ok n w'=>
   cases n <;> simp only [Oper.upon] <;> first
    | exact hy
    | exact (show False from hy).elim
    | exact Calls.mono hy (fun e w'' ⟨v,he,hr⟩=>by subst he;exact hr)
 | halt x w'=>exact hy.elim
def Runs (P:Program) (ops:Array Oper) (o:Oper) (s:Spec) (a:Act) (w:World):Prop:=
 if Region.wanted o (yielded ops a.tmps) then yields P o a.eval w (fun v w'=>Below w.heap.size w w'∧s.holds v w') else s.holds undef w
def dep (o:Oper) (j:Nat):Bool:=o.after.any fun e=>Region.binds .any e && e.on == j
def Ru (P:Program) (ops:Array Oper) (w0:World) (o:Oper) (s:Spec) (a:Act) (Γ:Nat→World→Prop):Prop:=
 ∀ w,Below w0.heap.size w0 w→(∀ j,dep o j=true→Γ j w)→Runs P ops o s a w
def upd (Γ:Nat→World→Prop) (i:Nat) (p:World→Prop):Nat→World→Prop:=fun j=>if j=i then p else Γ j
theorem upd_ne {Γ:Nat→World→Prop} {i j:Nat} {p:World→Prop} (h:j≠i):upd Γ i p j=Γ j:=by simp [upd,h]
theorem upd_same {Γ:Nat→World→Prop} {i:Nat} {p:World→Prop}:upd Γ i p i=p:=by simp [upd]
theorem uc2 {Γ:Nat→World→Prop} {i j:Nat} {p q:World→Prop} (h:j≠i):upd (upd Γ i p) j q=upd (upd Γ j q) i p:=by
 funext k;unfold upd
 by_cases h1:k=j
 ·subst h1;simp [h]
 ·simp [h1]
def fOp (P:Program) (ops:Array Oper) (S:Nat→Spec) (w0:World) (i:Nat) (K:Act→(Nat→World→Prop)→Prop) (a:Act) (Γ:Nat→World→Prop):Prop:=
 match ops[i]? with
 | none=>K a Γ
 | some o=>Ru P ops w0 o (S i) a Γ∧∀ v,(S i).ok v→K (a.put o.dst v) (upd Γ i ((S i).holds v))
def anyF (P:Program) (ops:Array Oper) (S:Nat→Spec) (w0:World) (E:Act→(Nat→World→Prop)→Prop):Nat→Array Bool→Act→(Nat→World→Prop)→Prop
 | 0,listed,a,Γ=>Region.ready .any ops listed=[]∧E a Γ
 | fuel + 1,listed,a,Γ=>
   (Region.ready .any ops listed=[]→E a Γ) ∧
   ∀ i ∈ Region.ready .any ops listed,fOp P ops S w0 i (anyF P ops S w0 E fuel (listed.setIfInBounds i true)) a Γ
theorem wAo2 {S:Nat→Spec} {w0:World} (hS:∀ i,(S i).mono) {E:Act→(Nat→World→Prop)→Prop} {Q:Exit→Act→World→Prop}
  (hE:∀ a Γ w,E a Γ→Below w0.heap.size w0 w→(∀ j,Γ j w)→Q .normal a w):∀ (fuel:Nat) (listed:Array Bool) (a:Act) (Γ:Nat→World→Prop) (w:World),
  anyF P ops S w0 E fuel listed a Γ→Below w0.heap.size w0 w→(∀ j,Γ j w)→(∀ j,Mono (Γ j))→wpAny P .any ops Q fuel listed a w
 | 0,_,_,_,_,h,hB,hG,_=>⟨h.1,hE _ _ _ h.2 hB hG⟩
 | fuel + 1,listed,a,Γ,w,h,hB,hG,hM=>by
   refine ⟨fun h0=>hE _ _ _ (h.1 h0) hB hG,fun i hi => ?_⟩
   have h1:=h.2 i hi
   unfold fOp at h1
   unfold wpOp
   have hM':∀ v j,Mono (upd Γ i ((S i).holds v) j):=fun v j=>by
    by_cases e:j=i
    ·subst e;rw [upd_same];exact hS j v
    ·rw [upd_ne e];exact hM j
   have hG':∀ v w',Below w.heap.size w w'→(S i).holds v w'→∀ j,upd Γ i ((S i).holds v) j w':=fun v w' hb hv j=>by
    by_cases e:j=i
    ·subst e;rw [upd_same];exact hv
    ·rw [upd_ne e];exact hM j _ _ (hG j) hb
   have hok:∀ v w',(S i).holds v w'→(S i).ok v:=fun v w' hv=>by
    cases hs:S i with
    | inl u=>rw [hs] at hv;exact hv
    | inr V=>trivial
   split
   ·rename_i ho
    simp only [ho] at h1
    exact wAo2 hS hE fuel _ _ _ _ h1 hB hG hM
   ·rename_i o ho
    simp only [ho] at h1
    have h2:=h1.1 w hB (fun j _=>hG j)
    unfold Runs at h2
    split
    ·rename_i hw
     simp only [hw,if_true] at h2
     refine .inl (woy (ym2 ?_ h2))
     intro v w' ⟨hb,hv⟩
     exact wAo2 hS hE fuel _ _ _ _ (h1.2 v (hok v w' hv)) (hB.trans (hb.mono hB.size)) (hG' v w' hb hv) (hM' v)
    ·rename_i hw
     simp only [hw] at h2
     exact wAo2 hS hE fuel _ _ _ _ (h1.2 undef (hok _ _ h2)) hB (hG' _ _ (Below.refl _ _) h2) (hM' _)
theorem Ru.of_same {w0:World} {o:Oper} {s:Spec} {a a':Act} {Γ Γ':Nat→World→Prop} (h:Ru P ops w0 o s a Γ) (he:execOp a'.eval o=execOp a.eval o)
  (hw:Region.wanted o (yielded ops a'.tmps)=Region.wanted o (yielded ops a.tmps)) (hg:∀ j,dep o j=true→Γ' j=Γ j):Ru P ops w0 o s a' Γ':=by
 intro w hB hG
 have:=h w hB (fun j hj=>by rw [← hg j hj];exact hG j hj)
 unfold Runs yields at *
 rw [he,hw]
 exact this
theorem nd2 {o:Oper} {i:Nat} (h:∀ e ∈ o.after,Region.binds .any e=true→e.on≠i) {j:Nat} (hj:dep o j=true):j≠i:=by
 obtain ⟨e,he,hb⟩:=Array.any_eq_true'.1 hj
 rw [Bool.and_eq_true,beq_iff_eq] at hb
 intro e2
 exact h e he hb.1 (by rw [hb.2,e2])
theorem aFf2 {S:Nat→Spec} {w0:World} {E:Act→(Nat→World→Prop)→Prop} {i:Nat} {oi:Oper} (hi:ops[i]? = some oi) (hsel:∀ (j:Nat) (o:Oper) cs b,ops[j]? = some o→o.op ≠ .select cs b) :
  ∀ (fuel:Nat) (listed:Array Bool) (a:Act) (Γ:Nat→World→Prop),
    (∀ j oj,ops[j]? = some oj→j≠i→listed.getD j true=false→(∀ e ∈ oj.after,Region.binds .any e=true→e.on≠i)→oi.apart ops oj=true) →
    i ∈ Region.ready .any ops listed→Ru P ops w0 oi (S i) a Γ →
    (∀ v,(S i).ok v→anyF P ops S w0 E fuel (listed.setIfInBounds i true) (a.put oi.dst v) (upd Γ i ((S i).holds v)))→anyF P ops S w0 E (fuel + 1) listed a Γ:=by
 have Am:∃ v,(S i).ok v:=by
  cases hs:S i with
  | inl u=>exact ⟨u,rfl⟩
  | inr V=>exact ⟨undef,trivial⟩
 obtain ⟨v0,Aj⟩:=Am
 intro fuel
 induction fuel with
 | zero=>
   intro listed a Γ _ hr hy H
   refine ⟨fun h=>(by rw [h] at hr;cases hr),fun j hj => ?_⟩
   by_cases hji:j=i
   ·subst hji
    unfold fOp;simp only [hi];exact ⟨hy,H⟩
   ·have:=ready_mono hj hji
    rw [(H v0 Aj).1] at this
    cases this
 | succ fuel ih=>
   intro listed a Γ Aa hr hy H
   refine ⟨fun h=>(by rw [h] at hr;cases hr),fun j hj => ?_⟩
   by_cases hji:j=i
   ·subst hji
    unfold fOp;simp only [hi];exact ⟨hy,H⟩
   ·obtain ⟨Ac,oj,Ag,Ah⟩:=mem_ready.1 hj
    have Ai:=(mem_ready.1 hr).1
    have Ak:∀ k,listed.getD k true=false→listed.getD k false=true→False:=fun k h1 h0=>by
     rcases Nat.lt_or_ge k listed.size with h' | h'
     ·simp [h'] at h0 h1;rw [h0] at h1;cases h1
     ·simp [Array.getElem?_eq_none h'] at h1
    have Ae:∀ e ∈ oj.after,Region.binds .any e=true→e.on≠i:=fun e he hb heq=>Ak i Ai (by rw [← heq];exact Ah e he hb)
    have Ad:∀ e ∈ oi.after,Region.binds .any e=true→e.on≠j:=fun e he hb heq=>by
     obtain ⟨_,o',Al,Af⟩:=mem_ready.1 hr
     rw [hi] at Al;cases Al
     exact Ak j Ac (by rw [← heq];exact Af e he hb)
    have An:=Aa j oj Ag hji Ac Ae
    obtain ⟨h1,h2,h3⟩:=Oper.apart_spec An
    have Ab:∀ k ok,ops[k]? = some ok→k≠i→(listed.setIfInBounds j true).getD k true=false →
      (∀ e ∈ ok.after,Region.binds .any e=true→e.on≠i)→oi.apart ops ok=true:=fun k ok hk hki hun hno=>by
     refine Aa k ok hk hki ?_ hno
     by_cases hjk:j=k
     ·subst hjk;exact Ac
     ·rw [getD_set_ne true hjk] at hun;exact hun
    have Hj:∀ v,(S i).ok v→Ru P ops w0 oj (S j) (a.put oi.dst v) (upd Γ i ((S i).holds v))∧∀ u,(S j).ok u →
      anyF P ops S w0 E fuel ((listed.setIfInBounds i true).setIfInBounds j true) ((a.put oi.dst v).put oj.dst u) (upd (upd Γ i ((S i).holds v)) j ((S j).holds u)):=fun v hv=>by
     have:=(H v hv).2 j (ready_mono hj hji)
     unfold fOp at this
     simpa only [Ag] using this
    unfold fOp
    simp only [Ag]
    refine ⟨(Hj v0 Aj).1.of_same (execOp_put oj (fun cs b=>hsel j oj cs b Ag) a oi.dst v0 h1).symm (wanted_put oj a oi.dst v0 h1).symm (fun k hk => ?_),fun u hu => ?_⟩
    ·exact (upd_ne (nd2 Ae hk)).symm
    ·refine ih (listed.setIfInBounds j true) _ _ Ab (ready_mono hr (Ne.symm hji)) ?_ (fun v hv => ?_)
     ·exact hy.of_same (execOp_put oi (fun cs b=>hsel i oi cs b hi) a oj.dst u h3) (wanted_put oi a oj.dst u h3) (fun k hk=>upd_ne (nd2 Ad hk))
     ·have:=(Hj v hv).2 u hu
      rw [Array.setIfInBounds_comm _ _ hji,← Act.put_comm a v u h2,← uc2 hji]
      exact this
def Tree (P:Program) (ops:Array Oper) (S:Nat→Spec) (w0:World) (E:Act→(Nat→World→Prop)→Prop):List Oper→Nat→Act→(Nat→World→Prop)→Prop
 | [],_,a,Γ=>E a Γ
 | o :: rest,i,a,Γ=>Ru P ops w0 o (S i) a Γ∧∀ v,(S i).ok v→Tree P ops S w0 E rest (i + 1) (a.put o.dst v) (upd Γ i ((S i).holds v))
theorem aFl2 {S:Nat→Spec} {w0:World} {E:Act→(Nat→World→Prop)→Prop} (hs:Region.noSelect ops=true):∀ (l:List Oper) (k:Nat) (listed:Array Bool) (a:Act) (Γ:Nat→World→Prop),(∀ j,l[j]? = ops[k + j]?) →
  Region.lexFrom .any ops l.length k listed=true→Tree P ops S w0 E l k a Γ→anyF P ops S w0 E l.length listed a Γ
 | [],_,_,_,_,_,hB,h=>⟨by simpa [Region.lexFrom] using hB,h⟩
 | o :: l,k,listed,a,Γ,hl,hB,h=>by
   have h0:ops[k]? = some o:=by simpa using (hl 0).symm
   simp only [List.length_cons,Region.lexFrom,Bool.and_eq_true] at hB
   obtain ⟨⟨hr,hf⟩,Aa⟩:=hB
   exact aFf2 h0 (Region.noSelect_spec hs) l.length listed a Γ (Region.free_spec h0 hf) (by simpa using hr) h.1
    (fun v hv=>aFl2 hs l (k + 1) _ _ _ (fun j=>by have:=hl (j + 1);simpa [Nat.add_assoc,Nat.add_comm 1 j] using this) Aa (h.2 v hv))
theorem wrf2 {id:Nat} {Q:Exit→Act→World→Prop} {a:Act} {w:World} {l:List Oper} (S:Nat→Spec) (hm:P.follows .mixedOrders=true) (hB:Region.lexB .any l.toArray=true) (hS:∀ i,(S i).mono)
  (h:Tree P l.toArray S w (fun a' Γ => ∀ w',Below w.heap.size w w'→(∀ j,Γ j w')→Q .normal a' w') l 0 a (fun _ _=>True)):(Code.region id l.toArray true).wp P Q a w:=by
 simp only [Region.lexB,Bool.and_eq_true] at hB
 refine wp_region_any hm (wAo2 (S:=S) (w0:=w) (E:=fun a' Γ => ∀ w',Below w.heap.size w w'→(∀ j,Γ j w')→Q .normal a' w') (Γ:=fun _ _=>True) hS (fun a' Γ w' hE hb hG=>hE w' hb hG) _ _ _ _ ?_ ((Below.refl _ _).drew) (fun _=>trivial) (fun _ _ _ _ _=>trivial))
 have:=aFl2 hB.1 l 0 (Array.replicate l.toArray.size false) a (fun _ _=>True) (by simp) (by simpa using hB.2) h
 simpa using this
theorem tn2 {S:Nat→Spec} {w0:World} {E:Act→(Nat→World→Prop)→Prop} {i:Nat} {a:Act} {Γ:Nat→World→Prop} (h:E a Γ):Tree P ops S w0 E [] i a Γ:=h
theorem tree_val {S:Nat→Spec} {w0:World} {E:Act→(Nat→World→Prop)→Prop} {o:Oper} {rest:List Oper} {i:Nat} {a:Act} {Γ:Nat→World→Prop} (u:Value) (hs:S i = .inl u)
  (hr:∀ w,Below w0.heap.size w0 w→(∀ j,dep o j=true→Γ j w)→Runs P ops o (.inl u) a w) (h:Tree P ops S w0 E rest (i + 1) (a.put o.dst u) (upd Γ i (fun _=>True))):Tree P ops S w0 E (o :: rest) i a Γ:=by
 refine ⟨by rw [hs];exact hr,fun v hv => ?_⟩
 rw [hs] at hv ⊢
 cases hv
 have:(fun w=>Spec.holds (.inl u) u w)=fun _=>True:=by funext w;simp [Spec.holds]
 rw [show Spec.holds (.inl u) u=fun _=>True from this]
 exact h
theorem tree_var {S:Nat→Spec} {w0:World} {E:Act→(Nat→World→Prop)→Prop} {o:Oper} {rest:List Oper} {i:Nat} {a:Act} {Γ:Nat→World→Prop} (V:Value→World→Prop) (hs:S i = .inr V)
  (hr:∀ w,Below w0.heap.size w0 w→(∀ j,dep o j=true→Γ j w)→Runs P ops o (.inr V) a w) (h:∀ v,Tree P ops S w0 E rest (i + 1) (a.put o.dst v) (upd Γ i (V v))):Tree P ops S w0 E (o :: rest) i a Γ:=by
 refine ⟨by rw [hs];exact hr,fun v _ => ?_⟩
 rw [hs]
 exact h v
def sp3 (l:List Spec):Nat→Spec:=fun i=>l.getD i (.inl undef)
theorem sm2 {l:List Spec} (h:∀ s ∈ l,Spec.mono s):∀ i,(sp3 l i).mono:=fun i=>by
 unfold sp3
 rcases Nat.lt_or_ge i l.length with h' | h'
 ·rw [List.getD_eq_getElem?_getD,List.getElem?_eq_getElem h'];exact h _ (List.getElem_mem h')
 ·rw [List.getD_eq_getElem?_getD,List.getElem?_eq_none h'];exact mi _
theorem runs_ok {o:Oper} {a:Act} {w w':World} {s:Spec} {u:Value} (hw:Region.wanted o (yielded ops a.tmps)=true) (h:(execOp a.eval o).run P w = .ok (.value u) w') (hb:Below w.heap.size w w') (hv:s.holds u w'):Runs P ops o s a w:=by
 unfold Runs yields
 rw [if_pos hw,h]
 exact ⟨hb,hv⟩
theorem tvK {S:Nat→Spec} {w0:World} {E:Act→(Nat→World→Prop)→Prop} {o:Oper} {rest:List Oper} {i:Nat} {a:Act} {Γ:Nat→World→Prop} {u:Value} (hs:S i = .inl u)
  (h:∀ K:Act→Prop,(∀ a',Tree P ops S w0 E rest (i + 1) a' (upd Γ i (fun _=>True))→K a')→(∀ w,Below w0.heap.size w0 w→(∀ j,dep o j=true→Γ j w)→Runs P ops o (.inl u) a w)∧K (a.put o.dst u)):Tree P ops S w0 E (o :: rest) i a Γ:=
 tree_val u hs (h (fun _=>True) (fun _ _=>trivial)).1 (h _ (fun _ h=>h)).2
theorem tvK2 {S:Nat→Spec} {w0:World} {E:Act→(Nat→World→Prop)→Prop} {o:Oper} {rest:List Oper} {i:Nat} {a:Act} {Γ:Nat→World→Prop} {V:Value→World→Prop} (hs:S i = .inr V)
  (h:∀ K:Act→(World→Prop)→Prop,(∀ a' v,Tree P ops S w0 E rest (i + 1) a' (upd Γ i (V v))→K a' (V v))→(∀ w,Below w0.heap.size w0 w→(∀ j,dep o j=true→Γ j w)→Runs P ops o (.inr V) a w)∧∀ v,K (a.put o.dst v) (V v)):Tree P ops S w0 E (o :: rest) i a Γ:=by
 refine tree_var V hs (h (fun _ _=>True) (fun _ _ _=>trivial)).1 fun v => ?_
 have:=(h (fun a' p=>Tree P ops S w0 E rest (i + 1) a' (upd Γ i p)) (fun _ _ h=>h)).2 v
 exact this
@[go_sem] theorem below_self (w:World):Below w.heap.size w w=True:=eq_true (Below.refl _ _)
@[go_sem] theorem holds_inl (u v:Value) (w:World):Spec.holds (.inl u) v w=(v=u):=rfl
theorem ln2:∀ s ∈ ([]:List Spec),s.mono:=fun _ h=>by cases h
theorem li2 {u:Value} {l:List Spec} (h:∀ s ∈ l,s.mono):∀ s ∈ (.inl u :: l:List Spec),s.mono:=fun s hs=>by
 rcases List.mem_cons.1 hs with rfl | hs
 ·exact mi u
 ·exact h s hs
theorem li3 {V:Value→World→Prop} {l:List Spec} (hV:Spec.mono (.inr V)) (h:∀ s ∈ l,s.mono):∀ s ∈ (.inr V :: l:List Spec),s.mono:=fun s hs=>by
 rcases List.mem_cons.1 hs with rfl | hs
 ·exact hV
 ·exact h s hs
def aF (P:Program) (ops:Array Oper) (S:Nat→Spec) (w0:World) (n:Nat) (L:Array Bool→Act→(Nat→World→Prop)→Prop):Nat→Array Bool→Act→(Nat→World→Prop)→Prop
 | 0,listed,a,Γ=>L listed a Γ
 | f + 1,listed,a,Γ=>Region.ready .any ops listed≠[]∧∀ i ∈ Region.ready .any ops listed,i < n∧fOp P ops S w0 i (aF P ops S w0 n L f (listed.setIfInBounds i true)) a Γ
theorem wAo {S:Nat→Spec} {w0:World} (hS:∀ i,(S i).mono) {n g:Nat} {L:Array Bool→Act→(Nat→World→Prop)→Prop} {Q:Exit→Act→World→Prop}
  (hL:∀ listed a Γ w,L listed a Γ→Below w0.heap.size w0 w→(∀ j,Γ j w)→wpAny P .any ops Q g listed a w):∀ (f:Nat) (listed:Array Bool) (a:Act) (Γ:Nat→World→Prop) (w:World),
  aF P ops S w0 n L f listed a Γ→Below w0.heap.size w0 w→(∀ j,Γ j w)→(∀ j,Mono (Γ j))→wpAny P .any ops Q (f + g) listed a w
 | 0,_,_,_,_,h,hB,hG,_=>by rw [Nat.zero_add];exact hL _ _ _ _ h hB hG
 | f + 1,listed,a,Γ,w,h,hB,hG,hM=>by
   rw [show f + 1 + g=(f + g) + 1 by omega]
   refine ⟨fun h0=>absurd h0 h.1,fun i hi => ?_⟩
   have h1:=(h.2 i hi).2
   unfold fOp at h1
   unfold wpOp
   have hM':∀ v j,Mono (upd Γ i ((S i).holds v) j):=fun v j=>by
    by_cases e:j=i
    ·subst e;rw [upd_same];exact hS j v
    ·rw [upd_ne e];exact hM j
   have hG':∀ v w',Below w.heap.size w w'→(S i).holds v w'→∀ j,upd Γ i ((S i).holds v) j w':=fun v w' hb hv j=>by
    by_cases e:j=i
    ·subst e;rw [upd_same];exact hv
    ·rw [upd_ne e];exact hM j _ _ (hG j) hb
   have hok:∀ v w',(S i).holds v w'→(S i).ok v:=fun v w' hv=>by
    cases hs:S i with
    | inl u=>rw [hs] at hv;exact hv
    | inr V=>trivial
   split
   ·rename_i ho
    simp only [ho] at h1
    exact wAo hS hL f _ _ _ _ h1 hB hG hM
   ·rename_i o ho
    simp only [ho] at h1
    have h2:=h1.1 w hB (fun j _=>hG j)
    unfold Runs at h2
    split
    ·rename_i hw
     simp only [hw,if_true] at h2
     refine .inl (woy (ym2 ?_ h2))
     intro v w' ⟨hb,hv⟩
     exact wAo hS hL f _ _ _ _ (h1.2 v (hok v w' hv)) (hB.trans (hb.mono hB.size)) (hG' v w' hb hv) (hM' v)
    ·rename_i hw
     simp only [hw] at h2
     exact wAo hS hL f _ _ _ _ (h1.2 undef (hok _ _ h2)) hB (hG' _ _ (Below.refl _ _) h2) (hM' _)
theorem aFf {S:Nat→Spec} {w0:World} {n i:Nat} {oi:Oper} {L:Array Bool→Act→(Nat→World→Prop)→Prop} (hi:ops[i]? = some oi) (hsel:∀ (j:Nat) (o:Oper) cs b,ops[j]? = some o→o.op ≠ .select cs b)
  (hs:Region.sinkB .any ops n=true) (hc:Region.chainB .any ops n=true) (hn:n < ops.size) (hin:i < n)
  (hdone:∀ listed a Γ,L listed a Γ→∀ j ∈ Region.ready .any ops listed,n≤j) :
  ∀ (f:Nat) (listed:Array Bool) (a:Act) (Γ:Nat→World→Prop),HeadInv .any ops n listed →
    (∀ j oj,ops[j]? = some oj→j≠i→listed.getD j true=false→(∀ e ∈ oj.after,Region.binds .any e=true→e.on≠i)→oi.apart ops oj=true) →
    i ∈ Region.ready .any ops listed→Ru P ops w0 oi (S i) a Γ →
    (∀ v,(S i).ok v→aF P ops S w0 n L f (listed.setIfInBounds i true) (a.put oi.dst v) (upd Γ i ((S i).holds v)))→aF P ops S w0 n L (f + 1) listed a Γ:=by
 have Ao:∃ v,(S i).ok v:=by
  cases hs:S i with
  | inl u=>exact ⟨u,rfl⟩
  | inr V=>exact ⟨undef,trivial⟩
 obtain ⟨v0,Al⟩:=Ao
 intro f
 induction f with
 | zero=>
   intro listed a Γ Ai _ hr hy H
   have Ac:=(mem_ready.1 hr).1
   refine ⟨fun h=>(by rw [h] at hr;cases hr),fun j hj => ?_⟩
   have Ah:j < n:=by
    rcases Nat.lt_or_ge j n with h | h
    ·exact h
    ·exact absurd hj (tail_waits hs hc hn Ai _ i rfl hin Ac j h)
   refine ⟨Ah,?_⟩
   by_cases hji:j=i
   ·subst hji
    unfold fOp;simp only [hi];exact ⟨hy,H⟩
   ·have:=hdone _ _ _ (H v0 Al) j (ready_mono hj hji)
    omega
 | succ f ih=>
   intro listed a Γ Ai Aa hr hy H
   have Ac:=(mem_ready.1 hr).1
   refine ⟨fun h=>(by rw [h] at hr;cases hr),fun j hj => ?_⟩
   have Ah:j < n:=by
    rcases Nat.lt_or_ge j n with h | h
    ·exact h
    ·exact absurd hj (tail_waits hs hc hn Ai _ i rfl hin Ac j h)
   refine ⟨Ah,?_⟩
   by_cases hji:j=i
   ·subst hji
    unfold fOp;simp only [hi];exact ⟨hy,H⟩
   ·obtain ⟨Ad,oj,Aj,Ak⟩:=mem_ready.1 hj
    have Am:∀ k,listed.getD k true=false→listed.getD k false=true→False:=fun k h1 h0=>by rw [getD_both h1] at h0;cases h0
    have Af:∀ e ∈ oj.after,Region.binds .any e=true→e.on≠i:=fun e he hb heq=>Am i Ac (by rw [← heq];exact Ak e he hb)
    have Ae:∀ e ∈ oi.after,Region.binds .any e=true→e.on≠j:=fun e he hb heq=>by
     obtain ⟨_,o',An,Ag⟩:=mem_ready.1 hr
     rw [hi] at An;cases An
     exact Am j Ad (by rw [← heq];exact Ag e he hb)
    have Ap:=Aa j oj Aj hji Ad Af
    obtain ⟨h1,h2,h3⟩:=Oper.apart_spec Ap
    have Ab:∀ k ok,ops[k]? = some ok→k≠i→(listed.setIfInBounds j true).getD k true=false →
      (∀ e ∈ ok.after,Region.binds .any e=true→e.on≠i)→oi.apart ops ok=true:=fun k ok hk hki Ac hno=>by
     refine Aa k ok hk hki ?_ hno
     by_cases hjk:j=k
     ·subst hjk;exact Ad
     ·rw [getD_set_ne true hjk] at Ac;exact Ac
    have Hj:∀ v,(S i).ok v→Ru P ops w0 oj (S j) (a.put oi.dst v) (upd Γ i ((S i).holds v))∧∀ u,(S j).ok u →
      aF P ops S w0 n L f ((listed.setIfInBounds i true).setIfInBounds j true) ((a.put oi.dst v).put oj.dst u) (upd (upd Γ i ((S i).holds v)) j ((S j).holds u)):=fun v hv=>by
     have:=((H v hv).2 j (ready_mono hj hji)).2
     unfold fOp at this
     simpa only [Aj] using this
    unfold fOp
    simp only [Aj]
    refine ⟨(Hj v0 Al).1.of_same (execOp_put oj (fun cs b=>hsel j oj cs b Aj) a oi.dst v0 h1).symm (wanted_put oj a oi.dst v0 h1).symm (fun k hk => ?_),fun u hu => ?_⟩
    ·exact (upd_ne (nd2 Af hk)).symm
    ·refine ih (listed.setIfInBounds j true) _ _ (Ai.set hj Ah) Ab (ready_mono hr (Ne.symm hji)) ?_ (fun v hv => ?_)
     ·exact hy.of_same (execOp_put oi (fun cs b=>hsel i oi cs b hi) a oj.dst u h3) (wanted_put oi a oj.dst u h3) (fun k hk=>upd_ne (nd2 Ae hk))
     ·have:=(Hj v hv).2 u hu
      rw [Array.setIfInBounds_comm _ _ hji,← Act.put_comm a v u h2,← uc2 hji]
      exact this
theorem aFl {S:Nat→Spec} {w0:World} {n g:Nat} {Lq:Act→(Nat→World→Prop)→Prop} (hsel:Region.noSelect ops=true) (hs:Region.sinkB .any ops n=true) (hc:Region.chainB .any ops n=true) (hn:n < ops.size) :
  ∀ (l:List Oper) (k:Nat) (listed:Array Bool) (a:Act) (Γ:Nat→World→Prop),(∀ j,j < l.length→l[j]? = ops[k + j]?)→k + l.length=n→HeadInv .any ops n listed →
  Region.lexHead .any ops g l.length k listed=true→Tree P ops S w0 Lq l k a Γ →
  aF P ops S w0 n (fun listed' a' Γ'=>Region.seqB .any ops g n listed'=true∧Lq a' Γ') l.length listed a Γ
 | [],k,listed,a,Γ,_,hk,_,hB,h=>by
   have:k=n:=by simpa using hk
   subst this
   exact ⟨by simpa [Region.lexHead] using hB,h⟩
 | o :: l,k,listed,a,Γ,hl,hk,inv,hB,h=>by
   have h0:ops[k]? = some o:=by simpa using (hl 0 (by simp)).symm
   simp only [List.length_cons,Region.lexHead,Bool.and_eq_true] at hB
   obtain ⟨⟨hr,hf⟩,Ac⟩:=hB
   have Ab:k < n:=by simp only [List.length_cons] at hk;omega
   have Aa:k ∈ Region.ready .any ops listed:=by simpa using hr
   exact aFf h0 (Region.noSelect_spec hsel) hs hc hn Ab (fun listed' a' Γ' hL=>seqB_ready hL.1) l.length listed a Γ inv (Region.free_spec h0 hf) Aa h.1
    (fun v hv=>aFl hsel hs hc hn l (k + 1) _ _ _ (fun j hj=>by have:=hl (j + 1) (by simp;omega);simpa [Nat.add_assoc,Nat.add_comm 1 j] using this) (by simp only [List.length_cons] at hk;omega) (inv.set Aa Ab) Ac (h.2 v hv))
theorem wrf {id:Nat} {Q:Exit→Act→World→Prop} {a:Act} {w:World} {l:List Oper} (n:Nat) (S:Nat→Spec) (hm:P.follows .mixedOrders=true) (hB:Region.lexTailB .any l.toArray n=true) (hS:∀ i,(S i).mono)
  (h:Tree P l.toArray S w (fun a' Γ => ∀ w',Below w.heap.size w w'→(∀ j,Γ j w')→wpList P l.toArray Q (l.drop n) a' w') (l.take n) 0 a (fun _ _=>True)):(Code.region id l.toArray true).wp P Q a w:=by
 simp only [Region.lexTailB,Bool.and_eq_true,decide_eq_true_eq] at hB
 obtain ⟨⟨⟨⟨Ab,hn⟩,hs⟩,hc⟩,Ac⟩:=hB
 have Ag:n < l.length:=by simpa using hn
 have Aa:(l.take n).length=n:=by simp;omega
 have Ae:(l.drop n).length=l.toArray.size - n:=by simp
 have Ad:HeadInv .any l.toArray n (Array.replicate l.toArray.size false):=
  ⟨by simp,fun j oj _ hl=>(by rw [getD_replicate_false] at hl;cases hl),fun t _ ht=>getD_in (by simpa using ht) (getD_replicate_false _ _)⟩
 have H:=aFl (g:=l.toArray.size - n) Ab hs hc hn (l.take n) 0 _ a (fun _ _=>True) (fun j hj=>by
  have Af:j < n:=by rw [Aa] at hj;exact hj
  simp [Af]) (by simpa using Aa) Ad (by rw [Aa];exact Ac) h
 refine wp_region_any hm ?_
 have:=wAo (Q:=Q) (g:=l.toArray.size - n) hS (fun listed a' Γ' w' hL hb hG=>by
  have:=wpAny_of_seq (md:=.any) (Q':=Q) (l.drop n) n listed a' w' (fun j=>by simp [List.getElem?_drop]) (by rw [Ae];exact hL.1) (hL.2 w' hb hG)
  rwa [Ae] at this) _ _ _ _ { w with drawn:=w.drawn + 1 } H ((Below.refl _ _).drew) (fun _=>trivial) (fun _ _ _ _ _=>trivial)
 rw [Aa,show n + (l.toArray.size - n)=l.toArray.size by omega] at this
 exact this
end
end Go.Flow
namespace Go
open Go.RowKit
def nO (x:Value) (v:Value) (w:World):Prop:=∃ g,v = .slice (some ⟨g,0,none⟩) 1 1∧g < w.heap.size∧w.cell? ⟨g,0,none⟩=some x
theorem nOm (x:Value):Flow.Spec.mono (.inr (nO x)):=fun _ _ _ ⟨g,h1,h2,h3⟩ hb=>⟨g,h1,Nat.lt_of_lt_of_le h2 hb.size,(hb.cell (p:=⟨g,0,none⟩) h2).trans h3⟩
theorem nOm2 (x:Value) (w:World) (t:TypeId):nO x (.slice (some ⟨w.heap.size,0,none⟩) 1 1) (w.alloc (.cells #[x] t)):=⟨_,rfl,by simp,by simp⟩
end Go
namespace Go
open Go.RowKit
theorem Flow.bc4 {W w1:World} (hb:Below W.heap.size W w1):(∀ b o,b < W.heap.size→w1.cell? ⟨b,o,none⟩=W.cell? ⟨b,o,none⟩):=
 fun b o h=>hb.cell (p:=⟨b,o,none⟩) h
def cutN (n:Nat) (s:ByteArray):ByteArray:=s.extract 0 n
theorem cNs2 (n:Nat) (s:ByteArray):(cutN n s).size≤n:=by simp [cutN];omega
theorem cNs (n:Nat) (s:ByteArray) (h:s.size≤n):cutN n s=s:=by
 apply ByteArray.ext
 have:s.data.size≤n:=h
 simp [cutN];omega
def blk:Value→Option Nat
 | .slice (some a) _ _=>some a.block
 | _=>none
def Ag (p:Nat→Prop) (w w':World):Prop:=w.heap.size≤w'.heap.size∧∀ b,b < w.heap.size→p b→w'.heap[b]? = w.heap[b]?
def NilOk (v:Value):Prop:=∀ n c,v = .slice none n c→c=0
def SlP (p:Nat→Prop) (w:World) (v:Value) (cs:List Value):Prop:=SlOf w v cs∧(0 < cs.length→∀ b,blk v=some b→p b)∧NilOk v
section
variable {p q:Nat→Prop} {w w' w'':World} {v:Value} {cs:List Value}
theorem Ag.refl (p:Nat→Prop) (w:World):Ag p w w:=⟨Nat.le_refl _,fun _ _ _=>rfl⟩
theorem Ag.trans (h:Ag p w w') (k:Ag p w' w''):Ag p w w'':=⟨Nat.le_trans h.1 k.1,fun b hb hp=>(k.2 b (Nat.lt_of_lt_of_le hb h.1) hp).trans (h.2 b hb hp)⟩
theorem Ag.below (p:Nat→Prop) {B:Nat} (h:Below B w w') (hB:∀ b,b < w.heap.size→p b→b < B):Ag p w w':=⟨h.size,fun b hb hp=>h.block b (hB b hb hp)⟩
theorem Ag.new (p:Nat→Prop) (h:Below w.heap.size w w'):Ag p w w':=Ag.below p h fun _ hb _=>hb
theorem Ag.weak (h:Ag q w w') (hpq:∀ b,p b→q b):Ag p w w':=⟨h.1,fun b hb hp=>h.2 b hb (hpq b hp)⟩
theorem Ag.set (p:Nat→Prop) (w:World) {a:Addr} (v:Value) (h:¬ p a.block):Ag p w (w.setCell a v):=
 ⟨by simp [World.setCell],fun b _ hp=>heap_setCell_other w a b v (fun e=>h (e ▸ hp))⟩
theorem Ag.grown {o:Option Nat} (h:w.grownBy w' o) (hp:∀ g,o=some g→¬ p g):Ag p w w':=
 ⟨h.size,fun b hb hpb=>h.block b hb (fun e=>hp b e.symm hpb)⟩
theorem Ag.cell (h:Ag p w w') {b o:Nat} (hb:b < w.heap.size) (hp:p b):w'.cell? ⟨b,o,none⟩=w.cell? ⟨b,o,none⟩:=World.cell?_of_block (h.2 b hb hp)
theorem SlP.ag (h:SlP p w v cs) (hg:Ag p w w'):SlP p w' v cs:=by
 obtain ⟨⟨h0,a,Ab,hv,hc⟩,hp,hn⟩:=h
 refine ⟨⟨h0,a,Ab,hv,fun hl => ?_⟩,hp,hn⟩
 obtain ⟨b,Ac,rfl,hb,Aa⟩:=hc hl
 exact ⟨b,Ac,rfl,Nat.lt_of_lt_of_le hb hg.1,fun j hj=>(hg.cell hb (hp hl b (by rw [hv];rfl))).trans (Aa j hj)⟩
theorem SlP.weak (h:SlP p w v cs) (hpq:∀ b,p b→q b):SlP q w v cs:=⟨h.1,fun hl b hb=>hpq b (h.2.1 hl b hb),h.2.2⟩
theorem SlP.lt (h:SlP p w v cs):SlP (fun b=>p b∧b < w.heap.size) w v cs:=by
 refine ⟨h.1,fun hl b hb=>⟨h.2.1 hl b hb,?_⟩,h.2.2⟩
 obtain ⟨⟨h0,a,Ac,hv,hc⟩,hp⟩:=h
 obtain ⟨b',Ad,rfl,Ab,Aa⟩:=hc hl
 rw [hv] at hb;cases hb;exact Ab
theorem SlP.of (h:SlOf w v cs) (hn:NilOk v):SlP (fun _=>True) w v cs:=⟨h,fun _ _ _=>trivial,hn⟩
theorem SlP.nil (p:Nat→Prop) (w:World):SlP p w (.slice none 0 0) []:=⟨SlOf.nil w,fun h=>absurd h (by simp),fun n c e=>by cases e;rfl⟩
theorem SlP.shape (h:SlP p w v cs):∃ a n c,v = .slice a n c:=let ⟨⟨_,a,c,hv,_⟩,_⟩:=h;⟨a,_,c,hv⟩
theorem SlP.owned {base:Nat} {e:TypeId} {n:Nat} (h:w.ownsRow base e 1 v n cs):SlP (fun b=>base≤b) w v cs:=by
 refine ⟨SlOf.owned h,fun _ b hb => ?_,fun n c e => ?_⟩
 ·obtain ⟨_,⟨rfl,_⟩ | ⟨g,Ab,Aa,rfl,hg,_⟩⟩:=h
  ·cases hb
  ·cases hb;exact hg
 ·obtain ⟨_,⟨rfl,_⟩ | ⟨g,Ab,Aa,rfl,hg,_⟩⟩:=h
  ·cases e;rfl
  ·cases e
end
section
variable (w:World) (A B C D E:Obj)
theorem la2:(w.alloc A).heap[w.heap.size]? = some A∧(w.alloc A).heap.size=w.heap.size + 1∧Below w.heap.size w (w.alloc A):=⟨heap_alloc_new w A,by simp,(Below.refl _ _).alloc (Nat.le_refl _) _⟩
theorem la3:((w.alloc A).alloc B).heap[w.heap.size]? = some A∧((w.alloc A).alloc B).heap[w.heap.size + 1]? = some B∧((w.alloc A).alloc B).heap.size=w.heap.size + 2∧Below w.heap.size w ((w.alloc A).alloc B):=by
 obtain ⟨h1,h2,h3⟩:=la2 w A
 obtain ⟨k1,k2,k3⟩:=la2 (w.alloc A) B
 rw [h2] at k1
 exact ⟨(k3.block _ (by omega)).trans h1,k1,by rw [k2,h2],h3.trans (k3.mono (by omega))⟩
theorem laid3:(((w.alloc A).alloc B).alloc C).heap[w.heap.size]? = some A∧(((w.alloc A).alloc B).alloc C).heap[w.heap.size + 1]? = some B∧(((w.alloc A).alloc B).alloc C).heap[w.heap.size + 2]? = some C∧(((w.alloc A).alloc B).alloc C).heap.size=w.heap.size + 3∧Below w.heap.size w (((w.alloc A).alloc B).alloc C):=by
 obtain ⟨h1,h2,h3,h4⟩:=la3 w A B
 obtain ⟨k1,k2,k3⟩:=la2 ((w.alloc A).alloc B) C
 rw [h3] at k1
 exact ⟨(k3.block _ (by omega)).trans h1,(k3.block _ (by omega)).trans h2,k1,by rw [k2,h3],h4.trans (k3.mono (by omega))⟩
theorem laid4:((((w.alloc A).alloc B).alloc C).alloc D).heap[w.heap.size]? = some A∧((((w.alloc A).alloc B).alloc C).alloc D).heap[w.heap.size + 1]? = some B∧((((w.alloc A).alloc B).alloc C).alloc D).heap[w.heap.size + 2]? = some C∧((((w.alloc A).alloc B).alloc C).alloc D).heap[w.heap.size + 3]? = some D∧((((w.alloc A).alloc B).alloc C).alloc D).heap.size=w.heap.size + 4∧Below w.heap.size w ((((w.alloc A).alloc B).alloc C).alloc D):=by
 obtain ⟨h1,h2,h3,h4,h5⟩:=laid3 w A B C
 obtain ⟨k1,k2,k3⟩:=la2 (((w.alloc A).alloc B).alloc C) D
 rw [h4] at k1
 exact ⟨(k3.block _ (by omega)).trans h1,(k3.block _ (by omega)).trans h2,(k3.block _ (by omega)).trans h3,k1,by rw [k2,h4],h5.trans (k3.mono (by omega))⟩
end
end Go
namespace Tess
open Go
def bl (a b:ByteArray):Bool:=Op.bytesLess a.toList b.toList
theorem tl (a:ByteArray):a.toList=a.data.toList:=ByteArray.toList_eq a
end Tess
namespace Tess
open Go
structure Sch where
 dims:List ByteArray
 mets:List ByteArray
 grain:Int
structure Val where
 s:ByteArray
 null:Bool
def isLow (c:UInt8):Bool:=decide (97≤c.toNat) && decide (c.toNat≤122)
def iR (c:UInt8):Bool:=isLow c || c.toNat == 95 || (decide (48≤c.toNat) && decide (c.toNat≤57))
def nameL:List UInt8→Bool
 | []=>false
 | c :: r=>isLow c && r.all iR
def nO3 (s:ByteArray):Bool:=decide (s.size≤20) && nameL s.data.toList
def hasW (l:List ByteArray) (x:ByteArray):Bool:=l.any fun y=>decide (y=x)
def idxW (l:List ByteArray) (x:ByteArray):Nat:=l.findIdx fun y=>decide (y=x)
theorem hWi (l:List ByteArray) (x:ByteArray):hasW l x=true↔x ∈ l:=by simp [hasW]
theorem hWn (l:List ByteArray) (x:ByteArray):hasW l x=false↔x ∉ l:=by rw [← hWi];simp
theorem idxW_at (l:List ByteArray) (x:ByteArray) (k:Nat) (hk:k < l.length) (hx:l[k]=x) (h:∀ j (hj:j < l.length),j < k→l[j]≠x):idxW l x=k:=by
 unfold idxW
 rw [List.findIdx_eq hk]
 exact ⟨by simp [hx],fun j hj=>by simpa using h j (by omega) hj⟩
def distinct:List ByteArray→Bool
 | []=>true
 | a :: r => !hasW r a && distinct r
def nO4 (l:List ByteArray):Bool:=distinct l && l.all nO3
def sO2 (s:Sch):Bool:=(decide (1≤s.dims.length) && decide (s.dims.length≤6)) && decide (s.mets.length≤4) && decide (1≤s.grain) && decide (s.grain≤1000000000) && nO4 (s.dims ++ s.mets)
def pW (ok:Bool) (l:List ByteArray) (x:ByteArray):Nat×Bool:=if ok && hasW l x then (idxW l x,true) else (0,false)
def dimW (s:Sch) (x:ByteArray):Nat×Bool:=pW (sO2 s) s.dims x
inductive Fil
 | mk (kind:Int) (name:ByteArray) (words:List ByteArray) (frm to:Int) (l:List Fil)
namespace Fil
def kind:Fil→Int | mk k _ _ _ _ _=>k
def name:Fil→ByteArray | mk _ n _ _ _ _=>n
def words:Fil→List ByteArray | mk _ _ w _ _ _=>w
def frm:Fil→Int | mk _ _ _ a _ _=>a
def to:Fil→Int | mk _ _ _ _ b _=>b
def l:Fil→List Fil | mk _ _ _ _ _ l=>l
mutual
def count:Fil→Nat | mk _ _ _ _ _ l=>1 + cL2 l
def cL2:List Fil→Nat | []=>0 | f :: r=>count f + cL2 r
end
mutual
def deep:Fil→Nat | mk _ _ _ _ _ l=>1 + dL l
def dL:List Fil→Nat | []=>0 | f :: r=>max (deep f) (dL r)
end
mutual
def pre (d:Nat):Fil→List (Nat×Fil) | mk k n w a b l=>(d,mk k n w a b l) :: preL (d + 1) l
def preL (d:Nat):List Fil→List (Nat×Fil) | []=>[] | f :: r=>pre d f ++ preL d r
end
def form (k:Int):Option (Bool×Bool×(Nat×Nat)×(Nat×Nat)):=
 if k=1 then some (false,false,(0,0),(0,0))
 else if k=2 then some (true,false,(1,8),(0,0))
 else if k=3 then some (true,false,(0,0),(0,0))
 else if k=4 then some (true,false,(1,1),(0,0))
 else if k=5 then some (true,false,(2,2),(0,0))
 else if k=6 then some (false,true,(0,0),(0,0))
 else if k=7 then some (false,false,(0,0),(1,1))
 else if k=8 then some (false,false,(0,0),(2,8))
 else if k=9 then some (false,false,(0,0),(2,8))
 else none
def inW (n:Nat) (p:Nat×Nat):Bool:=decide (p.1≤n) && decide (n≤p.2)
def own (s:Sch) (f:Fil):Bool:=
 match form f.kind with
 | none=>false
 | some (hn,hs,ws,ls)=>((dimW s f.name).2 == hn) && ((dimW s f.name).2 || f.name.size == 0) && (hs || (decide (f.frm=0) && decide (f.to=0))) && inW f.words.length ws && inW f.l.length ls && !f.words.any (fun x=>decide (100 < x.size))
def sO3 (a b:Int):Bool:=decide (0≤a) && decide (a≤b) && decide (b≤1000000000001)
def gO2 (g:Int):Bool:=decide (1≤g) && decide (g≤1000000000)
def sF3 (a b g:Int):Bool:=sO3 a b && gO2 g && decide (a % g=0) && (decide (b=1000000000001) || decide (b % g=0))
def sH (a b t:Int):Bool:=sO3 a b && decide (a≤t) && decide (t < b)
def bG (s:Sch) (f:Fil):Bool:=decide (f.kind=6) && !sF3 f.frm f.to s.grain
def chk (s:Sch):Nat→Bool→List (Nat×Fil)→Nat
 | _,g,[]=>if g then 110 else 0
 | n,g,(d,x) :: r=>if n + 1 > 40 || d > 6 || !own s x then 140 else chk s (n + 1) (g || bG s x) r
def cE2 (s:Sch) (f:Fil):Nat:=if sO2 s then chk s 0 false (pre 1 f) else 100
def isWord (f:Fil) (w:ByteArray):Bool:=
 if f.kind=4 then (f.words.getD 0 ByteArray.empty).data.toList.isPrefixOf w.data.toList
 else if f.kind=5 then !bl w (f.words.getD 0 ByteArray.empty) && !bl (f.words.getD 1 ByteArray.empty) w
 else hasW f.words w
def hD8 (s:Sch) (dims:List Val) (f:Fil):Bool:=
 let v:=dims.getD (dimW s f.name).1 ⟨ByteArray.empty,false⟩
 if v.null || decide (f.kind=3) then v.null && decide (f.kind=3) else isWord f v.s
def hW4 (s:Sch) (t:Int) (dims:List Val) (f:Fil) (hs:List Bool):Bool:=
 if f.kind=7 then !hs.getD 0 false
 else if f.kind=8 then hs.all id
 else if f.kind=9 then hs.any id
 else if f.kind=6 then sH f.frm f.to t
 else if f.kind=1 then true
 else hD8 s dims f
mutual
def holds (s:Sch) (t:Int) (dims:List Val):Fil→Bool | mk k n w a b l=>hW4 s t dims (mk k n w a b l) (holdsL s t dims l)
def holdsL (s:Sch) (t:Int) (dims:List Val):List Fil→List Bool | []=>[] | f :: r=>holds s t dims f :: holdsL s t dims r
end
def hE3 (s:Sch) (t:Int) (dims:List Val) (f:Fil):Bool×Nat:=
 if cE2 s f=0 then (if dims.length=s.dims.length then (holds s t dims f,0) else (false,140)) else (false,cE2 s f)
mutual
def allP (p:Fil→Bool):Fil→Bool | mk k n w a b l=>p (mk k n w a b l) && allPL p l
def allPL (p:Fil→Bool):List Fil→Bool | []=>true | f :: r=>allP p f && allPL p r
end
theorem ce3 (f:Fil):f.count=1 + cL2 f.l:=by cases f;simp [count,l]
theorem deep_eq (f:Fil):f.deep=1 + dL f.l:=by cases f;simp [deep,l]
theorem pre_eq (d:Nat) (f:Fil):pre d f=(d,f) :: preL (d + 1) f.l:=by cases f;simp [pre,l]
theorem holds_eq (s:Sch) (t:Int) (dims:List Val) (f:Fil):holds s t dims f=hW4 s t dims f (f.l.map (holds s t dims)):=by
 have h:∀ q:List Fil,holdsL s t dims q=q.map (holds s t dims):=fun q=>by induction q with
  | nil=>rfl
  | cons a r ih=>simp [holdsL,ih]
 cases f;simp [holds,l,h]
theorem aPe (p:Fil→Bool) (f:Fil):allP p f=(p f && f.l.all (allP p)):=by
 have h:∀ q:List Fil,allPL p q=q.all (allP p):=fun q=>by induction q with
  | nil=>rfl
  | cons a r ih=>simp [allPL,ih]
 cases f;simp [allP,l,h]
theorem deep_mem {f:Fil}:∀ {q:List Fil},f ∈ q→f.deep≤dL q
 | [],h=>by cases h
 | a :: r,h=>by
   unfold dL
   rcases List.mem_cons.1 h with rfl | h
   ·omega
   ·have:=deep_mem h;omega
theorem pLa (d:Nat) (q r:List Fil):preL d (q ++ r)=preL d q ++ preL d r:=by
 induction q with
 | nil=>rfl
 | cons a q ih=>simp [preL,ih]
theorem cLa (q r:List Fil):cL2 (q ++ r)=cL2 q + cL2 r:=by
 induction q with
 | nil=>simp [cL2]
 | cons a q ih=>simp [cL2,ih];omega
theorem cLt (q:List Fil) (k:Nat) (h:k < q.length):cL2 (q.take (k + 1))=cL2 (q.take k) + q[k].count:=by
 rw [List.take_succ_eq_append_getElem h,cLa];simp [cL2]
theorem cLt2 (q:List Fil) (k:Nat):cL2 (q.take k)≤cL2 q:=by
 conv=>rhs;rw [← List.take_append_drop k q,cLa]
 omega
theorem ind {p:Fil→Prop} (h:∀ f,(∀ x ∈ f.l,p x)→p f) (f:Fil):p f:=by
 have:∀ n f,f.deep≤n→p f:=by
  intro n
  induction n with
  | zero=>intro f hf;rw [deep_eq] at hf;omega
  | succ n ih=>intro f hf;exact h f fun x hx=>ih x (by have:=deep_mem hx;rw [deep_eq] at hf;omega)
 exact this _ f (Nat.le_refl _)
theorem pre_length (d:Nat) (f:Fil):(pre d f).length=f.count:=by
 induction f using ind generalizing d with
 | h f ih=>
   rw [pre_eq,ce3,List.length_cons]
   have:∀ q:List Fil,(∀ x ∈ q,∀ d,(pre d x).length=x.count)→(preL (d + 1) q).length=cL2 q:=fun q=>by
    induction q with
    | nil=>intro _;rfl
    | cons a r ihr=>
      intro hq
      simp only [preL,cL2,List.length_append,hq a (List.mem_cons_self),ihr (fun x hx=>hq x (List.mem_cons_of_mem _ hx))]
   rw [this _ (fun x hx d=>ih x hx d)];omega
theorem deepL_le (k:Nat) (q:List Fil):dL q≤k↔∀ x ∈ q,x.deep≤k:=by
 induction q with
 | nil=>simp [dL]
 | cons a r ih=>
   rw [show dL (a :: r)=max a.deep (dL r) from rfl,Nat.max_le,ih]
   simp
theorem pre_all (p:Fil→Bool) (m:Nat) (d:Nat) (f:Fil):((pre d f).all fun x => !decide (x.1 > m) && p x.2)=(decide (f.deep + d≤m + 1) && allP p f):=by
 induction f using ind generalizing d with
 | h f ih=>
   rw [pre_eq,aPe,List.all_cons]
   have:∀ q:List Fil,(∀ x ∈ q,∀ d,((pre d x).all fun x => !decide (x.1 > m) && p x.2)=(decide (x.deep + d≤m + 1) && allP p x))→((preL (d + 1) q).all fun x => !decide (x.1 > m) && p x.2)=(q.all (fun x=>decide (x.deep + (d + 1)≤m + 1)) && q.all (allP p)):=fun q=>by
    induction q with
    | nil=>intro _;rfl
    | cons a r ihr=>
      intro hq
      simp only [preL,List.all_append,hq a (List.mem_cons_self),ihr (fun x hx=>hq x (List.mem_cons_of_mem _ hx)),List.all_cons]
      cases decide (a.deep + (d + 1)≤m + 1) <;> cases allP p a <;> simp
   rw [this _ (fun x hx d=>ih x hx d)]
   rw [Bool.eq_iff_iff]
   simp only [Bool.and_eq_true,Bool.not_eq_true',decide_eq_false_iff_not,decide_eq_true_eq,List.all_eq_true]
   have e:f.deep + d≤m + 1↔d≤m∧∀ x ∈ f.l,x.deep + (d + 1)≤m + 1:=by
    rw [deep_eq]
    constructor
    ·intro h
     exact ⟨by omega,fun x hx=>by have:=(deepL_le (dL f.l) f.l).1 (Nat.le_refl _) x hx;omega⟩
    ·rintro ⟨h1,h2⟩
     have:=(deepL_le (m - d) f.l).2 fun x hx=>by have:=h2 x hx;omega
     omega
   rw [e]
   constructor
   ·rintro ⟨⟨h1,h2⟩,h3,h4⟩;exact ⟨⟨by omega,h3⟩,h2,h4⟩
   ·rintro ⟨⟨h1,h3⟩,h2,h4⟩;exact ⟨⟨by omega,h2⟩,h3,h4⟩
theorem chk_eq (s:Sch) (l:List (Nat×Fil)):∀ n g,n≤40→chk s n g l=if n + l.length > 40 || !(l.all fun x => !decide (x.1 > 6) && own s x.2) then 140 else if g || l.any (fun x=>bG s x.2) then 110 else 0:=by
 induction l with
 | nil=>
   intro n g hn
   have:¬ n > 40:=by omega
   simp [chk,this]
 | cons a r ih=>
   intro n g hn
   obtain ⟨d,x⟩:=a
   simp only [chk]
   by_cases h1:n + 1 > 40
   ·have h2:n + (r.length + 1) > 40:=by omega
    simp [h1,h2]
   ·rw [ih (n + 1) _ (by omega)]
    have e:n + 1 + r.length=n + (r.length + 1):=by omega
    by_cases h3:d > 6
    ·simp [h3]
    ·have Aa:decide (d > 6)=false:=decide_eq_false h3
     have Ab:decide (n + 1 > 40)=false:=decide_eq_false h1
     simp only [List.length_cons,List.all_cons,List.any_cons,e,Aa,Ab,Bool.or_assoc,Bool.false_or,Bool.not_false,Bool.true_and]
     cases own s x
     ·simp
     ·simp only [Bool.not_true,Bool.true_and]
      rfl
theorem any_pre (p:Fil→Bool) (d:Nat) (f:Fil):(pre d f).any (fun x=>p x.2) = !allP (fun x => !p x) f:=by
 induction f using ind generalizing d with
 | h f ih=>
   rw [pre_eq,aPe,List.any_cons]
   have:∀ q:List Fil,(∀ x ∈ q,∀ d,(pre d x).any (fun x=>p x.2) = !allP (fun x => !p x) x)→(preL (d + 1) q).any (fun x=>p x.2) = !q.all (allP (fun x => !p x)):=fun q=>by
    induction q with
    | nil=>intro _;rfl
    | cons a r ihr=>
      intro hq
      simp only [preL,List.any_append,hq a (List.mem_cons_self),ihr (fun x hx=>hq x (List.mem_cons_of_mem _ hx)),List.all_cons]
      cases allP (fun x => !p x) a <;> simp
   rw [this _ (fun x hx d=>ih x hx d)]
   cases p f <;> simp
theorem checkE_eq (s:Sch) (f:Fil):cE2 s f=if sO2 s then (if decide (f.count > 40) || decide (f.deep > 6) || !allP (own s) f then 140 else if allP (fun x => !bG s x) f then 0 else 110) else 100:=by
 unfold cE2
 rw [chk_eq s _ 0 false (by omega),pre_length,pre_all,any_pre]
 have e:decide (f.deep + 1≤6 + 1) = !decide (f.deep > 6):=by rw [Bool.eq_iff_iff];simp
 rw [e]
 cases sO2 s <;> simp
 cases decide (f.count > 40) <;> cases decide (f.deep > 6) <;> cases allP (own s) f <;> cases allP (fun x => !bG s x) f <;> simp_all
end Fil
end Tess
