/- Joined by mergeK.py: F15, FlR, F16, F17, F18, Rf -/
import Derived.Test.YtaddkkkchkdgkaaGreatDoorCC03
import Derived.Still
import Derived.StillTail
import Derived.Below
import Derived.Deep.QuietTactic
import Derived.WalkKit
import Derived.Test.YtaddkkkchkdgkaaGreatDoorCC01
import Derived.RangeFuncRecord
import Derived.RangeFuncIn
import Derived.RangeFuncLeaves
import Derived.RangeFuncCalls
namespace Tess
def iL (s:ByteArray):Bool:=decide (100 < s.size)
end Tess
namespace Go.Proofs.YtaddkkkchkdgkaaGreatDoor
open Go.RowKit Go.Sort
theorem fa9 (n a b:Nat) (w:World):Calls Tryz.prog 209 #[.int .i64 n,.agg #[.int .i64 a,.int .i64 b]] w fun e w'=>e = .returned (.bool (Tess.Fil.inW n (a,b)))∧Below w.heap.size w w':=by
 unfold Tess.Fil.inW
 by_cases h1:a≤n
 ·have Ab:(a:Int)≤(n:Int):=by omega
  have Aa:decide ((a:Int)≤(n:Int))=true:=decide_eq_true Ab
  obtain ⟨r,hr⟩:∃ r,decide (n≤b)=r:=⟨_,rfl⟩
  have Ac:decide ((n:Int)≤(b:Int))=r:=by rw [← hr];exact decide_eq_decide.2 (by omega)
  rw [decide_eq_true h1,hr]
  go_enter Tryz.func209,Tryz.ntmps209
  go_wp2
  go_ret
  exact ⟨rfl,(Below.refl _ _).alloc (Nat.le_refl _) _⟩
 ·have Aa:decide ((a:Int)≤(n:Int))=false:=decide_eq_false (by omega)
  rw [decide_eq_false h1,Bool.false_and]
  go_enter Tryz.func209,Tryz.ntmps209
  go_wp2
  go_ret
  exact ⟨rfl,(Below.refl _ _).alloc (Nat.le_refl _) _⟩
theorem long_any (s:ByteArray) (w:World):Calls Tryz.prog 208 #[.string s] w fun e w'=>e = .returned (.bool (Tess.iL s))∧w=w':=by
 go_enter Tryz.func208,Tryz.ntmps208
 go_wp2
 go_ret
 exact ⟨by unfold Tess.iL;exact congrArg (fun b=>Ending.returned (Value.bool b)) (decide_eq_decide.2 (by omega)),rfl⟩
set_option maxHeartbeats 1000000 in
theorem index_long (v:Value) (l:List ByteArray) (w:World) (hv:SlOf w v (l.map .string)) :
  Calls Tryz.prog 200 #[v,.func (.func 208) #[] #[]] w fun e w' => ∃ i:Int,e = .returned (.int .i64 i)∧decide (0≤i)=l.any Tess.iL∧Below w.heap.size w w':=by
 obtain ⟨a,Ag,rfl,Ad,hc⟩:=so2 hv
 have HC:=Hd hc
 clear hc hv
 go_enter Tryz.func200,Tryz.ntmps200
 go_wp2
 go_loopw [8] (fun i wr => ∃ k:Nat,k≤l.length∧i = .int .i64 k∧(∀ j (hj:j < l.length),j < k→Tess.iL l[j]=false)∧Below w.heap.size w wr) (fun i _=>l.length - (intOf i).toNat)
 case atStart=>exact ⟨0,Nat.zero_le _,rfl,fun j _ h=>absurd h (Nat.not_lt_zero _),Below.refl _ _⟩
 case round=>
  obtain ⟨k,hk,rfl,Ab,hB⟩:=hrel
  have HA:=Hd Ab
  have HB:=Hd hB
  clear Ab hB
  by_cases hlt:k < l.length
  ·obtain ⟨b,Ac,rfl,hb,Aa⟩:=HC.out k hlt
   have Ae:wr.cell? ⟨b,Ac + k,none⟩=some (.string l[k]):=(HB.out.cell (p:=⟨b,Ac + k,none⟩) hb).trans Aa
   have Af:(k:Int) < (l.length:Int):=by omega
   obtain ⟨y,hy⟩:∃ y,y=l[k]:=⟨_,rfl⟩
   rw [← hy] at Ae
   have HE:=Hd hy
   clear Aa hy
   go_wp2_with (go_at_call 208;refine (long_any y _).mono ?_;rintro e w2 ⟨rfl,rfl⟩;cases hyx:Tess.iL y)
   ·go_roundw
    case rel=>
     refine ⟨k + 1,by omega,by go_num,fun j hj hjk => ?_,HB.out⟩
     by_cases hjk':j < k
     ·exact HA.out j hj hjk'
     ·obtain rfl:j=k:=by omega
      rw [← HE.out];exact hyx
    case measure=>simp [intOf];omega
   ·go_ret
    refine ⟨(k:Int),rfl,?_,HB.out⟩
    rw [decide_eq_true (by omega),eq_comm,List.any_eq_true]
    exact ⟨l[k],List.getElem_mem hlt,by rw [← HE.out];exact hyx⟩
  ·have Af:¬ (k:Int) < (l.length:Int):=by omega
   go_wp2
   go_ret
   refine ⟨-1,rfl,?_,HB.out⟩
   rw [decide_eq_false (by omega),eq_comm,List.any_eq_false]
   intro y hy
   obtain ⟨j,hj,rfl⟩:=List.getElem_of_mem hy
   rw [HA.out j hj (by omega)];simp
theorem contains_long (v:Value) (l:List ByteArray) (w:World) (hv:SlOf w v (l.map .string)) :
  Calls Tryz.prog 166 #[v,.func (.func 208) #[] #[]] w fun e w'=>e = .returned (.bool (l.any Tess.iL))∧Below w.heap.size w w':=by
 have HI:=Hd (index_long v l w hv)
 obtain ⟨a,Ab,rfl,Aa,hc⟩:=so2 hv
 clear hc hv
 go_enter Tryz.func166,Tryz.ntmps166
 go_wp2_with (go_at_call 200;refine HI.out.mono ?_;rintro e w2 ⟨i,rfl,hi,hB⟩;have HH:=Hd hi;have HB:=Hd hB;clear hi hB)
 go_ret
 refine ⟨?_,HB.out⟩
 rw [← HH.out];rfl
end Go.Proofs.YtaddkkkchkdgkaaGreatDoor
namespace Go.FlowR
open Go Go.RowKit
structure Rel where
 r:World→World→Prop
 rf:∀ w,r w w
 tr:∀ {a b c},r a b→r b c→r a c
 drew:∀ w:World,r w { w with drawn:=w.drawn + 1 }
abbrev Spec:=Value ⊕ (Value→World→Prop)
def Spec.holds:Spec→Value→World→Prop
 | .inl u,v,_=>v=u
 | .inr V,v,w=>V v w
def Spec.ok:Spec→Value→Prop
 | .inl u,v=>v=u
 | .inr _,_=>True
def Mono (R:Rel) (p:World→Prop):Prop:=∀ w w',p w→R.r w w'→p w'
def Spec.mono (R:Rel) (s:Spec):Prop:=∀ v,Mono R (s.holds v)
theorem mi {R:Rel} (u:Value):Spec.mono R (.inl u):=fun _ _ _ h _=>h
section
variable {R:Rel} {P:Program} {ops:Array Oper}
def yields (P:Program) (o:Oper) (ρ:Operand→Value) (w:World) (R:Value→World→Prop):Prop:=
 match (execOp ρ o).run P w with
 | .ok (.value v) w'=>R v w'
 | .ok .skip w'=>R undef w'
 | .ok (.enter f args) w'=>Calls P f args w' fun e w'' => ∃ v,e = .returned v∧R v w''
 | _=>False
theorem ym2 {o:Oper} {ρ:Operand→Value} {w:World} {R R':Value→World→Prop} (h:∀ v w,R v w→R' v w) (hy:yields P o ρ w R):yields P o ρ w R':=by
 unfold yields at *
 generalize (execOp ρ o).run P w=r at *
 cases r with
 | ok n w'=>
   cases n <;> first
    | exact h _ _ hy
    | exact Calls.mono hy (fun e w'' ⟨v,he,hr⟩=>⟨v,he,h _ _ hr⟩)
    | exact hy
 | halt x w'=>exact hy
theorem woy {o:Oper} {a:Act} {w:World} {K:Act→World→Prop} {Q:Exit→Act→World→Prop} (hy:yields P o a.eval w fun v w'=>K (a.put o.dst v) w'):o.wp P a w K Q:=by
 unfold yields at hy
 unfold Oper.wp
 generalize (execOp a.eval o).run P w=r at *
 cases r with
 | ok n w'=>
   cases n <;> simp only [Oper.upon] <;> first
    | exact hy
    | exact (show False from hy).elim
    | exact Calls.mono hy (fun e w'' ⟨v,he,hr⟩=>by subst he;exact hr)
 | halt x w'=>exact hy.elim
def Runs (R:Rel) (P:Program) (ops:Array Oper) (o:Oper) (s:Spec) (a:Act) (w:World):Prop:=
 if Region.wanted o (yielded ops a.tmps) then yields P o a.eval w (fun v w'=>R.r w w'∧s.holds v w') else s.holds undef w
def dep (o:Oper) (j:Nat):Bool:=o.after.any fun e=>Region.binds .any e && e.on == j
def Ru (R:Rel) (P:Program) (ops:Array Oper) (w0:World) (o:Oper) (s:Spec) (a:Act) (Γ:Nat→World→Prop):Prop:=
 ∀ w,R.r w0 w→(∀ j,dep o j=true→Γ j w)→Runs R P ops o s a w
def upd (Γ:Nat→World→Prop) (i:Nat) (p:World→Prop):Nat→World→Prop:=fun j=>if j=i then p else Γ j
theorem upd_ne {Γ:Nat→World→Prop} {i j:Nat} {p:World→Prop} (h:j≠i):upd Γ i p j=Γ j:=by simp [upd,h]
theorem upd_same {Γ:Nat→World→Prop} {i:Nat} {p:World→Prop}:upd Γ i p i=p:=by simp [upd]
theorem uc2 {Γ:Nat→World→Prop} {i j:Nat} {p q:World→Prop} (h:j≠i):upd (upd Γ i p) j q=upd (upd Γ j q) i p:=by
 funext k;unfold upd
 by_cases h1:k=j
 ·subst h1;simp [h]
 ·simp [h1]
def sp (S:Nat→Value→Spec) (σ:Nat→Nat) (i:Nat) (a:Act):Spec:=S i (a.tmps.getD (σ i) undef)
def SpOk (ops:Array Oper) (S:Nat→Value→Spec) (σ:Nat→Nat):Prop:=∀ i oi,ops[i]? = some oi→σ i ∈ oi.looksAt ops∨∀ x y,S i x=S i y
theorem sp_put {S:Nat→Value→Spec} {σ:Nat→Nat} (hS:SpOk ops S σ) {i:Nat} {oi:Oper} (hi:ops[i]? = some oi) (a:Act) (dst:Option Tmp) (v:Value) (h:∀ d,dst=some d→d ∉ oi.looksAt ops):sp S σ i (a.put dst v)=sp S σ i a:=by
 rcases hS i oi hi with h1 | h1
 ·unfold sp
  cases dst with
  | none=>rfl
  | some d=>
    have Aa:d≠σ i:=fun e=>h d rfl (e ▸ h1)
    congr 1
    simp [Act.put,Aa]
 ·exact h1 _ _
def fOp (R:Rel) (P:Program) (ops:Array Oper) (S:Nat→Value→Spec) (σ:Nat→Nat) (w0:World) (i:Nat) (K:Act→(Nat→World→Prop)→Prop) (a:Act) (Γ:Nat→World→Prop):Prop:=
 match ops[i]? with
 | none=>K a Γ
 | some o=>Ru R P ops w0 o (sp S σ i a) a Γ∧∀ v,(sp S σ i a).ok v→K (a.put o.dst v) (upd Γ i ((sp S σ i a).holds v))
def anyF (R:Rel) (P:Program) (ops:Array Oper) (S:Nat→Value→Spec) (σ:Nat→Nat) (w0:World) (E:Act→(Nat→World→Prop)→Prop):Nat→Array Bool→Act→(Nat→World→Prop)→Prop
 | 0,listed,a,Γ=>Region.ready .any ops listed=[]∧E a Γ
 | fuel + 1,listed,a,Γ=>
   (Region.ready .any ops listed=[]→E a Γ) ∧
   ∀ i ∈ Region.ready .any ops listed,fOp R P ops S σ w0 i (anyF R P ops S σ w0 E fuel (listed.setIfInBounds i true)) a Γ
theorem wAo2 {S:Nat→Value→Spec} {σ:Nat→Nat} {w0:World} (hS:∀ i x,Spec.mono R (S i x)) {E:Act→(Nat→World→Prop)→Prop} {Q:Exit→Act→World→Prop}
  (hE:∀ a Γ w,E a Γ→R.r w0 w→(∀ j,Γ j w)→Q .normal a w):∀ (fuel:Nat) (listed:Array Bool) (a:Act) (Γ:Nat→World→Prop) (w:World),
  anyF R P ops S σ w0 E fuel listed a Γ→R.r w0 w→(∀ j,Γ j w)→(∀ j,Mono R (Γ j))→wpAny P .any ops Q fuel listed a w
 | 0,_,_,_,_,h,hB,hG,_=>⟨h.1,hE _ _ _ h.2 hB hG⟩
 | fuel + 1,listed,a,Γ,w,h,hB,hG,hM=>by
   refine ⟨fun h0=>hE _ _ _ (h.1 h0) hB hG,fun i hi => ?_⟩
   have h1:=h.2 i hi
   unfold fOp at h1
   unfold wpOp
   have hM':∀ v j,Mono R (upd Γ i ((sp S σ i a).holds v) j):=fun v j=>by
    by_cases e:j=i
    ·subst e;rw [upd_same];exact hS j _ v
    ·rw [upd_ne e];exact hM j
   have hG':∀ v w',R.r w w'→(sp S σ i a).holds v w'→∀ j,upd Γ i ((sp S σ i a).holds v) j w':=fun v w' hb hv j=>by
    by_cases e:j=i
    ·subst e;rw [upd_same];exact hv
    ·rw [upd_ne e];exact hM j _ _ (hG j) hb
   have hok:∀ v w',(sp S σ i a).holds v w'→(sp S σ i a).ok v:=fun v w' hv=>by
    cases hs:sp S σ i a with
    | inl u=>rw [hs] at hv;exact hv
    | inr V=>trivial
   split
   ·rename_i ho
    simp only [ho] at h1
    exact wAo2 hS hE fuel _ _ _ _ h1 hB hG hM
   ·rename_i o ho
    simp only [ho] at h1
    have h2:=h1.1 w hB (fun j _=>hG j)
    unfold Runs at h2
    split
    ·rename_i hw
     simp only [hw,if_true] at h2
     refine .inl (woy (ym2 ?_ h2))
     intro v w' ⟨hb,hv⟩
     exact wAo2 hS hE fuel _ _ _ _ (h1.2 v (hok v w' hv)) (R.tr hB hb) (hG' v w' hb hv) (hM' v)
    ·rename_i hw
     simp only [hw] at h2
     exact wAo2 hS hE fuel _ _ _ _ (h1.2 undef (hok _ _ h2)) hB (hG' _ _ (R.rf _) h2) (hM' _)
theorem Ru.of_same {w0:World} {o:Oper} {s:Spec} {a a':Act} {Γ Γ':Nat→World→Prop} (h:Ru R P ops w0 o s a Γ) (he:execOp a'.eval o=execOp a.eval o)
  (hw:Region.wanted o (yielded ops a'.tmps)=Region.wanted o (yielded ops a.tmps)) (hg:∀ j,dep o j=true→Γ' j=Γ j):Ru R P ops w0 o s a' Γ':=by
 intro w hB hG
 have:=h w hB (fun j hj=>by rw [← hg j hj];exact hG j hj)
 unfold Runs yields at *
 rw [he,hw]
 exact this
theorem nd2 {o:Oper} {i:Nat} (h:∀ e ∈ o.after,Region.binds .any e=true→e.on≠i) {j:Nat} (hj:dep o j=true):j≠i:=by
 obtain ⟨e,he,hb⟩:=Array.any_eq_true'.1 hj
 rw [Bool.and_eq_true,beq_iff_eq] at hb
 intro e2
 exact h e he hb.1 (by rw [hb.2,e2])
theorem aFf2 {S:Nat→Value→Spec} {σ:Nat→Nat} {w0:World} {E:Act→(Nat→World→Prop)→Prop} {i:Nat} {oi:Oper} (hSp:SpOk ops S σ) (hi:ops[i]? = some oi) (hsel:∀ (j:Nat) (o:Oper) cs b,ops[j]? = some o→o.op ≠ .select cs b) :
  ∀ (fuel:Nat) (listed:Array Bool) (a:Act) (Γ:Nat→World→Prop),
    (∀ j oj,ops[j]? = some oj→j≠i→listed.getD j true=false→(∀ e ∈ oj.after,Region.binds .any e=true→e.on≠i)→oi.apart ops oj=true) →
    i ∈ Region.ready .any ops listed→Ru R P ops w0 oi (sp S σ i a) a Γ →
    (∀ v,(sp S σ i a).ok v→anyF R P ops S σ w0 E fuel (listed.setIfInBounds i true) (a.put oi.dst v) (upd Γ i ((sp S σ i a).holds v)))→anyF R P ops S σ w0 E (fuel + 1) listed a Γ:=by
 have Ak:∀ a,∃ v,(sp S σ i a).ok v:=fun a=>by
  cases hs:sp S σ i a with
  | inl u=>exact ⟨u,rfl⟩
  | inr V=>exact ⟨undef,trivial⟩
 intro fuel
 induction fuel with
 | zero=>
   intro listed a Γ _ hr hy H
   obtain ⟨v0,Ah⟩:=Ak a
   refine ⟨fun h=>(by rw [h] at hr;cases hr),fun j hj => ?_⟩
   by_cases hji:j=i
   ·subst hji
    unfold fOp;simp only [hi];exact ⟨hy,H⟩
   ·have:=ready_mono hj hji
    rw [(H v0 Ah).1] at this
    cases this
 | succ fuel ih=>
   intro listed a Γ Aa hr hy H
   obtain ⟨v0,Ah⟩:=Ak a
   refine ⟨fun h=>(by rw [h] at hr;cases hr),fun j hj => ?_⟩
   by_cases hji:j=i
   ·subst hji
    unfold fOp;simp only [hi];exact ⟨hy,H⟩
   ·obtain ⟨Ac,oj,Ag,Ai⟩:=mem_ready.1 hj
    have Aj:=(mem_ready.1 hr).1
    have Al:∀ k,listed.getD k true=false→listed.getD k false=true→False:=fun k h1 h0=>by
     rcases Nat.lt_or_ge k listed.size with h' | h'
     ·simp [h'] at h0 h1;rw [h0] at h1;cases h1
     ·simp [Array.getElem?_eq_none h'] at h1
    have Ae:∀ e ∈ oj.after,Region.binds .any e=true→e.on≠i:=fun e he hb heq=>Al i Aj (by rw [← heq];exact Ai e he hb)
    have Ad:∀ e ∈ oi.after,Region.binds .any e=true→e.on≠j:=fun e he hb heq=>by
     obtain ⟨_,o',Am,Af⟩:=mem_ready.1 hr
     rw [hi] at Am;cases Am
     exact Al j Ac (by rw [← heq];exact Af e he hb)
    have An:=Aa j oj Ag hji Ac Ae
    obtain ⟨h1,h2,h3⟩:=Oper.apart_spec An
    have Ab:∀ k ok,ops[k]? = some ok→k≠i→(listed.setIfInBounds j true).getD k true=false →
      (∀ e ∈ ok.after,Region.binds .any e=true→e.on≠i)→oi.apart ops ok=true:=fun k ok hk hki hun hno=>by
     refine Aa k ok hk hki ?_ hno
     by_cases hjk:j=k
     ·subst hjk;exact Ac
     ·rw [getD_set_ne true hjk] at hun;exact hun
    have ej:∀ v,sp S σ j (a.put oi.dst v)=sp S σ j a:=fun v=>sp_put hSp Ag a oi.dst v h1
    have ei:∀ u,sp S σ i (a.put oj.dst u)=sp S σ i a:=fun u=>sp_put hSp hi a oj.dst u h3
    have Hj:∀ v,(sp S σ i a).ok v→Ru R P ops w0 oj (sp S σ j a) (a.put oi.dst v) (upd Γ i ((sp S σ i a).holds v))∧∀ u,(sp S σ j a).ok u →
      anyF R P ops S σ w0 E fuel ((listed.setIfInBounds i true).setIfInBounds j true) ((a.put oi.dst v).put oj.dst u) (upd (upd Γ i ((sp S σ i a).holds v)) j ((sp S σ j a).holds u)):=fun v hv=>by
     have:=(H v hv).2 j (ready_mono hj hji)
     unfold fOp at this
     simpa only [Ag,ej v] using this
    unfold fOp
    simp only [Ag]
    refine ⟨(Hj v0 Ah).1.of_same (execOp_put oj (fun cs b=>hsel j oj cs b Ag) a oi.dst v0 h1).symm (wanted_put oj a oi.dst v0 h1).symm (fun k hk => ?_),fun u hu => ?_⟩
    ·exact (upd_ne (nd2 Ae hk)).symm
    ·refine ih (listed.setIfInBounds j true) _ _ Ab (ready_mono hr (Ne.symm hji)) ?_ (fun v hv => ?_)
     ·rw [ei u]
      exact hy.of_same (execOp_put oi (fun cs b=>hsel i oi cs b hi) a oj.dst u h3) (wanted_put oi a oj.dst u h3) (fun k hk=>upd_ne (nd2 Ad hk))
     ·rw [ei u] at hv ⊢
      have:=(Hj v hv).2 u hu
      rw [Array.setIfInBounds_comm _ _ hji,← Act.put_comm a v u h2,← uc2 hji]
      exact this
def Tree (R:Rel) (P:Program) (ops:Array Oper) (S:Nat→Value→Spec) (σ:Nat→Nat) (w0:World) (E:Act→(Nat→World→Prop)→Prop):List Oper→Nat→Act→(Nat→World→Prop)→Prop
 | [],_,a,Γ=>E a Γ
 | o :: rest,i,a,Γ=>Ru R P ops w0 o (sp S σ i a) a Γ∧∀ v,(sp S σ i a).ok v→Tree R P ops S σ w0 E rest (i + 1) (a.put o.dst v) (upd Γ i ((sp S σ i a).holds v))
theorem aFl2 {S:Nat→Value→Spec} {σ:Nat→Nat} {w0:World} {E:Act→(Nat→World→Prop)→Prop} (hSp:SpOk ops S σ) (hs:Region.noSelect ops=true):∀ (l:List Oper) (k:Nat) (listed:Array Bool) (a:Act) (Γ:Nat→World→Prop),(∀ j,l[j]? = ops[k + j]?) →
  Region.lexFrom .any ops l.length k listed=true→Tree R P ops S σ w0 E l k a Γ→anyF R P ops S σ w0 E l.length listed a Γ
 | [],_,_,_,_,_,hB,h=>⟨by simpa [Region.lexFrom] using hB,h⟩
 | o :: l,k,listed,a,Γ,hl,hB,h=>by
   have h0:ops[k]? = some o:=by simpa using (hl 0).symm
   simp only [List.length_cons,Region.lexFrom,Bool.and_eq_true] at hB
   obtain ⟨⟨hr,hf⟩,Aa⟩:=hB
   exact aFf2 hSp h0 (Region.noSelect_spec hs) l.length listed a Γ (Region.free_spec h0 hf) (by simpa using hr) h.1
    (fun v hv=>aFl2 hSp hs l (k + 1) _ _ _ (fun j=>by have:=hl (j + 1);simpa [Nat.add_assoc,Nat.add_comm 1 j] using this) Aa (h.2 v hv))
theorem wrf2 {id:Nat} {Q:Exit→Act→World→Prop} {a:Act} {w:World} {l:List Oper} (S:Nat→Value→Spec) (σ:Nat→Nat) (hSp:SpOk l.toArray S σ) (hm:P.follows .mixedOrders=true) (hB:Region.lexB .any l.toArray=true) (hS:∀ i x,Spec.mono R (S i x))
  (h:Tree R P l.toArray S σ w (fun a' Γ => ∀ w',R.r w w'→(∀ j,Γ j w')→Q .normal a' w') l 0 a (fun _ _=>True)):(Code.region id l.toArray true).wp P Q a w:=by
 simp only [Region.lexB,Bool.and_eq_true] at hB
 refine wp_region_any hm (wAo2 (S:=S) (σ:=σ) (w0:=w) (E:=fun a' Γ => ∀ w',R.r w w'→(∀ j,Γ j w')→Q .normal a' w') (Γ:=fun _ _=>True) hS (fun a' Γ w' hE hb hG=>hE w' hb hG) _ _ _ _ ?_ (R.drew _) (fun _=>trivial) (fun _ _ _ _ _=>trivial))
 have:=aFl2 hSp hB.1 l 0 (Array.replicate l.toArray.size false) a (fun _ _=>True) (by simp) (by simpa using hB.2) h
 simpa using this
theorem tn2 {S:Nat→Value→Spec} {σ:Nat→Nat} {w0:World} {E:Act→(Nat→World→Prop)→Prop} {i:Nat} {a:Act} {Γ:Nat→World→Prop} (h:E a Γ):Tree R P ops S σ w0 E [] i a Γ:=h
theorem tree_val {S:Nat→Value→Spec} {σ:Nat→Nat} {w0:World} {E:Act→(Nat→World→Prop)→Prop} {o:Oper} {rest:List Oper} {i:Nat} {a:Act} {Γ:Nat→World→Prop} (u:Value) (hs:sp S σ i a = .inl u)
  (hr:∀ w,R.r w0 w→(∀ j,dep o j=true→Γ j w)→Runs R P ops o (.inl u) a w) (h:Tree R P ops S σ w0 E rest (i + 1) (a.put o.dst u) (upd Γ i (fun _=>True))):Tree R P ops S σ w0 E (o :: rest) i a Γ:=by
 refine ⟨by rw [hs];exact hr,fun v hv => ?_⟩
 rw [hs] at hv ⊢
 cases hv
 have:(fun w=>Spec.holds (.inl u) u w)=fun _=>True:=by funext w;simp [Spec.holds]
 rw [show Spec.holds (.inl u) u=fun _=>True from this]
 exact h
theorem tree_var {S:Nat→Value→Spec} {σ:Nat→Nat} {w0:World} {E:Act→(Nat→World→Prop)→Prop} {o:Oper} {rest:List Oper} {i:Nat} {a:Act} {Γ:Nat→World→Prop} (V:Value→World→Prop) (hs:sp S σ i a = .inr V)
  (hr:∀ w,R.r w0 w→(∀ j,dep o j=true→Γ j w)→Runs R P ops o (.inr V) a w) (h:∀ v,Tree R P ops S σ w0 E rest (i + 1) (a.put o.dst v) (upd Γ i (V v))):Tree R P ops S σ w0 E (o :: rest) i a Γ:=by
 refine ⟨by rw [hs];exact hr,fun v _ => ?_⟩
 rw [hs]
 exact h v
@[go_sem] theorem rel_rf (R:Rel) (w:World):R.r w w=True:=eq_true (R.rf w)
def sp3 (n:Nat) (f:Value→Spec) (l:List Spec):Nat→Value→Spec:=fun i x=>if i=n then f x else l.getD i (.inl undef)
theorem sm2 {n:Nat} {f:Value→Spec} {l:List Spec} (hf:∀ x,Spec.mono R (f x)) (h:∀ s ∈ l,Spec.mono R s):∀ i x,Spec.mono R (sp3 n f l i x):=fun i x=>by
 unfold sp3
 split
 ·exact hf x
 ·rcases Nat.lt_or_ge i l.length with h' | h'
  ·rw [List.getD_eq_getElem?_getD,List.getElem?_eq_getElem h'];exact h _ (List.getElem_mem h')
  ·rw [List.getD_eq_getElem?_getD,List.getElem?_eq_none h'];exact mi _
theorem so6 {n s:Nat} {f:Value→Spec} {l:List Spec} (h:(match ops[n]? with | some o=>(o.looksAt ops).contains s | none=>true)=true):SpOk ops (sp3 n f l) (fun _=>s):=fun i oi hi=>by
 by_cases e:i=n
 ·subst e
  rw [hi] at h
  exact .inl (by simpa using h)
 ·exact .inr fun x y=>by unfold sp3;rw [if_neg e,if_neg e]
theorem runs_ok {o:Oper} {a:Act} {w w':World} {s:Spec} {u:Value} (hw:Region.wanted o (yielded ops a.tmps)=true) (h:(execOp a.eval o).run P w = .ok (.value u) w') (hb:R.r w w') (hv:s.holds u w'):Runs R P ops o s a w:=by
 unfold Runs yields
 rw [if_pos hw,h]
 exact ⟨hb,hv⟩
theorem tvK {S:Nat→Value→Spec} {σ:Nat→Nat} {w0:World} {E:Act→(Nat→World→Prop)→Prop} {o:Oper} {rest:List Oper} {i:Nat} {a:Act} {Γ:Nat→World→Prop} {u:Value} (hs:sp S σ i a = .inl u)
  (h:∀ K:Act→Prop,(∀ a',Tree R P ops S σ w0 E rest (i + 1) a' (upd Γ i (fun _=>True))→K a')→(∀ w,R.r w0 w→(∀ j,dep o j=true→Γ j w)→Runs R P ops o (.inl u) a w)∧K (a.put o.dst u)):Tree R P ops S σ w0 E (o :: rest) i a Γ:=
 tree_val u hs (h (fun _=>True) (fun _ _=>trivial)).1 (h _ (fun _ h=>h)).2
theorem tvK2 {S:Nat→Value→Spec} {σ:Nat→Nat} {w0:World} {E:Act→(Nat→World→Prop)→Prop} {o:Oper} {rest:List Oper} {i:Nat} {a:Act} {Γ:Nat→World→Prop} {V:Value→World→Prop} (hs:sp S σ i a = .inr V)
  (h:∀ K:Act→(World→Prop)→Prop,(∀ a' v,Tree R P ops S σ w0 E rest (i + 1) a' (upd Γ i (V v))→K a' (V v))→(∀ w,R.r w0 w→(∀ j,dep o j=true→Γ j w)→Runs R P ops o (.inr V) a w)∧∀ v,K (a.put o.dst v) (V v)):Tree R P ops S σ w0 E (o :: rest) i a Γ:=by
 refine tree_var V hs (h (fun _ _=>True) (fun _ _ _=>trivial)).1 fun v => ?_
 have:=(h (fun a' p=>Tree R P ops S σ w0 E rest (i + 1) a' (upd Γ i p)) (fun _ _ h=>h)).2 v
 exact this
@[go_sem] theorem holds_inl (u v:Value) (w:World):Spec.holds (.inl u) v w=(v=u):=rfl
theorem ln2:∀ s ∈ ([]:List Spec),Spec.mono R s:=fun _ h=>by cases h
theorem li2 {u:Value} {l:List Spec} (h:∀ s ∈ l,Spec.mono R s):∀ s ∈ (.inl u :: l:List Spec),Spec.mono R s:=fun s hs=>by
 rcases List.mem_cons.1 hs with rfl | hs
 ·exact mi u
 ·exact h s hs
theorem li3 {V:Value→World→Prop} {l:List Spec} (hV:Spec.mono R (.inr V)) (h:∀ s ∈ l,Spec.mono R s):∀ s ∈ (.inr V :: l:List Spec),Spec.mono R s:=fun s hs=>by
 rcases List.mem_cons.1 hs with rfl | hs
 ·exact hV
 ·exact h s hs
end
end Go.FlowR
namespace Go.FlowR
open Go Go.RowKit
def once (B:Nat) (t:TypeId) (Z Y:Array Value):Rel where
 r w w':=w'.os=w.os∧w'.tape=w.tape∧w'.output=w.output∧w.heap.size≤w'.heap.size∧(∀ k,k < B→w'.heap[k]? = w.heap[k]?) ∧
   ∀ k,k < w.heap.size→w'.heap[k]? = w.heap[k]? ∨ (w.heap[k]? = some (.cells Z t (0,0))∧w'.heap[k]? = some (.cells Y t (0,0)))
 rf w:=⟨rfl,rfl,rfl,Nat.le_refl _,fun _ _=>rfl,fun _ _ => .inl rfl⟩
 tr:=by
  rintro a b c ⟨h1,h2,h3,h4,h5,h6⟩ ⟨k1,k2,k3,k4,k5,k6⟩
  refine ⟨k1.trans h1,k2.trans h2,k3.trans h3,Nat.le_trans h4 k4,fun k hk=>(k5 k hk).trans (h5 k hk),fun k hk => ?_⟩
  rcases h6 k hk with e1 | ⟨e1,e1'⟩ <;> rcases k6 k (Nat.lt_of_lt_of_le hk h4) with e2 | ⟨e2,e2'⟩
  ·exact .inl (e2.trans e1)
  ·exact .inr ⟨e1 ▸ e2,e2'⟩
  ·exact .inr ⟨e1,e2.trans e1'⟩
  ·exact .inr ⟨e1,e2'⟩
 drew w:=⟨rfl,rfl,rfl,Nat.le_refl _,fun _ _=>rfl,fun _ _ => .inl rfl⟩
section
variable {B:Nat} {t:TypeId} {Z Y:Array Value} {w w':World}
theorem ob5 (h:(once B t Z Y).r w w'):Below B w w':=⟨h.1,h.2.1,h.2.2.1,h.2.2.2.1,h.2.2.2.2.1⟩
theorem once_of (h:Below w.heap.size w w') (hB:B≤w.heap.size):(once B t Z Y).r w w':=⟨h.os,h.tape,h.output,h.size,fun k hk=>h.block k (by omega),fun k hk => .inl (h.block k hk)⟩
def One (B:Nat) (t:TypeId) (Z Y:Array Value) (v:Value) (w:World):Prop:=∃ g,v = .pointer (some ⟨g,0,none⟩)∧B≤g∧(w.heap[g]? = some (.cells Z t (0,0))∨w.heap[g]? = some (.cells Y t (0,0)))
def Done (B:Nat) (t:TypeId) (Y:Array Value) (x:Value) (_:Value) (w:World):Prop:=∃ g,x = .pointer (some ⟨g,0,none⟩)∧B≤g∧w.heap[g]? = some (.cells Y t (0,0))
theorem one_mono:Spec.mono (once B t Z Y) (.inr (One B t Z Y)):=by
 rintro v a b ⟨g,h1,h2,h3⟩ hr
 refine ⟨g,h1,h2,?_⟩
 have Aa:g < a.heap.size:=by rcases h3 with h | h <;> exact (Array.getElem?_eq_some_iff.1 h).1
 rcases hr.2.2.2.2.2 g Aa with e | ⟨_,e⟩
 ·rcases h3 with h | h
  ·exact .inl (e.trans h)
  ·exact .inr (e.trans h)
 ·exact .inr e
theorem done_mono (x:Value):Spec.mono (once B t Z Y) (.inr (Done B t Y x)):=by
 rintro v a b ⟨g,h1,h2,h3⟩ hr
 refine ⟨g,h1,h2,?_⟩
 rcases hr.2.2.2.2.2 g (Array.getElem?_eq_some_iff.1 h3).1 with e | ⟨_,e⟩
 ·exact e.trans h3
 ·exact e
end
end Go.FlowR
namespace Go.Proofs.YtaddkkkchkdgkaaGreatDoor
open Go.RowKit Go.Sort
open Tess (Fil)
def isForms (v:Value) (w:World):Prop:=∃ b,v = .map (some b)∧FA3 w b
theorem FA3.below {w w':World} {b:Nat} (h:FA3 w b) (hb:Below w.heap.size w w'):FA3 w' b:=World.ownsMap.kept h (Below.gN2 hb) (by simp)
theorem iFR {B:Nat} {t:TypeId} {Z Y:Array Value}:FlowR.Spec.mono (FlowR.once B t Z Y) (.inr isForms):=by
 rintro v a b ⟨g,h1,es,Aa,hb,hf⟩ hr
 refine ⟨g,h1,es,Aa,?_,hf⟩
 rcases hr.2.2.2.2.2 g (Array.getElem?_eq_some_iff.1 hb).1 with e | ⟨e,_⟩
 ·exact e.trans hb
 ·rw [hb] at e;cases e
theorem once_set6 {B:Nat} {t:TypeId} {Z:Array Value} {w:World} {g:Nat} {x0 x1 x2 x3 x4 x5 y0 y1 y2 y3 y4 y5:Value} (v:Value) (h:w.heap[g]? = some (.cells #[x0,x1,x2,x3,x4,x5] t (0,0))) (hx : #[x0,x1,x2,x3,x4,x5]=Z∨#[x0,x1,x2,x3,x4,x5]=#[y0,y1,y2,y3,y4,y5]) (hB:B≤g) :
  (FlowR.once B t Z #[y0,y1,y2,y3,y4,y5]).r w ((((((w.setCell ⟨g,0,none⟩ y0).setCell ⟨g,1,none⟩ y1).setCell ⟨g,2,none⟩ y2).setCell ⟨g,3,none⟩ y3).setCell ⟨g,4,none⟩ y4).setCell ⟨g,5,none⟩ y5) ∧
   FlowR.Done B t #[y0,y1,y2,y3,y4,y5] (.pointer (some ⟨g,0,none⟩)) v ((((((w.setCell ⟨g,0,none⟩ y0).setCell ⟨g,1,none⟩ y1).setCell ⟨g,2,none⟩ y2).setCell ⟨g,3,none⟩ y3).setCell ⟨g,4,none⟩ y4).setCell ⟨g,5,none⟩ y5):=by
 have hb:=sb2 y0 y1 y2 y3 y4 y5 (Below.refl B w) hB
 have hs:=set6 y0 y1 y2 y3 y4 y5 h
 have ho:∀ k,k≠g→_:=fun k e=>so4 (W:=w) (g:=g) (k:=k) y0 y1 y2 y3 y4 y5 e
 generalize ((((((w.setCell ⟨g,0,none⟩ y0).setCell ⟨g,1,none⟩ y1).setCell ⟨g,2,none⟩ y2).setCell ⟨g,3,none⟩ y3).setCell ⟨g,4,none⟩ y4).setCell ⟨g,5,none⟩ y5)=W at *
 refine ⟨⟨hb.os,hb.tape,hb.output,hb.size,hb.block,fun k hk => ?_⟩,g,rfl,hB,hs⟩
 by_cases e:k=g
 ·subst e
  rcases hx with hx | hx
  ·exact .inr ⟨hx ▸ h,hs⟩
  ·exact .inl (hs.trans (hx ▸ h).symm)
 ·exact .inl (ho k e)
theorem rc5 {w w':World} {g b:Nat} {x0 x1 x2 x3 x4 x5 y0 y1 y2 y3 y4 y5:Value} {t u:TypeId} (hB:Below w.heap.size w w') (hg:w.heap[g]? = some (.cells #[x0,x1,x2,x3,x4,x5] t (0,0))) (hb:w.heap[b]? = some (.cells #[y0,y1,y2,y3,y4,y5] u (0,0))) :
  w'.cell? ⟨g,0,none⟩=some x0∧w'.cell? ⟨g,1,none⟩=some x1∧w'.cell? ⟨g,2,none⟩=some x2∧w'.cell? ⟨g,3,none⟩=some x3∧w'.cell? ⟨g,4,none⟩=some x4∧w'.cell? ⟨g,5,none⟩=some x5 ∧
   w'.cell? ⟨b,1,none⟩=some y1∧w'.cell? ⟨b,2,none⟩=some y2∧w'.cell? ⟨b,3,none⟩=some y3∧w'.cell? ⟨b,4,none⟩=some y4∧w'.cell? ⟨b,5,none⟩=some y5:=by
 have Aa:=(hB.block _ (Array.getElem?_eq_some_iff.1 hg).1).trans hg
 have Ab:=(hB.block _ (Array.getElem?_eq_some_iff.1 hb).1).trans hb
 exact ⟨cell_of_row _ _ 0 _ _ _ Aa,cell_of_row _ _ 1 _ _ _ Aa,cell_of_row _ _ 2 _ _ _ Aa,cell_of_row _ _ 3 _ _ _ Aa,cell_of_row _ _ 4 _ _ _ Aa,cell_of_row _ _ 5 _ _ _ Aa,cell_of_row _ _ 1 _ _ _ Ab,cell_of_row _ _ 2 _ _ _ Ab,cell_of_row _ _ 3 _ _ _ Ab,cell_of_row _ _ 4 _ _ _ Ab,cell_of_row _ _ 5 _ _ _ Ab⟩
theorem forms_run (w:World):Calls Tryz.prog 207 #[] w fun e w' => ∃ v,e = .returned v∧Below w.heap.size w w'∧isForms v w':=
 (forms_any w).mono fun _ _ ⟨b,h1,h2,h3⟩=>⟨_,h1,h3,b,rfl,h2⟩
set_option maxRecDepth 100000 in
set_option maxHeartbeats 4000000 in
theorem isRight_any (p:Nat→Prop) (n:Nat) (vs v:Value) (s:Tess.Sch) (f:Fil) (w:World) (hs:SA p w vs s) (hv:FA2 p n w v f) (hk : -9223372036854775808≤f.kind∧f.kind≤9223372036854775807) :
  Calls Tryz.prog 176 #[vs,v] w fun e w'=>e = .returned (.bool (Fil.own s f))∧Below w.heap.size w w':=by
 have Ap:=Hd (fun W (hB:Below w.heap.size w W)=>dim_any vs s f.name p W (hs.ag (Ag.new p hB)))
 obtain ⟨vd,vm,rfl,hd,hm,_,_⟩:=hs
 obtain ⟨ad,As,rfl,_⟩:=sl3 hd
 obtain ⟨am,Ar,rfl,_⟩:=sl3 hm
 cases n with
 | zero=>exact hv.elim
 | succ n=>
 obtain ⟨vw,a,A9,rfl,Bj,hw,_,Bl,_,_⟩:=hv
 have Bb:=Hd (fun W (hB:Below w.heap.size w W)=>contains_long vw f.words W (hw.1.below hB))
 obtain ⟨aw,Al,rfl,Bk⟩:=sl3 hw
 obtain ⟨x,hx⟩:∃ x,x=(Fil.form f.kind).getD zF:=⟨_,rfl⟩
 obtain ⟨ok,Av⟩:∃ ok,ok=(Fil.form f.kind).isSome:=⟨_,rfl⟩
 have Af:RowKit.Hid (∀ (W:World) (b:Nat),FA3 W b→(Instr.lookup 282 (.map (some b)) (.int .i64 f.kind) true).run Tryz.prog W = .ok (.tuple #[fV x,.bool ok]) W):=Hd (fun W b h=>by rw [hx,Av];exact h.look f.kind hk)
 have Ad:RowKit.Hid (Fil.own s f=(ok && ((Tess.dimW s f.name).2 == x.1) && ((Tess.dimW s f.name).2 || f.name.size == 0) && (x.2.1 || (decide (f.frm=0) && decide (f.to=0))) && Fil.inW f.words.length x.2.2.1 && Fil.inW f.l.length x.2.2.2 && !f.words.any Tess.iL)):=Hd (by
  rw [hx,Av]
  unfold Fil.own
  cases Fil.form f.kind with
  | none=>rfl
  | some y=>obtain ⟨y1,y2,y3,y4⟩:=y;simp only [Option.getD_some,Option.isSome_some,Bool.true_and];rfl)
 clear hd hm hw hx Av
 obtain ⟨hn,Az,⟨w0,w1⟩,l0,l1⟩:=x
 have HW:=Hd (fun w=>fa9 f.words.length w0 w1 w)
 have HL:=Hd (fun w=>fa9 f.l.length l0 l1 w)
 simp only [fV] at Af
 simp only at Ad
 generalize Fil.own s f=ow at *
 generalize Tess.dimW s f.name=dm at *
 obtain ⟨di,Bh⟩:=dm
 simp only at Ap Ad
 go_enter Tryz.func176,Tryz.ntmps176
 go_wp2
 obtain ⟨W0,Ax⟩:∃ W0,(w.alloc (.cells #[.slice ad s.dims.length As,.slice am s.mets.length Ar,.int .i64 s.grain] 24)).alloc (.cells #[.int .i64 f.kind,.string f.name,.slice aw f.words.length Al,.int .i64 f.frm,.int .i64 f.to,.slice a f.l.length A9] 31)=W0:=⟨_,rfl⟩
 obtain ⟨Ah,Aj,A4,A7⟩:W0.heap[w.heap.size]? = some (.cells #[.slice ad s.dims.length As,.slice am s.mets.length Ar,.int .i64 s.grain] 24 (0,0))∧W0.heap[w.heap.size + 1]? = some (.cells #[.int .i64 f.kind,.string f.name,.slice aw f.words.length Al,.int .i64 f.frm,.int .i64 f.to,.slice a f.l.length A9] 31 (0,0))∧W0.heap.size=w.heap.size + 2∧Below w.heap.size w W0:=by rw [← Ax];exact la3 w _ _
 rw [Ax]
 clear Ax
 have s1:w.heap.size + 1 < W0.heap.size:=by omega
 have c0:=cell_of_row W0 (w.heap.size + 1) 0 _ _ _ Aj
 simp only [List.getElem?_toArray,List.getElem?_cons_zero] at c0
 have At:=Hd A4
 have A8:=Hd A7
 have A5:=Hd Ah
 have Ba:=Hd Aj
 clear A4 A7 Ah Aj
 obtain ⟨Z,hZ⟩:∃ Z:Array Value,Z=#[.bool false,.bool false,.int .i64 0,.int .i64 0,.int .i64 0,.int .i64 0]:=⟨_,rfl⟩
 obtain ⟨Y,hY⟩:∃ Y:Array Value,Y=#[.bool hn,.bool Az,.int .i64 (w0:Nat),.int .i64 (w1:Nat),.int .i64 (l0:Nat),.int .i64 (l1:Nat)]:=⟨_,rfl⟩
 have HZ:=Hd hZ
 have HY:=Hd hY
 clear hZ hY
 refine FlowR.wrf2 (R:=FlowR.once (w.heap.size + 2) 280 Z Y) (FlowR.sp3 8 (fun x => .inr (FlowR.Done (w.heap.size + 2) 280 Y x)) [.inr isForms,.inl ?_,.inl ?_,.inl ?_,.inl ?_,.inl ?_,.inl ?_,.inr (FlowR.One (w.heap.size + 2) 280 Z Y),.inl undef,.inl ?_]) (fun _=>5) (FlowR.so6 (by kernel_rfl)) (by kernel_rfl) (by kernel_rfl) ?_ ?_
 rotate_left 7
 ·refine FlowR.sm2 (fun x=>FlowR.done_mono x) ?_
  repeat (first | exact FlowR.ln2 | refine FlowR.li2 ?_ | refine FlowR.li3 iFR ?_ | refine FlowR.li3 FlowR.one_mono ?_)
 (refine FlowR.tvK2 rfl (fun K hK=>⟨fun w hw hG => ?_,?_⟩);(have Ak:=hw.2.2.2.1;rw [At.out] at Ak;clear hG hw;unfold FlowR.Runs FlowR.yields;go_simp;exact (forms_run w).mono fun e w' ⟨v,h1,h2,h3⟩=>⟨v,h1,FlowR.once_of h2 Ak,h3⟩);intro vb;go_simp;refine hK _ _ ?_;clear hK K)
 iterate 2 (refine FlowR.tvK rfl (fun K hK=>⟨fun w hw hG => ?_,?_⟩);(have Bi:=Flow.bc4 (At.out ▸ FlowR.ob5 hw);clear hG hw;unfold FlowR.Runs FlowR.yields;go_simp;try rfl);go_simp;refine hK _ ?_;clear hK K)
 (refine FlowR.tvK rfl (fun K hK=>⟨fun w hw hG => ?_,?_⟩);(obtain ⟨b3,rfl,Bd⟩:=(show isForms vb w by simpa [FlowR.upd] using hG 0 (by kernel_rfl));have Bm:=Af.out w b3 Bd;clear hG hw;unfold FlowR.Runs FlowR.yields;go_simp;try rfl);go_simp;refine hK _ ?_;clear hK K)
 iterate 3 (refine FlowR.tvK rfl (fun K hK=>⟨fun w hw hG => ?_,?_⟩);(clear hG hw;unfold FlowR.Runs FlowR.yields;go_simp;try rfl);go_simp;refine hK _ ?_;clear hK K)
 (refine FlowR.tvK2 rfl (fun K hK=>⟨fun w hw hG => ?_,?_⟩);(have Ak:=hw.2.2.2.1;rw [At.out] at Ak;clear hG hw;unfold FlowR.Runs FlowR.yields;go_simp;exact ⟨FlowR.once_of ((Below.refl _ _).alloc (Nat.le_refl _) _) Ak,_,rfl,Ak,.inl (by rw [HZ.out];exact heap_alloc_new _ _)⟩);intro vz;go_simp;refine hK _ _ ?_;clear hK K)
 (refine FlowR.tvK2 rfl (fun K hK=>⟨fun w hw hG => ?_,?_⟩);(obtain ⟨g,rfl,A3,hg⟩:=(show FlowR.One _ _ Z Y vz w by simpa [FlowR.upd] using hG 7 (by kernel_rfl));obtain ⟨x0,x1,x2,x3,x4,x5,Ab,A6⟩:∃ x0 x1 x2 x3 x4 x5,w.heap[g]? = some (.cells #[x0,x1,x2,x3,x4,x5] 280 (0,0))∧(#[x0,x1,x2,x3,x4,x5]=Z∨#[x0,x1,x2,x3,x4,x5]=Y):=(by rcases hg with hg | hg;exact ⟨_,_,_,_,_,_,by rw [hg,HZ.out],.inl HZ.out.symm⟩;exact ⟨_,_,_,_,_,_,by rw [hg,HY.out],.inr HY.out.symm⟩);have Bf:=Hd A6;have z0:=frozen_of_row w g 0 _ _ Ab;have z1:=frozen_of_row w g 1 _ _ Ab;have z2:=frozen_of_row w g 2 _ _ Ab;have z3:=frozen_of_row w g 3 _ _ Ab;have z4:=frozen_of_row w g 4 _ _ Ab;have z5:=frozen_of_row w g 5 _ _ Ab;have e0:=cell_of_row w g 0 _ _ _ Ab;have e1:=cell_of_row w g 1 _ _ _ Ab;have e2:=cell_of_row w g 2 _ _ _ Ab;have e3:=cell_of_row w g 3 _ _ _ Ab;have e4:=cell_of_row w g 4 _ _ _ Ab;have e5:=cell_of_row w g 5 _ _ _ Ab;simp only [List.getElem?_toArray,List.getElem?_cons_succ,List.getElem?_cons_zero] at e0 e1 e2 e3 e4 e5;have Be:=Hd Ab;clear hG hw hg Ab A6;unfold FlowR.Runs FlowR.yields;go_simp;rw [HY.out];exact once_set6 undef Be.out (by rw [← HY.out];exact Bf.out) A3);intro vs;go_simp;refine hK _ _ ?_;clear hK K)
 (refine FlowR.tvK rfl (fun K hK=>⟨fun w hw hG => ?_,?_⟩);(clear hG hw;unfold FlowR.Runs FlowR.yields;go_simp;try rfl);go_simp;refine hK _ ?_;clear hK K)
 refine FlowR.tn2 fun w2 hw2 hG => ?_
 obtain ⟨g,rfl,A3,hg⟩:=(show FlowR.Done (w.heap.size + 2) 280 Y vz vs w2 by simpa [FlowR.upd] using hG 8)
 rw [HY.out] at hg
 have Aq:=FlowR.ob5 hw2
 rw [← At.out] at Aq
 have Ah:=(Aq.block _ (by omega)).trans A5.out
 have Aj:=(Aq.block _ (by omega)).trans Ba.out
 have Au:=Hd (A8.out.trans (Aq.mono (by omega)))
 have A2:=Hd hg
 have Bg:=Hd Ah
 have Ai:=Hd Aj
 have c0:=cell_of_row w2 w.heap.size 0 _ _ _ Ah
 have c1:=cell_of_row w2 w.heap.size 1 _ _ _ Ah
 have c2:=cell_of_row w2 w.heap.size 2 _ _ _ Ah
 have d1:=cell_of_row w2 (w.heap.size + 1) 1 _ _ _ Aj
 simp only [List.getElem?_toArray,List.getElem?_cons_succ,List.getElem?_cons_zero] at c0 c1 c2 d1
 clear hG hw2 hg Aq Ah Aj A5 Ba A8
 obtain ⟨b3,Bc⟩:∃ b3,f.name.toList.isEmpty=b3:=⟨_,rfl⟩
 have An:(f.name.size == 0)=b3:=by
  rw [← Bc,Tess.tl,Bool.eq_iff_iff,beq_iff_eq,List.isEmpty_iff,Array.toList_eq_nil_iff]
  exact ⟨fun h=>Array.eq_empty_of_size_eq_zero h,fun h=>by show f.name.data.size=0;rw [h];rfl⟩
 obtain ⟨b5,A0⟩:∃ b5,Fil.inW f.words.length (w0,w1)=b5:=⟨_,rfl⟩
 obtain ⟨b6,Ay⟩:∃ b6,Fil.inW f.l.length (l0,l1)=b6:=⟨_,rfl⟩
 obtain ⟨b7,Aw⟩:∃ b7,f.words.any Tess.iL=b7:=⟨_,rfl⟩
 rw [An,A0,Ay,Aw] at Ad
 rw [A0] at HW
 rw [Ay] at HL
 rw [Aw] at Bb
 clear An A0 Ay Aw
 refine ?q
 cases ok
 case' q.true=>
  cases Bh
  case' q.true.false=>
   cases hn
   case' q.true.false.false=>
    cases b3
    case' q.true.false.false.true=>
     cases Az
     case' q.true.false.false.true.false=>
      rcases Classical.em (f.frm=0) with Am | Am
      case' q.true.false.false.true.false.inl=>
       rcases Classical.em (f.to=0) with Ao | Ao
       case' q.true.false.false.true.false.inl.inl=>
        cases b5
        case' q.true.false.false.true.false.inl.inl.true=>
         cases b6
     case' q.true.false.false.true.true=>
      cases b5
      case' q.true.false.false.true.true.true=>
       cases b6
  case' q.true.true=>
   cases hn
   case' q.true.true.true=>
    cases Az
    case' q.true.true.true.false=>
     rcases Classical.em (f.frm=0) with Am | Am
     case' q.true.true.true.false.inl=>
      rcases Classical.em (f.to=0) with Ao | Ao
      case' q.true.true.true.false.inl.inl=>
       cases b5
       case' q.true.true.true.false.inl.inl.true=>
        cases b6
    case' q.true.true.true.true=>
     cases b5
     case' q.true.true.true.true.true=>
      cases b6
 all_goals
  go_wp2_with (first
   | (go_at_call 104;refine (Ap.out _ Au.out).mono ?_;rintro e3 w3 ⟨rfl,A1⟩;obtain ⟨g0,g1,g2,g3,g4,g5,f1,f2,f3,f4,f5⟩:=rc5 A1 A2.out Ai.out;have Aa:=Hd A1;clear A1)
   | (go_at_call 209;((with_reducible refine (HW.out _).mono ?_);rintro e4 w4 ⟨rfl,Ac⟩;obtain ⟨g0,g1,g2,g3,g4,g5,f1,f2,f3,f4,f5⟩:=rc5 (Bt Aa.out Ac) A2.out Ai.out;have Ae:=Hd (Bt Aa.out Ac);clear Ac Aa;have Aa:=Ae;clear Ae))
   | (go_at_call 209;((with_reducible refine (HL.out _).mono ?_);rintro e4 w4 ⟨rfl,Ac⟩;obtain ⟨g0,g1,g2,g3,g4,g5,f1,f2,f3,f4,f5⟩:=rc5 (Bt Aa.out Ac) A2.out Ai.out;have Ae:=Hd (Bt Aa.out Ac);clear Ac Aa;have Aa:=Ae;clear Ae))
   | (go_at_call 166;refine (Bb.out _ (Bt Au.out Aa.out)).mono ?_;rintro e4 w4 ⟨rfl,Ac⟩;have Ae:=Hd (Bt Aa.out Ac);clear Ac Aa;have Aa:=Ae;clear Ae))
  go_ret
  exact ⟨rb2 (by rw [Ad.out];first | (simp;done) | (simp [Am,Ao];done) | (simp [Ao];done) | (simp [Am];done)),Bt Au.out Aa.out⟩
end Go.Proofs.YtaddkkkchkdgkaaGreatDoor
namespace Go.Proofs.YtaddkkkchkdgkaaGreatDoor
open Go.RowKit Go.Sort
open Tess (Fil)
open Tess.Fil (sO3 gO2 sF3 sH)
set_option maxHeartbeats 1000000 in
theorem gRa (a b:Int) (w:World):Calls Tryz.prog 210 #[.agg #[.int .i64 a,.int .i64 b]] w fun e w'=>e = .returned (.bool (sO3 a b))∧Below w.heap.size w w':=by
 unfold sO3
 by_cases h1:0≤a
 ·have d1:decide (0≤a)=true:=decide_eq_true h1
  by_cases h2:a≤b
  ·have d2:decide (a≤b)=true:=decide_eq_true h2
   obtain ⟨r,hr⟩:∃ r,decide (b≤1000000000001)=r:=⟨_,rfl⟩
   rw [d1,d2,hr]
   go_enter Tryz.func210,Tryz.ntmps210
   go_wp2
   go_ret
   exact ⟨rfl,(Below.refl _ _).alloc (Nat.le_refl _) _⟩
  ·have d2:decide (a≤b)=false:=decide_eq_false h2
   rw [d1,d2,Bool.true_and,Bool.false_and]
   go_enter Tryz.func210,Tryz.ntmps210
   go_wp2
   go_ret
   exact ⟨rfl,(Below.refl _ _).alloc (Nat.le_refl _) _⟩
 ·have d1:decide (0≤a)=false:=decide_eq_false h1
  rw [d1,Bool.false_and,Bool.false_and]
  go_enter Tryz.func210,Tryz.ntmps210
  go_wp2
  go_ret
  exact ⟨rfl,(Below.refl _ _).alloc (Nat.le_refl _) _⟩
set_option maxRecDepth 100000 in
set_option maxHeartbeats 1000000 in
theorem aG (b:Nat) (g:Int) (w:World) (hc:w.cell? ⟨b,0,none⟩=some (.int .i64 g)) :
  Calls Tryz.prog 91 #[.slice (some ⟨b,0,none⟩) 1 1] w fun e w'=>e = .returned (.bool (gO2 g))∧w=w':=by
 unfold gO2
 by_cases h1:1≤g
 ·have d1:decide (1≤g)=true:=decide_eq_true h1
  have Ab:decide (g < 1)=false:=decide_eq_false (by omega)
  by_cases h2:g≤1000000000
  ·have d2:decide (g≤1000000000)=true:=decide_eq_true h2
   have Aa:decide (1000000000 < g)=false:=decide_eq_false (by omega)
   rw [d1,d2]
   go_enter Tryz.func91,Tryz.ntmps91
   go_wp2
   refine wp_loop_rounds 2 ?_
   rw [rounds_succ]
   go_wp2
   rw [rounds_succ]
   go_wp2
   go_ret
   exact ⟨rfl,rfl⟩
  ·have d2:decide (g≤1000000000)=false:=decide_eq_false h2
   have Aa:decide (1000000000 < g)=true:=decide_eq_true (by omega)
   rw [d1,d2]
   go_enter Tryz.func91,Tryz.ntmps91
   go_wp2
   refine wp_loop_rounds 2 ?_
   rw [rounds_succ]
   go_wp2
   go_ret
   exact ⟨rfl,rfl⟩
 ·have d1:decide (1≤g)=false:=decide_eq_false h1
  have Ab:decide (g < 1)=true:=decide_eq_true (by omega)
  rw [d1,Bool.false_and]
  go_enter Tryz.func91,Tryz.ntmps91
  go_wp2
  refine wp_loop_rounds 2 ?_
  rw [rounds_succ]
  go_wp2
  go_ret
  exact ⟨rfl,rfl⟩
set_option maxRecDepth 100000 in
set_option maxHeartbeats 1000000 in
theorem gHas_any (a b t:Int) (w:World):Calls Tryz.prog 187 #[.agg #[.int .i64 a,.int .i64 b],.int .i64 t] w fun e w'=>e = .returned (.bool (sH a b t))∧Below w.heap.size w w':=by
 have HR:=Hd (fun w=>gRa a b w)
 unfold sH
 cases hok:sO3 a b
 ·rw [hok] at HR
  rw [Bool.false_and,Bool.false_and]
  go_enter Tryz.func187,Tryz.ntmps187
  go_wp2_with (go_at_call 210;refine (HR.out _).mono ?_;rintro e w2 ⟨rfl,hB⟩;have HB:=Hd (((Below.refl _ _).alloc (Nat.le_refl _) _).trans (hB.mono (by simp)));clear hB)
  go_ret
  exact ⟨rfl,HB.out⟩
 ·rw [hok] at HR
  by_cases h1:a≤t
  ·have d1:decide (a≤t)=true:=decide_eq_true h1
   obtain ⟨r,hr⟩:∃ r,decide (t < b)=r:=⟨_,rfl⟩
   rw [d1,hr]
   go_enter Tryz.func187,Tryz.ntmps187
   go_wp2_with (go_at_call 210;refine (HR.out _).mono ?_;rintro e w2 ⟨rfl,hB⟩;have c0:=hB.cell (p:=⟨w.heap.size,0,none⟩) (by simp);have c1:=hB.cell (p:=⟨w.heap.size,1,none⟩) (by simp);simp at c0 c1;have HB:=Hd (((Below.refl _ _).alloc (Nat.le_refl _) _).trans (hB.mono (by simp)));clear hB)
   go_ret
   exact ⟨rfl,HB.out⟩
  ·have d1:decide (a≤t)=false:=decide_eq_false h1
   rw [d1,Bool.and_false,Bool.false_and]
   go_enter Tryz.func187,Tryz.ntmps187
   go_wp2_with (go_at_call 210;refine (HR.out _).mono ?_;rintro e w2 ⟨rfl,hB⟩;have c0:=hB.cell (p:=⟨w.heap.size,0,none⟩) (by simp);have c1:=hB.cell (p:=⟨w.heap.size,1,none⟩) (by simp);simp at c0 c1;have HB:=Hd (((Below.refl _ _).alloc (Nat.le_refl _) _).trans (hB.mono (by simp)));clear hB)
   go_ret
   exact ⟨rfl,HB.out⟩
end Go.Proofs.YtaddkkkchkdgkaaGreatDoor
namespace Go.Proofs.YtaddkkkchkdgkaaGreatDoor
open Go.RowKit Go.Sort
open Tess (Fil)
open Tess.Fil (sO3 gO2 sF3 sH)
set_option maxRecDepth 100000 in
set_option maxHeartbeats 2000000 in
theorem gFits_any (a b g:Int) (w:World):Calls Tryz.prog 177 #[.agg #[.int .i64 a,.int .i64 b],.int .i64 g] w fun e w'=>e = .returned (.bool (sF3 a b g))∧Below w.heap.size w w':=by
 have HR:=Hd (fun w=>gRa a b w)
 have HG:=Hd (fun (b:Nat) (w:World) h=>aG b g w h)
 have HF:RowKit.Hid (sF3 a b g=(sO3 a b && gO2 g && decide (a % g=0) && (decide (b=1000000000001) || decide (b % g=0)))):=Hd rfl
 cases hok:sO3 a b
 ·rw [hok] at HR HF
  rw [HF.out,Bool.false_and,Bool.false_and,Bool.false_and]
  clear HF
  go_enter Tryz.func177,Tryz.ntmps177
  go_wp2_with (go_at_call 210;refine (HR.out _).mono ?_;rintro e w2 ⟨rfl,hB⟩;have HB:=Hd (((Below.refl _ _).alloc (Nat.le_refl _) _).trans (hB.mono (by simp)));clear hB)
  go_ret
  exact ⟨rfl,HB.out⟩
 ·have Ab:0≤a∧a≤b∧b≤1000000000001:=by unfold sO3 at hok;simp at hok;omega
  obtain ⟨ha,Ab,hb⟩:=Ab
  rw [hok] at HR HF
  cases hg:gO2 g
  ·rw [hg] at HG HF
   rw [HF.out,Bool.true_and,Bool.false_and,Bool.false_and]
   clear HF
   go_enter Tryz.func177,Tryz.ntmps177
   go_wp2_with (first
    | (go_at_call 210;refine (HR.out _).mono ?_;rintro e w2 ⟨rfl,hB⟩;have HB:=Hd (((Below.refl _ _).alloc (Nat.le_refl _) _).trans (hB.mono (by simp)));clear hB)
    | (go_at_call 91;refine (HG.out _ _ (by simp)).mono ?_;rintro e w3 ⟨rfl,rfl⟩;have Aa:=Hd (HB.out.alloc HB.out.size (.cells #[.int .i64 g] 2))))
   go_ret
   exact ⟨rfl,Aa.out⟩
  ·have Ac:1≤g∧g≤1000000000:=by unfold gO2 at hg;simpa using hg
   obtain ⟨Ac,Ai⟩:=Ac
   rw [hg] at HG HF
   obtain ⟨r1,Ae⟩:∃ r,((a % g:Int) == 0)=r:=⟨_,rfl⟩
   obtain ⟨r2,Ag⟩:∃ r,((b:Int) == 1000000000001)=r:=⟨_,rfl⟩
   obtain ⟨r3,Af⟩:∃ r,((b % g:Int) == 0)=r:=⟨_,rfl⟩
   have e1:decide (a % g=0)=r1:=by rw [← Ae];rfl
   have e2:decide (b=1000000000001)=r2:=by rw [← Ag];rfl
   have e3:decide (b % g=0)=r3:=by rw [← Af];rfl
   rw [e1,e2,e3,Bool.true_and,Bool.true_and] at HF
   have Aj:0≤b:=by omega
   clear e1 e2 e3 hok hg
   rw [HF.out]
   clear HF
   cases r1 <;> cases r2
   all_goals
    go_enter Tryz.func177,Tryz.ntmps177
    go_wp2_with (first
     | (go_at_call 210;refine (HR.out _).mono ?_;rintro e w2 ⟨rfl,hB⟩;have c0:=hB.cell (p:=⟨w.heap.size,0,none⟩) (by simp);have c1:=hB.cell (p:=⟨w.heap.size,1,none⟩) (by simp);simp at c0 c1;have Ad:=hB.size;simp at Ad;have Ah:w.heap.size < w2.heap.size:=(by omega);have HB:=Hd (((Below.refl _ _).alloc (Nat.le_refl _) _).trans (hB.mono (by simp)));clear hB)
     | (go_at_call 91;refine (HG.out _ _ (by simp)).mono ?_;rintro e w3 ⟨rfl,rfl⟩;have Aa:=Hd (HB.out.alloc HB.out.size (.cells #[.int .i64 g] 2))))
    go_ret
    exact ⟨rfl,Aa.out⟩
end Go.Proofs.YtaddkkkchkdgkaaGreatDoor
namespace Go.Rf
open Go Go.RowKit
variable {P:Program} {n:Nat}
structure SB (l:Nat) (W W':World):Prop where
 os:W'.os=W.os
 tape:W'.tape=W.tape
 output:W'.output=W.output
 size:W'.heap.size=W.heap.size
 block:∀ k,k≠l→W'.heap[k]? = W.heap[k]?
theorem SB.put (W:World) (l:Nat) (o:Obj):SB l W (W.putObj l o):=⟨rfl,rfl,rfl,by simp,fun k hk=>World.putObj_heap_other hk⟩
theorem SB.below {l B:Nat} {W W':World} (h:SB l W W') (hl:B≤l):Below B W W':=⟨h.os,h.tape,h.output,Nat.le_of_eq h.size.symm,fun k hk=>h.block k (by omega)⟩
theorem SB.cell {l:Nat} {W W':World} (h:SB l W W') {a:Addr} (ha:a.block≠l):W'.cell? a=W.cell? a:=World.cell?_of_block (h.block _ ha)
theorem SB.frozen {l:Nat} {W W':World} (h:SB l W W') {a:Addr} (ha:a.block≠l):W'.frozen? a=W.frozen? a:=World.frozen?_of_block (h.block _ ha)
theorem SB.owns {l:Nat} {W W':World} (h:SB l W W') {base:Nat} {e:TypeId} {size:Nat} {v:Value} {m:Nat} {xs:List Value} {o:Obj} (ho:W.ownsRow base e size v m xs) (hl:W.heap[l]? = some o) (hc:o.isCells=false):W'.ownsRow base e size v m xs:=by
 obtain ⟨h1,h2⟩:=ho
 refine ⟨h1,?_⟩
 rcases h2 with h2 | ⟨g,Ab,Aa,hv,hb,hg,r⟩
 ·exact .inl h2
 ·refine .inr ⟨g,Ab,Aa,hv,hb,?_,r⟩
  rw [h.block g (fun e=>by subst e;rw [hl] at hg;cases hg;cases hc)];exact hg
theorem rw2 {g:Operand} {ps:Array Tmp} {assign body:Code} {Q:Exit→Act→World→Prop} {a:Act} {w:World} {gf:Nat} {lb:Array Value}
  (hg:a.eval g = .func (.func gf) #[] lb) (eg:∀ args w,(callFunc gf args).run P w = .ok (.enter gf args) w)
  (h:∀ (fn:Nat) (W1:World),W1.heap[w.heap.size + 1]? = some (.loop { state:=.ready,pending:=none,fn,tmps:=a.tmps,params:=ps,assign,body,defers:=w.heap.size })→W1.heap[w.heap.size]? = some (.deferred (some [])) →
    Below w.heap.size w W1→W1.heap.size=w.heap.size + 2 →
    CallsIn Fence.wide (n - 1) P gf (#[.func (.yield (w.heap.size + 1)) #[] #[]] ++ lb) W1 fun e W3=>(∃ v,e = .returned v)∧∃ r:Loop,W3.heap[w.heap.size + 1]? = some (.loop r)∧r.state ≠ .busy ∧
     ∀ W4,SB (w.heap.size + 1) W3 W4→match r.pending with
       | none=>Q .normal { a with defers:={ target:=.collected w.heap.size,args:=#[] } :: a.defers } W4
       | some c=>c.wpIn Fence.wide n P Q { a with defers:={ target:=.collected w.heap.size,args:=#[] } :: a.defers } W4) :
  (Code.rangeFunc g ps assign body).wpIn Fence.wide n P Q a w:=by
 refine wpIn_rangeFunc ?_
 intro fn _
 obtain ⟨W1,Aa⟩:∃ W1,(w.alloc (.deferred (some []))).alloc (.loop { state:=.ready,pending:=none,fn,tmps:=a.tmps,params:=ps,assign,body,defers:=w.heap.size })=W1:=⟨_,rfl⟩
 have Ac:W1.heap[w.heap.size + 1]? = some (.loop { state:=.ready,pending:=none,fn,tmps:=a.tmps,params:=ps,assign,body,defers:=w.heap.size }):=by
  rw [← Aa];have:=World.alloc_heap_new (w.alloc (.deferred (some []))) (.loop { state:=.ready,pending:=none,fn,tmps:=a.tmps,params:=ps,assign,body,defers:=w.heap.size });rwa [World.size_alloc] at this
 have Ae:W1.heap[w.heap.size]? = some (.deferred (some [])):=by
  rw [← Aa];exact (Below.heap_alloc _ _ _ (by simp)).trans (World.alloc_heap_new w _)
 have Ad:Below w.heap.size w W1:=by rw [← Aa];exact ((Below.refl _ w).alloc (Nat.le_refl _) _).alloc (by simp) _
 have Ab:W1.heap.size=w.heap.size + 2:=by rw [← Aa];simp
 have H:=h fn _ Ac Ae Ad Ab
 refine ⟨w.heap.size + 1,[{ target:=.collected w.heap.size,args:=#[] }],W1,{ target:=.fn (.func gf) lb,args:=#[.func (.yield (w.heap.size + 1)) #[] #[]] },W1,gf,
  #[.func (.yield (w.heap.size + 1)) #[] #[]] ++ lb,W1,?_,?_,?_,?_,(fun hd=>by cases hd),?_⟩
 ·rw [← Aa];exact run_enterLoop_outer _ _ _ _ _
 ·simp only [resolve,hg]
  simp [go_sem]
 ·intro f' _;trivial
 ·simp [invoke,go_sem,eg]
 ·refine H.mono ?_
  rintro e W3 ⟨⟨v,rfl⟩,r,hr,hb,hq⟩
  refine ⟨r.pending,_,run_endLoop hr hb,?_⟩
  have:=hq _ (SB.put W3 (w.heap.size + 1) (.loop { r with state:=.exhausted }))
  cases hp:r.pending with
  | none=>rw [hp] at this;exact this
  | some c=>rw [hp] at this;exact this
def roundQ (l:Nat) (r:Loop) (R:Ending→World→Prop):Exit→Act→World→Prop
 | .normal,_,W3=>W3.heap[l]? = some (.loop { r with state:=.busy })∧∀ W4,SB l W3 W4→W4.heap[l]? = some (.loop { r with state:=.ready,pending:=none })→R (.returned (.bool true)) W4
 | .ret,_,W3=>W3.heap[l]? = some (.loop { r with state:=.busy })∧∀ W4,SB l W3 W4→W4.heap[l]? = some (.loop { r with state:=.done,pending:=some .ret })→R (.returned (.bool false)) W4
 | .exit id,_,W3=>W3.heap[l]? = some (.loop { r with state:=.busy })∧∀ W4,SB l W3 W4→W4.heap[l]? = some (.loop { r with state:=.done,pending:=some (.exit id) })→R (.returned (.bool false)) W4
 | .goto t,_,W3=>W3.heap[l]? = some (.loop { r with state:=.busy })∧∀ W4,SB l W3 W4→W4.heap[l]? = some (.loop { r with state:=.done,pending:=some (.goto t) })→R (.returned (.bool false)) W4
 | .panic _,_,_=>False
 | .outgrown,_,_=>False
theorem rw3 {l:Nat} {f:FuncId} {tmps:Array Value} {assign body:Code} {W:World} {R:Ending→World→Prop} {r:Loop}
  (h:assign.wpIn (Fence.wide.inRound l) n P (Exit.then (fun a₁ W₁=>W₁.heap[l]? = some (.loop r)∧r.state = .ready∧∀ W₂,SB l W₁ W₂→W₂.heap[l]? = some (.loop { r with state:=.busy })→body.wpIn (Fence.wide.inRound l) n P (roundQ l r R) a₁ W₂) (fun _ _ _=>False))
    { tmps:=tmps,defers:=[] } W):RoundIn Fence.wide n P l f tmps assign body W R:=by
 refine roundIn_of_wpIn trivial (wpIn_mono h ?_)
 intro e a₁ W₁ hq
 cases e with
 | normal=>
   obtain ⟨hl,hr,hb⟩:=hq
   refine ⟨_,run_beginRound hl hr,?_⟩
   have Ab:l < W₁.heap.size:=(Array.getElem?_eq_some_iff.1 hl).1
   refine wpIn_mono (hb _ (SB.put _ _ _) (World.putObj_heap_same Ab)) ?_
   have Aa:∀ (jump:Option Code) (W3:World),W3.heap[l]? = some (.loop { r with state:=.busy })→∃ W4,(Instr.endRound l jump).run P W3 = .ok (.bool jump.isNone) W4∧SB l W3 W4 ∧
     W4.heap[l]? = some (.loop { r with state:=if jump.isNone then .ready else .done,pending:=jump }):=fun jump W3 h3=>
    ⟨_,run_endRound jump h3,SB.put _ _ _,World.putObj_heap_same (Array.getElem?_eq_some_iff.1 h3).1⟩
   intro e2 a3 W3 hp
   cases e2 with
   | normal=>obtain ⟨h3,hp⟩:=hp;obtain ⟨W4,e4,s4,l4⟩:=Aa none W3 h3;exact ⟨_,_,e4,hp W4 s4 l4⟩
   | ret=>obtain ⟨h3,hp⟩:=hp;obtain ⟨W4,e4,s4,l4⟩:=Aa (some .ret) W3 h3;exact ⟨_,_,e4,hp W4 s4 l4⟩
   | exit id=>obtain ⟨h3,hp⟩:=hp;obtain ⟨W4,e4,s4,l4⟩:=Aa (some (.exit id)) W3 h3;exact ⟨_,_,e4,hp W4 s4 l4⟩
   | goto t=>obtain ⟨h3,hp⟩:=hp;obtain ⟨W4,e4,s4,l4⟩:=Aa (some (.goto t)) W3 h3;exact ⟨_,_,e4,hp W4 s4 l4⟩
   | panic _=>exact hp.elim
   | outgrown=>exact hp.elim
 | ret=>exact hq.elim
 | exit id=>exact hq.elim
 | goto t=>exact hq.elim
 | panic _=>exact hq.elim
 | outgrown=>exact hq.elim
theorem sRs {b:Frame} {a:Act} {k:List Item} {cs:List Frame} {w:World} {c:Code}:step P (lone (b.atR a (.code (.scope c) :: k)) cs w) = .next (lone (b.atR a (.code c :: .inScope c :: k)) cs w):=
 step_lone_go (by simp [stepG,stepG.exec,Frame.atR])
theorem sRi {b:Frame} {a:Act} {k:List Item} {cs:List Frame} {w:World} {c:Code}:step P (lone (b.atR a (.inScope c :: k)) cs w) = .next (lone (b.atR a k) cs w):=
 step_lone_go (by simp [stepG,stepG.exec,Frame.atR])
theorem wIs {F:Fence} {c:Code} {Q:Exit→Act→World→Prop} {a:Act} {w:World} (h:c.wpIn F n P (Exit.noGoto Q) a w):(Code.scope c).wpIn F n P Q a w:=by
 intro b k cs Ab hb hr
 have h0:(lone (b.atR a (.code (.scope c) :: k)) cs w).fenced P F:=fenced_calm hb hr rfl
 obtain ⟨e,a₁,w₁,hq,Aa⟩:=h b (.inScope c :: k) cs Ab hb hr
 cases e with
 | normal=>exact ⟨.normal,a₁,w₁,hq,.head h0 sRs (StepsIn.trans Aa (.one (fenced_calm hb hr rfl) sRi))⟩
 | exit id=>
   have hx:exitTo id (.inScope c :: k)=exitTo id k:=by simp [exitTo]
   exact ⟨.exit id,a₁,w₁,hq,fun k' hk => .head h0 sRs (Aa.1 k' (by rw [hx];exact hk)),
    fun hr' hk=>let ⟨k₁,h1,h2⟩:=Aa.2 hr' (by rw [hx];exact hk);⟨k₁,h1,.head h0 sRs h2⟩⟩
 | goto l=>exact hq.elim
 | ret=>exact ⟨_,a₁,w₁,hq,.of_steps (.one h0 sRs) Aa⟩
 | panic ch=>exact ⟨_,a₁,w₁,hq,.of_steps (.one h0 sRs) Aa⟩
 | outgrown=>exact ⟨_,a₁,w₁,hq,.of_steps (.one h0 sRs) Aa⟩
end Go.Rf
