/- Joined. -/
import Derived.Test.YtjdccifdkjnknaaGreatDoorZC01
import Derived.OwnWalkIn
set_option maxRecDepth 100000
set_option maxHeartbeats 2000000
namespace Go.Flow
open Go Go.RowKit
abbrev Spec:=Value ⊕ (Value->World->Prop)
def Spec.holds:Spec->Value->World->Prop
 |.inl u,v,_=>v=u
 |.inr V,v,w=>V v w
def Spec.ok:Spec->Value->Prop
 |.inl u,v=>v=u
 |.inr _,_=>True
def Mono(p:World->Prop):Prop:=∀w w',p w->Below w.heap.size w w'->p w'
def Spec.mono(s:Spec):Prop:=∀v,Mono (s.holds v)
theorem mi(u:Value):Spec.mono (.inl u):=fun _ _ _ h _=>h
section
variable {P:Program} {ops:Array Oper}
def yields(P:Program)(o:Oper)(ρ:Operand->Value)(w:World)(R:Value->World->Prop):Prop:=
 match (execOp ρ o).run P w with
 |.ok (.value v) w'=>R v w'
 |.ok .skip w'=>R undef w'
 |.ok (.enter f args) w'=>Calls P f args w' fun e w''=>∃v,e = .returned v/\R v w''
 |_=>False
theorem ym{o:Oper}{ρ:Operand->Value}{w:World}{R R':Value->World->Prop}(h:∀v w,R v w->R' v w)(hy:yields P o ρ w R):yields P o ρ w R':=by
 unfold yields at *;generalize (execOp ρ o).run P w=r at *;cases r with
 |ok n w'=>
   cases n<;>first
    |exact h _ _ hy
    |exact Calls.mono hy (fun e w'' ⟨v,he,hr⟩=>⟨v,he,h _ _ hr⟩)
    |exact hy
 |halt x w'=>exact hy
theorem woy{o:Oper}{a:Act}{w:World}{K:Act->World->Prop}{Q:Exit->Act->World->Prop}(hy:yields P o a.eval w fun v w'=>K (a.put o.dst v) w'):o.wp P a w K Q:=by
 unfold yields at hy;unfold Oper.wp;generalize (execOp a.eval o).run P w=r at *;cases r with
 |ok n w'=>
   cases n<;>simp only[Oper.upon]<;>first
    |exact hy
    |exact(show False from hy).elim
    |exact Calls.mono hy (fun e w'' ⟨v,he,hr⟩=>by subst he;exact hr)
 |halt x w'=>exact hy.elim
def Runs(P:Program)(ops:Array Oper)(o:Oper)(s:Spec)(a:Act)(w:World):Prop:=
 if Region.wanted o (yielded ops a.tmps)then yields P o a.eval w (fun v w'=>Below w.heap.size w w'/\s.holds v w')else s.holds undef w
def dep(o:Oper)(j:Nat):Bool:=o.after.any fun e=>Region.binds .any e&&e.on==j
def Ru(P:Program)(ops:Array Oper)(w0:World)(o:Oper)(s:Spec)(a:Act)(Γ:Nat->World->Prop):Prop:=
 ∀w,Below w0.heap.size w0 w->(∀j,dep o j=true->Γ j w)->Runs P ops o s a w
def upd(Γ:Nat->World->Prop)(i:Nat)(p:World->Prop):Nat->World->Prop:=fun j=>if j=i then p else Γ j
theorem upd_ne{Γ:Nat->World->Prop}{i j:Nat}{p:World->Prop}(h:j≠i):upd Γ i p j=Γ j:=by simp[upd,h]
theorem upd_same{Γ:Nat->World->Prop}{i:Nat}{p:World->Prop}:upd Γ i p i=p:=by simp[upd]
theorem uc2{Γ:Nat->World->Prop}{i j:Nat}{p q:World->Prop}(h:j≠i):upd (upd Γ i p) j q=upd (upd Γ j q) i p:=by
 funext k;unfold upd;by_cases h1:k=j
 ·subst h1;simp[h]
 ·simp[h1]
def fOp(P:Program)(ops:Array Oper)(S:Nat->Spec)(w0:World)(i:Nat)(K:Act->(Nat->World->Prop)->Prop)(a:Act)(Γ:Nat->World->Prop):Prop:=
 match ops[i]? with
 |none=>K a Γ
 |some o=>Ru P ops w0 o (S i) a Γ/\∀v,(S i).ok v->K (a.put o.dst v) (upd Γ i ((S i).holds v))
def anyF(P:Program)(ops:Array Oper)(S:Nat->Spec)(w0:World)(E:Act->(Nat->World->Prop)->Prop):Nat->Array Bool->Act->(Nat->World->Prop)->Prop
 |0,listed,a,Γ=>Region.ready .any ops listed=[]/\E a Γ
 |fuel+1,listed,a,Γ=>
   (Region.ready .any ops listed=[]->E a Γ) /\
   ∀i∈Region.ready .any ops listed,fOp P ops S w0 i (anyF P ops S w0 E fuel (listed.setIfInBounds i true)) a Γ
theorem wAo2{S:Nat->Spec}{w0:World}(hS:∀i,(S i).mono){E:Act->(Nat->World->Prop)->Prop}{Q:Exit->Act->World->Prop}
  (hE:∀a Γ w,E a Γ->Below w0.heap.size w0 w->(∀j,Γ j w)->Q .normal a w):∀(fuel:Nat) (listed:Array Bool) (a:Act) (Γ:Nat->World->Prop) (w:World),
  anyF P ops S w0 E fuel listed a Γ->Below w0.heap.size w0 w->(∀j,Γ j w)->(∀j,Mono (Γ j))->wpAny P .any ops Q fuel listed a w
 |0,_,_,_,_,h,hB,hG,_=>⟨h.1,hE _ _ _ h.2 hB hG⟩
 |fuel+1,listed,a,Γ,w,h,hB,hG,hM=>by
   refine⟨fun h0=>hE _ _ _ (h.1 h0) hB hG,fun i hi=>?_⟩;have h1:=h.2 i hi;unfold fOp at h1;unfold wpOp
   have hM':∀v j,Mono (upd Γ i ((S i).holds v) j):=fun v j=>by
    by_cases e:j=i
    ·subst e;rw[upd_same];exact hS j v
    ·rw[upd_ne e];exact hM j
   have hG':∀v w',Below w.heap.size w w'->(S i).holds v w'->∀j,upd Γ i ((S i).holds v) j w':=fun v w' hb hv j=>by
    by_cases e:j=i
    ·subst e;rw[upd_same];exact hv
    ·rw[upd_ne e];exact hM j _ _ (hG j) hb
   have hok:∀v w',(S i).holds v w'->(S i).ok v:=fun v w' hv=>by
    cases hs:S i with
    |inl u=>rw[hs]at hv;exact hv
    |inr V=>trivial
   split
   ·rename_i ho;simp only[ho]at h1;exact wAo2 hS hE fuel _ _ _ _ h1 hB hG hM
   ·rename_i o ho;simp only[ho]at h1;have h2:=h1.1 w hB (fun j _=>hG j);unfold Runs at h2;split
    ·rename_i hw;simp only[hw,if_true]at h2;refine .inl (woy (ym ?_ h2));intro v w' ⟨hb,hv⟩;exact wAo2 hS hE fuel _ _ _ _ (h1.2 v (hok v w' hv)) (hB.trans (hb.mono hB.size)) (hG' v w' hb hv) (hM' v)
    ·rename_i hw;simp only[hw]at h2;exact wAo2 hS hE fuel _ _ _ _ (h1.2 undef (hok _ _ h2)) hB (hG' _ _ (Below.refl _ _) h2) (hM' _)
theorem Ru.of_same{w0:World}{o:Oper}{s:Spec}{a a':Act}{Γ Γ':Nat->World->Prop}(h:Ru P ops w0 o s a Γ)(he:execOp a'.eval o=execOp a.eval o)
  (hw:Region.wanted o (yielded ops a'.tmps)=Region.wanted o (yielded ops a.tmps)) (hg:∀j,dep o j=true->Γ' j=Γ j):Ru P ops w0 o s a' Γ':=by
 intro w hB hG;have:=h w hB (fun j hj=>by rw[<-hg j hj];exact hG j hj);unfold Runs yields at *;rw[he,hw];exact this
theorem nd2{o:Oper}{i:Nat}(h:∀e∈o.after,Region.binds .any e=true->e.on≠i){j:Nat}(hj:dep o j=true):j≠i:=by obtain⟨e,he,hb⟩:=Array.any_eq_true'.1 hj;rw[Bool.and_eq_true,beq_iff_eq]at hb;intro e2;exact h e he hb.1 (by rw[hb.2,e2])
theorem aFf3{S:Nat->Spec}{w0:World}{E:Act->(Nat->World->Prop)->Prop}{i:Nat}{oi:Oper}(hi:ops[i]?=some oi)(hsel:∀(j:Nat) (o:Oper) cs b,ops[j]?=some o->o.op ≠ .select cs b) :
  ∀(fuel:Nat) (listed:Array Bool) (a:Act) (Γ:Nat->World->Prop),
    (∀j oj,ops[j]?=some oj->j≠i->listed.getD j true=false->(∀e∈oj.after,Region.binds .any e=true->e.on≠i)->oi.apart ops oj=true) ->
    i∈Region.ready .any ops listed->Ru P ops w0 oi (S i) a Γ ->
    (∀v,(S i).ok v->anyF P ops S w0 E fuel (listed.setIfInBounds i true) (a.put oi.dst v) (upd Γ i ((S i).holds v)))->anyF P ops S w0 E (fuel+1) listed a Γ:=by
 have An:∃v,(S i).ok v:=by
  cases hs:S i with
  |inl u=>exact⟨u,rfl⟩
  |inr V=>exact⟨undef,trivial⟩
 obtain⟨v0,Ak⟩:=An;intro fuel
 induction fuel with
 |zero=>
   intro listed a Γ _ hr hy H;refine⟨fun h=>(by rw[h]at hr;cases hr),fun j hj=>?_⟩;by_cases hji:j=i
   ·subst hji;unfold fOp;simp only[hi];exact⟨hy,H⟩
   ·have:=jj hj hji;rw[(H v0 Ak).1]at this;cases this
 |succ fuel ih=>
   intro listed a Γ Aa hr hy H;refine⟨fun h=>(by rw[h]at hr;cases hr),fun j hj=>?_⟩;by_cases hji:j=i
   ·subst hji;unfold fOp;simp only[hi];exact⟨hy,H⟩
   ·obtain⟨Ab,oj,Ag,Ah⟩:=jZ.1 hj;have Ai:=(jZ.1 hr).1
    have Aj:∀k,listed.getD k true=false->listed.getD k false=true->False:=fun k h1 h0=>by
     rcases Nat.lt_or_ge k listed.size with h'|h'
     ·simp[h']at h0 h1;rw[h0]at h1;cases h1
     ·simp[Array.getElem?_eq_none h']at h1
    have Ad:∀e∈oj.after,Region.binds .any e=true->e.on≠i:=fun e he hb heq=>Aj i Ai (by rw[<-heq];exact Ah e he hb)
    have Af:∀e∈oi.after,Region.binds .any e=true->e.on≠j:=fun e he hb heq=>by
     obtain⟨_,o',Al,Ae⟩:=jZ.1 hr;rw[hi]at Al;cases Al
     exact Aj j Ab (by rw[<-heq];exact Ae e he hb)
    have Am:=Aa j oj Ag hji Ab Ad;obtain⟨h1,h2,h3⟩:=xN Am
    have Ac:∀k ok,ops[k]?=some ok->k≠i->(listed.setIfInBounds j true).getD k true=false ->
      (∀e∈ok.after,Region.binds .any e=true->e.on≠i)->oi.apart ops ok=true:=fun k ok hk hki hun hno=>by
     refine Aa k ok hk hki ?_ hno;by_cases hjk:j=k
     ·subst hjk;exact Ab
     ·rw[xP true hjk]at hun;exact hun
    have Hj:∀v,(S i).ok v->Ru P ops w0 oj (S j) (a.put oi.dst v) (upd Γ i ((S i).holds v))/\∀u,(S j).ok u ->
      anyF P ops S w0 E fuel ((listed.setIfInBounds i true).setIfInBounds j true) ((a.put oi.dst v).put oj.dst u) (upd (upd Γ i ((S i).holds v)) j ((S j).holds u)):=fun v hv=>by
     have:=(H v hv).2 j (jj hj hji);unfold fOp at this;simpa only[Ag]using this
    unfold fOp;simp only[Ag];refine⟨(Hj v0 Ak).1.of_same (yK oj (fun cs b=>hsel j oj cs b Ag) a oi.dst v0 h1).symm (yS oj a oi.dst v0 h1).symm (fun k hk=>?_),fun u hu=>?_⟩
    ·exact(upd_ne (nd2 Ad hk)).symm
    ·refine ih (listed.setIfInBounds j true) _ _ Ac (jj hr (Ne.symm hji)) ?_ (fun v hv=>?_)
     ·exact hy.of_same (yK oi (fun cs b=>hsel i oi cs b hi) a oj.dst u h3) (yS oi a oj.dst u h3) (fun k hk=>upd_ne (nd2 Af hk))
     ·have:=(Hj v hv).2 u hu;rw[Array.setIfInBounds_comm _ _ hji,<-yn a v u h2,<-uc2 hji];exact this
def Tree(P:Program)(ops:Array Oper)(S:Nat->Spec)(w0:World)(E:Act->(Nat->World->Prop)->Prop):List Oper->Nat->Act->(Nat->World->Prop)->Prop
 |[],_,a,Γ=>E a Γ
 |o::rest,i,a,Γ=>Ru P ops w0 o (S i) a Γ/\∀v,(S i).ok v->Tree P ops S w0 E rest (i+1) (a.put o.dst v) (upd Γ i ((S i).holds v))
theorem aFl4{S:Nat->Spec}{w0:World}{E:Act->(Nat->World->Prop)->Prop}(hs:Region.noSelect ops=true):∀(l:List Oper) (k:Nat) (listed:Array Bool) (a:Act) (Γ:Nat->World->Prop),(∀j,l[j]?=ops[k+j]?) ->
  Region.lexFrom .any ops l.length k listed=true->Tree P ops S w0 E l k a Γ->anyF P ops S w0 E l.length listed a Γ
 |[],_,_,_,_,_,hB,h=>⟨by simpa[Region.lexFrom]using hB,h⟩
 |o::l,k,listed,a,Γ,hl,hB,h=>by
   have h0:ops[k]?=some o:=by simpa using(hl 0).symm
   simp only[List.length_cons,Region.lexFrom,Bool.and_eq_true]at hB;obtain⟨⟨hr,hf⟩,Aa⟩:=hB
   exact aFf3 h0 (yT hs) l.length listed a Γ (yy h0 hf) (by simpa using hr) h.1
    (fun v hv=>aFl4 hs l (k+1) _ _ _ (fun j=>by have:=hl (j+1);simpa[Nat.add_assoc,Nat.add_comm 1 j]using this) Aa (h.2 v hv))
theorem wrf2{id:Nat}{Q:Exit->Act->World->Prop}{a:Act}{w:World}{l:List Oper}(S:Nat->Spec)(hm:P.follows .mixedOrders=true)(hB:Region.lexB .any l.toArray=true)(hS:∀i,(S i).mono)
  (h:Tree P l.toArray S w (fun a' Γ=>∀w',Below w.heap.size w w'->(∀j,Γ j w')->Q .normal a' w') l 0 a (fun _ _=>True)):(Code.region id l.toArray true).wp P Q a w:=by
 simp only[Region.lexB,Bool.and_eq_true]at hB;refine qAi hm (wAo2 (S:=S) (w0:=w) (E:=fun a' Γ=>∀w',Below w.heap.size w w'->(∀j,Γ j w')->Q .normal a' w') (Γ:=fun _ _=>True) hS (fun a' Γ w' hE hb hG=>hE w' hb hG) _ _ _ _ ?_ ((Below.refl _ _).drew) (fun _=>trivial) (fun _ _ _ _ _=>trivial));have:=aFl4 hB.1 l 0 (Array.replicate l.toArray.size false) a (fun _ _=>True) (by simp) (by simpa using hB.2) h
 simpa using this
theorem tn2{S:Nat->Spec}{w0:World}{E:Act->(Nat->World->Prop)->Prop}{i:Nat}{a:Act}{Γ:Nat->World->Prop}(h:E a Γ):Tree P ops S w0 E [] i a Γ:=h
theorem tv3{S:Nat->Spec}{w0:World}{E:Act->(Nat->World->Prop)->Prop}{o:Oper}{rest:List Oper}{i:Nat}{a:Act}{Γ:Nat->World->Prop}(u:Value)(hs:S i = .inl u)
  (hr:∀w,Below w0.heap.size w0 w->(∀j,dep o j=true->Γ j w)->Runs P ops o (.inl u) a w) (h:Tree P ops S w0 E rest (i+1) (a.put o.dst u) (upd Γ i (fun _=>True))):Tree P ops S w0 E (o::rest) i a Γ:=by
 refine⟨by rw[hs];exact hr,fun v hv=>?_⟩;rw[hs]at hv⊢;cases hv
 have:(fun w=>Spec.holds (.inl u) u w)=fun _=>True:=by funext w;simp[Spec.holds]
 rw[show Spec.holds (.inl u) u=fun _=>True from this];exact h
theorem tv2{S:Nat->Spec}{w0:World}{E:Act->(Nat->World->Prop)->Prop}{o:Oper}{rest:List Oper}{i:Nat}{a:Act}{Γ:Nat->World->Prop}(V:Value->World->Prop)(hs:S i = .inr V)
  (hr:∀w,Below w0.heap.size w0 w->(∀j,dep o j=true->Γ j w)->Runs P ops o (.inr V) a w) (h:∀v,Tree P ops S w0 E rest (i+1) (a.put o.dst v) (upd Γ i (V v))):Tree P ops S w0 E (o::rest) i a Γ:=by
 refine⟨by rw[hs];exact hr,fun v _=>?_⟩;rw[hs];exact h v
def sp3(l:List Spec):Nat->Spec:=fun i=>l.getD i (.inl undef)
theorem sm2{l:List Spec}(h:∀s∈l,Spec.mono s):∀i,(sp3 l i).mono:=fun i=>by
 unfold sp3;rcases Nat.lt_or_ge i l.length with h'|h'
 ·rw[List.getD_eq_getElem?_getD,List.getElem?_eq_getElem h'];exact h _ (List.getElem_mem h')
 ·rw[List.getD_eq_getElem?_getD,List.getElem?_eq_none h'];exact mi _
theorem rv2{o:Oper}{a:Act}{w:World}{u:Value}(hw:Region.wanted o (yielded ops a.tmps)=true)(h:(execOp a.eval o).run P w = .ok (.value u) w):Runs P ops o (.inl u) a w:=by unfold Runs yields;rw[if_pos hw,h];exact⟨Below.refl _ _,rfl⟩
theorem ro3{o:Oper}{a:Act}{w w':World}{s:Spec}{u:Value}(hw:Region.wanted o (yielded ops a.tmps)=true)(h:(execOp a.eval o).run P w = .ok (.value u) w')(hb:Below w.heap.size w w')(hv:s.holds u w'):Runs P ops o s a w:=by unfold Runs yields;rw[if_pos hw,h];exact⟨hb,hv⟩
theorem tvK{S:Nat->Spec}{w0:World}{E:Act->(Nat->World->Prop)->Prop}{o:Oper}{rest:List Oper}{i:Nat}{a:Act}{Γ:Nat->World->Prop}{u:Value}(hs:S i = .inl u)
  (h:∀K:Act->Prop,(∀a',Tree P ops S w0 E rest (i+1) a' (upd Γ i (fun _=>True))->K a')->(∀w,Below w0.heap.size w0 w->(∀j,dep o j=true->Γ j w)->Runs P ops o (.inl u) a w)/\K (a.put o.dst u)):Tree P ops S w0 E (o::rest) i a Γ:=
 tv3 u hs (h (fun _=>True) (fun _ _=>trivial)).1 (h _ (fun _ h=>h)).2
theorem tvK2{S:Nat->Spec}{w0:World}{E:Act->(Nat->World->Prop)->Prop}{o:Oper}{rest:List Oper}{i:Nat}{a:Act}{Γ:Nat->World->Prop}{V:Value->World->Prop}(hs:S i = .inr V)
  (h:∀K:Act->(World->Prop)->Prop,(∀a' v,Tree P ops S w0 E rest (i+1) a' (upd Γ i (V v))->K a' (V v))->(∀w,Below w0.heap.size w0 w->(∀j,dep o j=true->Γ j w)->Runs P ops o (.inr V) a w)/\∀v,K (a.put o.dst v) (V v)):Tree P ops S w0 E (o::rest) i a Γ:=by
 refine tv2 V hs (h (fun _ _=>True) (fun _ _ _=>trivial)).1 fun v=>?_;have:=(h (fun a' p=>Tree P ops S w0 E rest (i+1) a' (upd Γ i p)) (fun _ _ h=>h)).2 v;exact this
@[go_sem] theorem bs5(w:World):Below w.heap.size w w=True:=eq_true (Below.refl _ _)
@[go_sem] theorem hi6(u v:Value)(w:World):Spec.holds (.inl u) v w=(v=u):=rfl
theorem ln2:∀s∈([]:List Spec),s.mono:=fun _ h=>by cases h
theorem li2{u:Value}{l:List Spec}(h:∀s∈l,s.mono):∀s∈(.inl u::l:List Spec),s.mono:=fun s hs=>by
 rcases List.mem_cons.1 hs with rfl|hs
 ·exact mi u
 ·exact h s hs
theorem li3{V:Value->World->Prop}{l:List Spec}(hV:Spec.mono (.inr V))(h:∀s∈l,s.mono):∀s∈(.inr V::l:List Spec),s.mono:=fun s hs=>by
 rcases List.mem_cons.1 hs with rfl|hs
 ·exact hV
 ·exact h s hs
theorem fbs{o:Oper}{a:Act}{w:World}(src dst e:TypeId)(x:Operand)(ho:o.op = .convert src dst x)(hs:P.underlying src=some (.slice e))(he:P.underlying e=some (.int .u8))(hd:P.underlying dst=some .string)
  (b off len cap:Nat) (hx:a.eval x = .slice (some ⟨b,off,none⟩) len cap) (X:ByteArray) (hlen:X.data.toList.length=len)
  (hcell:∀i,i<len->w.cell? ⟨b,off+i,none⟩=some (.int .u8 ((X.data.toList.map fun b=>(b.toNat:Int)).getD i 0))) (hw:Region.wanted o (yielded ops a.tmps)=true):Runs P ops o (.inl (.string X)) a w:=by
 refine rv2 hw ?_;unfold execOp;simp only[ho,hx,Sem.run_bind,run_convert_bytes_arg w src e hs he b off len cap _ (by simpa using hlen) hcell dst hd,Result.andThen_ok,Sem.run_pure,sON]
def aF(P:Program)(ops:Array Oper)(S:Nat->Spec)(w0:World)(n:Nat)(L:Array Bool->Act->(Nat->World->Prop)->Prop):Nat->Array Bool->Act->(Nat->World->Prop)->Prop
 |0,listed,a,Γ=>L listed a Γ
 |f+1,listed,a,Γ=>Region.ready .any ops listed≠[]/\∀i∈Region.ready .any ops listed,i<n/\fOp P ops S w0 i (aF P ops S w0 n L f (listed.setIfInBounds i true)) a Γ
theorem wAo{S:Nat->Spec}{w0:World}(hS:∀i,(S i).mono){n g:Nat}{L:Array Bool->Act->(Nat->World->Prop)->Prop}{Q:Exit->Act->World->Prop}
  (hL:∀listed a Γ w,L listed a Γ->Below w0.heap.size w0 w->(∀j,Γ j w)->wpAny P .any ops Q g listed a w):∀(f:Nat) (listed:Array Bool) (a:Act) (Γ:Nat->World->Prop) (w:World),
  aF P ops S w0 n L f listed a Γ->Below w0.heap.size w0 w->(∀j,Γ j w)->(∀j,Mono (Γ j))->wpAny P .any ops Q (f+g) listed a w
 |0,_,_,_,_,h,hB,hG,_=>by rw[Nat.zero_add];exact hL _ _ _ _ h hB hG
 |f+1,listed,a,Γ,w,h,hB,hG,hM=>by
   rw[show f+1+g=(f+g)+1 by omega];refine⟨fun h0=>absurd h0 h.1,fun i hi=>?_⟩;have h1:=(h.2 i hi).2;unfold fOp at h1;unfold wpOp
   have hM':∀v j,Mono (upd Γ i ((S i).holds v) j):=fun v j=>by
    by_cases e:j=i
    ·subst e;rw[upd_same];exact hS j v
    ·rw[upd_ne e];exact hM j
   have hG':∀v w',Below w.heap.size w w'->(S i).holds v w'->∀j,upd Γ i ((S i).holds v) j w':=fun v w' hb hv j=>by
    by_cases e:j=i
    ·subst e;rw[upd_same];exact hv
    ·rw[upd_ne e];exact hM j _ _ (hG j) hb
   have hok:∀v w',(S i).holds v w'->(S i).ok v:=fun v w' hv=>by
    cases hs:S i with
    |inl u=>rw[hs]at hv;exact hv
    |inr V=>trivial
   split
   ·rename_i ho;simp only[ho]at h1;exact wAo hS hL f _ _ _ _ h1 hB hG hM
   ·rename_i o ho;simp only[ho]at h1;have h2:=h1.1 w hB (fun j _=>hG j);unfold Runs at h2;split
    ·rename_i hw;simp only[hw,if_true]at h2;refine .inl (woy (ym ?_ h2));intro v w' ⟨hb,hv⟩;exact wAo hS hL f _ _ _ _ (h1.2 v (hok v w' hv)) (hB.trans (hb.mono hB.size)) (hG' v w' hb hv) (hM' v)
    ·rename_i hw;simp only[hw]at h2;exact wAo hS hL f _ _ _ _ (h1.2 undef (hok _ _ h2)) hB (hG' _ _ (Below.refl _ _) h2) (hM' _)
theorem aFf{S:Nat->Spec}{w0:World}{n i:Nat}{oi:Oper}{L:Array Bool->Act->(Nat->World->Prop)->Prop}(hi:ops[i]?=some oi)(hsel:∀(j:Nat) (o:Oper) cs b,ops[j]?=some o->o.op ≠ .select cs b)
  (hs:Region.sinkB .any ops n=true) (hc:Region.chainB .any ops n=true) (hn:n<ops.size) (hin:i<n)
  (hdone:∀listed a Γ,L listed a Γ->∀j∈Region.ready .any ops listed,n<=j) :
  ∀(f:Nat) (listed:Array Bool) (a:Act) (Γ:Nat->World->Prop),HeadInv .any ops n listed ->
    (∀j oj,ops[j]?=some oj->j≠i->listed.getD j true=false->(∀e∈oj.after,Region.binds .any e=true->e.on≠i)->oi.apart ops oj=true) ->
    i∈Region.ready .any ops listed->Ru P ops w0 oi (S i) a Γ ->
    (∀v,(S i).ok v->aF P ops S w0 n L f (listed.setIfInBounds i true) (a.put oi.dst v) (upd Γ i ((S i).holds v)))->aF P ops S w0 n L (f+1) listed a Γ:=by
 have Ap:∃v,(S i).ok v:=by
  cases hs:S i with
  |inl u=>exact⟨u,rfl⟩
  |inr V=>exact⟨undef,trivial⟩
 obtain⟨v0,Am⟩:=Ap;intro f
 induction f with
 |zero=>
   intro listed a Γ Ah _ hr hy H;have Ad:=(jZ.1 hr).1;refine⟨fun h=>(by rw[h]at hr;cases hr),fun j hj=>?_⟩
   have Ai:j<n:=by
    rcases Nat.lt_or_ge j n with h|h
    ·exact h
    ·exact absurd hj (qAy hs hc hn Ah _ i rfl hin Ad j h)
   refine⟨Ai,?_⟩;by_cases hji:j=i
   ·subst hji;unfold fOp;simp only[hi];exact⟨hy,H⟩
   ·have:=hdone _ _ _ (H v0 Am) j (jj hj hji);omega
 |succ f ih=>
   intro listed a Γ Ah Aa hr hy H;have Ad:=(jZ.1 hr).1;refine⟨fun h=>(by rw[h]at hr;cases hr),fun j hj=>?_⟩
   have Ai:j<n:=by
    rcases Nat.lt_or_ge j n with h|h
    ·exact h
    ·exact absurd hj (qAy hs hc hn Ah _ i rfl hin Ad j h)
   refine⟨Ai,?_⟩;by_cases hji:j=i
   ·subst hji;unfold fOp;simp only[hi];exact⟨hy,H⟩
   ·obtain⟨Ab,oj,Aj,Ak⟩:=jZ.1 hj;have Al:∀k,listed.getD k true=false->listed.getD k false=true->False:=fun k h1 h0=>by rw[qAr h1]at h0;cases h0
    have Ae:∀e∈oj.after,Region.binds .any e=true->e.on≠i:=fun e he hb heq=>Al i Ad (by rw[<-heq];exact Ak e he hb)
    have Ag:∀e∈oi.after,Region.binds .any e=true->e.on≠j:=fun e he hb heq=>by
     obtain⟨_,o',An,Af⟩:=jZ.1 hr;rw[hi]at An;cases An
     exact Al j Ab (by rw[<-heq];exact Af e he hb)
    have Ao:=Aa j oj Aj hji Ab Ae;obtain⟨h1,h2,h3⟩:=xN Ao
    have Ac:∀k ok,ops[k]?=some ok->k≠i->(listed.setIfInBounds j true).getD k true=false ->
      (∀e∈ok.after,Region.binds .any e=true->e.on≠i)->oi.apart ops ok=true:=fun k ok hk hki Ad hno=>by
     refine Aa k ok hk hki ?_ hno;by_cases hjk:j=k
     ·subst hjk;exact Ab
     ·rw[xP true hjk]at Ad;exact Ad
    have Hj:∀v,(S i).ok v->Ru P ops w0 oj (S j) (a.put oi.dst v) (upd Γ i ((S i).holds v))/\∀u,(S j).ok u ->
      aF P ops S w0 n L f ((listed.setIfInBounds i true).setIfInBounds j true) ((a.put oi.dst v).put oj.dst u) (upd (upd Γ i ((S i).holds v)) j ((S j).holds u)):=fun v hv=>by
     have:=((H v hv).2 j (jj hj hji)).2;unfold fOp at this;simpa only[Aj]using this
    unfold fOp;simp only[Aj];refine⟨(Hj v0 Am).1.of_same (yK oj (fun cs b=>hsel j oj cs b Aj) a oi.dst v0 h1).symm (yS oj a oi.dst v0 h1).symm (fun k hk=>?_),fun u hu=>?_⟩
    ·exact(upd_ne (nd2 Ae hk)).symm
    ·refine ih (listed.setIfInBounds j true) _ _ (Ah.set hj Ai) Ac (jj hr (Ne.symm hji)) ?_ (fun v hv=>?_)
     ·exact hy.of_same (yK oi (fun cs b=>hsel i oi cs b hi) a oj.dst u h3) (yS oi a oj.dst u h3) (fun k hk=>upd_ne (nd2 Ag hk))
     ·have:=(Hj v hv).2 u hu;rw[Array.setIfInBounds_comm _ _ hji,<-yn a v u h2,<-uc2 hji];exact this
theorem aFl{S:Nat->Spec}{w0:World}{n g:Nat}{Lq:Act->(Nat->World->Prop)->Prop}(hsel:Region.noSelect ops=true)(hs:Region.sinkB .any ops n=true)(hc:Region.chainB .any ops n=true)(hn:n<ops.size) :
  ∀(l:List Oper) (k:Nat) (listed:Array Bool) (a:Act) (Γ:Nat->World->Prop),(∀j,j<l.length->l[j]?=ops[k+j]?)->k+l.length=n->HeadInv .any ops n listed ->
  Region.lexHead .any ops g l.length k listed=true->Tree P ops S w0 Lq l k a Γ ->
  aF P ops S w0 n (fun listed' a' Γ'=>Region.seqB .any ops g n listed'=true/\Lq a' Γ') l.length listed a Γ
 |[],k,listed,a,Γ,_,hk,_,hB,h=>by
   have:k=n:=by simpa using hk
   subst this;exact⟨by simpa[Region.lexHead]using hB,h⟩
 |o::l,k,listed,a,Γ,hl,hk,inv,hB,h=>by
   have h0:ops[k]?=some o:=by simpa using(hl 0 (by simp)).symm
   simp only[List.length_cons,Region.lexHead,Bool.and_eq_true]at hB;obtain⟨⟨hr,hf⟩,Ac⟩:=hB;have Ab:k<n:=by simp only[List.length_cons]at hk;omega
   have Aa:k∈Region.ready .any ops listed:=by simpa using hr
   exact aFf h0 (yT hsel) hs hc hn Ab (fun listed' a' Γ' hL=>seqB_ready hL.1) l.length listed a Γ inv (yy h0 hf) Aa h.1
    (fun v hv=>aFl hsel hs hc hn l (k+1) _ _ _ (fun j hj=>by have:=hl (j+1) (by simp;omega);simpa[Nat.add_assoc,Nat.add_comm 1 j]using this) (by simp only[List.length_cons]at hk;omega) (inv.set Aa Ab) Ac (h.2 v hv))
theorem wrf{id:Nat}{Q:Exit->Act->World->Prop}{a:Act}{w:World}{l:List Oper}(n:Nat)(S:Nat->Spec)(hm:P.follows .mixedOrders=true)(hB:Region.lexTailB .any l.toArray n=true)(hS:∀i,(S i).mono)
  (h:Tree P l.toArray S w (fun a' Γ=>∀w',Below w.heap.size w w'->(∀j,Γ j w')->wpList P l.toArray Q (l.drop n) a' w') (l.take n) 0 a (fun _ _=>True)):(Code.region id l.toArray true).wp P Q a w:=by
 simp only[Region.lexTailB,Bool.and_eq_true,decide_eq_true_eq]at hB;obtain⟨⟨⟨⟨Ab,hn⟩,hs⟩,hc⟩,Ac⟩:=hB;have Ag:n<l.length:=by simpa using hn
 have Aa:(l.take n).length=n:=by simp;omega
 have Ae:(l.drop n).length=l.toArray.size-n:=by simp
 have Ad:HeadInv .any l.toArray n (Array.replicate l.toArray.size false):=
  ⟨by simp,fun j oj _ hl=>(by rw[jE]at hl;cases hl),fun t _ ht=>getD_in (by simpa using ht) (jE _ _)⟩
 have H:=aFl (g:=l.toArray.size-n) Ab hs hc hn (l.take n) 0 _ a (fun _ _=>True) (fun j hj=>by
  have Af:j<n:=by rw[Aa]at hj;exact hj
  simp[Af]) (by simpa using Aa) Ad (by rw[Aa];exact Ac) h
 refine qAi hm ?_
 have:=wAo (Q:=Q) (g:=l.toArray.size-n) hS (fun listed a' Γ' w' hL hb hG=>by
  have:=wpAny_of_seq (md:=.any) (Q':=Q) (l.drop n) n listed a' w' (fun j=>by simp) (by rw[Ae];exact hL.1) (hL.2 w' hb hG)
  rwa [Ae]at this) _ _ _ _ { w with drawn:=w.drawn+1 } H ((Below.refl _ _).drew) (fun _=>trivial) (fun _ _ _ _ _=>trivial)
 rw[Aa,show n+(l.toArray.size-n)=l.toArray.size by omega]at this;exact this
end
end Go.Flow
namespace Go
open Go.RowKit
def nO2(x:Value)(v:Value)(w:World):Prop:=∃g,v = .slice (some ⟨g,0,none⟩) 1 1/\g<w.heap.size/\w.cell? ⟨g,0,none⟩=some x
theorem nOm(x:Value):Flow.Spec.mono (.inr (nO2 x)):=fun _ _ _ ⟨g,h1,h2,h3⟩ hb=>⟨g,h1,Nat.lt_of_lt_of_le h2 hb.size,(hb.cell (p:=⟨g,0,none⟩) h2).trans h3⟩
theorem nOm2(x:Value)(w:World)(t:TypeId):nO2 x (.slice (some ⟨w.heap.size,0,none⟩) 1 1) (w.alloc (.cells #[x] t)):=⟨_,rfl,by simp,by simp⟩
end Go
namespace Go.Flow
open Go Go.RowKit
section
variable {P:Program} {ops:Array Oper} {n:Nat}
theorem wIo{o:Oper}{a:Act}{w:World}{K:Act->World->Prop}{Q:Exit->Act->World->Prop}(hy:yields P o a.eval w fun v w'=>K (a.put o.dst v) w'):o.wpIn Fence.wide n P a w K Q:=by
 unfold Oper.wpIn;refine⟨fun _ _=>trivial,?_⟩;have he:o.semAt Fence.wide.round a.eval=execOp a.eval o:=by simp[Oper.semAt,Fence.wide]
 rw[he];unfold yields at hy;generalize (execOp a.eval o).run P w=r at *;cases r with
 |ok nx w'=>
   cases nx<;>simp only[Oper.uponIn]<;>first
    |exact hy
    |exact(show False from hy).elim
    |exact⟨(fun h=>by cases h),callsIn_wide.2 (Calls.mono hy (fun e w'' ⟨v,he,hr⟩=>by subst he;exact hr))⟩
 |halt x w'=>exact hy.elim
theorem wAI4{md:Region.Mode}{F:Fence}{Q':Exit->Act->World->Prop}:∀(l:List Oper) (k:Nat) (listed:Array Bool) (a:Act) (w:World),(∀j,l[j]?=ops[k+j]?) ->
  Region.seqB md ops l.length k listed=true->wpListIn F n P ops Q' l a w->wpAnyIn F n P md ops Q' l.length listed a w
 |[],_,_,_,_,_,hB,h=>⟨by simpa[Region.seqB]using hB,h⟩
 |o::l,k,listed,a,w,hl,hB,h=>by
   have h0:ops[k]?=some o:=by simpa using(hl 0).symm
   simp only[List.length_cons,Region.seqB,Bool.and_eq_true,decide_eq_true_eq]at hB;refine⟨fun h1=>(by rw[hB.1]at h1;cases h1),fun i hi=>?_⟩;rw[hB.1]at hi;have Aa:i=k:=by simpa using hi
   subst Aa;have hw:wpOpIn F n P ops Q' i (wpListIn F n P ops Q' l) a w:=by unfold wpOpIn;simp only[h0];exact h
   exact wpOpIn_mono (fun a' w' h'=>wAI4 l (i+1) _ a' w' (fun j=>by have:=hl (j+1);simpa[Nat.add_assoc,Nat.add_comm 1 j]using this) hB.2 h') hw
theorem wAI2{S:Nat->Spec}{w0:World}(hS:∀i,(S i).mono){m g:Nat}{L:Array Bool->Act->(Nat->World->Prop)->Prop}{Q:Exit->Act->World->Prop}
  (hL:∀listed a Γ w,L listed a Γ->Below w0.heap.size w0 w->(∀j,Γ j w)->wpAnyIn Fence.wide n P .any ops Q g listed a w):∀(f:Nat) (listed:Array Bool) (a:Act) (Γ:Nat->World->Prop) (w:World),
  aF P ops S w0 m L f listed a Γ->Below w0.heap.size w0 w->(∀j,Γ j w)->(∀j,Mono (Γ j))->wpAnyIn Fence.wide n P .any ops Q (f+g) listed a w
 |0,_,_,_,_,h,hB,hG,_=>by rw[Nat.zero_add];exact hL _ _ _ _ h hB hG
 |f+1,listed,a,Γ,w,h,hB,hG,hM=>by
   rw[show f+1+g=(f+g)+1 by omega];refine⟨fun h0=>absurd h0 h.1,fun i hi=>?_⟩;have h1:=(h.2 i hi).2;unfold fOp at h1;unfold wpOpIn
   have hM':∀v j,Mono (upd Γ i ((S i).holds v) j):=fun v j=>by
    by_cases e:j=i
    ·subst e;rw[upd_same];exact hS j v
    ·rw[upd_ne e];exact hM j
   have hG':∀v w',Below w.heap.size w w'->(S i).holds v w'->∀j,upd Γ i ((S i).holds v) j w':=fun v w' hb hv j=>by
    by_cases e:j=i
    ·subst e;rw[upd_same];exact hv
    ·rw[upd_ne e];exact hM j _ _ (hG j) hb
   have hok:∀v w',(S i).holds v w'->(S i).ok v:=fun v w' hv=>by
    cases hs:S i with
    |inl u=>rw[hs]at hv;exact hv
    |inr V=>trivial
   split
   ·rename_i ho;simp only[ho]at h1;exact wAI2 hS hL f _ _ _ _ h1 hB hG hM
   ·rename_i o ho;simp only[ho]at h1;have h2:=h1.1 w hB (fun j _=>hG j);unfold Runs at h2;split
    ·rename_i hw;simp only[hw,if_true]at h2;refine wIo (ym ?_ h2);intro v w' ⟨hb,hv⟩;exact wAI2 hS hL f _ _ _ _ (h1.2 v (hok v w' hv)) (hB.trans (hb.mono hB.size)) (hG' v w' hb hv) (hM' v)
    ·rename_i hw;simp only[hw]at h2;exact⟨fun _ _=>trivial,wAI2 hS hL f _ _ _ _ (h1.2 undef (hok _ _ h2)) hB (hG' _ _ (Below.refl _ _) h2) (hM' _)⟩
theorem wIr{id:Nat}{Q:Exit->Act->World->Prop}{a:Act}{w:World}{l:List Oper}(m:Nat)(S:Nat->Spec)(hm:P.follows .mixedOrders=true)(hB:Region.lexTailB .any l.toArray m=true)(hS:∀i,(S i).mono)
  (h:Tree P l.toArray S w (fun a' Γ=>∀w',Below w.heap.size w w'->(∀j,Γ j w')->wpListIn Fence.wide n P l.toArray Q (l.drop m) a' w') (l.take m) 0 a (fun _ _=>True)):(Code.region id l.toArray true).wpIn Fence.wide n P Q a w:=by
 simp only[Region.lexTailB,Bool.and_eq_true,decide_eq_true_eq]at hB;obtain⟨⟨⟨⟨Ab,hn⟩,hs⟩,hc⟩,Ac⟩:=hB;have Ag:m<l.length:=by simpa using hn
 have Aa:(l.take m).length=m:=by simp;omega
 have Ae:(l.drop m).length=l.toArray.size-m:=by simp
 have Ad:HeadInv .any l.toArray m (Array.replicate l.toArray.size false):=
  ⟨by simp,fun j oj _ hl=>(by rw[jE]at hl;cases hl),fun t _ ht=>getD_in (by simpa using ht) (jE _ _)⟩
 have H:=aFl (g:=l.toArray.size-m) Ab hs hc hn (l.take m) 0 _ a (fun _ _=>True) (fun j hj=>by
  have Af:j<m:=by rw[Aa]at hj;exact hj
  simp[Af]) (by simpa using Aa) Ad (by rw[Aa];exact Ac) h
 refine wpIn_region_any hm ?_
 have:=wAI2 (n:=n) (Q:=Q) (g:=l.toArray.size-m) hS (fun listed a' Γ' w' hL hb hG=>by
  have:=wAI4 (md:=.any) (F:=Fence.wide) (n:=n) (Q':=Q) (l.drop m) m listed a' w' (fun j=>by simp) (by rw[Ae];exact hL.1) (hL.2 w' hb hG)
  rwa [Ae]at this) _ _ _ _ { w with drawn:=w.drawn+1 } H ((Below.refl _ _).drew) (fun _=>trivial) (fun _ _ _ _ _=>trivial)
 rw[Aa,show m+(l.toArray.size-m)=l.toArray.size by omega]at this;exact this
end
end Go.Flow
namespace Go
open Go.RowKit
theorem Flow.bc4{W w1:World}(hb:Below W.heap.size W w1):(∀b o,b<W.heap.size->w1.cell? ⟨b,o,none⟩=W.cell? ⟨b,o,none⟩):=
 fun b o h=>hb.cell (p:=⟨b,o,none⟩) h
def cutN(n:Nat)(s:ByteArray):ByteArray:=s.extract 0 n
theorem cNs3(n:Nat)(s:ByteArray):(cutN n s).size<=n:=by simp[cutN];omega
theorem cNs(n:Nat)(s:ByteArray)(h:s.size<=n):cutN n s=s:=by apply ByteArray.ext;have:s.data.size<=n:=h;simp[cutN];omega
def blk:Value->Option Nat
 |.slice (some a) _ _=>some a.block
 |_=>none
def Ag(p:Nat->Prop)(w w':World):Prop:=w.heap.size<=w'.heap.size/\∀b,b<w.heap.size->p b->w'.heap[b]?=w.heap[b]?
def NO2(v:Value):Prop:=∀n c,v = .slice none n c->c=0
def SlP(p:Nat->Prop)(w:World)(v:Value)(cs:List Value):Prop:=SlOf w v cs/\(0<cs.length->∀b,blk v=some b->p b)/\NO2 v
section
variable {p q:Nat->Prop} {w w' w'':World} {v:Value} {cs:List Value}
theorem Ag.trans(h:Ag p w w')(k:Ag p w' w''):Ag p w w'':=⟨Nat.le_trans h.1 k.1,fun b hb hp=>(k.2 b (Nat.lt_of_lt_of_le hb h.1) hp).trans (h.2 b hb hp)⟩
theorem Ag.below(p:Nat->Prop){B:Nat}(h:Below B w w')(hB:∀b,b<w.heap.size->p b->b<B):Ag p w w':=⟨h.size,fun b hb hp=>h.block b (hB b hb hp)⟩
theorem Ag.new(p:Nat->Prop)(h:Below w.heap.size w w'):Ag p w w':=Ag.below p h fun _ hb _=>hb
theorem Ag.weak(h:Ag q w w')(hpq:∀b,p b->q b):Ag p w w':=⟨h.1,fun b hb hp=>h.2 b hb (hpq b hp)⟩
theorem Ag.set(p:Nat->Prop)(w:World){a:Addr}(v:Value)(h:¬p a.block):Ag p w (w.setCell a v):=
 ⟨by simp[World.setCell],fun b _ hp=>heap_setCell_other w a b v (fun e=>h (e▸hp))⟩
theorem Ag.grown{o:Option Nat}(h:w.grownBy w' o)(hp:∀g,o=some g->¬p g):Ag p w w':=
 ⟨h.size,fun b hb hpb=>h.block b hb (fun e=>hp b e.symm hpb)⟩
theorem Ag.cell(h:Ag p w w'){b o:Nat}(hb:b<w.heap.size)(hp:p b):w'.cell? ⟨b,o,none⟩=w.cell? ⟨b,o,none⟩:=World.cell?_of_block (h.2 b hb hp)
theorem SlP.ag(h:SlP p w v cs)(hg:Ag p w w'):SlP p w' v cs:=by obtain⟨⟨h0,a,Ab,hv,hc⟩,hp,hn⟩:=h;refine⟨⟨h0,a,Ab,hv,fun hl=>?_⟩,hp,hn⟩;obtain⟨b,Ac,rfl,hb,Aa⟩:=hc hl;exact⟨b,Ac,rfl,Nat.lt_of_lt_of_le hb hg.1,fun j hj=>(hg.cell hb (hp hl b (by rw[hv];rfl))).trans (Aa j hj)⟩
theorem SlP.weak(h:SlP p w v cs)(hpq:∀b,p b->q b):SlP q w v cs:=⟨h.1,fun hl b hb=>hpq b (h.2.1 hl b hb),h.2.2⟩
theorem SlP.lt(h:SlP p w v cs):SlP (fun b=>p b/\b<w.heap.size) w v cs:=by refine⟨h.1,fun hl b hb=>⟨h.2.1 hl b hb,?_⟩,h.2.2⟩;obtain⟨⟨h0,a,Ac,hv,hc⟩,hp⟩:=h;obtain⟨b',Ad,rfl,Ab,Aa⟩:=hc hl;rw[hv]at hb;cases hb;exact Ab
theorem SlP.nil(p:Nat->Prop)(w:World):SlP p w (.slice none 0 0) []:=⟨SlOf.nil w,fun h=>absurd h (by simp),fun n c e=>by cases e;rfl⟩
theorem SlP.shape(h:SlP p w v cs):∃a n c,v = .slice a n c:=let⟨⟨_,a,c,hv,_⟩,_⟩:=h;⟨a,_,c,hv⟩
theorem SlP.owned{base:Nat}{e:TypeId}{n:Nat}(h:w.ownsRow base e 1 v n cs):SlP (fun b=>base<=b) w v cs:=by
 refine⟨SlOf.owned h,fun _ b hb=>?_,fun n c e=>?_⟩
 ·obtain⟨_,⟨rfl,_⟩|⟨g,Aa,Ab,rfl,hg,_⟩⟩:=h
  ·cases hb
  ·cases hb;exact hg
 ·obtain⟨_,⟨rfl,_⟩|⟨g,Aa,Ab,rfl,hg,_⟩⟩:=h
  ·cases e;rfl
  ·cases e
end
section
variable (w:World) (A B C D E:Obj)
theorem la2:(w.alloc A).heap[w.heap.size]?=some A/\(w.alloc A).heap.size=w.heap.size+1/\Below w.heap.size w (w.alloc A):=⟨heap_alloc_new w A,by simp,(Below.refl _ _).alloc (Nat.le_refl _) _⟩
theorem la3:((w.alloc A).alloc B).heap[w.heap.size]?=some A/\((w.alloc A).alloc B).heap[w.heap.size+1]?=some B/\((w.alloc A).alloc B).heap.size=w.heap.size+2/\Below w.heap.size w ((w.alloc A).alloc B):=by obtain⟨h1,h2,h3⟩:=la2 w A;obtain⟨k1,k2,k3⟩:=la2 (w.alloc A) B;rw[h2]at k1;exact⟨(k3.block _ (by omega)).trans h1,k1,by rw[k2,h2],h3.trans (k3.mono (by omega))⟩
theorem la5:(((w.alloc A).alloc B).alloc C).heap[w.heap.size]?=some A/\(((w.alloc A).alloc B).alloc C).heap[w.heap.size+1]?=some B/\(((w.alloc A).alloc B).alloc C).heap[w.heap.size+2]?=some C/\(((w.alloc A).alloc B).alloc C).heap.size=w.heap.size+3/\Below w.heap.size w (((w.alloc A).alloc B).alloc C):=by obtain⟨h1,h2,h3,h4⟩:=la3 w A B;obtain⟨k1,k2,k3⟩:=la2 ((w.alloc A).alloc B) C;rw[h3]at k1;exact⟨(k3.block _ (by omega)).trans h1,(k3.block _ (by omega)).trans h2,k1,by rw[k2,h3],h4.trans (k3.mono (by omega))⟩
theorem la14:((((w.alloc A).alloc B).alloc C).alloc D).heap[w.heap.size]?=some A/\((((w.alloc A).alloc B).alloc C).alloc D).heap[w.heap.size+1]?=some B/\((((w.alloc A).alloc B).alloc C).alloc D).heap[w.heap.size+2]?=some C/\((((w.alloc A).alloc B).alloc C).alloc D).heap[w.heap.size+3]?=some D/\((((w.alloc A).alloc B).alloc C).alloc D).heap.size=w.heap.size+4/\Below w.heap.size w ((((w.alloc A).alloc B).alloc C).alloc D):=by obtain⟨h1,h2,h3,h4,h5⟩:=la5 w A B C;obtain⟨k1,k2,k3⟩:=la2 (((w.alloc A).alloc B).alloc C) D;rw[h4]at k1;exact⟨(k3.block _ (by omega)).trans h1,(k3.block _ (by omega)).trans h2,(k3.block _ (by omega)).trans h3,k1,by rw[k2,h4],h5.trans (k3.mono (by omega))⟩
end
end Go
namespace Tess
open Go
structure Sch where
 dims:List ByteArray
 mets:List ByteArray
 grain:Int
structure Val where
 s:ByteArray
 null:Bool
def iL(c:UInt8):Bool:=decide (97<=c.toNat)&&decide (c.toNat<=122)
def iR(c:UInt8):Bool:=iL c||c.toNat==95||(decide (48<=c.toNat)&&decide (c.toNat<=57))
def nL2:List UInt8->Bool
 |[]=>false
 |c::r=>iL c&&r.all iR
def nO(s:ByteArray):Bool:=decide (s.size<=20)&&nL2 s.data.toList
def hasW(l:List ByteArray)(x:ByteArray):Bool:=l.any fun y=>decide (y=x)
def idxW(l:List ByteArray)(x:ByteArray):Nat:=l.findIdx fun y=>decide (y=x)
theorem hWi(l:List ByteArray)(x:ByteArray):hasW l x=true↔x∈l:=by simp[hasW]
theorem hWn(l:List ByteArray)(x:ByteArray):hasW l x=false↔x∉l:=by rw[<-hWi];simp
def distinct:List ByteArray->Bool
 |[]=>true
 |a::r=> !hasW r a&&distinct r
def nO3(l:List ByteArray):Bool:=distinct l&&l.all nO
def sO(s:Sch):Bool:=(decide (1<=s.dims.length)&&decide (s.dims.length<=6))&&decide (s.mets.length<=4)&&decide (1<=s.grain)&&decide (s.grain<=1000000000)&&nO3 (s.dims++s.mets)
def pW(ok:Bool)(l:List ByteArray)(x:ByteArray):Nat×Bool:=if ok&&hasW l x then(idxW l x,true)else(0,false)
def dimW(s:Sch)(x:ByteArray):Nat×Bool:=pW (sO s) s.dims x
inductive Fil
 |mk (kind:Int) (name:ByteArray) (words:List ByteArray) (frm to:Int) (l:List Fil)
namespace Fil
def kind:Fil->Int|mk k _ _ _ _ _=>k
def name:Fil->ByteArray|mk _ n _ _ _ _=>n
def words:Fil->List ByteArray|mk _ _ w _ _ _=>w
def frm:Fil->Int|mk _ _ _ a _ _=>a
def to:Fil->Int|mk _ _ _ _ b _=>b
def l:Fil->List Fil|mk _ _ _ _ _ l=>l
mutual
def pre(d:Nat):Fil->List (Nat×Fil)|mk k n w a b l=>(d,mk k n w a b l)::preL (d+1) l
def preL(d:Nat):List Fil->List (Nat×Fil)|[]=>[]|f::r=>pre d f++preL d r
end
def form(k:Int):Option (Bool×Bool×(Nat×Nat)×(Nat×Nat)):=
 if k=1 then some (false,false,(0,0),(0,0))
 else if k=2 then some (true,false,(1,8),(0,0))
 else if k=3 then some (true,false,(0,0),(0,0))
 else if k=4 then some (true,false,(1,1),(0,0))
 else if k=5 then some (true,false,(2,2),(0,0))
 else if k=6 then some (false,true,(0,0),(0,0))
 else if k=7 then some (false,false,(0,0),(1,1))
 else if k=8 then some (false,false,(0,0),(2,8))
 else if k=9 then some (false,false,(0,0),(2,8))
 else none
def inW(n:Nat)(p:Nat×Nat):Bool:=decide (p.1<=n)&&decide (n<=p.2)
def own(s:Sch)(f:Fil):Bool:=
 match form f.kind with
 |none=>false
 |some (hn,hs,ws,ls)=>((dimW s f.name).2==hn)&&((dimW s f.name).2||f.name.size==0)&&(hs||(decide (f.frm=0)&&decide (f.to=0)))&&inW f.words.length ws&&inW f.l.length ls && !f.words.any (fun x=>decide (100<x.size))
def sO3(a b:Int):Bool:=decide (0<=a)&&decide (a<=b)&&decide (b<=1000000000001)
def gO2(g:Int):Bool:=decide (1<=g)&&decide (g<=1000000000)
def sF2(a b g:Int):Bool:=sO3 a b&&gO2 g&&decide (a%g=0)&&(decide (b=1000000000001)||decide (b%g=0))
def sH(a b t:Int):Bool:=sO3 a b&&decide (a<=t)&&decide (t<b)
def bG(s:Sch)(f:Fil):Bool:=decide (f.kind=6) && !sF2 f.frm f.to s.grain
def isWord(f:Fil)(w:ByteArray):Bool:=
 if f.kind=4 then(f.words.getD 0 ByteArray.empty).data.toList.isPrefixOf w.data.toList
 else if f.kind=5 then !bl w (f.words.getD 0 ByteArray.empty) && !bl (f.words.getD 1 ByteArray.empty) w
 else hasW f.words w
def hD9(s:Sch)(dims:List Val)(f:Fil):Bool:=
 let v:=dims.getD (dimW s f.name).1 ⟨ByteArray.empty,false⟩
 if v.null||decide (f.kind=3)then v.null&&decide (f.kind=3)else isWord f v.s
def hW11(s:Sch)(t:Int)(dims:List Val)(f:Fil)(hs:List Bool):Bool:=
 if f.kind=7 then !hs.getD 0 false
 else if f.kind=8 then hs.all id
 else if f.kind=9 then hs.any id
 else if f.kind=6 then sH f.frm f.to t
 else if f.kind=1 then true
 else hD9 s dims f
mutual
def holds(s:Sch)(t:Int)(dims:List Val):Fil->Bool|mk k n w a b l=>hW11 s t dims (mk k n w a b l) (hL9 s t dims l)
def hL9(s:Sch)(t:Int)(dims:List Val):List Fil->List Bool|[]=>[]|f::r=>holds s t dims f::hL9 s t dims r
end
end Fil
end Tess
namespace Go.Proofs.Q9
open Go.RowKit Go.Sort
theorem iS2:(Tryz.prog.info? 9).map (fun i=>(i.zero,i.size,i.bytes))=some (some (.string ByteArray.empty),1,16):=by kernel_rfl
def nV(m _n:Nat)(l:List ByteArray)(k:Nat):List Value:=((l.take k).map (cutN m)).map .string
def nN(m n:Nat)(l:List ByteArray):List ByteArray:=(l.take n).map (cutN m)
theorem ns3(m n:Nat)(l:List ByteArray)(k:Nat)(h:k<l.length)(x:ByteArray)(hx:cutN m l[k]=x):nV m n l k++[.string x]=nV m n l (k+1):=by unfold nV;rw[List.take_succ_eq_append_getElem h,<-hx,List.map_append,List.map_append];rfl
theorem ne2(m n:Nat)(l:List ByteArray)(k:Nat)(h:¬(k<l.length/\k<n))(h1:k<=l.length)(h2:k<=n):nV m n l k=(nN m n l).map .string:=by
 unfold nN nV;by_cases e:k=n
 ·rw[e]
 ·rw[List.take_of_length_le (by omega),List.take_of_length_le (by omega)]
theorem ns2(m n:Nat)(l:List ByteArray)(h:m<=9223372036854775807):∀x∈nN m n l,x.size<=maxLen:=by intro x hx;obtain⟨y,_,rfl⟩:=List.mem_map.1 hx;have:=cNs3 m y;unfold maxLen;omega
def cS4(s:Tess.Sch):Tess.Sch:=⟨nN 30 10 s.dims,nN 30 10 s.mets,s.grain⟩
def SA(p:Nat->Prop)(w:World)(v:Value)(s:Tess.Sch):Prop:=
 ∃vd vm,v = .agg #[vd,vm,.int .i64 s.grain]/\SlP p w vd (s.dims.map .string)/\SlP p w vm (s.mets.map .string)/\(∀x∈s.dims,x.size<=maxLen)/\(∀x∈s.mets,x.size<=maxLen)
theorem SA.ag{p:Nat->Prop}{w w':World}{v:Value}{s:Tess.Sch}(h:SA p w v s)(hg:Ag p w w'):SA p w' v s:=
 let⟨vd,vm,h1,h2,h3,h4,h5⟩:=h;⟨vd,vm,h1,h2.ag hg,h3.ag hg,h4,h5⟩
theorem SA.weak{p q:Nat->Prop}{w:World}{v:Value}{s:Tess.Sch}(h:SA p w v s)(hpq:∀b,p b->q b):SA q w v s:=
 let⟨vd,vm,h1,h2,h3,h4,h5⟩:=h;⟨vd,vm,h1,h2.weak hpq,h3.weak hpq,h4,h5⟩
structure Cs(B:Nat)(vd vm:Value)(g:Int)(od om:Value)(w W:World):Prop where
 k1:W.heap[B]?=some (.cells #[vd,vm,.int .i64 g] 24 (0,0))
 k2:W.heap[B+1]?=some (.cells #[.slice none 0 0,.slice none 0 0,.int .i64 0] 24 (0,0))
 k3:W.heap[B+2]?=some (.cells #[od,om,.int .i64 0] 24 (0,0))
 below:Below w.heap.size w W
 size:w.heap.size=B
section
variable {B:Nat} {vd vm od om od':Value} {g:Int} {w W W':World}
theorem Cs.later(h:Cs B vd vm g od om w W)(hb:Below W.heap.size W W')(hs:B+2<W.heap.size):Cs B vd vm g od om w W':=
 ⟨(hb.block _ (by omega)).trans h.k1,(hb.block _ (by omega)).trans h.k2,(hb.block _ (by omega)).trans h.k3,Bt h.below hb,h.size⟩
theorem Cs.grown(h:Cs B vd vm g od om w W){o:Option Nat}(hg:W.grownBy W' o)(ho:∀k,o=some k->B+3<=k)(hs:B+2<W.heap.size):Cs B vd vm g od om w W':=
 ⟨(hg.block _ (by omega) (fun e=>by have:=ho _ e.symm;omega)).trans h.k1,(hg.block _ (by omega) (fun e=>by have:=ho _ e.symm;omega)).trans h.k2,(hg.block _ (by omega) (fun e=>by have:=ho _ e.symm;omega)).trans h.k3,
   h.below.grown hg h.below.size (fun k e=>by have:=ho k e;have:=h.size;omega),h.size⟩
theorem Cs.set0(h:Cs B vd vm g od om w W)(od':Value):Cs B vd vm g od' om w (W.setCell ⟨B+2,0,none⟩ od'):=
 ⟨(heap_setCell_other _ _ _ _ (by show _≠B+2;omega)).trans h.k1,(heap_setCell_other _ _ _ _ (by show _≠B+2;omega)).trans h.k2,heap_setCell_same _ _ _ _ _ _ h.k3,h.below.setCell (by show _<=B+2;have:=h.size;omega) _,h.size⟩
theorem Cs.set1(h:Cs B vd vm g od om w W)(om':Value):Cs B vd vm g od om' w (W.setCell ⟨B+2,1,none⟩ om'):=
 ⟨(heap_setCell_other _ _ _ _ (by show _≠B+2;omega)).trans h.k1,(heap_setCell_other _ _ _ _ (by show _≠B+2;omega)).trans h.k2,heap_setCell_same _ _ _ _ _ _ h.k3,h.below.setCell (by show _<=B+2;have:=h.size;omega) _,h.size⟩
end
theorem cSa(v:Value)(s:Tess.Sch)(w:World)(p:Nat->Prop)(hv:SA p w v s) :
  Calls Tryz.prog 8 #[v] w fun e w'=>∃v',e = .returned v'/\SA (fun b=>w.heap.size<=b) w' v' (cS4 s)/\Below w.heap.size w w':=by
 obtain⟨vd,vm,rfl,hd,hm,As,Aq⟩:=hv;obtain⟨ds,ms,g⟩:=s;simp only at hd hm As Aq;obtain⟨ad,Ae,rfl,Bs,A2⟩:=so2 hd.1;obtain⟨am,Ad,rfl,Br,Bc⟩:=so2 hm.1;have Bf:=Hd A2;have Bi:=Hd Bc;have Bm:=Hd As;have Bk:=Hd Aq;clear A2 Bc hd hm As Aq;obtain⟨i0,hi,A3,Ba,A7⟩:=info_parts iS2;go_enter Tryz.func8,Tryz.ntmps8;go_wp2
 obtain⟨W0,Am⟩:=XQ (((w.alloc (.cells #[.slice ad ds.length Ae,.slice am ms.length Ad,.int .i64 g] 24)).alloc (.cells #[.slice none 0 0,.slice none 0 0,.int .i64 0] 24)).alloc (.cells #[.slice none 0 0,.slice none 0 0,.int .i64 0] 24))
 have Ap:Cs w.heap.size (.slice ad ds.length Ae) (.slice am ms.length Ad) g (.slice none 0 0) (.slice none 0 0) w W0:=by rw[<-Am];obtain⟨a1,a2,a3,a4,a5⟩:=la5 w (.cells #[.slice ad ds.length Ae,.slice am ms.length Ad,.int .i64 g] 24) (.cells #[.slice none 0 0,.slice none 0 0,.int .i64 0] 24) (.cells #[.slice none 0 0,.slice none 0 0,.int .i64 0] 24);exact⟨a1,a2,a3,a5,rfl⟩
 have A4:W0.heap.size=w.heap.size+3:=by rw[<-Am];simp
 rw[Am];clear Am;obtain⟨B,Au⟩:=XQ w.heap.size
 have Al:=Hd Au;rw[Au]at Ap A4⊢;clear Au;go_loopw [4] (fun i wr=>∃(k:Nat) (od:Value),k<=ds.length/\k<=10/\i = .int .i64 k/\Cs B (.slice ad ds.length Ae) (.slice am ms.length Ad) g od (.slice none 0 0) w wr/\wr.ownsRow (B+3) 9 1 od k (nV 30 10 ds k)/\B+3<=wr.heap.size) (fun i _=>10-(intOf i).toNat)
 case atStart=>exact⟨0,_,Nat.zero_le _,Nat.zero_le _,rfl,Ap,by simpa[nV]using World.ownsRow_nil W0 (B+3) 9 1,by omega⟩
 case round=>
  obtain⟨k,od,hk,Ai,rfl,hC,Af,Bo⟩:=hrel;have HC:=Hd hC;have HO:=Hd Af;clear hC Af Ap A4;have c1:=cell_of_row wr B 0 _ _ _ HC.out.k1;have c3:=cell_of_row wr (B+1+1) 0 _ _ _ HC.out.k3;have z3:=frozen_of_row wr (B+1+1) 0 _ _ HC.out.k3;simp only[List.getElem?_toArray,List.getElem?_cons_zero]at c1 c3;have s1:B<wr.heap.size:=by omega
  have s3:B+1+1<wr.heap.size:=by omega
  by_cases hlt:k<ds.length/\k<10
  ·obtain⟨h1,h2⟩:=hlt;obtain⟨b,Ak,rfl,hb,Ac⟩:=Bf.out k h1;have Bn:wr.cell? ⟨b,Ak+k,none⟩=some (.string ds[k]):=(HC.out.below.cell (p:=⟨b,Ak+k,none⟩) (Al.out▸hb)).trans Ac;have Bu:ds[k].size<=9223372036854775807:=Bm.out _ (List.getElem_mem h1);have Bj:b<wr.heap.size:=Nat.lt_of_lt_of_le hb HC.out.below.size;clear Ac hb;go_wp2;obtain⟨x,hx⟩:=Xq (cutN 30 ds[k])
   have HX:=Hd hx;clear hx;rcases (show((30:Int)<(ds[k].size:Int)/\(¬(ds[k].size:Int)<=30/\(30:Int)<=(ds[k].size:Int)))∨(¬(30:Int)<(ds[k].size:Int)/\(ds[k].size:Int)<=30) by omega)with⟨Ax,Av⟩|⟨Ax,Av⟩
   all_goals
    refine Flow.wrf 16 (Flow.sp3 [.inl ?_,.inl ?_,.inl ?_,.inl ?_,.inl ?_,.inl ?_,.inl ?_,.inl ?_,.inl ?_,.inl ?_,.inl ?_,.inl ?_,.inl ?_,.inl ?_,.inl ?_,.inr (nO2 (.string x))]) (by kernel_rfl) (by kernel_rfl) ?_ ?_;rotate_left 15
    ·refine Flow.sm2 ?_
     repeat(first|exact Flow.ln2|refine Flow.li2 ?_|refine Flow.li3 (nOm _) ?_)
    all_goals try simp only[List.take_succ_cons,List.take_zero,List.drop_succ_cons,List.drop_zero]
    iterate 15 (refine Flow.tvK rfl (fun K hK=>⟨fun w hw hG=>?_,?_⟩);(have Bl:=Flow.bc4 hw;clear hG hw;unfold Flow.Runs Flow.yields;go_simp;try rfl);go_simp;refine hK _ ?_;clear hK K)
    (refine Flow.tvK2 rfl (fun K hK=>⟨fun w hw hG=>?_,?_⟩);(clear hG hw;unfold Flow.Runs Flow.yields;go_simp;refine⟨(Below.refl _ _).alloc (Nat.le_refl _) _,?_⟩;rw[HX.out]);rotate_left;intro vz;go_simp;refine hK _ _ ?_;clear hK K;rotate_left)
    ·first|exact nOm2 _ _ _|(rw[cNs _ _ (by omega)];exact nOm2 _ _ _)
    refine Flow.tn2 fun w2 hw2 hG=>?_;obtain⟨gn,rfl,Be,Ay⟩:=(show nO2 (.string x) vz w2 by simpa[Flow.upd]using hG 15)
    clear hG;have Aj:=Hd (ob2 HO.out hw2);have HE:=Hd (ns3 30 10 ds k h1 x HX.out.symm);have At:=Hd (HC.out.later hw2 (by omega));have A0:=hw2.size;go_wp2_with (at_builtin;refine wpList_append_own _ rfl _ _ 22 rfl (B+3) 9 i0 (.string ByteArray.empty) 1 16 Tryz.underlying22 hi A3 Ba A7 rfl (by decide) _ _ _ rfl Aj.out ⟨gn,0,none⟩ 1 1 [.string x] rfl rfl ?_ ?_ ?_ ?_ ?_ ?_)
    ·intro j u hj;rcases j with _|j<;>simp at hj;subst hj;simpa[Addr.add]using Ay
    ·simp[Value.oneCell']
    ·unfold maxLen;omega
    ·omega
    ·omega
    intro v' w3 Ab Aa _;obtain⟨gg,cp,rfl,_⟩:=oc2 Ab (by omega);have Ah:=Hd (At.out.grown Aa (fun j e=>(Aj.out.lt j e).1) (by omega));have Ao:=Hd (jo Ab HE.out);have Aw:=Aa.size;clear Ab Aa;have z3:=frozen_of_row w3 (B+1+1) 0 _ _ Ah.out.k3;have c3:=cell_of_row w3 (B+1+1) 0 _ _ _ Ah.out.k3;simp only[List.getElem?_toArray,List.getElem?_cons_zero]at c3;go_wp2;go_roundw
    case rel=>exact⟨k+1,_,by omega,by omega,by go_num,Ah.out.set0 _,ownsRow_setCell_below Ao.out (by show B+1+1<_;omega) _,by simp[World.setCell];omega⟩
    case measure=>simp[intOf];omega
  ·have HE:=Hd (ne2 30 10 ds k (by omega) hk Ai);have Ar:=Hd ((SlP.owned (HE.out▸HO.out)).lt);obtain⟨N1,Az⟩:=Xq wr.heap.size
   rw[<-Az]at Ar;have A6:=Hd Az;clear Az;obtain⟨wo,rfl⟩:=Xq (wr:World)
   have A8:=Hd HC.out;clear HO HE HC;rcases (show(¬(k:Int)<(ds.length:Int))∨((k:Int)<(ds.length:Int)/\¬(k:Int)<10) by omega)with An|⟨Bd,An⟩
   all_goals
    clear hlt;go_wp2;go_loopw [5] (fun i wq=>∃(k:Nat) (om:Value),k<=ms.length/\k<=10/\i = .int .i64 k/\Cs B (.slice ad ds.length Ae) (.slice am ms.length Ad) g od om w wq/\wq.ownsRow N1 9 1 om k (nV 30 10 ms k)/\SlP (fun b=>B+3<=b/\b<N1) wq od ((nN 30 10 ds).map .string)/\N1<=wq.heap.size) (fun i _=>10-(intOf i).toNat)
    case atStart=>exact⟨0,_,Nat.zero_le _,Nat.zero_le _,rfl,A8.out,by simpa[nV]using World.ownsRow_nil wo N1 9 1,Ar.out,by rw[A6.out];exact Nat.le_refl _⟩
    case round=>
     have Bt:B+3<=N1:=by rw[A6.out];exact Bo
     clear Ar A8 An c1 c3 z3 s1 s3;obtain⟨k,om,hk,Ai,rfl,hC,Af,hP,Bg⟩:=hrel;have HC:=Hd hC;have HO:=Hd Af;have HP:=Hd hP;clear hC Af hP;have c1:=cell_of_row wr B 1 _ _ _ HC.out.k1;have c3:=cell_of_row wr (B+1+1) 1 _ _ _ HC.out.k3;have z3:=frozen_of_row wr (B+1+1) 1 _ _ HC.out.k3;simp only[List.getElem?_toArray,List.getElem?_cons_succ,List.getElem?_cons_zero]at c1 c3;have s1:B<wr.heap.size:=by omega
     have s3:B+1+1<wr.heap.size:=by omega
     by_cases hlt:k<ms.length/\k<10
     ·obtain⟨h1,h2⟩:=hlt;obtain⟨b,Ak,rfl,hb,Ac⟩:=Bi.out k h1;have Bn:wr.cell? ⟨b,Ak+k,none⟩=some (.string ms[k]):=(HC.out.below.cell (p:=⟨b,Ak+k,none⟩) (Al.out▸hb)).trans Ac;have Bq:ms[k].size<=9223372036854775807:=Bk.out _ (List.getElem_mem h1);have Bj:b<wr.heap.size:=Nat.lt_of_lt_of_le hb HC.out.below.size;clear Ac hb;go_wp2;obtain⟨x,hx⟩:=Xq (cutN 30 ms[k])
      have HX:=Hd hx;clear hx;rcases (show((30:Int)<(ms[k].size:Int)/\(¬(ms[k].size:Int)<=30/\(30:Int)<=(ms[k].size:Int)))∨(¬(30:Int)<(ms[k].size:Int)/\(ms[k].size:Int)<=30) by omega)with⟨Ax,Av⟩|⟨Ax,Av⟩
      all_goals
       refine Flow.wrf 16 (Flow.sp3 [.inl ?_,.inl ?_,.inl ?_,.inl ?_,.inl ?_,.inl ?_,.inl ?_,.inl ?_,.inl ?_,.inl ?_,.inl ?_,.inl ?_,.inl ?_,.inl ?_,.inl ?_,.inr (nO2 (.string x))]) (by kernel_rfl) (by kernel_rfl) ?_ ?_;rotate_left 15
       ·refine Flow.sm2 ?_
        repeat(first|exact Flow.ln2|refine Flow.li2 ?_|refine Flow.li3 (nOm _) ?_)
       all_goals try simp only[List.take_succ_cons,List.take_zero,List.drop_succ_cons,List.drop_zero]
       iterate 15 (refine Flow.tvK rfl (fun K hK=>⟨fun w hw hG=>?_,?_⟩);(have Bl:=Flow.bc4 hw;clear hG hw;unfold Flow.Runs Flow.yields;go_simp;try rfl);go_simp;refine hK _ ?_;clear hK K)
       (refine Flow.tvK2 rfl (fun K hK=>⟨fun w hw hG=>?_,?_⟩);(clear hG hw;unfold Flow.Runs Flow.yields;go_simp;refine⟨(Below.refl _ _).alloc (Nat.le_refl _) _,?_⟩;rw[HX.out]);rotate_left;intro vz;go_simp;refine hK _ _ ?_;clear hK K;rotate_left)
       ·first|exact nOm2 _ _ _|(rw[cNs _ _ (by omega)];exact nOm2 _ _ _)
       refine Flow.tn2 fun w2 hw2 hG=>?_;obtain⟨gn,rfl,Be,Ay⟩:=(show nO2 (.string x) vz w2 by simpa[Flow.upd]using hG 15)
       clear hG;have Aj:=Hd (ob2 HO.out hw2);have HE:=Hd (ns3 30 10 ms k h1 x HX.out.symm);have At:=Hd (HC.out.later hw2 (by omega));have A0:=hw2.size;go_wp2_with (at_builtin;refine wpList_append_own _ rfl _ _ 22 rfl N1 9 i0 (.string ByteArray.empty) 1 16 Tryz.underlying22 hi A3 Ba A7 rfl (by decide) _ _ _ rfl Aj.out ⟨gn,0,none⟩ 1 1 [.string x] rfl rfl ?_ ?_ ?_ ?_ ?_ ?_)
       ·intro j u hj;rcases j with _|j<;>simp at hj;subst hj;simpa[Addr.add]using Ay
       ·simp[Value.oneCell']
       ·unfold maxLen;omega
       ·omega
       ·omega
       intro v' w3 Ab Aa _;obtain⟨gg,cp,rfl,_⟩:=oc2 Ab (by omega);have Ah:=Hd (At.out.grown Aa (fun j e=>by have:=(Aj.out.lt j e).1;omega) (by omega));have Ao:=Hd (jo Ab HE.out);have Aw:=Aa.size;have Bh:=Hd ((HP.out.ag (Ag.new _ hw2)).ag (Ag.grown Aa (fun j e=>by have:=(Aj.out.lt j e).1;rintro⟨_,h⟩;omega)));clear Ab Aa;have z3:=frozen_of_row w3 (B+1+1) 1 _ _ Ah.out.k3
       have c3:=cell_of_row w3 (B+1+1) 1 _ _ _ Ah.out.k3;simp only[List.getElem?_toArray,List.getElem?_cons_succ,List.getElem?_cons_zero]at c3;go_wp2;go_roundw
       case rel=>exact⟨k+1,_,by omega,by omega,by go_num,Ah.out.set1 _,ownsRow_setCell_below Ao.out (by show B+1+1<_;omega) _,Bh.out.ag (Ag.set _ _ _ (by rintro⟨h,_⟩;have:B+3<=B+1+1:=h;omega)),by simp[World.setCell];omega⟩
       case measure=>simp[intOf];omega
     ·have HE:=Hd (ne2 30 10 ms k (by omega) hk Ai);have HQ:=Hd ((SlP.owned (HE.out▸HO.out)).weak (q:=fun b=>B+3<=b) (fun b hb=>by have:N1<=b:=hb;omega));obtain⟨ao,no,co,rfl⟩:=HP.out.shape;obtain⟨A5,A9,A1,rfl⟩:=HQ.out.shape;have c2:=cell_of_row wr B 2 _ _ _ HC.out.k1;have d0:=cell_of_row wr (B+1+1) 0 _ _ _ HC.out.k3;have d2:=cell_of_row wr (B+1+1) 2 _ _ _ HC.out.k3
      have z2:=frozen_of_row wr (B+1+1) 2 _ _ HC.out.k3;have y0:=frozen_of_row wr (B+1) 0 _ _ HC.out.k2;have y1:=frozen_of_row wr (B+1) 1 _ _ HC.out.k2;have y2:=frozen_of_row wr (B+1) 2 _ _ HC.out.k2;have e0:=cell_of_row wr (B+1) 0 _ _ _ HC.out.k2;have e1:=cell_of_row wr (B+1) 1 _ _ _ HC.out.k2;have e2:=cell_of_row wr (B+1) 2 _ _ _ HC.out.k2
      simp only[List.getElem?_toArray,List.getElem?_cons_succ,List.getElem?_cons_zero]at c2 d0 d2 e0 e1 e2;rcases (show(¬(k:Int)<(ms.length:Int))∨((k:Int)<(ms.length:Int)/\¬(k:Int)<10) by omega)with An|⟨Bd,An⟩
      all_goals
       clear hlt;go_wp2
       have Bb:∀q:Nat->Prop,¬q (B+1+1)->¬q (B+1)->Ag q wr ((((wr.setCell ⟨B+1+1,2,none⟩ (.int .i64 g)).setCell ⟨B+1,0,none⟩ (.slice ao no co)).setCell ⟨B+1,1,none⟩ (.slice A5 A9 A1)).setCell ⟨B+1,2,none⟩ (.int .i64 g)):=
        fun q h2 h1=>(((Ag.set q _ _ h2).trans (Ag.set q _ _ h1)).trans (Ag.set q _ _ h1)).trans (Ag.set q _ _ h1)
       refine bodyPost_ret (v:=.agg #[.slice ao no co,.slice A5 A9 A1,.int .i64 g]) (by simp[results,Tryz.results8,go_sem,e0,e1,e2]) rfl ⟨_,rfl,⟨_,_,rfl,?_,?_,?_,?_⟩,?_⟩
       ·exact((HP.out.ag (Bb _ (by omega) (by omega))).weak fun b hb=>by have:=Al.out;omega)
       ·exact((HQ.out.ag (Bb _ (by omega) (by omega))).weak fun b hb=>by have:=Al.out;omega)
       ·exact ns2 30 10 ds (by omega)
       ·exact ns2 30 10 ms (by omega)
       ·have Bp:=Al.out;exact(((HC.out.below.setCell (by show _<=B+1+1;omega) _).setCell (by show _<=B+1;omega) _).setCell (by show _<=B+1;omega) _).setCell (by show _<=B+1;omega) _
