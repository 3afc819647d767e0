/- Joined. -/
import Derived.Test.YtjdccifdkjnknaaGreatDoorZC03
import Derived.Lib.Bytealg
namespace Go.Proofs.Q9
open Go.RowKit Go.Sort
section
variable {p:Nat->Prop} {w:World} {v:Value}
theorem RA.shape{α:Type}{k:Nat}{f:α->List Value}{l:List α}(h:RA k f p w v l):∃a cap,v = .slice a l.length cap:=let⟨a,cap,hv,_⟩:=h;⟨a,cap,hv⟩
end
end Go.Proofs.Q9
namespace Tess
open Go Kl
open Go.Lib (compareBytes)
theorem cmpB:∀(a b:List UInt8),(compareBytes a b<0↔a<b)/\(compareBytes a b=0↔a=b)/\(0<compareBytes a b↔b<a)
 |[],[]=>by simp[compareBytes]
 |[],_::_=>by simp[compareBytes]
 |_::_,[]=>by simp[compareBytes]
 |a::l,b::m=>by
   have ih:=cmpB l m;rw[compareBytes];split
   ·rename_i h;refine⟨⟨fun _=>yM.2 (.inl h),(fun _=>by decide)⟩,⟨(fun e=>by cases e),fun e=>?_⟩,⟨(fun e=>by cases e),fun e=>?_⟩⟩
    ·cases e;exact absurd h (xY _)
    ·rcases yM.1 e with h'|⟨h',_⟩
     ·exact absurd (UInt8.lt_trans h h') (xY _)
     ·subst h';exact absurd h (xY _)
   split
   ·rename_i h0 h;refine⟨⟨(fun e=>by cases e),fun e=>?_⟩,⟨(fun e=>by cases e),fun e=>?_⟩,⟨fun _=>yM.2 (.inl h),fun _=>by decide⟩⟩
    ·rcases yM.1 e with h'|⟨h',_⟩
     ·exact absurd h' h0
     ·subst h';exact absurd h (xY _)
    ·cases e;exact absurd h (xY _)
   ·rename_i h0 h1
    have e:a=b:=by rw[UInt8.lt_iff_toNat_lt]at h0 h1;exact xW.1 (by omega)
    subst e;refine⟨ih.1.trans ⟨fun h=>yM.2 (.inr ⟨rfl,h⟩),fun h=>?_⟩,ih.2.1.trans ⟨fun h=>by rw[h],fun h=>by cases h;rfl⟩,ih.2.2.trans ⟨fun h=>yM.2 (.inr ⟨rfl,h⟩),fun h=>?_⟩⟩
    ·rcases yM.1 h with h'|⟨_,h'⟩
     ·exact absurd h' (xY _)
     ·exact h'
    ·rcases yM.1 h with h'|⟨_,h'⟩
     ·exact absurd h' (xY _)
     ·exact h'
def cmpV(a b:Val):Int:=if a.null&&b.null then 0 else if a.null then -1 else if b.null then 1 else compareBytes a.s.data.toList b.s.data.toList
theorem cVc(a b:Val):(cmpV a b<0↔vLt a.c b.c=true)/\(cmpV a b=0↔a.c=b.c)/\(0<cmpV a b↔vLt b.c a.c=true):=by
 obtain⟨x,m⟩:=a;obtain⟨y,n⟩:=b;cases m<;>cases n
 ·have h:=cmpB x.data.toList y.data.toList;simp only[cmpV,Val.c,Bool.and_self,Bool.false_eq_true,qBi,vLt,blT,qn,xf,jn];refine⟨h.1,h.2.1.trans ⟨fun e=>yF (yG.1 e),fun e=>by rw[e]⟩,h.2.2⟩
 ·simp[cmpV,Val.c,vLt]
 ·simp[cmpV,Val.c,vLt]
 ·simp[cmpV,Val.c,vLt]
def cV3:List Val->List Val->Int
 |[],[]=>0
 |[],_::_=> -1
 |_::_,[]=>1
 |a::l,b::m=>if cmpV a b=0 then cV3 l m else cmpV a b
theorem cVl:∀(l m:List Val),decide (cV3 l m<0)=lex vLt (l.map Val.c) (m.map Val.c)
 |[],[]=>rfl
 |[],_::_=>rfl
 |_::_,[]=>rfl
 |a::l,b::m=>by
   obtain⟨h1,h2,h3⟩:=cVc a b;rw[cV3,jN,jN,lex];split
   ·rename_i h;rw[h2.1 h,vs6.irr,cVl l m];simp
   ·rename_i h;rcases Int.lt_or_gt_of_ne h with h'|h'
    ·rw[h1.1 h',decide_eq_true h'];simp
    ·have:vLt a.c b.c=false:=by
      cases hv:vLt a.c b.c
      ·rfl
      ·have:=h1.2 hv;omega
     rw[this,h3.1 h',qG (by omega)];simp
theorem cVd{l m:List Val}{k:Nat}(h1:k<l.length)(h2:k<m.length):cV3 (l.drop k) (m.drop k)=if cmpV l[k] m[k]=0 then cV3 (l.drop (k+1)) (m.drop (k+1))else cmpV l[k] m[k]:=by rw[zv h1,zv h2,cV3]
end Tess
namespace Go.Proofs.Q9
open Go.RowKit Go.Sort
theorem can3{W:World}{B:Nat}{t:TypeId}{x0 x1 x2:Value}(h:W.heap[B]?=some (.cells #[x0,x1,x2] t (0,0))) :
  (W.cell? ⟨B,0,none⟩=some x0/\W.cell? ⟨B,1,none⟩=some x1/\W.cell? ⟨B,2,none⟩=some x2)/\W.frozen? ⟨B,0,none⟩=false/\W.frozen? ⟨B,1,none⟩=false/\W.frozen? ⟨B,2,none⟩=false:=
 ⟨⟨qT _ _ 0 _ _ _ h,qT _ _ 1 _ _ _ h,qT _ _ 2 _ _ _ h⟩,zY _ _ 0 _ _ h,zY _ _ 1 _ _ h,zY _ _ 2 _ _ h⟩
theorem can6{W:World}{B:Nat}{t:TypeId}{x0 x1 x2 x3 x4 x5:Value}(h:W.heap[B]?=some (.cells #[x0,x1,x2,x3,x4,x5] t (0,0))) :
  (W.cell? ⟨B,0,none⟩=some x0/\W.cell? ⟨B,1,none⟩=some x1/\W.cell? ⟨B,2,none⟩=some x2/\W.cell? ⟨B,3,none⟩=some x3/\W.cell? ⟨B,4,none⟩=some x4/\W.cell? ⟨B,5,none⟩=some x5) /\
   W.frozen? ⟨B,0,none⟩=false/\W.frozen? ⟨B,1,none⟩=false/\W.frozen? ⟨B,2,none⟩=false/\W.frozen? ⟨B,3,none⟩=false/\W.frozen? ⟨B,4,none⟩=false/\W.frozen? ⟨B,5,none⟩=false:=
 ⟨⟨qT _ _ 0 _ _ _ h,qT _ _ 1 _ _ _ h,qT _ _ 2 _ _ _ h,qT _ _ 3 _ _ _ h,qT _ _ 4 _ _ _ h,qT _ _ 5 _ _ _ h⟩,zY _ _ 0 _ _ h,zY _ _ 1 _ _ h,zY _ _ 2 _ _ h,zY _ _ 3 _ _ h,zY _ _ 4 _ _ h,zY _ _ 5 _ _ h⟩
end Go.Proofs.Q9
namespace Go.FlX
open Go Go.RowKit
open Go.Flow (yields ym woy dep nd2)
abbrev Spec:=Option (Value ⊕ (Value->Nat->Nat->World->Prop))
def Spec.holds:Spec->Value->Nat->Nat->World->Prop
 |some (.inl u),v,_,_,_=>v=u
 |some (.inr V),v,s,e,w=>V v s e w
 |none,_,_,_,_=>True
def Spec.ok(P:Program)(w0:World)(s:Spec)(o:Oper)(a:Act)(v:Value):Prop:=match s with
 |some (.inl u)=>v=u
 |some (.inr _)=>True
 |none=>∀u,(execOp a.eval o).run P w0 = .ok (.value u) w0->v=u
abbrev Ctx:=Nat->Nat->Nat->World->Prop
def Mono(p:Nat->Nat->World->Prop):Prop:=∀s e w w',p s e w->Below w.heap.size w w'->p s e w'
def Spec.mono(s:Spec):Prop:=∀v,Mono (s.holds v)
theorem mi(u:Value):Spec.mono (some (.inl u)):=fun _ _ _ _ _ h _=>h
theorem mn2:Spec.mono none:=fun _ _ _ _ _ h _=>h
section
variable {P:Program} {ops:Array Oper}
def Runs(P:Program)(ops:Array Oper)(w0:World)(o:Oper)(s:Spec)(a:Act)(w:World):Prop:=
 if Region.wanted o (yielded ops a.tmps)then yields P o a.eval w (fun v w'=>Below w.heap.size w w'/\s.ok P w0 o a v/\s.holds v w.heap.size w'.heap.size w')else s.ok P w0 o a undef/\s.holds undef w.heap.size w.heap.size w
def Ru(P:Program)(ops:Array Oper)(w0:World)(o:Oper)(s:Spec)(a:Act)(Γ:Ctx):Prop:=
 ∀w,Below w0.heap.size w0 w->(∀j,dep o j=true->∃b e,Γ j b e w)->Runs P ops w0 o s a w
def upd(Γ:Ctx)(i:Nat)(p:Nat->Nat->World->Prop):Ctx:=fun j=>if j=i then p else Γ j
theorem upd_ne{Γ:Ctx}{i j:Nat}{p:Nat->Nat->World->Prop}(h:j≠i):upd Γ i p j=Γ j:=by simp[upd,h]
theorem upd_same{Γ:Ctx}{i:Nat}{p:Nat->Nat->World->Prop}:upd Γ i p i=p:=by simp[upd]
theorem uc2{Γ:Ctx}{i j:Nat}{p q:Nat->Nat->World->Prop}(h:j≠i):upd (upd Γ i p) j q=upd (upd Γ j q) i p:=by
 funext k;unfold upd;by_cases h1:k=j
 ·subst h1;simp[h]
 ·simp[h1]
def fOp(P:Program)(ops:Array Oper)(S:Nat->Spec)(w0:World)(i:Nat)(K:Act->Ctx->Prop)(a:Act)(Γ:Ctx):Prop:=
 match ops[i]? with
 |none=>K a Γ
 |some o=>(∃v,(S i).ok P w0 o a v)/\Ru P ops w0 o (S i) a Γ/\∀v,(S i).ok P w0 o a v->K (a.put o.dst v) (upd Γ i ((S i).holds v))
theorem os6{w0:World}{s:Spec}{o:Oper}{a a':Act}{v:Value}(he:execOp a'.eval o=execOp a.eval o):s.ok P w0 o a' v↔s.ok P w0 o a v:=by
 unfold Spec.ok;cases s with
 |none=>simp only[he]
 |some x=>cases x<;>exact Iff.rfl
theorem Ru.of_same{w0:World}{o:Oper}{s:Spec}{a a':Act}{Γ Γ':Ctx}(h:Ru P ops w0 o s a Γ)(he:execOp a'.eval o=execOp a.eval o)
  (hw:Region.wanted o (yielded ops a'.tmps)=Region.wanted o (yielded ops a.tmps)) (hg:∀j,dep o j=true->Γ' j=Γ j):Ru P ops w0 o s a' Γ':=by
 intro w hB hG;have:=h w hB (fun j hj=>by rw[<-hg j hj];exact hG j hj);unfold Runs yields at *;simp only[os6 he];rw[he,hw];exact this
def Tree(P:Program)(ops:Array Oper)(S:Nat->Spec)(w0:World)(E:Act->Ctx->Prop):List Oper->Nat->Act->Ctx->Prop
 |[],_,a,Γ=>E a Γ
 |o::rest,i,a,Γ=>(∃v,(S i).ok P w0 o a v)/\Ru P ops w0 o (S i) a Γ/\∀v,(S i).ok P w0 o a v->Tree P ops S w0 E rest (i+1) (a.put o.dst v) (upd Γ i ((S i).holds v))
def aF(P:Program)(ops:Array Oper)(S:Nat->Spec)(w0:World)(n:Nat)(L:Array Bool->Act->Ctx->Prop):Nat->Array Bool->Act->Ctx->Prop
 |0,listed,a,Γ=>L listed a Γ
 |f+1,listed,a,Γ=>Region.ready .any ops listed≠[]/\∀i∈Region.ready .any ops listed,i<n/\fOp P ops S w0 i (aF P ops S w0 n L f (listed.setIfInBounds i true)) a Γ
structure Told(w0:World)(Γ:Ctx)(I:Nat->Nat×Nat)(w:World):Prop where
 holds:∀j,Γ j (I j).1 (I j).2 w
 le:∀j,w0.heap.size<=(I j).1/\(I j).1<=(I j).2/\(I j).2<=w.heap.size
 apart:∀j k,j≠k->(I j).2<=(I k).1∨(I k).2<=(I j).1
theorem Told.step{S:Nat->Spec}{w0 w w':World}{Γ:Ctx}{I:Nat->Nat×Nat}(h:Told w0 Γ I w)(hM:∀j,Mono (Γ j))(hB:Below w0.heap.size w0 w)(i:Nat)(v:Value)(hb:Below w.heap.size w w')
  (hv:(S i).holds v w.heap.size w'.heap.size w'):Told w0 (upd Γ i ((S i).holds v)) (fun j=>if j=i then(w.heap.size,w'.heap.size)else I j) w':=by
 refine⟨fun j=>?_,fun j=>?_,fun j k hjk=>?_⟩
 ·by_cases e:j=i
  ·subst e;rw[upd_same,qR rfl];exact hv
  ·rw[upd_ne e,qH e];exact hM j _ _ _ _ (h.holds j) hb
 ·by_cases e:j=i
  ·rw[qR e];exact⟨hB.size,hb.size,qC _⟩
  ·rw[qH e];exact⟨(h.le j).1,(h.le j).2.1,qt (h.le j).2.2 hb.size⟩
 ·by_cases e:j=i
  ·have ek:k≠i:=fun e2=>hjk (e.trans e2.symm);rw[qR e,qH ek];exact .inr (h.le k).2.2
  ·rw[qH e];by_cases ek:k=i
   ·rw[qR ek];exact .inl (h.le j).2.2
   ·rw[qH ek];exact h.apart j k hjk
theorem mu2{S:Nat->Spec}(hS:∀i,(S i).mono){Γ:Ctx}(hM:∀j,Mono (Γ j))(i:Nat)(v:Value):∀j,Mono (upd Γ i ((S i).holds v) j):=fun j=>by
 by_cases e:j=i
 ·subst e;rw[upd_same];exact hS j v
 ·rw[upd_ne e];exact hM j
theorem wAo{S:Nat->Spec}{w0:World}(hS:∀i,(S i).mono){n g:Nat}{L:Array Bool->Act->Ctx->Prop}{Q:Exit->Act->World->Prop}
  (hL:∀listed a Γ w I,L listed a Γ->Below w0.heap.size w0 w->Told w0 Γ I w->wpAny P .any ops Q g listed a w):∀(f:Nat) (listed:Array Bool) (a:Act) (Γ:Ctx) (w:World) (I:Nat->Nat×Nat),
  aF P ops S w0 n L f listed a Γ->Below w0.heap.size w0 w->Told w0 Γ I w->(∀j,Mono (Γ j))->wpAny P .any ops Q (f+g) listed a w
 |0,_,_,_,_,_,h,hB,hG,_=>by rw[qj];exact hL _ _ _ _ _ h hB hG
 |f+1,listed,a,Γ,w,I,h,hB,hG,hM=>by
   rw[show f+1+g=(f+g)+1 by omega];refine⟨fun h0=>absurd h0 h.1,fun i hi=>?_⟩;have h1:=(h.2 i hi).2;unfold fOp at h1;unfold wpOp;split
   ·rename_i ho;simp only[ho]at h1;exact wAo hS hL f _ _ _ _ _ h1 hB hG hM
   ·rename_i o ho;simp only[ho]at h1;have h2:=h1.2.1 w hB (fun j _=>⟨_,_,hG.holds j⟩);unfold Runs at h2;split
    ·rename_i hw;simp only[hw,jH]at h2;refine .inl (woy (ym ?_ h2));intro v w' ⟨hb,ho,hv⟩;exact wAo hS hL f _ _ _ _ _ (h1.2.2 v ho) (hB.trans (hb.mono hB.size)) (hG.step hM hB i v hb hv) (mu2 hS hM i v)
    ·rename_i hw;simp only[hw]at h2;exact wAo hS hL f _ _ _ _ _ (h1.2.2 undef h2.1) hB (hG.step hM hB i undef (qJ _ _) h2.2) (mu2 hS hM i undef)
theorem aFf{S:Nat->Spec}{w0:World}{n i:Nat}{oi:Oper}{L:Array Bool->Act->Ctx->Prop}(hi:ops[i]?=some oi)(hsel:∀(j:Nat) (o:Oper) cs b,ops[j]?=some o->o.op ≠ .select cs b)
  (hs:Region.sinkB .any ops n=true) (hc:Region.chainB .any ops n=true) (hn:n<ops.size) (hin:i<n)
  (hdone:∀listed a Γ,L listed a Γ->∀j∈Region.ready .any ops listed,n<=j) :
  ∀(f:Nat) (listed:Array Bool) (a:Act) (Γ:Ctx),HeadInv .any ops n listed ->
    (∀j oj,ops[j]?=some oj->j≠i->listed.getD j true=false->(∀e∈oj.after,Region.binds .any e=true->e.on≠i)->oi.apart ops oj=true) ->
    i∈Region.ready .any ops listed->(∃v,(S i).ok P w0 oi a v)->Ru P ops w0 oi (S i) a Γ ->
    (∀v,(S i).ok P w0 oi a v->aF P ops S w0 n L f (listed.setIfInBounds i true) (a.put oi.dst v) (upd Γ i ((S i).holds v)))->aF P ops S w0 n L (f+1) listed a Γ:=by
 intro f
 induction f with
 |zero=>
   intro listed a Γ Ai _ hr Am hy H;obtain⟨v0,Ab⟩:=Am;have Ae:=(jZ.1 hr).1;refine⟨fun h=>(by rw[h]at hr;cases hr),fun j hj=>?_⟩
   have Aj:j<n:=by
    rcases jb j n with h|h
    ·exact h
    ·exact absurd hj (qAy hs hc hn Ai _ i rfl hin Ae j h)
   refine⟨Aj,?_⟩;by_cases hji:j=i
   ·subst hji;unfold fOp;simp only[hi];exact⟨⟨v0,Ab⟩,hy,H⟩
   ·have:=hdone _ _ _ (H v0 Ab) j (jj hj hji);omega
 |succ f ih=>
   intro listed a Γ Ai Aa hr Am hy H;obtain⟨v0,Ab⟩:=Am;have Ae:=(jZ.1 hr).1;refine⟨fun h=>(by rw[h]at hr;cases hr),fun j hj=>?_⟩
   have Aj:j<n:=by
    rcases jb j n with h|h
    ·exact h
    ·exact absurd hj (qAy hs hc hn Ai _ i rfl hin Ae j h)
   refine⟨Aj,?_⟩;by_cases hji:j=i
   ·subst hji;unfold fOp;simp only[hi];exact⟨⟨v0,Ab⟩,hy,H⟩
   ·obtain⟨Ac,oj,Ak,Al⟩:=jZ.1 hj;have An:∀k,listed.getD k true=false->listed.getD k false=true->False:=fun k h1 h0=>by rw[qAr h1]at h0;cases h0
    have Af:∀e∈oj.after,Region.binds .any e=true->e.on≠i:=fun e he hb heq=>An i Ae (by rw[<-heq];exact Al e he hb)
    have Ah:∀e∈oi.after,Region.binds .any e=true->e.on≠j:=fun e he hb heq=>by
     obtain⟨_,o',Ao,Ag⟩:=jZ.1 hr;rw[hi]at Ao;cases Ao
     exact An j Ac (by rw[<-heq];exact Ag e he hb)
    have Aq:=Aa j oj Ak hji Ac Af;obtain⟨h1,h2,h3⟩:=xN Aq
    have Ad:∀k ok,ops[k]?=some ok->k≠i->(listed.setIfInBounds j true).getD k true=false ->
      (∀e∈ok.after,Region.binds .any e=true->e.on≠i)->oi.apart ops ok=true:=fun k ok hk hki Ae hno=>by
     refine Aa k ok hk hki ?_ hno;by_cases hjk:j=k
     ·subst hjk;exact Ac
     ·rw[xP true hjk]at Ae;exact Ae
    have Hj:∀v,(S i).ok P w0 oi a v->(∃u,(S j).ok P w0 oj (a.put oi.dst v) u)/\Ru P ops w0 oj (S j) (a.put oi.dst v) (upd Γ i ((S i).holds v))/\∀u,(S j).ok P w0 oj (a.put oi.dst v) u ->
      aF P ops S w0 n L f ((listed.setIfInBounds i true).setIfInBounds j true) ((a.put oi.dst v).put oj.dst u) (upd (upd Γ i ((S i).holds v)) j ((S j).holds u)):=fun v hv=>by
     have:=((H v hv).2 j (jj hj hji)).2;unfold fOp at this;simpa only[Ak]using this
    unfold fOp;simp only[Ak];have ej:=fun v=>yK oj (fun cs b=>hsel j oj cs b Ak) a oi.dst v h1;have ei:=fun u=>yK oi (fun cs b=>hsel i oi cs b hi) a oj.dst u h3;refine⟨(Hj v0 Ab).1.imp fun u hu=>(os6 (ej v0)).1 hu,(Hj v0 Ab).2.1.of_same (ej v0).symm (yS oj a oi.dst v0 h1).symm (fun k hk=>?_),fun u hu=>?_⟩
    ·exact(upd_ne (nd2 Af hk)).symm
    ·refine ih (listed.setIfInBounds j true) _ _ (Ai.set hj Aj) Ad (jj hr (xR hji)) ⟨v0,(os6 (ei u)).2 Ab⟩ ?_ (fun v hv=>?_)
     ·exact hy.of_same (yK oi (fun cs b=>hsel i oi cs b hi) a oj.dst u h3) (yS oi a oj.dst u h3) (fun k hk=>upd_ne (nd2 Ah hk))
     ·have Ap:=(os6 (ei u)).1 hv;have:=(Hj v Ap).2.2 u ((os6 (ej v)).2 hu);rw[ye _ _ hji,<-yn a v u h2,<-uc2 hji];exact this
theorem aFl{S:Nat->Spec}{w0:World}{n g:Nat}{Lq:Act->Ctx->Prop}(hsel:Region.noSelect ops=true)(hs:Region.sinkB .any ops n=true)(hc:Region.chainB .any ops n=true)(hn:n<ops.size) :
  ∀(l:List Oper) (k:Nat) (listed:Array Bool) (a:Act) (Γ:Ctx),(∀j,j<l.length->l[j]?=ops[k+j]?)->k+l.length=n->HeadInv .any ops n listed ->
  Region.lexHead .any ops g l.length k listed=true->Tree P ops S w0 Lq l k a Γ ->
  aF P ops S w0 n (fun listed' a' Γ'=>Region.seqB .any ops g n listed'=true/\Lq a' Γ') l.length listed a Γ
 |[],k,listed,a,Γ,_,hk,_,hB,h=>by
   have:k=n:=by simpa using hk
   subst this;exact⟨by simpa[Region.lexHead]using hB,h⟩
 |o::l,k,listed,a,Γ,hl,hk,inv,hB,h=>by
   have h0:ops[k]?=some o:=by simpa using(hl 0 (by simp)).symm
   simp only[qU,Region.lexHead,qb]at hB;obtain⟨⟨hr,hf⟩,Ac⟩:=hB;have Ab:k<n:=by simp only[qU]at hk;omega
   have Aa:k∈Region.ready .any ops listed:=by simpa using hr
   exact aFf h0 (yT hsel) hs hc hn Ab (fun listed' a' Γ' hL=>seqB_ready hL.1) l.length listed a Γ inv (yy h0 hf) Aa h.1 h.2.1
    (fun v hv=>aFl hsel hs hc hn l (k+1) _ _ _ (fun j hj=>by have:=hl (j+1) (by simp;omega);simpa[jq,yO 1 j]using this) (by simp only[qU]at hk;omega) (inv.set Aa Ab) Ac (h.2.2 v hv))
theorem wrf{id:Nat}{Q:Exit->Act->World->Prop}{a:Act}{w:World}{l:List Oper}(n:Nat)(S:Nat->Spec)(hm:P.follows .mixedOrders=true)(hB:Region.lexTailB .any l.toArray n=true)(hS:∀i,(S i).mono)
  (h:Tree P l.toArray S w (fun a' Γ=>∀w',Below w.heap.size w w'->(∃I,Told w Γ I w')->wpList P l.toArray Q (l.drop n) a' w') (l.take n) 0 a (fun _ _ _ _=>True)):(Code.region id l.toArray true).wp P Q a w:=by
 simp only[Region.lexTailB,qb,qn]at hB;obtain⟨⟨⟨⟨Ab,hn⟩,hs⟩,hc⟩,Ac⟩:=hB;have Ag:n<l.length:=by simpa using hn
 have Aa:(l.take n).length=n:=by simp;omega
 have Ae:(l.drop n).length=l.toArray.size-n:=by simp
 have Ad:HeadInv .any l.toArray n (Array.replicate l.toArray.size false):=
  ⟨by simp,fun j oj _ hl=>(by rw[jE]at hl;cases hl),fun t _ ht=>getD_in (by simpa using ht) (jE _ _)⟩
 have H:=aFl (g:=l.toArray.size-n) Ab hs hc hn (l.take n) 0 _ a (fun _ _ _ _=>True) (fun j hj=>by
  have Af:j<n:=by rw[Aa]at hj;exact hj
  simp[Af]) (by simpa using Aa) Ad (by rw[Aa];exact Ac) h
 refine qAi hm ?_
 have:=wAo (Q:=Q) (g:=l.toArray.size-n) hS (fun listed a' Γ' w' I hL hb hG=>by
  have:=wpAny_of_seq (md:=.any) (Q':=Q) (l.drop n) n listed a' w' (fun j=>by simp) (by rw[Ae];exact hL.1) (hL.2 w' hb ⟨I,hG⟩)
  rwa [Ae]at this) _ _ _ _ { w with drawn:=w.drawn+1 } (fun _=>(w.heap.size,w.heap.size)) H ((qJ _ _).drew) ⟨fun _=>trivial,fun _=>⟨qC _,qC _,qC _⟩,fun _ _ _=>.inl (qC _)⟩ (fun _ _ _ _ _ _ _=>trivial)
 rw[Aa,show n+(l.toArray.size-n)=l.toArray.size by omega]at this;exact this
theorem tn2{S:Nat->Spec}{w0:World}{E:Act->Ctx->Prop}{i:Nat}{a:Act}{Γ:Ctx}(h:E a Γ):Tree P ops S w0 E [] i a Γ:=h
def sp3(l:List Spec):Nat->Spec:=fun i=>l.getD i none
theorem sm2{l:List Spec}(h:∀s∈l,Spec.mono s):∀i,(sp3 l i).mono:=fun i=>by
 unfold sp3;rcases jb i l.length with h'|h'
 ·rw[qE,qD h'];exact h _ (qP h')
 ·rw[qE,yL h'];exact mn2
def RV(P:Program)(ops:Array Oper)(o:Oper)(u:Value)(a:Act)(w:World):Prop:=
 if Region.wanted o (yielded ops a.tmps)then yields P o a.eval w (fun v w'=>Below w.heap.size w w'/\v=u)else undef=u
def RR2(P:Program)(ops:Array Oper)(o:Oper)(V:Value->Nat->Nat->World->Prop)(a:Act)(w:World):Prop:=
 if Region.wanted o (yielded ops a.tmps)then yields P o a.eval w (fun v w'=>Below w.heap.size w w'/\V v w.heap.size w'.heap.size w')else V undef w.heap.size w.heap.size w
theorem tvK{S:Nat->Spec}{w0:World}{E:Act->Ctx->Prop}{o:Oper}{rest:List Oper}{i:Nat}{a:Act}{Γ:Ctx}{u:Value}(hs:S i=some (.inl u))
  (h:∀K:Act->Prop,(∀a',Tree P ops S w0 E rest (i+1) a' (upd Γ i (fun _ _ _=>True))->K a')->(∀w,Below w0.heap.size w0 w->(∀j,dep o j=true->∃b e,Γ j b e w)->RV P ops o u a w)/\K (a.put o.dst u)):Tree P ops S w0 E (o::rest) i a Γ:=by
 refine⟨by rw[hs];exact⟨u,rfl⟩,?_,fun v hv=>?_⟩
 ·intro w hB hG;have:=(h (fun _=>True) (fun _ _=>trivial)).1 w hB hG;rw[hs];unfold RV at this;unfold Runs;split
  ·rename_i hw;simp only[hw,jH]at this;exact ym (fun v w' h=>⟨h.1,h.2,h.2⟩) this
  ·rename_i hw;simp only[hw]at this;exact⟨this,this⟩
 ·rw[hs]at hv⊢;have Aa:v=u:=hv;subst Aa;have e:Spec.holds (some (.inl v)) v=fun _ _ _=>True:=by funext a b c;simp[Spec.holds]
  rw[e];exact(h (fun a'=>Tree P ops S w0 E rest (i+1) a' (upd Γ i (fun _ _ _=>True))) (fun _ h=>h)).2
theorem tvK2{S:Nat->Spec}{w0:World}{E:Act->Ctx->Prop}{o:Oper}{rest:List Oper}{i:Nat}{a:Act}{Γ:Ctx}{V:Value->Nat->Nat->World->Prop}(hs:S i=some (.inr V))
  (h:∀K:Act->(Nat->Nat->World->Prop)->Prop,(∀a' v,Tree P ops S w0 E rest (i+1) a' (upd Γ i (V v))->K a' (V v))->(∀w,Below w0.heap.size w0 w->(∀j,dep o j=true->∃b e,Γ j b e w)->RR2 P ops o V a w)/\∀v,K (a.put o.dst v) (V v)):Tree P ops S w0 E (o::rest) i a Γ:=by
 refine⟨by rw[hs];exact⟨undef,trivial⟩,?_,fun v _=>?_⟩
 ·intro w hB hG;have:=(h (fun _ _=>True) (fun _ _ _=>trivial)).1 w hB hG;rw[hs];unfold RR2 at this;unfold Runs;split
  ·rename_i hw;simp only[hw,jH]at this;exact ym (fun v w' h=>⟨h.1,trivial,h.2⟩) this
  ·rename_i hw;simp only[hw]at this;exact⟨trivial,this⟩
 ·rw[hs];exact(h (fun a' p=>Tree P ops S w0 E rest (i+1) a' (upd Γ i p)) (fun _ _ h=>h)).2 v
theorem ln2:∀s∈([]:List Spec),s.mono:=fun _ h=>by cases h
theorem li2{u:Value}{l:List Spec}(h:∀s∈l,s.mono):∀s∈(some (.inl u)::l:List Spec),s.mono:=fun s hs=>by
 rcases qm.1 hs with rfl|hs
 ·exact mi u
 ·exact h s hs
theorem li3{V:Value->Nat->Nat->World->Prop}{l:List Spec}(hV:Spec.mono (some (.inr V)))(h:∀s∈l,s.mono):∀s∈(some (.inr V)::l:List Spec),s.mono:=fun s hs=>by
 rcases qm.1 hs with rfl|hs
 ·exact hV
 ·exact h s hs
end
end Go.FlX
namespace Go.FlowR
open Go Go.RowKit
section
variable {R:Rel} {P:Program} {ops:Array Oper}
def aF(R:Rel)(P:Program)(ops:Array Oper)(S:Nat->Value->Spec)(σ:Nat->Nat)(w0:World)(n:Nat)(L:Array Bool->Act->(Nat->World->Prop)->Prop):Nat->Array Bool->Act->(Nat->World->Prop)->Prop
 |0,listed,a,Γ=>L listed a Γ
 |f+1,listed,a,Γ=>Region.ready .any ops listed≠[]/\∀i∈Region.ready .any ops listed,i<n/\fOp R P ops S σ w0 i (aF R P ops S σ w0 n L f (listed.setIfInBounds i true)) a Γ
theorem wAo{S:Nat->Value->Spec}{σ:Nat->Nat}{w0:World}(hS:∀i x,Spec.mono R (S i x)){n g:Nat}{L:Array Bool->Act->(Nat->World->Prop)->Prop}{Q:Exit->Act->World->Prop}
  (hL:∀listed a Γ w,L listed a Γ->R.r w0 w->(∀j,Γ j w)->wpAny P .any ops Q g listed a w):∀(f:Nat) (listed:Array Bool) (a:Act) (Γ:Nat->World->Prop) (w:World),
  aF R P ops S σ w0 n L f listed a Γ->R.r w0 w->(∀j,Γ j w)->(∀j,Mono R (Γ j))->wpAny P .any ops Q (f+g) listed a w
 |0,_,_,_,_,h,hB,hG,_=>by rw[qj];exact hL _ _ _ _ h hB hG
 |f+1,listed,a,Γ,w,h,hB,hG,hM=>by
   rw[show f+1+g=(f+g)+1 by omega];refine⟨fun h0=>absurd h0 h.1,fun i hi=>?_⟩;have h1:=(h.2 i hi).2;unfold fOp at h1;unfold wpOp
   have hM':∀v j,Mono R (upd Γ i ((sp S σ i a).holds v) j):=fun v j=>by
    by_cases e:j=i
    ·subst e;rw[upd_same];exact hS j _ v
    ·rw[upd_ne e];exact hM j
   have hG':∀v w',R.r w w'->(sp S σ i a).holds v w'->∀j,upd Γ i ((sp S σ i a).holds v) j w':=fun v w' hb hv j=>by
    by_cases e:j=i
    ·subst e;rw[upd_same];exact hv
    ·rw[upd_ne e];exact hM j _ _ (hG j) hb
   have hok:∀v w',(sp S σ i a).holds v w'->(sp S σ i a).ok v:=fun v w' hv=>by
    cases hs:sp S σ i a with
    |inl u=>rw[hs]at hv;exact hv
    |inr V=>trivial
   split
   ·rename_i ho;simp only[ho]at h1;exact wAo hS hL f _ _ _ _ h1 hB hG hM
   ·rename_i o ho;simp only[ho]at h1;have h2:=h1.1 w hB (fun j _=>hG j);unfold Runs at h2;split
    ·rename_i hw;simp only[hw,jH]at h2;refine .inl (woy (ym ?_ h2));intro v w' ⟨hb,hv⟩;exact wAo hS hL f _ _ _ _ (h1.2 v (hok v w' hv)) (R.tr hB hb) (hG' v w' hb hv) (hM' v)
    ·rename_i hw;simp only[hw]at h2;exact wAo hS hL f _ _ _ _ (h1.2 undef (hok _ _ h2)) hB (hG' _ _ (R.rf _) h2) (hM' _)
theorem aFf{S:Nat->Value->Spec}{σ:Nat->Nat}{w0:World}{n i:Nat}{oi:Oper}{L:Array Bool->Act->(Nat->World->Prop)->Prop}(hSp:SpOk ops S σ)(hi:ops[i]?=some oi)(hsel:∀(j:Nat) (o:Oper) cs b,ops[j]?=some o->o.op ≠ .select cs b)
  (hs:Region.sinkB .any ops n=true) (hc:Region.chainB .any ops n=true) (hn:n<ops.size) (hin:i<n)
  (hdone:∀listed a Γ,L listed a Γ->∀j∈Region.ready .any ops listed,n<=j) :
  ∀(f:Nat) (listed:Array Bool) (a:Act) (Γ:Nat->World->Prop),HeadInv .any ops n listed ->
    (∀j oj,ops[j]?=some oj->j≠i->listed.getD j true=false->(∀e∈oj.after,Region.binds .any e=true->e.on≠i)->oi.apart ops oj=true) ->
    i∈Region.ready .any ops listed->Ru R P ops w0 oi (sp S σ i a) a Γ ->
    (∀v,(sp S σ i a).ok v->aF R P ops S σ w0 n L f (listed.setIfInBounds i true) (a.put oi.dst v) (upd Γ i ((sp S σ i a).holds v)))->aF R P ops S σ w0 n L (f+1) listed a Γ:=by
 have Ao:∀a,∃v,(sp S σ i a).ok v:=fun a=>by
  cases hs:sp S σ i a with
  |inl u=>exact⟨u,rfl⟩
  |inr V=>exact⟨undef,trivial⟩
 intro f
 induction f with
 |zero=>
   intro listed a Γ Ai _ hr hy H;obtain⟨v0,Ak⟩:=Ao a;have Ad:=(jZ.1 hr).1;refine⟨fun h=>(by rw[h]at hr;cases hr),fun j hj=>?_⟩
   have Aj:j<n:=by
    rcases jb j n with h|h
    ·exact h
    ·exact absurd hj (qAy hs hc hn Ai _ i rfl hin Ad j h)
   refine⟨Aj,?_⟩;by_cases hji:j=i
   ·subst hji;unfold fOp;simp only[hi];exact⟨hy,H⟩
   ·have:=hdone _ _ _ (H v0 Ak) j (jj hj hji);omega
 |succ f ih=>
   intro listed a Γ Ai Aa hr hy H;obtain⟨v0,Ak⟩:=Ao a;have Ad:=(jZ.1 hr).1;refine⟨fun h=>(by rw[h]at hr;cases hr),fun j hj=>?_⟩
   have Aj:j<n:=by
    rcases jb j n with h|h
    ·exact h
    ·exact absurd hj (qAy hs hc hn Ai _ i rfl hin Ad j h)
   refine⟨Aj,?_⟩;by_cases hji:j=i
   ·subst hji;unfold fOp;simp only[hi];exact⟨hy,H⟩
   ·obtain⟨Ab,oj,Ae,Al⟩:=jZ.1 hj;have Am:∀k,listed.getD k true=false->listed.getD k false=true->False:=fun k h1 h0=>by rw[qAr h1]at h0;cases h0
    have Af:∀e∈oj.after,Region.binds .any e=true->e.on≠i:=fun e he hb heq=>Am i Ad (by rw[<-heq];exact Al e he hb)
    have Ah:∀e∈oi.after,Region.binds .any e=true->e.on≠j:=fun e he hb heq=>by
     obtain⟨_,o',An,Ag⟩:=jZ.1 hr;rw[hi]at An;cases An
     exact Am j Ab (by rw[<-heq];exact Ag e he hb)
    have Ap:=Aa j oj Ae hji Ab Af;obtain⟨h1,h2,h3⟩:=xN Ap
    have Ac:∀k ok,ops[k]?=some ok->k≠i->(listed.setIfInBounds j true).getD k true=false ->
      (∀e∈ok.after,Region.binds .any e=true->e.on≠i)->oi.apart ops ok=true:=fun k ok hk hki Ad hno=>by
     refine Aa k ok hk hki ?_ hno;by_cases hjk:j=k
     ·subst hjk;exact Ab
     ·rw[xP true hjk]at Ad;exact Ad
    have ej:∀v,sp S σ j (a.put oi.dst v)=sp S σ j a:=fun v=>sp4 hSp Ae a oi.dst v h1;have ei:∀u,sp S σ i (a.put oj.dst u)=sp S σ i a:=fun u=>sp4 hSp hi a oj.dst u h3
    have Hj:∀v,(sp S σ i a).ok v->Ru R P ops w0 oj (sp S σ j a) (a.put oi.dst v) (upd Γ i ((sp S σ i a).holds v))/\∀u,(sp S σ j a).ok u ->
      aF R P ops S σ w0 n L f ((listed.setIfInBounds i true).setIfInBounds j true) ((a.put oi.dst v).put oj.dst u) (upd (upd Γ i ((sp S σ i a).holds v)) j ((sp S σ j a).holds u)):=fun v hv=>by
     have:=((H v hv).2 j (jj hj hji)).2;unfold fOp at this;simpa only[Ae,ej v]using this
    unfold fOp;simp only[Ae];refine⟨(Hj v0 Ak).1.of_same (yK oj (fun cs b=>hsel j oj cs b Ae) a oi.dst v0 h1).symm (yS oj a oi.dst v0 h1).symm (fun k hk=>?_),fun u hu=>?_⟩
    ·exact(upd_ne (nd2 Af hk)).symm
    ·refine ih (listed.setIfInBounds j true) _ _ (Ai.set hj Aj) Ac (jj hr (xR hji)) ?_ (fun v hv=>?_)
     ·rw[ei u];exact hy.of_same (yK oi (fun cs b=>hsel i oi cs b hi) a oj.dst u h3) (yS oi a oj.dst u h3) (fun k hk=>upd_ne (nd2 Ah hk))
     ·rw[ei u]at hv⊢;have:=(Hj v hv).2 u hu;rw[ye _ _ hji,<-yn a v u h2,<-uc2 hji];exact this
theorem aFl{S:Nat->Value->Spec}{σ:Nat->Nat}{w0:World}{n g:Nat}{Lq:Act->(Nat->World->Prop)->Prop}(hSp:SpOk ops S σ)(hsel:Region.noSelect ops=true)(hs:Region.sinkB .any ops n=true)(hc:Region.chainB .any ops n=true)(hn:n<ops.size) :
  ∀(l:List Oper) (k:Nat) (listed:Array Bool) (a:Act) (Γ:Nat->World->Prop),(∀j,j<l.length->l[j]?=ops[k+j]?)->k+l.length=n->HeadInv .any ops n listed ->
  Region.lexHead .any ops g l.length k listed=true->Tree R P ops S σ w0 Lq l k a Γ ->
  aF R P ops S σ w0 n (fun listed' a' Γ'=>Region.seqB .any ops g n listed'=true/\Lq a' Γ') l.length listed a Γ
 |[],k,listed,a,Γ,_,hk,_,hB,h=>by
   have:k=n:=by simpa using hk
   subst this;exact⟨by simpa[Region.lexHead]using hB,h⟩
 |o::l,k,listed,a,Γ,hl,hk,inv,hB,h=>by
   have h0:ops[k]?=some o:=by simpa using(hl 0 (by simp)).symm
   simp only[qU,Region.lexHead,qb]at hB;obtain⟨⟨hr,hf⟩,Ac⟩:=hB;have Ab:k<n:=by simp only[qU]at hk;omega
   have Aa:k∈Region.ready .any ops listed:=by simpa using hr
   exact aFf hSp h0 (yT hsel) hs hc hn Ab (fun listed' a' Γ' hL=>seqB_ready hL.1) l.length listed a Γ inv (yy h0 hf) Aa h.1
    (fun v hv=>aFl hSp hsel hs hc hn l (k+1) _ _ _ (fun j hj=>by have:=hl (j+1) (by simp;omega);simpa[jq,yO 1 j]using this) (by simp only[qU]at hk;omega) (inv.set Aa Ab) Ac (h.2 v hv))
theorem wrf{id:Nat}{Q:Exit->Act->World->Prop}{a:Act}{w:World}{l:List Oper}(n:Nat)(S:Nat->Value->Spec)(σ:Nat->Nat)(hSp:SpOk l.toArray S σ)(hm:P.follows .mixedOrders=true)(hB:Region.lexTailB .any l.toArray n=true)(hS:∀i x,Spec.mono R (S i x))
  (h:Tree R P l.toArray S σ w (fun a' Γ=>∀w',R.r w w'->(∀j,Γ j w')->wpList P l.toArray Q (l.drop n) a' w') (l.take n) 0 a (fun _ _=>True)):(Code.region id l.toArray true).wp P Q a w:=by
 simp only[Region.lexTailB,qb,qn]at hB;obtain⟨⟨⟨⟨Ab,hn⟩,hs⟩,hc⟩,Ac⟩:=hB;have Ag:n<l.length:=by simpa using hn
 have Aa:(l.take n).length=n:=by simp;omega
 have Ae:(l.drop n).length=l.toArray.size-n:=by simp
 have Ad:HeadInv .any l.toArray n (Array.replicate l.toArray.size false):=
  ⟨by simp,fun j oj _ hl=>(by rw[jE]at hl;cases hl),fun t _ ht=>getD_in (by simpa using ht) (jE _ _)⟩
 have H:=aFl (g:=l.toArray.size-n) hSp Ab hs hc hn (l.take n) 0 _ a (fun _ _=>True) (fun j hj=>by
  have Af:j<n:=by rw[Aa]at hj;exact hj
  simp[Af]) (by simpa using Aa) Ad (by rw[Aa];exact Ac) h
 refine qAi hm ?_
 have:=wAo (Q:=Q) (g:=l.toArray.size-n) hS (fun listed a' Γ' w' hL hb hG=>by
  have:=wpAny_of_seq (md:=.any) (Q':=Q) (l.drop n) n listed a' w' (fun j=>by simp) (by rw[Ae];exact hL.1) (hL.2 w' hb hG)
  rwa [Ae]at this) _ _ _ _ { w with drawn:=w.drawn+1 } H (R.drew _) (fun _=>trivial) (fun _ _ _ _ _=>trivial)
 rw[Aa,show n+(l.toArray.size-n)=l.toArray.size by omega]at this;exact this
end
end Go.FlowR
namespace Go.FlowP
open Go Go.RowKit Go.Flow
def Qn(E:Act->World->Prop):Exit->Act->World->Prop:=fun x a w=>x = .normal/\E a w
theorem nl2(E:Act->World->Prop):¬LetsOut (Qn E):=fun⟨_,_,h,_⟩=>by cases h
section
variable {P:Program} {ops:Array Oper}
theorem uw2{o:Oper}{a:Act}{K K':Act->World->Prop}{Q:Exit->Act->World->Prop}{r:Result Next}(hK:∀b w,K b w->K' b w)(h:o.upon P a K (Qn (Q .normal)) r):o.upon P a K' Q r:=by
 cases r with
 |ok n w'=>
   cases n<;>simp only[Oper.upon]at h⊢
   case value u=>exact hK _ _ h
   case skip=>exact hK _ _ h
   case defer d=>exact hK _ _ h
   case enter f args=>
    refine xL h fun e w'' he=>?_;cases e with
    |returned u=>exact hK _ _ he
    |panicked c=>exact(by cases he.1)
    |outgrown=>exact(nl2 _ he).elim
   case row=>exact Rows.mono h fun u w'' he=>hK _ _ he
 |halt x w'=>
   cases x<;>simp only[Oper.upon]at h⊢
   case panic=>exact(by cases h.1)
theorem wAw{Q:Exit->Act->World->Prop}:∀(fuel:Nat) (listed:Array Bool) (a:Act) (w:World),wpAny P .any ops (Qn (Q .normal)) fuel listed a w->wpAny P .any ops Q fuel listed a w
 |0,_,_,_,h=>⟨h.1,h.2.2⟩
 |fuel+1,listed,a,w,h=>by
   refine⟨fun h0=>(h.1 h0).2,fun i hi=>?_⟩;have h1:=h.2 i hi;unfold wpOp at h1⊢;split
   ·rename_i ho;simp only[ho]at h1;exact wAw fuel _ _ _ h1
   ·rename_i o ho;simp only[ho]at h1;split
    ·rename_i hw;simp only[hw,jH]at h1;rcases h1 with h1|h1
     ·exact .inl (uw2 (fun b w hb=>wAw fuel _ _ _ hb) h1)
     ·exact(nl2 _ h1.2).elim
    ·rename_i hw;simp only[hw]at h1;exact wAw fuel _ _ _ h1
theorem wAp2{E:Act->World->Prop}{i:Nat}{oi:Oper}{v:Value}(hi:ops[i]?=some oi)(hsel:∀(j:Nat) (o:Oper) cs b,ops[j]?=some o->o.op ≠ .select cs b) :
  ∀(fuel:Nat) (listed:Array Bool) (a:Act) (w:World),
    (∀j oj,ops[j]?=some oj->j≠i->listed.getD j true=false->(∀e∈oj.after,Region.binds .any e=true->e.on≠i)->oi.apart ops oj=true) ->
    i∈Region.ready .any ops listed->Region.wanted oi (yielded ops a.tmps)=true->(∀w,(execOp a.eval oi).run P w = .ok (.value v) w) ->
    wpAny P .any ops (Qn E) fuel (listed.setIfInBounds i true) (a.put oi.dst v) w->wpAny P .any ops (Qn E) (fuel+1) listed a w:=by
 intro fuel
 induction fuel with
 |zero=>
   intro listed a w _ hr hw hp H;refine⟨fun h=>(by rw[h]at hr;cases hr),fun j hj=>?_⟩;by_cases hji:j=i
   ·subst hji;unfold wpOp;simp only[hi,hw,jH];refine .inl ?_;unfold Oper.wp;rw[hp];exact H
   ·have:=jj hj hji;rw[H.1]at this;cases this
 |succ fuel ih=>
   intro listed a w Ab hr hw hp H;refine⟨fun h=>(by rw[h]at hr;cases hr),fun j hj=>?_⟩;by_cases hji:j=i
   ·subst hji;unfold wpOp;simp only[hi,hw,jH];refine .inl ?_;unfold Oper.wp;rw[hp];exact H
   ·obtain⟨Ad,oj,Ag,Ae⟩:=jZ.1 hj;have Af:=(jZ.1 hr).1;have Ak:∀k,listed.getD k true=false->listed.getD k false=true->False:=fun k h1 h0=>by rw[qAr h1]at h0;cases h0
    have Ah:∀e∈oj.after,Region.binds .any e=true->e.on≠i:=fun e he hb heq=>Ak i Af (by rw[<-heq];exact Ae e he hb);have Al:=Ab j oj Ag hji Ad Ah;obtain⟨h1,h2,h3⟩:=xN Al
    have Ac:∀k ok,ops[k]?=some ok->k≠i->(listed.setIfInBounds j true).getD k true=false ->
      (∀e∈ok.after,Region.binds .any e=true->e.on≠i)->oi.apart ops ok=true:=fun k ok hk hki hun hno=>by
     refine Ab k ok hk hki ?_ hno;by_cases hjk:j=k
     ·subst hjk;exact Ad
     ·rw[xP true hjk]at hun;exact hun
    have Hj:=H.2 j (jj hj hji);unfold wpOp at Hj⊢;simp only[Ag]at Hj⊢;rw[yS oj a oi.dst v h1]at Hj
    have step:∀(b:Act) (u:Value) (w':World),Region.wanted oi (yielded ops b.tmps)=true->(∀w,(execOp b.eval oi).run P w = .ok (.value v) w)->wpAny P .any ops (Qn E) fuel ((listed.setIfInBounds i true).setIfInBounds j true) (b.put oi.dst v) w'->wpAny P .any ops (Qn E) (fuel+1) (listed.setIfInBounds j true) b w':=fun b u w' hw hp H=>by refine ih (listed.setIfInBounds j true) b w' Ac (jj hr (xR hji)) hw hp ?_;rw[ye _ _ hji];exact H
    split
    ·rename_i hwj;simp only[hwj,jH]at Hj;rcases Hj with Hj|Hj
     ·refine .inl ?_;unfold Oper.wp at Hj⊢;rw[yK oj (fun cs b=>hsel j oj cs b Ag) a oi.dst v h1]at Hj;generalize (execOp a.eval oj).run P w=r at Hj⊢;have Aj:∀u,Region.wanted oi (yielded ops (a.put oj.dst u).tmps)=true:=fun u=>by rw[yS oi a oj.dst u h3];exact hw
      have Ai:∀u w,(execOp (a.put oj.dst u).eval oi).run P w = .ok (.value v) w:=fun u w=>by rw[yK oi (fun cs b=>hsel i oi cs b hi) a oj.dst u h3];exact hp w
      have Aa:∀u w',wpAny P .any ops (Qn E) fuel ((listed.setIfInBounds i true).setIfInBounds j true) ((a.put oi.dst v).put oj.dst u) w'->wpAny P .any ops (Qn E) (fuel+1) (listed.setIfInBounds j true) (a.put oj.dst u) w':=fun u w' h=>
       step _ u w' (Aj u) (Ai u) (by rw[<-yn a v u h2];exact h)
      cases r with
      |ok n w'=>
        cases n<;>simp only[Oper.upon]at Hj⊢
        case value u=>exact Aa _ _ Hj
        case skip=>exact Aa _ _ Hj
        case defer d=>
         have e1:(({ a with defers:=d::a.defers }:Act).put oj.dst undef).tmps=(a.put oj.dst undef).tmps:=by cases oj.dst<;>rfl
         have e2:(({ a with defers:=d::a.defers }:Act).put oj.dst undef).eval=(a.put oj.dst undef).eval:=by funext x;cases oj.dst<;>cases x<;>rfl
         refine step _ undef w' (by rw[e1];exact Aj undef) (fun w=>by rw[e2];exact Ai undef w) ?_;rw[<-yn _ v undef h2];have:(({ a with defers:=d::a.defers }:Act).put oi.dst v)={ (a.put oi.dst v)with defers:=d::(a.put oi.dst v).defers }:=by cases oi.dst<;>rfl
         rw[this];exact Hj
        case enter f args=>
         refine xL Hj fun e w'' he=>?_;cases e with
         |returned u=>exact Aa _ _ he
         |panicked c=>exact(by cases he.1)
         |outgrown=>exact(nl2 E he).elim
        case row=>exact Rows.mono Hj fun u w'' he=>Aa _ _ he
      |halt x w'=>
        cases x<;>simp only[Oper.upon]at Hj⊢
        case panic=>exact(by cases Hj.1)
     ·exact(nl2 _ Hj.2).elim
    ·rename_i hwj;simp only[hwj]at Hj;refine step _ undef w ?_ ?_ (by rw[<-yn a v undef h2];exact Hj)
     ·rw[yS oi a oj.dst undef h3];exact hw
     ·intro w;rw[yK oi (fun cs b=>hsel i oi cs b hi) a oj.dst undef h3];exact hp w
def seqL(ops:Array Oper):List Nat->Array Bool->Bool
 |[],listed=>(Region.ready .any ops listed).isEmpty
 |k::ks,listed=>decide (Region.ready .any ops listed=[k])&&seqL ops ks (listed.setIfInBounds k true)
theorem wAo3{Q:Exit->Act->World->Prop}:∀(ks:List Nat) (l:List Oper) (listed:Array Bool) (a:Act) (w:World),ks.map (fun k=>ops[k]?)=l.map some->seqL ops ks listed=true->wpList P ops Q l a w->wpAny P .any ops Q ks.length listed a w
 |[],l,_,_,_,hl,hB,h=>by
   have:l=[]:=by cases l with
    |nil=>rfl
    |cons=>cases hl
   subst this;exact⟨by simpa[seqL]using hB,h⟩
 |k::ks,[],_,_,_,hl,_,_=>by cases hl
 |k::ks,o::l,listed,a,w,hl,hB,h=>by
   simp only[jN,qAf]at hl;simp only[seqL,qb,qn]at hB;refine⟨fun h1=>(by rw[hB.1]at h1;cases h1),fun i hi=>?_⟩;rw[hB.1]at hi;have Aa:i=k:=by simpa using hi
   subst Aa;have hw:wpOp P ops Q i (wpList P ops Q l) a w:=by unfold wpOp;simp only[hl.1];exact h
   exact wpOp_mono (fun a' w' h'=>wAo3 ks l _ a' w' hl.2 hB.2 h') hw
def sT2(ops:Array Oper)(n t1:Nat):Bool:=(List.range n).all fun i=>(t1::List.range n).any fun j=>decide (i<j)&&Region.waitsFor .any ops j i
def cT3(ops:Array Oper)(t1:Nat)(ks:List Nat):Bool:=ks.all fun t=>t==t1||ks.any fun p=>Region.waitsFor .any ops t p
structure HInv(ops:Array Oper)(n:Nat)(ks:List Nat)(listed:Array Bool):Prop where
 size:listed.size=ops.size
 closed:∀j oj,ops[j]?=some oj->listed.getD j false=true->∀e∈oj.after,Region.binds .any e=true->listed.getD e.on false=true
 tail:∀t∈ks,listed.getD t true=false
 rest:∀j,n<=j->j<ops.size->j∉ks->listed.getD j true=true
theorem HInv.set{n i:Nat}{ks:List Nat}{listed:Array Bool}(inv:HInv ops n ks listed)(hi:i∈Region.ready .any ops listed)(hin:i∉ks):HInv ops n ks (listed.setIfInBounds i true):=by
 obtain⟨Ac,oi,Ab,Aa⟩:=jZ.1 hi;refine⟨by simp[inv.size],fun j oj hj hl e he hb=>?_,fun t ht=>by rw[xP true (fun e=>hin (by rw[e];exact ht))];exact inv.tail t ht,fun j h1 h2 h3=>?_⟩
 ·by_cases hij:i=j
  ·subst hij;have:oj=oi:=zr (hj.symm.trans Ab);subst this;exact getD_set_true (Aa e he hb)
  ·rw[xP false hij]at hl;exact getD_set_true (inv.closed j oj hj hl e he hb)
 ·by_cases hij:i=j
  ·subst hij;have:=inv.rest i h1 h2 h3;rw[Ac]at this;cases this
  ·rw[xP true hij];exact inv.rest j h1 h2 h3
theorem waits{n t1:Nat}{ks:List Nat}{listed:Array Bool}(hs:sT2 ops n t1=true)(hc:cT3 ops t1 ks=true)(inv:HInv ops n ks listed) :
  ∀(d i:Nat),n-i=d->i<n->listed.getD i true=false->∀t,n<=t->t∉Region.ready .any ops listed:=by
 intro d
 induction d using Nat.strongRecOn with
 |_ d ih=>
   intro i hd hi Ag t ht hr;obtain⟨Ae,ot,Ac,Aa⟩:=jZ.1 hr;have Ad:t<ops.size:=(qA.1 Ac).1;by_cases htk:t∈ks
   ·have h1:=qx.1 hc t htk;simp only[qAe,xM]at h1;rcases h1 with h1|h1
    ·subst h1;have h1:=qx.1 hs i (zV.2 hi);obtain⟨j,hj,Ah⟩:=yj.1 h1;simp only[qb,qn]at Ah;obtain⟨oj,Af,e,he,hb,Ab⟩:=Region.waitsFor_spec Ah.2;rcases qm.1 hj with rfl|hj
     ·have:oj=ot:=zr (Af.symm.trans Ac);subst this;have h2:=Aa e he hb;rw[Ab,qAr Ag]at h2;cases h2
     ·have Aj:j<n:=zV.1 hj;cases hl:listed.getD j false with
      |true=>
        have h2:=inv.closed j oj Af hl e he hb;rw[Ab,qAr Ag]at h2;cases h2
      |false=>
        have Ak:j<listed.size:=by rw[inv.size];omega
        exact ih (n-j) (by omega) j rfl Aj (getD_in Ak hl) t ht hr
    ·obtain⟨p,hp,hw⟩:=yj.1 h1;obtain⟨o',Ai,e,he,hb,Ab⟩:=Region.waitsFor_spec hw;have:o'=ot:=zr (Ai.symm.trans Ac);subst this;have h2:=Aa e he hb;rw[Ab,qAr (inv.tail p hp)]at h2;cases h2
   ·have:=inv.rest t ht Ad htk;rw[Ae]at this;cases this
theorem aFf{S:Nat->Flow.Spec}{w0:World}{n t1 i:Nat}{ks:List Nat}{oi:Oper}{L:Array Bool->Act->(Nat->World->Prop)->Prop}(hi:ops[i]?=some oi)(hsel:∀(j:Nat) (o:Oper) cs b,ops[j]?=some o->o.op ≠ .select cs b)
  (hs:sT2 ops n t1=true) (hc:cT3 ops t1 ks=true) (hin:i<n) (hks:∀k∈ks,n<=k)
  (hdone:∀listed a Γ,L listed a Γ->∀j∈Region.ready .any ops listed,n<=j) :
  ∀(f:Nat) (listed:Array Bool) (a:Act) (Γ:Nat->World->Prop),HInv ops n ks listed ->
    (∀j oj,ops[j]?=some oj->j≠i->listed.getD j true=false->(∀e∈oj.after,Region.binds .any e=true->e.on≠i)->oi.apart ops oj=true) ->
    i∈Region.ready .any ops listed->Ru P ops w0 oi (S i) a Γ ->
    (∀v,(S i).ok v->aF P ops S w0 n L f (listed.setIfInBounds i true) (a.put oi.dst v) (upd Γ i ((S i).holds v)))->aF P ops S w0 n L (f+1) listed a Γ:=by
 have Ap:∃v,(S i).ok v:=by
  cases hs:S i with
  |inl u=>exact⟨u,rfl⟩
  |inr V=>exact⟨undef,trivial⟩
 obtain⟨v0,Am⟩:=Ap;intro f
 induction f with
 |zero=>
   intro listed a Γ Ah _ hr hy H;have Ad:=(jZ.1 hr).1;refine⟨fun h=>(by rw[h]at hr;cases hr),fun j hj=>?_⟩
   have Ak:j<n:=by
    rcases jb j n with h|h
    ·exact h
    ·exact absurd hj (waits hs hc Ah _ i rfl hin Ad j h)
   refine⟨Ak,?_⟩;by_cases hji:j=i
   ·subst hji;unfold fOp;simp only[hi];exact⟨hy,H⟩
   ·have:=hdone _ _ _ (H v0 Am) j (jj hj hji);omega
 |succ f ih=>
   intro listed a Γ Ah Aa hr hy H;have Ad:=(jZ.1 hr).1;refine⟨fun h=>(by rw[h]at hr;cases hr),fun j hj=>?_⟩
   have Ak:j<n:=by
    rcases jb j n with h|h
    ·exact h
    ·exact absurd hj (waits hs hc Ah _ i rfl hin Ad j h)
   refine⟨Ak,?_⟩;by_cases hji:j=i
   ·subst hji;unfold fOp;simp only[hi];exact⟨hy,H⟩
   ·obtain⟨Ab,oj,Ai,Aj⟩:=jZ.1 hj;have Al:∀k,listed.getD k true=false->listed.getD k false=true->False:=fun k h1 h0=>by rw[qAr h1]at h0;cases h0
    have Ae:∀e∈oj.after,Region.binds .any e=true->e.on≠i:=fun e he hb heq=>Al i Ad (by rw[<-heq];exact Aj e he hb)
    have Ag:∀e∈oi.after,Region.binds .any e=true->e.on≠j:=fun e he hb heq=>by
     obtain⟨_,o',An,Af⟩:=jZ.1 hr;rw[hi]at An;cases An
     exact Al j Ab (by rw[<-heq];exact Af e he hb)
    have Ao:=Aa j oj Ai hji Ab Ae;obtain⟨h1,h2,h3⟩:=xN Ao
    have Ac:∀k ok,ops[k]?=some ok->k≠i->(listed.setIfInBounds j true).getD k true=false ->
      (∀e∈ok.after,Region.binds .any e=true->e.on≠i)->oi.apart ops ok=true:=fun k ok hk hki Ad hno=>by
     refine Aa k ok hk hki ?_ hno;by_cases hjk:j=k
     ·subst hjk;exact Ab
     ·rw[xP true hjk]at Ad;exact Ad
    have Hj:∀v,(S i).ok v->Ru P ops w0 oj (S j) (a.put oi.dst v) (upd Γ i ((S i).holds v))/\∀u,(S j).ok u ->
      aF P ops S w0 n L f ((listed.setIfInBounds i true).setIfInBounds j true) ((a.put oi.dst v).put oj.dst u) (upd (upd Γ i ((S i).holds v)) j ((S j).holds u)):=fun v hv=>by
     have:=((H v hv).2 j (jj hj hji)).2;unfold fOp at this;simpa only[Ai]using this
    unfold fOp;simp only[Ai];refine⟨(Hj v0 Am).1.of_same (yK oj (fun cs b=>hsel j oj cs b Ai) a oi.dst v0 h1).symm (yS oj a oi.dst v0 h1).symm (fun k hk=>?_),fun u hu=>?_⟩
    ·exact(upd_ne (nd2 Ae hk)).symm
    ·refine ih (listed.setIfInBounds j true) _ _ (Ah.set hj (fun hk=>by have:=hks j hk;omega)) Ac (jj hr (xR hji)) ?_ (fun v hv=>?_)
     ·exact hy.of_same (yK oi (fun cs b=>hsel i oi cs b hi) a oj.dst u h3) (yS oi a oj.dst u h3) (fun k hk=>upd_ne (nd2 Ag hk))
     ·have:=(Hj v hv).2 u hu;rw[ye _ _ hji,<-yn a v u h2,<-uc2 hji];exact this
def pO(ops:Array Oper):List Nat->Array Bool->Bool
 |[],_=>true
 |p::ps,listed=>(Region.ready .any ops listed).contains p&&Region.free .any ops listed p&&pO ops ps (listed.setIfInBounds p true)
def after(ps:List Nat)(listed:Array Bool):Array Bool:=ps.foldl (fun l p=>l.setIfInBounds p true) listed
def Pure(P:Program)(ops:Array Oper):List Nat->(Act->Prop)->Act->Prop
 |[],K,a=>K a
 |p::ps,K,a=>∃o v,ops[p]?=some o/\Region.wanted o (yielded ops a.tmps)=true/\(∀w,(execOp a.eval o).run P w = .ok (.value v) w)/\Pure P ops ps K (a.put o.dst v)
theorem wAp{E:Act->World->Prop}{fuel:Nat}{w:World}(hsel:Region.noSelect ops=true):∀(ps:List Nat) (listed:Array Bool) (a:Act),pO ops ps listed=true ->
  Pure P ops ps (fun a'=>wpAny P .any ops (Qn E) fuel (after ps listed) a' w) a->wpAny P .any ops (Qn E) (fuel+ps.length) listed a w
 |[],_,_,_,h=>h
 |p::ps,listed,a,hB,h=>by simp only[pO,qb]at hB;obtain⟨⟨hr,hf⟩,hB'⟩:=hB;obtain⟨o,v,ho,hw,hp,hK⟩:=h;have:=wAp hsel ps (listed.setIfInBounds p true) (a.put o.dst v) hB' hK;exact wAp2 ho (yT hsel) (fuel+ps.length) listed a w (yy ho hf) (by simpa using hr) hw hp this
theorem pm{K K':Act->Prop}(h:∀a,K a->K' a):∀(ps:List Nat) (a:Act),Pure P ops ps K a->Pure P ops ps K' a
 |[],_,hh=>h _ hh
 |_::ps,_,⟨o,v,h1,h2,h3,h4⟩=>⟨o,v,h1,h2,h3,pm h ps _ h4⟩
def pick(l:List Oper)(ks:List Nat):List Oper:=ks.flatMap fun k=>(l.drop k).take 1
theorem pm3(l:List Oper):∀(ks:List Nat),(∀k∈ks,k<l.length)->ks.map (fun k=>l.toArray[k]?)=(pick l ks).map some
 |[],_=>rfl
 |k::ks,h=>by
   have hk:=h k (qAb ..);have ih:=pm3 l ks (fun j hj=>h j (yk _ hj));have e:(l.drop k).take 1=[l[k]]:=by rw[zv hk];rfl
   simp only[pick,zp,jN,qs,e,qAt]at ih⊢;rw[ih];simp[hk]
end
end Go.FlowP
namespace Go.FlowO
open Go Go.RowKit Go.FlowP
section
variable {P:Program} {ops:Array Oper}
theorem uq{o:Oper}{a:Act}{K:Act->World->Prop}{E E':Act->World->Prop}{r:Result Next}(h:o.upon P a K (Qn E) r):o.upon P a K (Qn E') r:=by
 cases r with
 |ok n w'=>
   cases n<;>simp only[Oper.upon]at h⊢
   case value u=>exact h
   case skip=>exact h
   case defer d=>exact h
   case enter f args=>
    refine xL h fun e w'' he=>?_;cases e with
    |returned u=>exact he
    |panicked c=>exact(by cases he.1)
    |outgrown=>exact(nl2 _ he).elim
   case row=>exact h
 |halt x w'=>
   cases x<;>simp only[Oper.upon]at h⊢
   case panic=>exact(by cases h.1)
theorem one{E:Act->World->Prop}{f i:Nat}{oi:Oper}{listed:Array Bool}{a:Act}{w:World}(hi:ops[i]?=some oi)(h:wpList P ops (Qn fun a' w'=>wpAny P .any ops (Qn E) f (listed.setIfInBounds i true) a' w') [oi] a w):wpOp P ops (Qn E) i (wpAny P .any ops (Qn E) f (listed.setIfInBounds i true)) a w:=by
 unfold wpOp;rw[hi];simp only[wpList]at h;simp only;split at h
 ·rename_i hw;rw[qR hw];rcases h with h|h
  ·left;unfold Oper.wp at h⊢;have h2:=uq (E':=E) h
   have e:(fun a' w'=>Qn (fun a' w'=>wpAny P .any ops (Qn E) f (listed.setIfInBounds i true) a' w') Exit.normal a' w')=wpAny P .any ops (Qn E) f (listed.setIfInBounds i true):=by funext a' w';exact propext ⟨fun h=>h.2,fun h=>⟨rfl,h⟩⟩
   rw[<-e];exact h2
  ·exact(nl2 _ h.2).elim
 ·rename_i hw;rw[qH hw];exact h.2
theorem two{E:Act->World->Prop}{f:Nat}(i j:Nat){oi oj:Oper}{listed:Array Bool}{a:Act}{w:World}(hr:Region.ready .any ops listed=[i,j])(hi:ops[i]?=some oi)(hj:ops[j]?=some oj)
  (h1:wpList P ops (Qn fun a' w'=>wpAny P .any ops (Qn E) f (listed.setIfInBounds i true) a' w') [oi] a w) (h2:wpList P ops (Qn fun a' w'=>wpAny P .any ops (Qn E) f (listed.setIfInBounds j true) a' w') [oj] a w):wpAny P .any ops (Qn E) (f+1) listed a w:=by
 refine⟨fun h=>(by rw[hr]at h;cases h),fun k hk=>?_⟩;rw[hr]at hk;simp only[qm,zG,jr]at hk;rcases hk with rfl|rfl
 ·exact one hi h1
 ·exact one hj h2
theorem single{E:Act->World->Prop}{f:Nat}(i:Nat){oi:Oper}{listed:Array Bool}{a:Act}{w:World}(hr:Region.ready .any ops listed=[i])(hi:ops[i]?=some oi)(h:wpList P ops (Qn fun a' w'=>wpAny P .any ops (Qn E) f (listed.setIfInBounds i true) a' w') [oi] a w):wpAny P .any ops (Qn E) (f+1) listed a w:=by refine⟨fun h=>(by rw[hr]at h;cases h),fun k hk=>?_⟩;rw[hr]at hk;rw[zJ.1 hk];exact one hi h
theorem pu{E:Act->World->Prop}{l:List Oper}(ps:List Nat)(f:Nat){listed:Array Bool}{a:Act}{w:World}(hB:(Region.noSelect l.toArray&&pO l.toArray ps listed)=true)(h:Pure P l.toArray ps (fun a'=>wpAny P .any l.toArray (Qn E) f (after ps listed) a' w) a):wpAny P .any l.toArray (Qn E) (f+ps.length) listed a w:=by simp only[qb]at hB;exact wAp hB.1 ps listed a hB.2 h
theorem seq{E:Act->World->Prop}{l:List Oper}(ks:List Nat){listed:Array Bool}{a:Act}{w:World}(hB:seqL l.toArray ks listed=true)(hk:(ks.all fun k=>decide (k<l.length))=true)(h:wpList P l.toArray (Qn E) (pick l ks) a w):wpAny P .any l.toArray (Qn E) ks.length listed a w:=
 wAo3 ks (pick l ks) listed a w (pm3 l ks (fun k hk'=>by simpa using qx.1 hk k hk')) hB h
theorem wp_region{id:Nat}{Q:Exit->Act->World->Prop}{a:Act}{w:World}{l:List Oper}(ps:List Nat)(f:Nat)(hm:P.follows .mixedOrders=true)(hB:(Region.noSelect l.toArray&&pO l.toArray ps (Array.replicate l.length false)&&(f+ps.length==l.length))=true)
  (h:Pure P l.toArray ps (fun a'=>∀w',Below w.heap.size w w'->w'.heap=w.heap->wpAny P .any l.toArray (Qn (Q .normal)) f (after ps (Array.replicate l.length false)) a' w') a):(Code.region id l.toArray true).wp P Q a w:=by
 simp only[qb,xM]at hB;obtain⟨⟨Aa,Ac⟩,Ab⟩:=hB;refine qAi hm (wAw _ _ _ _ ?_);have H:=wAp (P:=P) (E:=Q .normal) (fuel:=f) (w:={ w with drawn:=w.drawn+1 }) Aa ps (Array.replicate l.length false) a Ac (pm (fun a' h'=>h' _ (qJ _ _).drew rfl) ps a h);rw[Ab]at H;have e:l.toArray.size=l.length:=by simp
 rw[e];exact H
end
