/- Joined. -/
import Derived.Test.YtjdccifdkjnknaaGreatDoorZC05
set_option maxHeartbeats 1000000
namespace Tess
def jP(l:List ByteArray):ByteArray×Nat:=if ∀s∈l,s.size<=60000 then(joinL l,0)else(ByteArray.empty,30)
theorem jLs(l:List ByteArray):∀k,k<=l.length->(∀s∈l.take k,s.size<=60000)->(joinL (l.take k)).size<=60008*k:=by
 intro k
 induction k with
 |zero=>intro _ _;exact qC 0
 |succ k ih=>
   intro hk h;rw[jLt l k hk,yJ,ms3];have e:=qQ (l:=l) (i:=k) hk;have:=ih (by omega) fun s hs=>h s (by rw[e];exact List.mem_append_left _ hs);have:=h l[k] (by rw[e];exact List.mem_append_right _ (List.mem_singleton_self _));omega
end Tess
namespace Go.Proofs.Q9
open Go.RowKit Go.Sort
def JP(l:List ByteArray)(w:World)(e:Ending)(w':World):Prop:=e = .returned (.tuple #[.string (Tess.jP l).1,.int .i64 ((Tess.jP l).2:Nat)])/\Below w.heap.size w w'
theorem ja(v:Value)(l:List ByteArray)(w:World)(hv:SlOf w v (l.map .string))(hs:∀s∈l,s.size<=maxLen)(hl20:l.length<=1000) :
  Calls Tryz.prog 29 #[v] w (JP l w):=by
 obtain⟨a,ca,rfl,Ak,Ae⟩:=so2 hv;have HA:=Hd Ae;have HJ:=Hd (Tess.jLs l);have HS:=Hd hs;clear Ae hv hs;go_enter Tryz.func29,Tryz.ntmps29;go_wp2;go_loopw [4,11] (fun o i wr=>∃k:Nat,k<=l.length/\i = .int .i64 k/\o = .string (Tess.joinL (l.take k))/\(∀s∈l.take k,s.size<=60000)/\Below w.heap.size w wr) (fun _ i _=>l.length-(intOf i).toNat)
 case atStart=>exact⟨0,qN _,rfl,rfl,(fun s h=>by simp at h),qJ _ _⟩
 case round=>
  obtain⟨k,hk,rfl,rfl,Ac,hB⟩:=hrel;have Ab:=Hd Ac;clear Ac;by_cases hlt:k<l.length
  ·obtain⟨b,Ai,rfl,hb,Aa⟩:=HA.out k hlt;have Ag:=(hB.cell (p:=⟨b,Ai+k,none⟩) hb).trans Aa;have HM:=Hd (show l[k]∈l from qP hlt);have Ad:=HS.out _ HM.out;have HT:=Hd (Tess.jLt l k hlt);have hj:=HJ.out k hk Ab.out;have hm:=Tess.ms3 l[k];have Af:=Hd (qQ (l:=l) (i:=k) hlt);obtain⟨x,hx⟩:=Xq (l[k])
   rw[<-hx]at Ag Ad hm Af HM;have HX:=Hd hx;have HB:=Hd hB;generalize Tess.joinL (l.take k)=J at *;by_cases h6:x.size<=60000
   ·have Aj:J.size+(Tess.mkf x).size<=9223372036854775807:=by omega
    clear hB Aa hx hm;go_wp2_with (go_at_call 77;refine(my2 x _ h6).mono ?_;rintro e w2 ⟨rfl,Ah⟩);go_roundw
    case rel=>exact⟨k+1,by omega,by go_num,by rw[HT.out,<-HX.out],(fun s hs=>by
     rw[Af.out]at hs;rcases zk.1 hs with hs|hs
     ·exact Ab.out s hs
     ·rw[zJ.1 hs];exact h6),Bt HB.out Ah⟩
    case measure=>simp[intOf];omega
   ·have hP:Tess.jP l=(ByteArray.empty,30):=qH fun h=>h6 (h x HM.out);have HP:=Hd hP;clear hB Aa hx hm hP hj;go_wp2_with (go_at_call 77;refine(mn3 x _ Ad (by omega)).mono ?_;rintro e w2 ⟨rfl,rfl⟩);go_ret2;exact⟨by rw[HP.out];rfl,HB.out⟩
  ·obtain rfl:k=l.length:=by omega
   have HB:=Hd hB;clear hB;rw[qh (qC _)]at Ab⊢;have HP:=Hd (show Tess.jP l=(Tess.joinL l,0)from qR Ab.out);go_wp2;go_ret2;exact⟨by rw[HP.out];rfl,HB.out⟩
theorem ra11(v:Value)(l:List ByteArray)(w:World)(hv:SlOf w v (l.map .string))(hs:∀s∈l,s.size<=maxLen)(hl20:l.length<=1000) :
  Calls Tryz.prog 22 #[v] w (JP l w):=by
 obtain⟨a,ca,rfl,Ak,Ae⟩:=so2 hv;have HA:=Hd Ae;have HJ:=Hd (Tess.jLs l);have HS:=Hd hs;clear Ae hv hs;go_enter Tryz.func22,Tryz.ntmps22;go_wp2;go_loopw [4,5] (fun o i wr=>∃k:Nat,k<=l.length/\i = .int .i64 k/\o = .string (Tess.joinL (l.take k))/\(∀s∈l.take k,s.size<=60000)/\Below w.heap.size w wr) (fun _ i _=>l.length-(intOf i).toNat)
 case atStart=>exact⟨0,qN _,rfl,rfl,(fun s h=>by simp at h),qJ _ _⟩
 case round=>
  obtain⟨k,hk,rfl,rfl,Ac,hB⟩:=hrel;have Ab:=Hd Ac;clear Ac;by_cases hlt:k<l.length
  ·obtain⟨b,Ai,rfl,hb,Aa⟩:=HA.out k hlt;have Ag:=(hB.cell (p:=⟨b,Ai+k,none⟩) hb).trans Aa;have HM:=Hd (show l[k]∈l from qP hlt);have Ad:=HS.out _ HM.out;have HT:=Hd (Tess.jLt l k hlt);have hj:=HJ.out k hk Ab.out;have hm:=Tess.ms3 l[k];have Af:=Hd (qQ (l:=l) (i:=k) hlt);obtain⟨x,hx⟩:=Xq (l[k])
   rw[<-hx]at Ag Ad hm Af HM;have HX:=Hd hx;have HB:=Hd hB;generalize Tess.joinL (l.take k)=J at *;by_cases h6:x.size<=60000
   ·have Aj:J.size+(Tess.mkf x).size<=9223372036854775807:=by omega
    clear hB Aa hx hm;go_wp2_with (go_at_call 53;refine(ry x _ h6).mono ?_;rintro e w2 ⟨rfl,Ah⟩);go_roundw
    case rel=>exact⟨k+1,by omega,by go_num,by rw[HT.out,<-HX.out],(fun s hs=>by
     rw[Af.out]at hs;rcases zk.1 hs with hs|hs
     ·exact Ab.out s hs
     ·rw[zJ.1 hs];exact h6),Bt HB.out Ah⟩
    case measure=>simp[intOf];omega
   ·have hP:Tess.jP l=(ByteArray.empty,30):=qH fun h=>h6 (h x HM.out);have HP:=Hd hP;clear hB Aa hx hm hP hj;go_wp2_with (go_at_call 53;refine(rn4 x _ Ad (by omega)).mono ?_;rintro e w2 ⟨rfl,rfl⟩);go_ret2;exact⟨by rw[HP.out];rfl,HB.out⟩
  ·obtain rfl:k=l.length:=by omega
   have HB:=Hd hB;clear hB;rw[qh (qC _)]at Ab⊢;have HP:=Hd (show Tess.jP l=(Tess.joinL l,0)from qR Ab.out);go_wp2;go_ret2;exact⟨by rw[HP.out];rfl,HB.out⟩
theorem mb2{n m:Int}(hn:I64 n)(hm:0<=m/\m<=1000000): -9223372036854775808000000<=n*m/\n*m<=9223372036854775808000000:=by obtain⟨h1,h2⟩:=hn;have a1: -9223372036854775808*m<=n*m:=jx h1 hm.1;have a2:n*m<=9223372036854775807*m:=jx h2 hm.1;omega
theorem mh(n:Int)(m:Nat)(hn:I64 n)(hm:m<=1000000):∃a:Nat,IntKind.u64.wrap n=a/\a<18446744073709551616/\((a*m%18446744073709551616:Nat):Int)=wLo (n*m)/\((a*m/18446744073709551616:Nat):Int)-(if n<0 then(m:Int)else 0)=wHi (n*m)/\a*m/18446744073709551616<=1000000:=by
 obtain⟨a,ha⟩:∃a:Nat,IntKind.u64.wrap n=a:=⟨(n%18446744073709551616).toNat,by rw[wu];omega⟩
 refine⟨a,ha,?_⟩;rw[wu]at ha;obtain⟨h1,h2⟩:=hn;have Ab:a<18446744073709551616:=by omega
 obtain⟨k,hk,Aa⟩:∃k:Int,k=(if n<0 then(m:Int)else 0)/\(a:Int)*m=n*m+k*18446744073709551616:=by
  refine⟨_,rfl,?_⟩;split
  ·have e:(a:Int)=n+18446744073709551616:=by omega
   rw[e,Int.add_mul,Int.mul_comm 18446744073709551616]
  ·have e:(a:Int)=n:=by omega
   rw[e];omega
 have hd:a*m/18446744073709551616<=1000000:=by refine qt ?_ hm;refine Nat.div_le_of_le_mul ?_;exact jO m (by omega)
 rw[<-hk];have hc:((a*m:Nat):Int)=n*m+k*18446744073709551616:=by rw[xZ];exact Aa
 generalize a*m=U at *;generalize n*m=P at *;unfold wLo wHi;refine⟨Ab,?_,?_,hd⟩<;>omega
def cmpI(x y:Int):Int:=if x<y then -1 else if y<x then 1 else 0
theorem cw2(n m:Int):(if cmpI (wHi n) (wHi m)≠0 then cmpI (wHi n) (wHi m)else cmpI (wLo n) (wLo m))=cmpI n m:=by unfold wHi wLo cmpI;split<;>split<;>(try split)<;>(try split)<;>omega
theorem cIl(n m:Int):cmpI n m<=0↔n<=m:=by unfold cmpI;split<;>(try split)<;>omega
end Go.Proofs.Q9
namespace Go.Flow
open Go Go.RowKit
section
variable {P:Program} {ops:Array Oper} {n:Nat} {lr:Nat}
def nD(l:List Oper):Bool:=l.all fun o=>match o.op with | .defer _=>false|_=>true
theorem nDa{l:List Oper}(h:nD l=true){i:Nat}{o:Oper}(ho:l[i]?=some o):∀c,o.op ≠ .defer c:=by intro c e;have:=qx.1 h o (xF ho);rw[e]at this;cases this
theorem wIR2{o:Oper}{a:Act}{w:World}{K:Act->World->Prop}{Q:Exit->Act->World->Prop}(hd:∀c,o.op ≠ .defer c)(hy:yields P o a.eval w fun v w'=>K (a.put o.dst v) w'):o.wpIn (Fence.wide.inRound lr) n P a w K Q:=by
 unfold Oper.wpIn;refine⟨fun _ _=>trivial,?_⟩;have he:o.semAt (Fence.wide.inRound lr).round a.eval=execOp a.eval o:=zK _ _ _ hd;rw[he];unfold yields at hy;generalize (execOp a.eval o).run P w=r at *;cases r with
 |ok nx w'=>
   cases nx<;>simp only[Oper.uponIn]<;>first
    |exact hy
    |exact(show False from hy).elim
    |exact⟨(fun h=>by cases h),yu lr (qZ.2 (xL hy (fun e w'' ⟨v,he,hr⟩=>by subst he;exact hr)))⟩
 |halt x w'=>exact hy.elim
theorem wAI{S:Nat->Spec}{w0:World}(hND:nD ops.toList=true)(hS:∀i,(S i).mono){m g:Nat}{L:Array Bool->Act->(Nat->World->Prop)->Prop}{Q:Exit->Act->World->Prop}
  (hL:∀listed a Γ w,L listed a Γ->Below w0.heap.size w0 w->(∀j,Γ j w)->wpAnyIn (Fence.wide.inRound lr) n P .any ops Q g listed a w):∀(f:Nat) (listed:Array Bool) (a:Act) (Γ:Nat->World->Prop) (w:World),
  aF P ops S w0 m L f listed a Γ->Below w0.heap.size w0 w->(∀j,Γ j w)->(∀j,Mono (Γ j))->wpAnyIn (Fence.wide.inRound lr) n P .any ops Q (f+g) listed a w
 |0,_,_,_,_,h,hB,hG,_=>by rw[qj];exact hL _ _ _ _ h hB hG
 |f+1,listed,a,Γ,w,h,hB,hG,hM=>by
   rw[show f+1+g=(f+g)+1 by omega];refine⟨fun h0=>absurd h0 h.1,fun i hi=>?_⟩;have h1:=(h.2 i hi).2;unfold fOp at h1;unfold wpOpIn
   have hM':∀v j,Mono (upd Γ i ((S i).holds v) j):=fun v j=>by
    by_cases e:j=i
    ·subst e;rw[upd_same];exact hS j v
    ·rw[upd_ne e];exact hM j
   have hG':∀v w',Below w.heap.size w w'->(S i).holds v w'->∀j,upd Γ i ((S i).holds v) j w':=fun v w' hb hv j=>by
    by_cases e:j=i
    ·subst e;rw[upd_same];exact hv
    ·rw[upd_ne e];exact hM j _ _ (hG j) hb
   have hok:∀v w',(S i).holds v w'->(S i).ok v:=fun v w' hv=>by
    cases hs:S i with
    |inl u=>rw[hs]at hv;exact hv
    |inr V=>trivial
   split
   ·rename_i ho;simp only[ho]at h1;exact wAI hND hS hL f _ _ _ _ h1 hB hG hM
   ·rename_i o ho;simp only[ho]at h1;have h2:=h1.1 w hB (fun j _=>hG j);unfold Runs at h2;split
    ·rename_i hw;simp only[hw,jH]at h2;refine wIR2 (nDa hND (i:=i) (by simpa using ho)) (ym ?_ h2);intro v w' ⟨hb,hv⟩;exact wAI hND hS hL f _ _ _ _ (h1.2 v (hok v w' hv)) (hB.trans (hb.mono hB.size)) (hG' v w' hb hv) (hM' v)
    ·rename_i hw;simp only[hw]at h2;exact⟨fun _ _=>trivial,wAI hND hS hL f _ _ _ _ (h1.2 undef (hok _ _ h2)) hB (hG' _ _ (qJ _ _) h2) (hM' _)⟩
theorem wIR{id:Nat}{Q:Exit->Act->World->Prop}{a:Act}{w:World}{l:List Oper}(m:Nat)(S:Nat->Spec)(hND:nD l=true)(hm:P.follows .mixedOrders=true)(hB:Region.lexTailB .any l.toArray m=true)(hS:∀i,(S i).mono)
  (h:Tree P l.toArray S w (fun a' Γ=>∀w',Below w.heap.size w w'->(∀j,Γ j w')->wpListIn (Fence.wide.inRound lr) n P l.toArray Q (l.drop m) a' w') (l.take m) 0 a (fun _ _=>True)):(Code.region id l.toArray true).wpIn (Fence.wide.inRound lr) n P Q a w:=by
 simp only[Region.lexTailB,qb,qn]at hB;obtain⟨⟨⟨⟨Ab,hn⟩,hs⟩,hc⟩,Ac⟩:=hB;have Ag:m<l.length:=by simpa using hn
 have Aa:(l.take m).length=m:=by simp;omega
 have Ae:(l.drop m).length=l.toArray.size-m:=by simp
 have Ad:HeadInv .any l.toArray m (Array.replicate l.toArray.size false):=
  ⟨by simp,fun j oj _ hl=>(by rw[jE]at hl;cases hl),fun t _ ht=>getD_in (by simpa using ht) (jE _ _)⟩
 have H:=aFl (g:=l.toArray.size-m) Ab hs hc hn (l.take m) 0 _ a (fun _ _=>True) (fun j hj=>by
  have Af:j<m:=by rw[Aa]at hj;exact hj
  simp[Af]) (by simpa using Aa) Ad (by rw[Aa];exact Ac) h
 refine wpIn_region_any hm ?_
 have:=wAI (n:=n) (Q:=Q) (g:=l.toArray.size-m) (by simpa using hND) hS (fun listed a' Γ' w' hL hb hG=>by
  have:=wAI4 (md:=.any) (F:=Fence.wide.inRound lr) (n:=n) (Q':=Q) (l.drop m) m listed a' w' (fun j=>by simp) (by rw[Ae];exact hL.1) (hL.2 w' hb hG)
  rwa [Ae]at this) _ _ _ _ { w with drawn:=w.drawn+1 } H ((qJ _ _).drew) (fun _=>trivial) (fun _ _ _ _ _=>trivial)
 rw[Aa,show m+(l.toArray.size-m)=l.toArray.size by omega]at this;exact this
end
end Go.Flow
namespace Go.FlowR
open Go Go.RowKit
section
variable {R:Rel} {P:Program} {ops:Array Oper}
def SpU(ops:Array Oper)(S:Nat->Value->Spec)(σ:Nat->Nat):Prop:=∀i oi,ops[i]?=some oi->(∀k ok,ops[k]?=some ok->ok.dst=some (σ i)->dep oi k=true)∨∀x y,S i x=S i y
theorem hSn{k s:Nat}{oi ok:Oper}(hk:ops[k]?=some ok)(h:(∀k ok,ops[k]?=some ok->ok.dst=some s->dep oi k=true))(hd:dep oi k=true->False):ok.dst≠some s:=fun e=>hd (h k ok hk e)
theorem spU{S:Nat->Value->Spec}{σ:Nat->Nat}(hS:SpU ops S σ){i:Nat}{oi:Oper}(hi:ops[i]?=some oi)(a:Act)(dst:Option Tmp)(v:Value)(h:(∀k ok,ops[k]?=some ok->ok.dst=some (σ i)->dep oi k=true)->dst≠some (σ i)):sp S σ i (a.put dst v)=sp S σ i a:=by
 rcases hS i oi hi with h1|h1
 ·unfold sp;have Ab:=h h1;cases dst with
  |none=>rfl
  |some d=>
    have Aa:d≠σ i:=fun e=>Ab (by rw[e]);congr 1;simp[Act.put,Aa]
 ·exact h1 _ _
theorem soU{n s:Nat}{f:Value->Spec}{l:List Spec}(h:(match ops[n]? with|some o=>(List.range ops.size).all (fun k=>match ops[k]? with|some ok=> !(ok.dst==some s)||dep o k|none=>true)|none=>true)=true):SpU ops (sp3 n f l) (fun _=>s):=fun i oi hi=>by
 by_cases e:i=n
 ·subst e;rw[hi]at h;refine .inl fun k ok hk hd=>?_;have:=qx.1 h k (zV.2 (qA.1 hk).1);rw[hk]at this;simpa[hd]using this
 ·exact .inr fun x y=>by unfold sp3;rw[qH e,qH e]
theorem aFf2{S:Nat->Value->Spec}{σ:Nat->Nat}{w0:World}{n i:Nat}{oi:Oper}{L:Array Bool->Act->(Nat->World->Prop)->Prop}(hSp:SpU ops S σ)(hi:ops[i]?=some oi)(hsel:∀(j:Nat) (o:Oper) cs b,ops[j]?=some o->o.op ≠ .select cs b)
  (hs:Region.sinkB .any ops n=true) (hc:Region.chainB .any ops n=true) (hn:n<ops.size) (hin:i<n)
  (hdone:∀listed a Γ,L listed a Γ->∀j∈Region.ready .any ops listed,n<=j) :
  ∀(f:Nat) (listed:Array Bool) (a:Act) (Γ:Nat->World->Prop),HeadInv .any ops n listed ->
    (∀j oj,ops[j]?=some oj->j≠i->listed.getD j true=false->(∀e∈oj.after,Region.binds .any e=true->e.on≠i)->oi.apart ops oj=true) ->
    i∈Region.ready .any ops listed->Ru R P ops w0 oi (sp S σ i a) a Γ ->
    (∀v,(sp S σ i a).ok v->aF R P ops S σ w0 n L f (listed.setIfInBounds i true) (a.put oi.dst v) (upd Γ i ((sp S σ i a).holds v)))->aF R P ops S σ w0 n L (f+1) listed a Γ:=by
 have Ao:∀a,∃v,(sp S σ i a).ok v:=fun a=>by
  cases hs:sp S σ i a with
  |inl u=>exact⟨u,rfl⟩
  |inr V=>exact⟨undef,trivial⟩
 intro f
 induction f with
 |zero=>
   intro listed a Γ Ai _ hr hy H;obtain⟨v0,Ak⟩:=Ao a;have Af:=(jZ.1 hr).1;refine⟨fun h=>(by rw[h]at hr;cases hr),fun j hj=>?_⟩
   have Aj:j<n:=by
    rcases jb j n with h|h
    ·exact h
    ·exact absurd hj (qAy hs hc hn Ai _ i rfl hin Af j h)
   refine⟨Aj,?_⟩;by_cases hji:j=i
   ·subst hji;unfold fOp;simp only[hi];exact⟨hy,H⟩
   ·have:=hdone _ _ _ (H v0 Ak) j (jj hj hji);omega
 |succ f ih=>
   intro listed a Γ Ai Aa hr hy H;obtain⟨v0,Ak⟩:=Ao a;have Af:=(jZ.1 hr).1;refine⟨fun h=>(by rw[h]at hr;cases hr),fun j hj=>?_⟩
   have Aj:j<n:=by
    rcases jb j n with h|h
    ·exact h
    ·exact absurd hj (qAy hs hc hn Ai _ i rfl hin Af j h)
   refine⟨Aj,?_⟩;by_cases hji:j=i
   ·subst hji;unfold fOp;simp only[hi];exact⟨hy,H⟩
   ·obtain⟨Ac,oj,Ag,Al⟩:=jZ.1 hj;have Am:∀k,listed.getD k true=false->listed.getD k false=true->False:=fun k h1 h0=>by rw[qAr h1]at h0;cases h0
    have Ae:∀e∈oj.after,Region.binds .any e=true->e.on≠i:=fun e he hb heq=>Am i Af (by rw[<-heq];exact Al e he hb)
    have Ab:∀e∈oi.after,Region.binds .any e=true->e.on≠j:=fun e he hb heq=>by
     obtain⟨_,o',An,Ah⟩:=jZ.1 hr;rw[hi]at An;cases An
     exact Am j Ac (by rw[<-heq];exact Ah e he hb)
    have Ap:=Aa j oj Ag hji Ac Ae;obtain⟨h1,h2,h3⟩:=xN Ap
    have Ad:∀k ok,ops[k]?=some ok->k≠i->(listed.setIfInBounds j true).getD k true=false ->
      (∀e∈ok.after,Region.binds .any e=true->e.on≠i)->oi.apart ops ok=true:=fun k ok hk hki Af hno=>by
     refine Aa k ok hk hki ?_ hno;by_cases hjk:j=k
     ·subst hjk;exact Ac
     ·rw[xP true hjk]at Af;exact Af
    have ej:∀v,sp S σ j (a.put oi.dst v)=sp S σ j a:=fun v=>spU hSp Ag a oi.dst v (fun h=>hSn hi h (fun hk=>nd2 Ae hk rfl));have ei:∀u,sp S σ i (a.put oj.dst u)=sp S σ i a:=fun u=>spU hSp hi a oj.dst u (fun h=>hSn Ag h (fun hk=>nd2 Ab hk rfl))
    have Hj:∀v,(sp S σ i a).ok v->Ru R P ops w0 oj (sp S σ j a) (a.put oi.dst v) (upd Γ i ((sp S σ i a).holds v))/\∀u,(sp S σ j a).ok u ->
      aF R P ops S σ w0 n L f ((listed.setIfInBounds i true).setIfInBounds j true) ((a.put oi.dst v).put oj.dst u) (upd (upd Γ i ((sp S σ i a).holds v)) j ((sp S σ j a).holds u)):=fun v hv=>by
     have:=((H v hv).2 j (jj hj hji)).2;unfold fOp at this;simpa only[Ag,ej v]using this
    unfold fOp;simp only[Ag];refine⟨(Hj v0 Ak).1.of_same (yK oj (fun cs b=>hsel j oj cs b Ag) a oi.dst v0 h1).symm (yS oj a oi.dst v0 h1).symm (fun k hk=>?_),fun u hu=>?_⟩
    ·exact(upd_ne (nd2 Ae hk)).symm
    ·refine ih (listed.setIfInBounds j true) _ _ (Ai.set hj Aj) Ad (jj hr (xR hji)) ?_ (fun v hv=>?_)
     ·rw[ei u];exact hy.of_same (yK oi (fun cs b=>hsel i oi cs b hi) a oj.dst u h3) (yS oi a oj.dst u h3) (fun k hk=>upd_ne (nd2 Ab hk))
     ·rw[ei u]at hv⊢;have:=(Hj v hv).2 u hu;rw[ye _ _ hji,<-yn a v u h2,<-uc2 hji];exact this
theorem aFl2{S:Nat->Value->Spec}{σ:Nat->Nat}{w0:World}{n g:Nat}{Lq:Act->(Nat->World->Prop)->Prop}(hSp:SpU ops S σ)(hsel:Region.noSelect ops=true)(hs:Region.sinkB .any ops n=true)(hc:Region.chainB .any ops n=true)(hn:n<ops.size) :
  ∀(l:List Oper) (k:Nat) (listed:Array Bool) (a:Act) (Γ:Nat->World->Prop),(∀j,j<l.length->l[j]?=ops[k+j]?)->k+l.length=n->HeadInv .any ops n listed ->
  Region.lexHead .any ops g l.length k listed=true->Tree R P ops S σ w0 Lq l k a Γ ->
  aF R P ops S σ w0 n (fun listed' a' Γ'=>Region.seqB .any ops g n listed'=true/\Lq a' Γ') l.length listed a Γ
 |[],k,listed,a,Γ,_,hk,_,hB,h=>by
   have:k=n:=by simpa using hk
   subst this;exact⟨by simpa[Region.lexHead]using hB,h⟩
 |o::l,k,listed,a,Γ,hl,hk,inv,hB,h=>by
   have h0:ops[k]?=some o:=by simpa using(hl 0 (by simp)).symm
   simp only[qU,Region.lexHead,qb]at hB;obtain⟨⟨hr,hf⟩,Ac⟩:=hB;have Ab:k<n:=by simp only[qU]at hk;omega
   have Aa:k∈Region.ready .any ops listed:=by simpa using hr
   exact aFf2 hSp h0 (yT hsel) hs hc hn Ab (fun listed' a' Γ' hL=>seqB_ready hL.1) l.length listed a Γ inv (yy h0 hf) Aa h.1
    (fun v hv=>aFl2 hSp hsel hs hc hn l (k+1) _ _ _ (fun j hj=>by have:=hl (j+1) (by simp;omega);simpa[jq,yO 1 j]using this) (by simp only[qU]at hk;omega) (inv.set Aa Ab) Ac (h.2 v hv))
end
end Go.FlowR
namespace Go.FlowE
open Go Go.RowKit Go.FlowP
def addE(k p:Nat)(l:List Oper):List Oper:=l.modify k fun o=>{ o with after:=o.after.push { on:=p,ground:=.data } }
section
variable {P:Program} {l:List Oper} {k p:Nat}
theorem aEa(j:Nat):(addE k p l)[j]?=if k=j then(l[j]?).map (fun o=>{ o with after:=o.after.push { on:=p,ground:=.data } })else l[j]?:=by
 unfold addE;rw[List.getElem?_modify];by_cases h:k=j
 ·simp only[qR h];cases l[j]?<;>rfl
 ·simp only[qH h];cases l[j]?<;>rfl
theorem aEl:(addE k p l).length=l.length:=by unfold addE;simp
theorem aEy(t:Array Value):yielded (addE k p l).toArray t=yielded l.toArray t:=by
 funext j;unfold yielded;simp only[js,aEa];by_cases h:k=j
 ·simp only[qR h];cases l[j]?<;>rfl
 ·simp only[qH h]
theorem aEr{listed:Array Bool}(hp:listed.getD p false=true):Region.ready .any (addE k p l).toArray listed=Region.ready .any l.toArray listed:=by
 unfold Region.ready;simp only[qu,aEl];refine List.filter_congr fun i _=>?_;simp only[js,aEa];by_cases h:k=i
 ·simp only[qR h];cases l[i]? with
  |none=>rfl
  |some o=>simp only[ji,yz,Array.all_push,hp,Bool.or_true,Bool.and_true]
 ·simp only[qH h]
theorem aEw2{Q:Exit->Act->World->Prop}{i:Nat}{K:Act->World->Prop}{a:Act}{w:World}:wpOp P (addE k p l).toArray Q i K a w=wpOp P l.toArray Q i K a w:=by
 unfold wpOp;simp only[js,aEa,aEy];by_cases h:k=i
 ·simp only[qR h];cases l[i]?<;>rfl
 ·simp only[qH h]
theorem aEw{Q:Exit->Act->World->Prop}:∀(f:Nat) (listed:Array Bool) (a:Act) (w:World),listed.getD p false=true->wpAny P .any (addE k p l).toArray Q f listed a w->wpAny P .any l.toArray Q f listed a w
 |0,listed,a,w,hp,h=>by unfold wpAny at h⊢;rw[aEr hp]at h;exact h
 |f+1,listed,a,w,hp,h=>by unfold wpAny at h⊢;rw[aEr hp]at h;refine⟨h.1,fun i hi=>?_⟩;have h1:=h.2 i hi;rw[aEw2]at h1;refine wpOp_mono (fun a' w' h'=>aEw f _ a' w' ?_ h') h1;exact getD_set_true hp
end
variable {P:Program} {R:FlowR.Rel}
theorem wp_region{id:Nat}{Q:Exit->Act->World->Prop}{a:Act}{w:World}{l:List Oper}(n k p:Nat){op:Oper}{v:Value}(S:Nat->Value->FlowR.Spec)(σ:Nat->Nat)(hSp:FlowR.SpU (addE k p l).toArray S σ)(hm:P.follows .mixedOrders=true)(hB:Region.lexTailB .any (addE k p l).toArray n=true)(hS:∀i x,FlowR.Spec.mono R (S i x))
  (ho:l[p]?=some op) (hok:(Region.noSelect l.toArray&&pO l.toArray [p] (Array.replicate l.length false)&&(Region.ready .any (addE k p l).toArray (Array.replicate l.length false)).contains p&&decide (p<l.length))=true) (hkp:k≠p) (hwa:Region.wanted op (yielded l.toArray a.tmps)=true) (hv:∀w,(execOp a.eval op).run P w = .ok (.value v) w)
  (h:FlowR.Tree R P (addE k p l).toArray S σ w (fun a' Γ=>∀w',R.r w w'->(∀j,Γ j w')->wpList P (addE k p l).toArray (Qn (Q .normal)) ((addE k p l).drop n) a' w') ((addE k p l).take n) 0 a (fun _ _=>True)):(Code.region id l.toArray true).wp P Q a w:=by
 refine qAi hm (wAw _ _ _ _ ?_);simp only[qb,qn]at hok;obtain⟨⟨⟨Ab,Ai⟩,Ak⟩,Aq⟩:=hok;obtain⟨l2,Aa⟩:=Xq (addE k p l)
 have Ad:l2.length=l.length:=by rw[Aa];exact aEl
 rw[<-Aa]at hSp hB h Ak;simp only[Region.lexTailB,qb,qn]at hB;obtain⟨⟨⟨⟨Ae,hn⟩,hs⟩,hc⟩,Af⟩:=hB;have Ap:n<l2.length:=by simpa using hn
 have Ac:(l2.take n).length=n:=by simp;omega
 have Aj:(l2.drop n).length=l2.toArray.size-n:=by simp
 have Ah:HeadInv .any l2.toArray n (Array.replicate l2.toArray.size false):=
  ⟨by simp,fun j oj _ hl=>(by rw[jE]at hl;cases hl),fun t _ ht=>getD_in (by simpa using ht) (jE _ _)⟩
 have H:=FlowR.aFl2 (g:=l2.toArray.size-n) hSp Ae hs hc hn (l2.take n) 0 _ a (fun _ _=>True) (fun j hj=>by
  have An:j<n:=by rw[Ac]at hj;exact hj
  simp[An]) (by simpa using Ac) Ah (by rw[Ac];exact Af) h
 have H2:=FlowR.wAo (Q:=Qn (Q .normal)) (g:=l2.toArray.size-n) hS (fun listed a' Γ' w' hL hb hG=>by
  have:=wpAny_of_seq (md:=.any) (Q':=Qn (Q .normal)) (l2.drop n) n listed a' w' (fun j=>by simp) (by rw[Aj];exact hL.1) (hL.2 w' hb hG)
  rwa [Aj]at this) _ _ _ _ { w with drawn:=w.drawn+1 } H (R.drew _) (fun _=>trivial) (fun _ _ _ _ _=>trivial)
 rw[Ac,show n+(l2.toArray.size-n)=l.length by simp;omega]at H2;simp only[qu,Ad]at H2⊢;obtain⟨N,hN⟩:∃N,l.length=N+1:=⟨l.length-1,by omega⟩
 have Am:l2.toArray[p]?=some op:=by rw[js,Aa,aEa,qH hkp];exact ho
 have Ao:∀t,yielded l2.toArray t=yielded l.toArray t:=fun t=>by rw[Aa];exact aEy t
 have H3:wpAny P .any l.toArray (Qn (Q .normal)) N ((Array.replicate (N+1) false).setIfInBounds p true) (a.put op.dst v) { w with drawn:=w.drawn+1 }:=by
  rw[hN]at H2;have h3:=H2.2 p (by rw[<-hN];simpa using Ak);unfold wpOp at h3;simp only[Am,Ao,hwa,jH]at h3;rcases h3 with h3|h3
  ·unfold Oper.wp at h3;rw[hv]at h3;rw[Aa]at h3;refine aEw _ _ _ _ ?_ h3;have Al:p<N+1:=by omega
   simp[Al]
  ·exact(nl2 _ h3.2).elim
 have Ag:=Ai;simp only[pO,qb]at Ag
 have H4:=wAp (P:=P) (E:=Q .normal) (fuel:=N) (w:={ w with drawn:=w.drawn+1 }) Ab [p] (Array.replicate l.length false) a Ai ⟨op,v,by rw[js];exact ho,hwa,hv,by
  show wpAny P .any l.toArray (Qn (Q .normal)) N ((Array.replicate l.length false).setIfInBounds p true) _ _
  rw[hN];exact H3⟩
 rw[hN];rw[hN]at H4;exact H4
end Go.FlowE
namespace Go.FlowT
open Go Go.RowKit Go.Flow Go.FlowP
section
variable {P:Program} {ops:Array Oper}
def lHF(ops:Array Oper)(fin:Array Bool->Bool):Nat->Nat->Array Bool->Bool
 |0,_,listed=>fin listed
 |f+1,k,listed=>(Region.ready .any ops listed).contains k&&Region.free .any ops listed k&&lHF ops fin f (k+1) (listed.setIfInBounds k true)
theorem aFl3{S:Nat->Flow.Spec}{w0:World}{n t1:Nat}{ks:List Nat}{fin:Array Bool->Bool}{Lq:Act->(Nat->World->Prop)->Prop}(hsel:Region.noSelect ops=true)(hs:sT2 ops n t1=true)(hc:cT3 ops t1 ks=true)(hks:∀k∈ks,n<=k)(hfin:∀listed,fin listed=true->∀j∈Region.ready .any ops listed,n<=j) :
  ∀(l:List Oper) (k:Nat) (listed:Array Bool) (a:Act) (Γ:Nat->World->Prop),(∀j,j<l.length->l[j]?=ops[k+j]?)->k+l.length=n->HInv ops n ks listed ->
  lHF ops fin l.length k listed=true->Tree P ops S w0 Lq l k a Γ ->
  aF P ops S w0 n (fun listed' a' Γ'=>fin listed'=true/\Lq a' Γ') l.length listed a Γ
 |[],k,listed,a,Γ,_,hk,_,hB,h=>⟨by simpa[lHF]using hB,h⟩
 |o::l,k,listed,a,Γ,hl,hk,inv,hB,h=>by
   have h0:ops[k]?=some o:=by simpa using(hl 0 (by simp)).symm
   simp only[qU,lHF,qb]at hB;obtain⟨⟨hr,hf⟩,Ac⟩:=hB;have Ab:k<n:=by simp only[qU]at hk;omega
   have Aa:k∈Region.ready .any ops listed:=by simpa using hr
   exact aFf h0 (yT hsel) hs hc Ab hks (fun listed' a' Γ' hL=>hfin listed' hL.1) l.length listed a Γ inv (yy h0 hf) Aa h.1
    (fun v hv=>aFl3 hsel hs hc hks hfin l (k+1) _ _ _ (fun j hj=>by have:=hl (j+1) (by simp;omega);simpa[jq,yO 1 j]using this) (by simp only[qU]at hk;omega) (inv.set Aa (fun hk=>by have:=hks k hk;omega)) Ac (h.2 v hv))
structure Fin(ops:Array Oper)(n:Nat)(ps:List Nat)(x y:Nat)(listed:Array Bool):Prop where
 r:Region.ready .any ops listed=[n]
 p:pO ops ps (listed.setIfInBounds n true)=true
 xy:∀i∈Region.ready .any ops (after ps (listed.setIfInBounds n true)),i=x∨i=y
 ne:Region.ready .any ops (after ps (listed.setIfInBounds n true))≠[]
 sx:seqL ops [y] ((after ps (listed.setIfInBounds n true)).setIfInBounds x true)=true
 sy:seqL ops [x] ((after ps (listed.setIfInBounds n true)).setIfInBounds y true)=true
def finB(ops:Array Oper)(n:Nat)(ps:List Nat)(x y:Nat)(listed:Array Bool):Bool:=
 decide (Region.ready .any ops listed=[n])&&(pO ops ps (listed.setIfInBounds n true)&&(((Region.ready .any ops (after ps (listed.setIfInBounds n true))).all fun i=>i==x||i==y)&&((!(Region.ready .any ops (after ps (listed.setIfInBounds n true))).isEmpty) &&
  (seqL ops [y] ((after ps (listed.setIfInBounds n true)).setIfInBounds x true)&&seqL ops [x] ((after ps (listed.setIfInBounds n true)).setIfInBounds y true)))))
theorem Fin.of{n:Nat}{ps:List Nat}{x y:Nat}{listed:Array Bool}(h:finB ops n ps x y listed=true):Fin ops n ps x y listed:=by
 unfold finB at h;obtain⟨a1,h⟩:=jG.1 h;obtain⟨a2,h⟩:=jG.1 h;obtain⟨a3,h⟩:=jG.1 h;obtain⟨a4,h⟩:=jG.1 h;obtain⟨a5,a6⟩:=jG.1 h;refine⟨zT a1,a2,fun i hi=>?_,?_,a5,a6⟩
 ·have:=qx.1 a3 i hi;simpa using this
 ·intro e;rw[e]at a4;cases a4
structure OkT(ops:Array Oper)(n:Nat)(ks ps:List Nat)(x y:Nat):Prop where
 sel:Region.noSelect ops=true
 s:sT2 ops n n=true
 c:cT3 ops n ks=true
 kn:∀k∈ks,n<=k
 kl:∀k∈ks,k<ops.size
 nl:n<ops.size
 len:n+(1+(ps.length+2))=ops.size
 lex:lHF ops (finB ops n ps x y) n 0 (Array.replicate ops.size false)=true
 rest:∀j,j<ops.size->j<n∨ks.contains j=true
def okT(ops:Array Oper)(n:Nat)(ks ps:List Nat)(x y:Nat):Bool:=
 Region.noSelect ops&&(sT2 ops n n&&(cT3 ops n ks&&((ks.all fun k=>decide (n<=k))&&((ks.all fun k=>decide (k<ops.size))&&(decide (n<ops.size)&&(decide (n+(1+(ps.length+2))=ops.size)&&(lHF ops (finB ops n ps x y) n 0 (Array.replicate ops.size false) &&
  ((List.range ops.size).all fun j=>decide (j<n)||ks.contains j))))))))
theorem OkT.of{n:Nat}{ks ps:List Nat}{x y:Nat}(h:okT ops n ks ps x y=true):OkT ops n ks ps x y:=by
 unfold okT at h;obtain⟨a1,h⟩:=jG.1 h;obtain⟨a2,h⟩:=jG.1 h;obtain⟨a3,h⟩:=jG.1 h;obtain⟨a4,h⟩:=jG.1 h;obtain⟨a5,h⟩:=jG.1 h;obtain⟨a6,h⟩:=jG.1 h;obtain⟨a7,h⟩:=jG.1 h;obtain⟨a8,h⟩:=jG.1 h;refine⟨a1,a2,a3,fun k hk=>zT (qx.1 a4 k hk),fun k hk=>zT (qx.1 a5 k hk),zT a6,zT a7,a8,fun j hj=>?_⟩;rcases Bool.or_eq_true_iff.1 (qx.1 h j (zV.2 hj))with h|h
 ·exact Or.inl (zT h)
 ·exact Or.inr h
theorem uc4{o:Oper}{a:Act}{E E':Act->World->Prop}{K':Act->World->Prop}{r:Result Next}(hK:∀b w,Qn E .normal b w->K' b w)(h:o.upon P a (wpList P ops (Qn E) []) (Qn E) r):o.upon P a K' (Qn E') r:=by
 cases r with
 |ok n w'=>
   cases n<;>simp only[Oper.upon]at h⊢
   case value u=>exact hK _ _ h
   case skip=>exact hK _ _ h
   case defer d=>exact hK _ _ h
   case enter f args=>
    refine xL h fun e w'' he=>?_;cases e with
    |returned u=>exact hK _ _ he
    |panicked c=>exact(by cases he.1)
    |outgrown=>exact(nl2 _ he).elim
   case row=>exact Rows.mono h fun u w'' he=>hK _ _ he
 |halt x w'=>
   cases x<;>simp only[Oper.upon]at h⊢
   case panic=>exact(by cases h.1)
theorem wAt{E:Act->World->Prop}{x y:Nat}{ox oy:Oper}{listed:Array Bool}{a:Act}{w:World}(hx:ops[x]?=some ox)(hy:ops[y]?=some oy)
  (hxy:∀i∈Region.ready .any ops listed,i=x∨i=y) (hne:Region.ready .any ops listed≠[]) (sx:seqL ops [y] (listed.setIfInBounds x true)=true) (sy:seqL ops [x] (listed.setIfInBounds y true)=true)
  (h1:wpList P ops (Qn E) [ox,oy] a w) (h2:wpList P ops (Qn E) [oy,ox] a w):wpAny P .any ops (Qn E) 2 listed a w:=by
 refine⟨fun h=>absurd h hne,fun i hi=>?_⟩;rcases hxy i hi with rfl|rfl
 ·refine wpOp_mono (K:=wpList P ops (Qn E) [oy]) (fun b w' hb=>wAo3 [y] [oy] _ b w' (by simp[hy]) sx hb) ?_;unfold wpOp;simp only[hx];exact h1
 ·refine wpOp_mono (K:=wpList P ops (Qn E) [ox]) (fun b w' hb=>wAo3 [x] [ox] _ b w' (by simp[hx]) sy hb) ?_;unfold wpOp;simp only[hy];exact h2
theorem wp_region{id:Nat}{Q:Exit->Act->World->Prop}{a:Act}{w:World}{l:List Oper}{on ox oy:Oper}(n:Nat)(ks ps:List Nat)(x y:Nat)(S:Nat->Flow.Spec)(hm:P.follows .mixedOrders=true)(hB:okT l.toArray n ks ps x y=true)(hS:∀i,(S i).mono)
  (hn:l.toArray[n]?=some on) (hx:l.toArray[x]?=some ox) (hy:l.toArray[y]?=some oy)
  (h:Tree P l.toArray S w (fun a' Γ=>∀w',Below w.heap.size w w'->(∀j,Γ j w')->wpList P l.toArray (Qn (fun a2 w2=>Pure P l.toArray ps (fun a3=>wpList P l.toArray (Qn (Q .normal)) [ox,oy] a3 w2/\wpList P l.toArray (Qn (Q .normal)) [oy,ox] a3 w2) a2)) [on] a' w') (l.take n) 0 a (fun _ _=>True)) :
  (Code.region id l.toArray true).wp P Q a w:=by
 obtain⟨Ab,hs,hc,Al,Aj,Ak,Ae,Ag,Ac⟩:=OkT.of hB;have Ad:(l.take n).length=n:=by simp;simp at Ak;omega
 have Ah:HInv l.toArray n ks (Array.replicate l.toArray.size false):=
  ⟨by simp,fun j oj hj hl=>(by rw[jE]at hl;cases hl),fun t ht=>getD_in (by simpa using Aj t ht) (jE _ _),fun j h1 h2 h3=>by
    rcases Ac j h2 with h|h
    ·omega
    ·exact absurd (by simpa using h) h3⟩
 have Af:∀listed:Array Bool,finB l.toArray n ps x y listed=true->∀j∈Region.ready .any l.toArray listed,n<=j:=by
  intro listed hf j hj;rw[(Fin.of hf).r]at hj;have:j=n:=by simpa using hj
  omega
 have H:=aFl3 (t1:=n) Ab hs hc Al (fin:=finB l.toArray n ps x y) Af (l.take n) 0 _ a (fun _ _=>True) (fun j hj=>by
   have Am:j<n:=by rw[Ad]at hj;exact hj
   simp[Am]) (by simpa using Ad) Ah (by rw[Ad];exact Ag) h
 refine qAi hm (wAw _ _ _ _ ?_)
 suffices hLL:∀(listed:Array Bool) (a':Act) (Γ':Nat->World->Prop) (w':World),(finB l.toArray n ps x y listed=true/\∀w',Below w.heap.size w w'->(∀j,Γ' j w')->wpList P l.toArray (Qn (fun a2 w2=>Pure P l.toArray ps (fun a3=>wpList P l.toArray (Qn (Q .normal)) [ox,oy] a3 w2/\wpList P l.toArray (Qn (Q .normal)) [oy,ox] a3 w2) a2)) [on] a' w')->Below w.heap.size w w'->(∀j,Γ' j w')->wpAny P .any l.toArray (Qn (Q .normal)) (1+(ps.length+2)) listed a' w' by have H2:=wAo (Q:=Qn (Q .normal)) (g:=1+(ps.length+2)) hS hLL _ _ _ _ { w with drawn:=w.drawn+1 } H ((qJ _ _).drew) (fun _=>trivial) (fun _ _ _ _ _=>trivial);rw[Ad,Ae]at H2;exact H2
 ·intro listed a' Γ' w' hL hb hG;obtain⟨hf,hw⟩:=hL;have F:=Fin.of hf;have h1:=hw w' hb hG;rw[show 1+(ps.length+2)=(ps.length+2)+1 by omega];refine⟨fun h=>(by rw[F.r]at h;cases h),fun i hi=>?_⟩;have Ai:i=n:=by rw[F.r]at hi;simpa using hi
  subst Ai
  have Aa:∀b w2,(Qn (fun a2 w2=>Pure P l.toArray ps (fun a3=>wpList P l.toArray (Qn (Q .normal)) [ox,oy] a3 w2/\wpList P l.toArray (Qn (Q .normal)) [oy,ox] a3 w2) a2)) .normal b w2->wpAny P .any l.toArray (Qn (Q .normal)) (ps.length+2) (listed.setIfInBounds i true) b w2:=by rintro b w2 ⟨_,hp⟩;rw[show ps.length+2=2+ps.length by omega];exact wAp Ab ps _ b F.p (pm (fun a3 h3=>wAt hx hy F.xy F.ne F.sx F.sy h3.1 h3.2) ps b hp)
  unfold wpList at h1;unfold wpOp;simp only[hn];split
  ·rename_i hwt;rw[qR hwt]at h1;have h1:=h1.resolve_right (fun h=>nl2 _ h.2);refine .inl ?_;unfold Oper.wp at h1⊢;exact uc4 (fun b w2 hb=>Aa b w2 hb) h1
  ·rename_i hwt;rw[qH hwt]at h1;exact Aa _ _ h1
end
