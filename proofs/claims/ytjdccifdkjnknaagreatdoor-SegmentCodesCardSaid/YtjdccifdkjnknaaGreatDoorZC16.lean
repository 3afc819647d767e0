/- Joined. -/
import Derived.Test.YtjdccifdkjnknaaGreatDoorZC15
import Derived.Laws.CopyOwn
import Derived.Laws.AppendOwnNone
import Derived.Deep.DeepAppendRoom
import Derived.Test.YtjdccifdkjnknaaGreatDoorZC04
import Derived.Test.YtjdccifdkjnknaaGreatDoorZC08
import Derived.Laws.EntriesVeiled
set_option maxRecDepth 100000
set_option maxHeartbeats 4000000
namespace Tess
open Go Kl Go.RowKit Go.Proofs.Q9
noncomputable def cB(s:Sch)(C:List (CK×Pay)):Bool:=by classical exact decide (CO s C)
theorem cBi{s:Sch}{C:List (CK×Pay)}:cB s C=true↔CO s C:=by unfold cB;simp
noncomputable def encP(s:Sch)(C:List (CK×Pay)):ByteArray×Nat:=
 if ¬sO s=true then(mk [],100)
 else if ¬cB s C=true then(mk [],120)
 else if ∀x∈pS2 s C,x.length<=60000 then(encS s C,0)else(mk [],30)
noncomputable def decP(s:Sch)(b:ByteArray):List (CK×Pay)×Nat:=
 if ¬sO s=true then([],100)
 else if(sF b.size [] b).2≠0 then([],(sF b.size [] b).2)
 else match rS2 s.dims.length s.mets.length (sF b.size [] b).1 with
  |none=>([],130)
  |some C=>if encP s C=(b,0)then(C,0)else([],130)
theorem ePo{s:Sch}{C:List (CK×Pay)}(h:(encP s C).2=0):sO s=true/\CO s C/\(∀x∈pS2 s C,x.length<=60000)/\encP s C=(encS s C,0):=by
 unfold encP at *;split at h
 ·cases h
 ·rename_i h1;split at h
  ·cases h
  ·rename_i h2;split at h
   ·rename_i h3;have h1:sO s=true:=by simpa using h1
    have h2:cB s C=true:=by simpa using h2
    exact⟨h1,cBi.1 h2,h3,by rw[qH (by simp[h1]),qH (by simp[h2]),qR h3]⟩
   ·cases h
theorem se4{s:Sch}{C:List (CK×Pay)}(h:∀x∈pS2 s C,x.length<=60000):sF (encS s C).size [] (encS s C)=((pS2 s C).map mk,0):=by
 have:=sFj ((pS2 s C).map mk) (encS s C).size [] (fun x hx=>by
  obtain⟨y,hy,rfl⟩:=qd.1 hx
  rw[ms2];exact h y hy) (qC _)
 rw[qr]at this;exact this
theorem deP{s:Sch}{C:List (CK×Pay)}(h:(encP s C).2=0):decP s (encP s C).1=(C,0):=by obtain⟨h1,h2,h3,h4⟩:=ePo h;have h5:=se4 h3;unfold decP;rw[h4];simp only[h1,h5];rw[qH (by simp),qH (by simp),rb3 h2];simp only;rw[qR h4]
theorem mi2{l m:List UInt8}(h:mk l=mk m):l=m:=by have:=zM (fun b:ByteArray=>b.data.toList) h;simpa[ml2]using this
theorem ps4{n:Nat}(h:n<128):(putL n).length=1:=by rw[pLl2 n h];rfl
theorem oc5(a y:ByteArray)(h:y.size<=100):(one a y).length=2+(y.size-shared a y):=by have:=(sl4 a y).2;unfold one;rw[qI,qI,ps4 (by omega),ps4 (by omega),zn,show y.data.toList.length=y.size from ju]
theorem pNl(l:List Nat):(pN2 l).length=(putL l.length).length+1+sP l.length (widN l):=by unfold pN2;rw[qI,qU,bBl];omega
theorem jLl:∀(l:List ByteArray),(joinL l).size=(l.map fun x=>x.size+8).sum
 |[]=>rfl
 |s::l=>by rw[jLc,yJ,ms3,jLl l,jN,List.sum_cons];omega
theorem pLt{n:Nat}(h:n<18446744073709551616):(putL n).length<=10:=pLl3 n 9 (qF h (by decide))
theorem fl2{α:Type}(f:α->List UInt8)(B:Nat):∀l:List α,(∀x∈l,(f x).length<=B)->(l.flatMap f).length<=l.length*B
 |[],_=>by simp
 |x::l,h=>by rw[zp,qI,qU,qAs];have h1:=h x (by simp);have h2:=fl2 f B l fun y hy=>h y (by simp[hy]);omega
theorem dl4:∀(l:List Int) (last:Int),(di last l).length=l.length
 |[],_=>rfl
 |n::l,last=>by rw[di,qU,qU,dl4 l n]
theorem dr2:∀(l:List Int) (last:Int),∀d∈di last l,-9223372036854775808<=d/\d<=9223372036854775807
 |[],_,d,h=>by cases h
 |n::l,last,d,h=>by
   rw[di]at h;rcases qm.1 h with rfl|h
   ·exact wr5 _
   ·exact dr2 l n d h
theorem pLf(l:List Int)(h:l.length<=1000):(pL2 l).length<=10+l.length*10:=by unfold pL2;rw[qI];have h1:=pLt (n:=l.length) (by omega);have h2:=fl2 (fun d=>putL (tN d)) 10 (di 0 l) fun d hd=>pLt (tl2 d (dr2 l 0 d hd));rw[dl4]at h2;omega
theorem ef2:∀(l:List ByteArray) (a:ByteArray),(∀z∈l,z.size<=100)->(eF a l).length<=l.length*102
 |[],_,_=>by simp[eF]
 |y::l,a,h=>by rw[eF,qI,qU,qAs,oc5 a y (h y (by simp))];have h1:=h y (by simp);have h2:=ef2 l y fun z hz=>h z (by simp[hz]);omega
theorem hf4{s:Sch}(h:sO s=true):(hB14 s).length<=400:=by
 obtain⟨h1,h2,h3,h4,h5⟩:=sf2 h;unfold hB14;simp only[qI];have e1:=pLt (n:=s.dims.length) (by omega);have e2:=pLt (n:=s.mets.length) (by omega);have e3:=pLt (n:=s.grain.toNat) (by omega)
 have e4:=fl2 nB2 30 (s.dims++s.mets) fun x hx=>by have:=h5 x hx;unfold nB2;rw[qI,show x.data.toList.length=x.size from ju];have:=pLt (n:=x.size) (by omega);omega
 rw[qI]at e4;omega
theorem df3(C:List (CK×Pay))(i:Nat):(dO2 C i).length<=C.length:=by have h1:=sWf (dW C i);have h2:(dW C i).length<=C.length:=je _ _;unfold dO2;omega
theorem ds4{s:Sch}{C:List (CK×Pay)}(h:CO s C)(i:Nat):∀z∈dO2 C i,z.size<=100:=fun z hz=>by
 unfold dO2 at hz;rw[sWa]at hz;obtain⟨x,hx,hb⟩:=qBb.1 hz;have hv:=(h.each x hx).dims.2;rw[qx]at hv
 have hm:some z∈x.1.2:=by
  rw[qE]at hb;cases he:x.1.2[i]? with
  |none=>rw[he]at hb;cases hb
  |some v=>rw[he]at hb;exact hb▸xF he
 have:=hv (valOf (some z)) (qd.2 ⟨_,hm,rfl⟩);unfold vO valOf at this;simpa using this
theorem cDf{s:Sch}{C:List (CK×Pay)}(h:CO s C)(hC:C.length<=50)(i:Nat):(colD C i).length<=6000:=by
 unfold colD;rw[qI,pNl,qX,eLf,qI];have hd:=df3 C i;have e1:=pLt (n:=(dO2 C i).length) (by omega);have e2:=ef2 (dO2 C i) w0 (ds4 h i);have e3:=pLt (n:=C.length) (by omega)
 have e4:widN (C.map fun x=>idOf (dO2 C i) (x.1.2.getD i none))<=16:=wNl _ fun n hn=>by
  obtain⟨x,hx,rfl⟩:=qd.1 hn;cases x.1.2.getD i none with
  |none=>show(dO2 C i).length<=65535;omega
  |some b=>
    have:place (dO2 C i) b<=(dO2 C i).length:=qAa;show place (dO2 C i) b<=65535;omega
 have e5:sP C.length (widN (C.map fun x=>idOf (dO2 C i) (x.1.2.getD i none)))<=101:=by unfold sP;have:=yh hC e4;omega
 have e6:(dO2 C i).length*102<=50*102:=jO _ (by omega);omega
theorem pf2{s:Sch}{C:List (CK×Pay)}(h:CO s C)(hC:C.length<=50):∀x∈pS2 s C,x.length<=60000:=by
 intro x hx
 have Aa:∀l:List Int,l.length=C.length->(pL2 l).length<=510:=fun l hl=>by have:=pLf l (by omega);omega
 unfold pS2 at hx;rcases qm.1 hx with rfl|hx
 ·have:=hf4 h.sch;omega
 rcases qm.1 hx with rfl|hx
 ·unfold colT;rw[qI];have h1:=Aa (C.map fun x=>x.1.1) (by simp);have h2:=Aa (C.map fun x=>x.2.n) (by simp);omega
 rcases zk.1 hx with hx|hx
 ·obtain⟨i,_,rfl⟩:=qd.1 hx;have:=cDf h hC i;omega
 ·obtain⟨m,_,rfl⟩:=qd.1 hx;unfold colM;simp only[qI];have h1:=Aa (C.map fun x=>wHi (x.2.sums.getD m 0)) (by simp);have h2:=Aa (C.map fun x=>wrap64 (wLo (x.2.sums.getD m 0))) (by simp);have h3:=Aa (C.map fun x=>x.2.mins.getD m 0) (by simp);have h4:=Aa (C.map fun x=>x.2.maxs.getD m 0) (by simp);omega
theorem efo{s:Sch}{C:List (CK×Pay)}(h:CO s C)(hC:C.length<=50):encP s C=(encS s C,0):=by unfold encP;rw[qH (by simp[h.sch]),qH (by simp[cBi.2 h]),qR (pf2 h hC)]
end Tess
namespace Tess
def headW(s:Sch):ByteArray×Nat:=if sO s then(mk (hB14 s),0)else(ByteArray.empty,100)
def hN5(s:Sch):List Nat:=[s.dims.length,s.mets.length,s.grain.toNat]
theorem hBe2(s:Sch):hB14 s=(hN5 s).flatMap putL++(s.dims++s.mets).flatMap nB2:=by simp[hB14,hN5]
theorem fn2{α:Type}(f:α->List UInt8)(l:List α)(k:Nat)(h:k<l.length):(l.take (k+1)).flatMap f=(l.take k).flatMap f++f l[k]:=by rw[qQ h,yt];simp
theorem pn2(n:Nat):putL n≠[]:=by
 by_cases h:n<128
 ·rw[pLl2 n h];simp
 ·rw[pLg n h];simp
end Tess
namespace Go.Proofs.Q9
open Go.RowKit Go.Sort
section
variable {P:Program} {w:World} {ops:Array Oper} {rest:List Oper} {o:Oper} {a:Act} {Q:Exit->Act->World->Prop}
theorem wLm2(l c:Operand)(t:TypeId)(hop:o.op=Op.makeSlice t l c)
  (e:TypeId) (i:TypeInfo) (z:Value) (h1:P.underlying t=some (.slice e)) (h2:P.info? e=some i) (h3:i.zero=some z) (h4:i.size=1) (hz:z.cells=#[z])
  (kl kc:IntKind) (L C:Int) (n m:Nat) (hl:a.eval l = .int kl L) (hc:a.eval c = .int kc C) (hL:L=(n:Int)) (hC:C=(m:Int)) (hnm:n<=m) (b2:i.bytes*m<=281474976710656) (b3:m<=9223372036854775807)
  (h:∀w1:World,Below w.heap.size w w1->w1.heap.size=w.heap.size+1->w1.heap[w.heap.size]?=some (.cells (List.replicate m z).toArray e (0,0))->wpList P ops Q rest (a.put o.dst (.slice (some ⟨w.heap.size,0,none⟩) n m)) w1) (hgd:Region.wanted o (yielded ops a.tmps)=true:=by first|(simp only[Region.wanted];done)|(simp[Region.wanted,yielded];done)) :
  wpList P ops Q (o::rest) a w:=by
 refine wLw hgd fun K hK=>?_;subst hL;subst hC;have Aa:=run_make (P:=P) w t e i z h1 h2 h3 kl kc n m (by omega) (by omega) (by rw[<-xZ];omega) (by omega);simp only[xj,h4,yY,hz]at Aa;unfold Oper.wp;simp only[execOp,hop,hl,hc,Aa,Result.andThen,xz,Sem.run_pure];refine hK _ _ (h _ ((qJ _ _).alloc (qC _) _) (by simp) ?_);rw[jY];have e1:=toList_madeCells_one z m;rw[<-e1]
theorem wLa4(hgd:o.guard=none)(s x:Operand)(t:TypeId)
  (ho:o.op = .call { callee:=.builtin .append,args:=#[s,x],argTypes:=#[t,t] })
  (base:Nat) (e:TypeId) (i:TypeInfo) (ht:P.underlying t=some (.slice e)) (hi:P.info? e=some i) (hsize:i.size=1)
  (g n cap:Nat) (xs:List Value) (hs:a.eval s = .slice (some ⟨g,0,none⟩) n cap) (hown:w.ownsRow base e 1 (.slice (some ⟨g,0,none⟩) n cap) n xs)
  (ao:Option Addr) (m c:Nat) (news:List Value) (hx:a.eval x = .slice ao m c) (hl:news.length=m) (hnil:ao=none->m=0/\c=0)
  (hnews:∀b off,ao=some ⟨b,off,none⟩->∀j u,news[j]?=some u->w.cell? ⟨b,off+j,none⟩=some u) (hao:∀ad,ao=some ad->m=0∨∃b off,ad=⟨b,off,none⟩) (h1:∀u∈news,u.oneCell'=true)
  (hroom:n+m<=cap)
  (h:∀w',w'.ownsRow base e 1 (.slice (some ⟨g,0,none⟩) (n+m) cap) (n+m) (xs++news)->w.grownBy w' (some g)->wpList P ops Q rest (a.put o.dst (.slice (some ⟨g,0,none⟩) (n+m) cap)) w'):wpList P ops Q (o::rest) a w:=by
 cases ao with
 |none=>
   obtain⟨rfl,rfl⟩:=hnil rfl;obtain rfl:=jQ hl;exact wpList_append_own_none hgd s x t ho base e i 1 ht hi _ n xs hs hown hx (h w (by simpa using hown) (World.grownBy.refl _ _))
 |some ad=>
   refine wpList_append_own_spare _ hgd s x t ho base e i 1 ht hi hsize g n cap xs hs hown ad m c news hx (by omega) (fun j u hj=>?_) h1 hroom h;have Aa:=(zW.1 hj).1;rcases hao _ rfl with h0|⟨b,off,rfl⟩
   ·omega
   ·rw[ap2];exact hnews b off rfl j u hj
end
structure Hw(w:World)(g b:Nat)(N0 N1 N2:Obj)(l:List UInt8)(W:World):Prop where
 kb:Bd b l W
 k0:W.heap[w.heap.size]?=some N0
 k1:W.heap[g]?=some N1
 k2:W.heap[b+1]?=some N2
 below:Below w.heap.size w W
theorem Hw.later{w:World}{g b:Nat}{N0 N1 N2:Obj}{l:List UInt8}{W W':World}(h:Hw w g b N0 N1 N2 l W)(hb:Below W.heap.size W W')(hbl:b<W.heap.size):Hw w g b N0 N1 N2 l W' where
 kb:=bs2 h.kb (hb.block b hbl) fun k _ _ hk=>hb.block k (qA.1 hk).1
 k0:=(hb.block w.heap.size (qA.1 h.k0).1).trans h.k0
 k1:=(hb.block g (qA.1 h.k1).1).trans h.k1
 k2:=(hb.block (b+1) (qA.1 h.k2).1).trans h.k2
 below:=Bt h.below hb
theorem Hw.wrote{w:World}{g b:Nat}{N0:Obj}{c1 c2:Array Value}{t1 t2:TypeId}{f1 f2:Nat×Nat}{l:List UInt8}{s:ByteArray}{W W':World}(h:Hw w g b N0 (.cells c1 t1 f1) (.cells c2 t2 f2) l W)(hb:Lib.BuilderAt 88 5 b b (.pointer (some ⟨b,0,none⟩)) (Lib.byteCells l++Lib.strCells s) W')(hB:Below b W W')(hk:Oth b W W')(hg:g<b)(hw:w.heap.size<b)(ht:t2≠5):Hw w g b N0 (.cells c1 t1 f1) (.cells c2 t2 f2) (l++s.data.toList) W' where
 kb:=.inr (bb5 hb)
 k0:=(hB.block w.heap.size (by omega)).trans h.k0
 k1:=(hB.block g hg).trans h.k1
 k2:=hk (b+1) _ h.k2 (by simp) (fun c fz e=>by cases e;exact ht rfl)
 below:=h.below.trans (hB.mono (yV hw))
theorem Hw.grown{w:World}{g b:Nat}{N0 N1 N2:Obj}{c1:Array Value}{f1:Nat×Nat}{l:List UInt8}{W W':World}(h:Hw w g b N0 (.cells c1 9 f1) N2 l W)(hg:W.grownBy W' (some g))(hgb:g<b)(hwg:w.heap.size<g)(hbl:b<W.heap.size)(k1':W'.heap[g]?=some N1):Hw w g b N0 N1 N2 l W' where
 kb:=bs2 h.kb (hg.block b hbl (fun e=>by have:=zr e;omega)) fun k _ _ hk=>hg.block k (qA.1 hk).1 (fun e=>by
  have e':=zr e;subst e';have:=hk.symm.trans h.k1
  cases this)
 k0:=(hg.block _ (qA.1 h.k0).1 (fun e=>by have:=zr e;omega)).trans h.k0
 k1:=k1'
 k2:=(hg.block _ (qA.1 h.k2).1 (fun e=>by have:=zr e;omega)).trans h.k2
 below:=h.below.grown hg h.below.size (fun k e=>by cases e;omega)
theorem ha4(p:Nat->Prop)(v:Value)(s:Tess.Sch)(w:World)(hv:SA p w v s) :
  Calls Tryz.prog 18 #[v] w fun e w'=>e = .returned (.tuple #[.string (Tess.headW s).1,.int .i64 ((Tess.headW s).2:Nat)])/\Below w.heap.size w w':=by
 obtain⟨i0,hi,Cu,Bl,C7⟩:=zF iS2;have HR:=Hd (fun(W:World) (hB:Below w.heap.size w W)=>sRa v s p W (hv.ag (Ag.new p hB)));obtain⟨vd,vm,rfl,hd,hm,C0,Cx⟩:=hv;obtain⟨ad,Am,rfl,Dl⟩:=sl3 hd;obtain⟨am,Aa,rfl,Dh⟩:=sl3 hm;have HD:=Hd hd.1;have HM:=Hd hm.1;have Cv:=Hd hm.2.2;have A7:RowKit.Hid (Tess.headW s=if Tess.sO s then(Tess.mk (Tess.hB14 s),0)else(ByteArray.empty,100)):=Hd rfl
 have Dd:=Hd (fun h:Tess.sO s=true=>Tess.sf2 h);have C3:=Hd (Tess.hBe2 s);have Ar:RowKit.Hid (Tess.hN5 s=[s.dims.length,s.mets.length,s.grain.toNat]):=Hd rfl;clear hd hm C0 Cx;go_enter Tryz.func18,Tryz.ntmps18;obtain⟨ds,ms,g⟩:=s;dsimp only at *;by_cases hok:Tess.sO ⟨ds,ms,g⟩=true
 ·have hf:=Dd.out hok;obtain⟨f1,f2,f3,f4,f5⟩:=hf;rw[qR hok]at A7;have Bk:=Hd f5;clear f5
  go_wp2_with (first
   |(go_at_call 23;refine(HR.out _ ((qJ _ _).alloc (qC _) _)).mono ?_;rintro e w1 ⟨rfl,Aq⟩;rw[hok];have A4:=Hd (((qJ _ _).alloc (qC _) _).trans (Aq.mono (by simp)));have k1:=(Aq.block w.heap.size (by simp)).trans (la2 w _).1;have c0:=qT _ _ 0 _ _ _ k1;have c1:=qT _ _ 1 _ _ _ k1;have c2:=qT _ _ 2 _ _ _ k1;simp at c0 c1 c2;have Bu:=Hd k1;clear Aq k1)
   |(at_make;refine wLm2 (.tmp 15) (.tmp 22) 22 rfl 9 i0 (.string ByteArray.empty) Tryz.underlying22 hi Cu Bl rfl .i64 .i64 _ _ ds.length (ds.length+ms.length) rfl rfl (by omega) (by omega) (by omega) (by rw[C7];omega) (by omega) ?_))
  intro w2 Bj B8 Ak;have A6:w.heap.size<w1.heap.size:=(qA.1 Bu.out).1;have Au:=Hd ((Bj.block w.heap.size A6).trans Bu.out);have A8:=Hd (Bt A4.out Bj);have Bp:w2.heap.size=w1.heap.size+1:=B8;have Bn:=Hd Ak;have Cj:w.heap.size<=w1.heap.size:=by omega
  have c0:=qT _ _ 0 _ _ _ Au.out;have c1:=qT _ _ 1 _ _ _ Au.out;have c2:=qT _ _ 2 _ _ _ Au.out;simp at c0 c1 c2;obtain⟨nb,B4⟩:=Xq w1.heap.size
  rw[<-B4]at Bn Bp A6 Cj⊢;clear Bj B8 Ak Bu A4 B4;have Ax:(Tryz.prog.info? 9).map (·.size)=some 1:=by rw[hi];simp[Bl]
  have Cp:=Hd (HD.out.below A8.out);have Db:=Hd (HM.out.below A8.out);obtain⟨cs,A5⟩:=Xq (ds.map Value.string)
  have An:cs.length=ds.length:=by rw[A5,qX]
  have Bm:=Hd A5;have Ad:=Hd (show ∀v∈cs,v.oneCell'=true by rw[A5];intro v hv;obtain⟨x,_,rfl⟩:=qd.1 hv;rfl);clear A5;go_wp2_with (refine wpList_copy_splice rfl (.tmp 24) (.tmp 26) 22 22 rfl 9 Tryz.underlying22 Ax _ _ _ _ _ _ rfl rfl nb 0 _ _ Bn.out cs ?_ ?_ ?_ Ad.out nb w2 (qJ _ _) (qC _) ?_)
  ·simpa using An
  ·intro Dc;obtain⟨a',Bb,A9,_,Ap⟩:=so2 Cp.out;obtain⟨b,Af,ha,_,_⟩:=Ap 0 (by omega);cases A9
   try refine⟨rfl,?_⟩
   refine⟨⟨b,Af,none⟩,ha,fun j v hj=>?_⟩;rw[Bm.out]at hj;obtain⟨Bf,rfl⟩:=zW.1 hj;obtain⟨b',Ba,At,_,Ab⟩:=Ap j (by simpa using Bf);rw[ha]at At;cases At
   rw[ap2,Ab];simp
  ·simp;omega
  intro w3 Cn Bd;have Az:=Hd ((Bd.block w.heap.size A6).trans Au.out);have Cb:=Hd (A8.out.trans (Bd.mono Cj));have c0:=qT _ _ 0 _ _ _ Az.out;have c1:=qT _ _ 1 _ _ _ Az.out;have c2:=qT _ _ 2 _ _ _ Az.out;simp at c0 c1 c2
  have Cr:splice (List.replicate (ds.length+ms.length) (Value.string ByteArray.empty)) 0 cs=ds.map Value.string++List.replicate ms.length (Value.string ByteArray.empty):=by rw[<-Bm.out];unfold splice;simp[An]
  have Ae:=Cn.out;rw[Cr]at Ae;have Cl:=Hd Ae;have A2:nb<w3.heap.size:=(qA.1 Ae).1;have Ay:w.heap.size<w3.heap.size:=by omega
  clear Ae Cn Cr Bn Au A8 Bd Cp Db Ad Bm An;obtain⟨gn,rfl⟩:∃gn:Nat,g=(gn:Int):=⟨g.toNat,by omega⟩
  rw[xj]at Ar;go_wp2;obtain⟨W0,Cc⟩:=XQ ((w3.alloc (.cells #[.pointer none,.slice none 0 0] 88)).alloc (.cells #[.int .i64 (ds.length:Int),.int .i64 (ms.length:Int),.int .i64 (gn:Int)] 2))
  obtain⟨j1,j2,jS,jB⟩:=la3 w3 (.cells #[.pointer none,.slice none 0 0] 88) (.cells #[.int .i64 (ds.length:Int),.int .i64 (ms.length:Int),.int .i64 (gn:Int)] 2);rw[Cc]at j1 j2 jS jB⊢;clear Cc;have Bw:=Hd (Bt Cb.out jB)
  have HH:=Hd (show Hw w nb w3.heap.size (.cells #[.slice ad ds.length Am,.slice am ms.length Aa,.int .i64 (gn:Int)] 24 (0,0)) (.cells (ds.map Value.string++List.replicate ms.length (Value.string ByteArray.empty)).toArray 9 (0,0)) (.cells #[.int .i64 (ds.length:Int),.int .i64 (ms.length:Int),.int .i64 (gn:Int)] 2 (0,0)) [] W0 from⟨bf j1,(jB.block w.heap.size Ay).trans Az.out,(jB.block nb A2).trans Cl.out,j2,Bw.out⟩)
  have Bs:=Hd Ay;have Bo:=Hd A2
  have Bg:=Hd (show ∀k,(((Tess.hN5 ⟨ds,ms,gn⟩).take k).flatMap Tess.putL).length<=1000 from fun k=>by
   have h1:=Tess.fl2 Tess.putL 10 ((Tess.hN5 ⟨ds,ms,gn⟩).take k) (fun n hn=>by
    have Cd:=jp hn;rw[Ar.out]at Cd;simp at Cd
    exact Tess.pLt (by omega))
   have h2:((Tess.hN5 ⟨ds,ms,gn⟩).take k).length<=3:=by rw[Ar.out,qy];simp;omega
   omega)
  generalize w3.heap.size=b at *;have Dn:=Hd jS;clear j1 j2 jB jS c0 c1 c2 Ax Az Cb Cl Bw
  go_loopw [38] (fun i wr=>∃k:Nat,k<=3/\i = .int .i64 k/\Hw w nb b (.cells #[.slice ad ds.length Am,.slice am ms.length Aa,.int .i64 (gn:Int)] 24 (0,0)) (.cells (ds.map Value.string++List.replicate ms.length (Value.string ByteArray.empty)).toArray 9 (0,0)) (.cells #[.int .i64 (ds.length:Int),.int .i64 (ms.length:Int),.int .i64 (gn:Int)] 2 (0,0)) (((Tess.hN5 ⟨ds,ms,gn⟩).take k).flatMap Tess.putL) wr) (fun i _=>3-(intOf i).toNat)
  case atStart=>exact⟨0,by omega,rfl,HH.out⟩
  case round=>
   obtain⟨k,hk,rfl,hH⟩:=hrel;have HH:=Hd hH;by_cases hk3:k<3
   ·obtain⟨n,hn,Df,C8⟩:∃n:Nat,(Tess.hN5 ⟨ds,ms,gn⟩)[k]?=some n/\n<=1000000000/\wr.cell? ⟨b+1,k,none⟩=some (.int .i64 (n:Int)):=by
     have e:=qT wr (b+1) k _ _ _ hH.k2;rw[Ar.out,e]
     match k,hk3 with
     |0,_=>exact⟨_,rfl,by omega,rfl⟩
     |1,_=>exact⟨_,rfl,by omega,rfl⟩
     |2,_=>exact⟨_,rfl,by omega,rfl⟩
    have Cs:=Tess.pWs n (by omega);have Ao:b<wr.heap.size:=by have:=(qA.1 hH.k2).1;omega
    have Bi:(((Tess.hN5 ⟨ds,ms,gn⟩).take k).flatMap Tess.putL).length<=1000:=Bg.out k;obtain⟨B9,B7⟩:=zW.1 hn;have HT:=Hd (Tess.fn2 Tess.putL _ k B9);rw[B7]at HT;obtain⟨L,hL⟩:=Xq (((Tess.hN5 ⟨ds,ms,gn⟩).take k).flatMap Tess.putL)
    rw[<-hL]at HT HH Bi;clear hH hn B7 hL B9
    go_wp2_with (first
     |(go_at_call 42;refine(dpa n _ (by omega)).mono ?_;rintro e w5 ⟨rfl,Bq⟩;have Ch:=Hd (HH.out.later Bq Ao);have Di:=Bq.size;clear Bq)
     |(go_at_call 41;go_loud (refine(wSk b b (Lib.byteCells L) (Tess.putW n) _ Ch.out.kb (by rw[yA];omega) (by omega)).mono ?_;rintro e w6 ⟨rfl,B6,B0,Co⟩;have Be:=Hd (Ch.out.wrote B6 B0 Co Bo.out Bs.out (by decide));clear B6 B0 Co)))
    go_roundw
    case rel=>exact⟨k+1,by omega,by go_num,by rw[HT.out];exact Be.out⟩
    case measure=>simp[intOf];omega
   ·obtain rfl:k=3:=by omega
    have B2:=Hd (HM.out.below hH.below);have Ao:b<wr.heap.size:=by have:=(qA.1 hH.k2).1;omega
    have C9:=Bg.out 3;have c1:=qT _ _ 1 _ _ _ hH.k0;simp at c1;obtain⟨L,hL⟩:=Xq (((Tess.hN5 ⟨ds,ms,gn⟩).take 3).flatMap Tess.putL)
    have Bx:L=(Tess.hN5 ⟨ds,ms,gn⟩).flatMap Tess.putL:=by rw[hL,qh (by rw[Ar.out];simp)]
    rw[<-hL]at HH C9;have C2:=Hd Bx;have A0:=Hd (show wr.ownsRow nb 9 1 (.slice (some ⟨nb,0,none⟩) ds.length (ds.length+ms.length)) ds.length (ds.map Value.string)from⟨by simp,.inr ⟨nb,ds.length+ms.length,_,rfl,qC _,hH.k1,by omega,by unfold maxLen;omega,by simp,by simp⟩⟩)
    obtain⟨As,Ai,Cq⟩:(am=none->ms.length=0/\Aa=0)/\(∀b Af,am=some ⟨b,Af,none⟩->∀j u,(ms.map Value.string)[j]?=some u->wr.cell? ⟨b,Af+j,none⟩=some u)/\(∀ad,am=some ad->ms.length=0∨∃b Af,ad=⟨b,Af,none⟩):=by
     obtain⟨a',Bb,A9,_,Ap⟩:=so2 B2.out;cases A9
     refine⟨fun e=>⟨?_,?_⟩,fun b Af e j u hj=>?_,fun ad e=>?_⟩
     ·rcases jI ms.length with h0|h0
      ·exact h0
      ·obtain⟨b,Af,ha,_,_⟩:=Ap 0 h0;rw[e]at ha;cases ha
     ·exact Cv.out ms.length Aa (by rw[e])
     ·obtain⟨Bf,rfl⟩:=zW.1 hj;obtain⟨b',Ba,At,_,Ab⟩:=Ap j (by simpa using Bf);rw[e]at At;cases At
      rw[Ab];simp
     ·rcases jI ms.length with h0|h0
      ·exact .inl h0
      ·obtain⟨b,Af,ha,_,_⟩:=Ap 0 h0;rw[e]at ha;cases ha
       exact .inr ⟨_,_,rfl⟩
    have Aw:=Hd As;have Ah:=Hd Ai;have Ca:=Hd Cq;have Ad:=Hd (show ∀v∈ms.map Value.string,v.oneCell'=true by intro v hv;obtain⟨x,_,rfl⟩:=qd.1 hv;rfl);clear As Ai Cq hH hL Bx hk B2 Bg Ar
    go_wp2_with (at_builtin;refine wLa4 rfl _ _ 22 rfl nb 9 i0 Tryz.underlying22 hi Bl nb ds.length (ds.length+ms.length) (ds.map Value.string) rfl A0.out am ms.length Aa (ms.map Value.string) rfl (by simp) Aw.out Ah.out Ca.out Ad.out (by omega) ?_);intro w6 Aj Ac
    obtain⟨Al,Ce,A1⟩:∃Al:Array Value,w6.heap[nb]?=some (.cells Al 9 (0,0))/\∀k x,(ds++ms)[k]?=some x->Al[k]?=some (Value.string x):=by
     obtain⟨_,⟨hv,_⟩|⟨g',Dg,Al,hv,_,h3,_,_,_,h7⟩⟩:=Aj
     ·cases hv
     ·cases hv
      refine⟨Al,h3,fun k x hk=>?_⟩;have Ct:=(zW.1 hk).1;rw[qI]at Ct
      have e:(Al.toList.take ((ds.length+ms.length)*1))[k]?=some (Value.string x):=by rw[h7,<-qs,qp,hk];rfl
      rw[xo (by omega)]at e;simpa using e
    have Av:=Hd A1;have Be:=Hd (HH.out.grown Ac Bo.out A6 Ao Ce);clear Aj Ac Ce A1 HH A0 Aw Ah Ca Ad c1 Ao;have Bc:(ds++ms).length=ds.length+ms.length:=qI;have Da:=Hd Bc;have Ck:RowKit.Hid (∃al,al=ds++ms):=Hd ⟨_,rfl⟩;obtain⟨al,Br⟩:=Ck.out;rw[<-Br]at Av Da Bk Bc;have C1:=Hd Br;have Ci:al.length<=10:=by omega
    have Cz:=Hd (show ∀k,((al.take k).flatMap Tess.nB2).length<=1000 from fun k=>by
     have h1:=Tess.fl2 Tess.nB2 30 (al.take k) (fun x hx=>by
      have:=Bk.out x (jp hx);have De:=Tess.pLt (n:=x.size) (by omega);have:x.data.toList.length=x.size:=ju;unfold Tess.nB2;rw[qI]
      omega)
     have h2:(al.take k).length<=10:=by rw[qy];omega
     omega)
    have Bz:(ds.length:Int)+(ms.length:Int)=(al.length:Int):=by omega
    have A3:ds.length+ms.length=al.length:=by omega
    clear Br Bc Ck;go_wp2
    try simp only[Bz,A3]
    clear Bz A3;go_loopw [52] (fun i wr=>∃k:Nat,k<=al.length/\i = .int .i64 k/\Hw w nb b (.cells #[.slice ad ds.length Am,.slice am ms.length Aa,.int .i64 (gn:Int)] 24 (0,0)) (.cells Al 9 (0,0)) (.cells #[.int .i64 (ds.length:Int),.int .i64 (ms.length:Int),.int .i64 (gn:Int)] 2 (0,0)) (L++(al.take k).flatMap Tess.nB2) wr) (fun i _=>al.length-(intOf i).toNat)
    case atStart=>exact⟨0,by omega,rfl,by simpa using Be.out⟩
    case round=>
     obtain⟨k,hk,rfl,hH⟩:=hrel;have HH:=Hd hH;have Bi:=Cz.out k;have Ao:b<wr.heap.size:=by have:=(qA.1 hH.k2).1;omega
     by_cases hkl:k<al.length
     ·have C8:wr.cell? ⟨nb,k,none⟩=some (.string al[k]):=(qT wr nb k _ _ _ hH.k1).trans (Av.out k _ (qD hkl));have Cw:=Bk.out al[k] (qP hkl);have HT:=Hd (Tess.fn2 Tess.nB2 al k hkl);obtain⟨M,hM⟩:=Xq ((al.take k).flatMap Tess.nB2)
      rw[<-hM]at HT HH Bi;generalize al[k]=x at *;have Cs:=Tess.pWs x.size (by omega);have C5:(Tess.putW x.size).size+x.size<=9223372036854775807:=by omega
      have Dm:(Lib.byteCells (L++M)).length<=2000:=by rw[yA,qI];omega
      have Dj:(Tess.putW x.size++x).size<=40:=by rw[yJ];omega
      have HY:=Hd (show(Tess.putW x.size++x).data.toList=Tess.nB2 x by unfold Tess.nB2 Tess.putW;simp);clear hH hM
      go_wp2_with (first
       |(go_at_call 42;refine(dpa x.size _ (by omega)).mono ?_;rintro e w7 ⟨rfl,Bv⟩;have B1:=Hd (HH.out.later Bv Ao);have Dk:=Bv.size;clear Bv)
       |(go_at_call 41;go_loud (refine(wSk b b (Lib.byteCells (L++M)) (Tess.putW x.size++x) _ B1.out.kb (by omega) (by omega)).mono ?_;rintro e w8 ⟨rfl,By,Cm,B3⟩;have C4:=Hd (B1.out.wrote By Cm B3 Bo.out Bs.out (by decide));clear By Cm B3)))
      go_roundw
      case rel=>exact⟨k+1,by omega,by go_num,by rw[HT.out,<-zN,<-HY.out];exact C4.out⟩
      case measure=>simp[intOf];omega
     ·obtain rfl:k=al.length:=by omega
      rw[qh (qC _)]at HH;have HE:=Hd (show L++al.flatMap Tess.nB2=Tess.hB14 ⟨ds,ms,gn⟩ by rw[C3.out,<-C2.out,<-C1.out]);rw[HE.out]at HH
      have Cg:Tess.hB14 ⟨ds,ms,gn⟩≠[]:=fun e=>by unfold Tess.hB14 at e;exact Tess.pn2 _ (List.append_eq_nil_iff.1 e).1
      have Cf:=sk2 b _ wr HH.out.kb Cg;have C6:=Hd Cf;have HW:=Hd HH.out.below;clear hH Cf Cg HH;go_wp2_with (go_at_call 43;refine C6.out.mono ?_;rintro e w9 ⟨rfl,B5,_⟩;have Cy:=Hd (HW.out.trans (B5.mono (yV Bs.out)));clear B5);go_ret2;exact⟨by rw[A7.out];rfl,Cy.out⟩
 ·have Bh:Tess.sO ⟨ds,ms,g⟩=false:=by simpa using hok
  rw[qH hok]at A7;go_wp2_with (go_at_call 23;refine(HR.out _ ((qJ _ _).alloc (qC _) _)).mono ?_;rintro e w1 ⟨rfl,Aq⟩;rw[Bh];have A4:=Hd (((qJ _ _).alloc (qC _) _).trans (Aq.mono (by simp)));clear Aq);go_ret2;exact⟨by rw[A7.out];rfl,A4.out⟩
theorem ss4(p:Nat->Prop)(v vl:Value)(s:Tess.Sch)(w:World)(hv:SA p w v s)(hok:Tess.sO s=false) :
  Calls Tryz.prog 11 #[v,vl] w fun e w'=>e = .returned (.tuple #[.string (Tess.mk []),.int .i64 100])/\Below w.heap.size w w':=by
 have HH:=Hd (fun(W:World) (hB:Below w.heap.size w W)=>ha4 p v s W (hv.ag (Ag.new p hB)));have HW:=Hd (show Tess.headW s=(ByteArray.empty,100) by unfold Tess.headW;rw[hok];rfl);obtain⟨vd,vm,rfl,_⟩:=hv;obtain⟨g,hg⟩:=Xq s.grain
 rw[<-hg]at HH⊢;clear hg;go_enter Tryz.func11,Tryz.ntmps11;go_wp2_with (go_at_call 18;refine(HH.out _ ((qJ _ _).alloc (qC _) _)).mono ?_;rintro e w1 ⟨rfl,Aa⟩;rw[HW.out];have Ab:=Hd (((qJ _ _).alloc (qC _) _).trans (Aa.mono (by simp)));clear Aa);go_ret2;exact⟨rfl,Ab.out⟩
theorem sc4(p:Nat->Prop)(v vl:Value)(s:Tess.Sch)(w:World)(hv:SA p w v s)(hok:Tess.sO s=true)
  (hr:∀W,Below w.heap.size w W->Calls Tryz.prog 17 #[v,vl] W fun e w'=>e = .returned (.bool false)/\Below W.heap.size W w') :
  Calls Tryz.prog 11 #[v,vl] w fun e w'=>e = .returned (.tuple #[.string (Tess.mk []),.int .i64 120])/\Below w.heap.size w w':=by
 have HH:=Hd (fun(W:World) (hB:Below w.heap.size w W)=>ha4 p v s W (hv.ag (Ag.new p hB)));have HW:=Hd (show Tess.headW s=(Tess.mk (Tess.hB14 s),0) by unfold Tess.headW;rw[hok];rfl);have HR:=Hd hr;clear hr;obtain⟨vd,vm,rfl,_⟩:=hv;obtain⟨g,hg⟩:=Xq s.grain
 rw[<-hg]at HH HR⊢;clear hg;go_enter Tryz.func11,Tryz.ntmps11
 go_wp2_with (first
  |(go_at_call 18;refine(HH.out _ ((qJ _ _).alloc (qC _) _)).mono ?_;rintro e w1 ⟨rfl,Aa⟩;rw[HW.out];have k1:=(Aa.block w.heap.size (by simp)).trans (la2 w _).1;have c0:=qT _ _ 0 _ _ _ k1;have c1:=qT _ _ 1 _ _ _ k1;have c2:=qT _ _ 2 _ _ _ k1;simp at c0 c1 c2;have Ab:=Hd (((qJ _ _).alloc (qC _) _).trans (Aa.mono (by simp)));clear Aa k1)
  |(go_at_call 17;refine(HR.out _ Ab.out).mono ?_;rintro e w2 ⟨rfl,Ac⟩;have Ad:=Hd (Bt Ab.out Ac);clear Ac))
 go_ret2;exact⟨rfl,Ad.out⟩
end Go.Proofs.Q9
namespace Go.Proofs.Q9
open Go.RowKit Go.Sort
open Tess (Fil)
def VA2(p:Nat->Prop)(w:World)(v:Value)(l:List Tess.Val):Prop:=
 ∃a cap,v = .slice a l.length cap/\l.length<=maxLen/\(∀x∈l,x.s.size<=maxLen)/\(a=none->cap=0) /\
   (0<l.length->∃b off,a=some ⟨b,off,none⟩/\b<w.heap.size/\p b/\∀j (h:j<l.length),w.cell? ⟨b,off+j*2,none⟩=some (.string l[j].s)/\w.cell? ⟨b,off+j*2+1,none⟩=some (.bool l[j].null))
theorem VA2.ag{p:Nat->Prop}{w w':World}{v:Value}{l:List Tess.Val}(h:VA2 p w v l)(hg:Ag p w w'):VA2 p w' v l:=by obtain⟨a,Aa,hv,h1,h2,h3,h4⟩:=h;refine⟨a,Aa,hv,h1,h2,h3,fun hl=>?_⟩;obtain⟨b,Ab,ha,hb,hp,hc⟩:=h4 hl;refine⟨b,Ab,ha,qF hb hg.1,hp,fun j hj=>?_⟩;exact⟨(hg.cell hb hp).trans (hc j hj).1,(hg.cell hb hp).trans (hc j hj).2⟩
theorem VA2.weak{p q:Nat->Prop}{w:World}{v:Value}{l:List Tess.Val}(h:VA2 p w v l)(hpq:∀b,p b->q b):VA2 q w v l:=by obtain⟨a,Aa,hv,h1,h2,h3,h4⟩:=h;refine⟨a,Aa,hv,h1,h2,h3,fun hl=>?_⟩;obtain⟨b,Ab,ha,hb,hp,hc⟩:=h4 hl;exact⟨b,Ab,ha,hb,hpq b hp,hc⟩
end Go.Proofs.Q9
namespace Go.Proofs.Q9
open Go.RowKit Go.Sort
open Tess (CK Pay)
theorem addr_add(b off n:Nat):(⟨b,off,none⟩:Addr).add n=⟨b,off+n,none⟩:=by unfold Addr.add;split<;>simp_all
def LA{α:Type}(k:Nat)(R:World->List Value->α->Prop)(p:Nat->Prop)(w:World)(v:Value)(l:List α):Prop:=
 ∃a cap,v = .slice a l.length cap/\l.length<=maxLen/\l.length<=cap/\(a=none->cap=0) /\
   (0<l.length->∃b off,a=some ⟨b,off,none⟩/\b<w.heap.size/\p b/\∀j (h:j<l.length),∃cs,cs.length=k/\R w cs l[j]/\∀i,i<k->w.cell? ⟨b,off+j*k+i,none⟩=cs[i]?)
section
variable {α:Type} {k:Nat} {R S:World->List Value->α->Prop} {p q:Nat->Prop} {w w':World} {v:Value} {l:List α}
theorem LA.ag(h:LA k R p w v l)(hg:Ag p w w')(hR:∀cs x,x∈l->R w cs x->R w' cs x):LA k R p w' v l:=by obtain⟨a,Aa,hv,h1,h2,h3,h4⟩:=h;refine⟨a,Aa,hv,h1,h2,h3,fun hl=>?_⟩;obtain⟨b,Ab,ha,hb,hp,hc⟩:=h4 hl;refine⟨b,Ab,ha,qF hb hg.1,hp,fun j hj=>?_⟩;obtain⟨cs,e1,e2,e3⟩:=hc j hj;exact⟨cs,e1,hR _ _ (qP hj) e2,fun i hi=>(hg.cell hb hp).trans (e3 i hi)⟩
theorem LA.weak(h:LA k R p w v l)(hpq:∀b,p b->q b)(hR:∀cs x,x∈l->R w cs x->S w cs x):LA k S q w v l:=by obtain⟨a,Aa,hv,h1,h2,h3,h4⟩:=h;refine⟨a,Aa,hv,h1,h2,h3,fun hl=>?_⟩;obtain⟨b,Ab,ha,hb,hp,hc⟩:=h4 hl;refine⟨b,Ab,ha,hb,hpq b hp,fun j hj=>?_⟩;obtain⟨cs,e1,e2,e3⟩:=hc j hj;exact⟨cs,e1,hR _ _ (qP hj) e2,e3⟩
theorem LA.nil(k:Nat)(R:World->List Value->α->Prop)(p:Nat->Prop)(w:World):LA k R p w (.slice none 0 0) []:=⟨none,0,rfl,qN _,qN _,fun _=>rfl,fun h=>absurd h (jC 0)⟩
theorem LA.open(h:LA k R p w v l):∃a cap,v = .slice a l.length cap/\l.length<=cap/\l.length<=maxLen/\(a=none->cap=0)/\∀j (hj:j<l.length),∃b off,a=some ⟨b,off,none⟩/\b<w.heap.size/\p b/\∃cs,cs.length=k/\R w cs l[j]/\∀i,i<k->w.cell? ⟨b,off+j*k+i,none⟩=cs[i]?:=by obtain⟨a,cap,hv,h1,h2,h3,h4⟩:=h;refine⟨a,cap,hv,h2,h1,h3,fun j hj=>?_⟩;obtain⟨b,off,ha,hb,hp,hc⟩:=h4 (by omega);exact⟨b,off,ha,hb,hp,hc j hj⟩
end
structure PayAt(p:Nat->Prop)(w:World)(vs vm vx:Value)(x:Pay):Prop where
 sums:RA 2 wF p w vs x.sums
 mins:RA 1 intF p w vm x.mins
 maxs:RA 1 intF p w vx x.maxs
def CA3(p:Nat->Prop)(w:World)(cs:List Value)(x:CK×Pay):Prop:=∃vd vs vm vx,cs=[.int .i64 x.1.1,vd,.int .i64 x.2.n,vs,vm,vx]/\VA2 p w vd (x.1.2.map Tess.valOf)/\PayAt p w vs vm vx x.2
section
variable {p q:Nat->Prop} {w w':World} {v vs vm vx:Value} {cs:List Value} {x:Pay} {c:CK×Pay} {g:Int×CK×Pay}
theorem PayAt.ag(h:PayAt p w vs vm vx x)(hg:Ag p w w'):PayAt p w' vs vm vx x:=⟨h.sums.ag hg,h.mins.ag hg,h.maxs.ag hg⟩
theorem PayAt.weak(h:PayAt p w vs vm vx x)(hpq:∀b,p b->q b):PayAt q w vs vm vx x:=⟨h.sums.weak hpq,h.mins.weak hpq,h.maxs.weak hpq⟩
theorem CA3.ag(h:CA3 p w cs c)(hg:Ag p w w'):CA3 p w' cs c:=let⟨_,_,_,_,e,h1,h2⟩:=h;⟨_,_,_,_,e,h1.ag hg,h2.ag hg⟩
theorem CA3.weak(h:CA3 p w cs c)(hpq:∀b,p b->q b):CA3 q w cs c:=let⟨_,_,_,_,e,h1,h2⟩:=h;⟨_,_,_,_,e,h1.weak hpq,h2.weak hpq⟩
theorem CA3.len(h:CA3 p w cs c):cs.length=6:=by obtain⟨_,_,_,_,rfl,_⟩:=h;rfl
def CA2(p:Nat->Prop):World->Value->List (CK×Pay)->Prop:=LA 6 (CA3 p) p
theorem CA2.ag{l:List (CK×Pay)}(h:CA2 p w v l)(hg:Ag p w w'):CA2 p w' v l:=LA.ag h hg fun _ _ _ h=>h.ag hg
theorem CA2.weak{l:List (CK×Pay)}(h:CA2 p w v l)(hpq:∀b,p b->q b):CA2 q w v l:=LA.weak h hpq fun _ _ _ h=>h.weak hpq
end
structure Nest{α:Type}(k:Nat)(R:(Nat->Prop)->World->List Value->α->Prop):Prop where
 ag:∀{p:Nat->Prop} {w w':World} {cs:List Value} {x:α},R p w cs x->Ag p w w'->R p w' cs x
 weak:∀{p q:Nat->Prop} {w:World} {cs:List Value} {x:α},R p w cs x->(∀b,p b->q b)->R q w cs x
 lt:∀{p:Nat->Prop} {w:World} {cs:List Value} {x:α},R p w cs x->R (fun b=>p b/\b<w.heap.size) w cs x
 len:∀{p:Nat->Prop} {w:World} {cs:List Value} {x:α},R p w cs x->cs.length=k
 one:∀{p:Nat->Prop} {w:World} {cs:List Value} {x:α},R p w cs x->∀u∈cs,u.oneCell'=true
theorem VA2.lt{p:Nat->Prop}{w:World}{v:Value}{l:List Tess.Val}(h:VA2 p w v l):VA2 (fun b=>p b/\b<w.heap.size) w v l:=by obtain⟨a,Aa,hv,h1,h2,h3,h4⟩:=h;refine⟨a,Aa,hv,h1,h2,h3,fun hl=>?_⟩;obtain⟨b,Ab,ha,hb,hp,hc⟩:=h4 hl;exact⟨b,Ab,ha,hb,⟨hp,hb⟩,hc⟩
theorem VA2.shape{p:Nat->Prop}{w:World}{v:Value}{l:List Tess.Val}(h:VA2 p w v l):∃a c,v = .slice a l.length c:=let⟨a,c,e,_⟩:=h;⟨a,c,e⟩
theorem PayAt.lt{p:Nat->Prop}{w:World}{vs vm vx:Value}{x:Pay}(h:PayAt p w vs vm vx x):PayAt (fun b=>p b/\b<w.heap.size) w vs vm vx x:=⟨h.sums.lt,h.mins.lt,h.maxs.lt⟩
theorem cn4:Nest 6 CA3 where
 ag h hg:=h.ag hg
 weak h hpq:=h.weak hpq
 lt h:=let⟨_,_,_,_,e,h1,h2⟩:=h;⟨_,_,_,_,e,h1.lt,h2.lt⟩
 len h:=h.len
 one h u hu:=by obtain⟨vd,vs,vm,vx,rfl,h1,h2⟩:=h;obtain⟨_,_,rfl⟩:=h1.shape;obtain⟨_,_,rfl⟩:=h2.sums.shape;obtain⟨_,_,rfl⟩:=h2.mins.shape;obtain⟨_,_,rfl⟩:=h2.maxs.shape;simp only[qm,zG,jr]at hu;rcases hu with rfl|rfl|rfl|rfl|rfl|rfl<;>rfl
structure OwnL{α:Type}(N k:Nat)(t:TypeId)(R:(Nat->Prop)->World->List Value->α->Prop)(p:Nat->Prop)(W:World)(lv:Value)(us:List (List Value))(ls:List α):Prop where
 own:W.ownsRow N t k lv us.length us.flatten
 len:us.length=ls.length
 at_:∀j (h:j<ls.length) (h':j<us.length),R (fun b=>p b/\lv.ownBlock≠some b) W us[j] ls[j]
section
variable {α:Type} {N k:Nat} {t:TypeId} {R:(Nat->Prop)->World->List Value->α->Prop} {p q:Nat->Prop} {W W':World} {lv lv':Value} {us:List (List Value)} {ls:List α}
theorem OwnL.nil(W:World):OwnL N k t R p W (.slice none 0 0) [] []:=⟨qg _ _ _ _,rfl,fun j h=>absurd h (zH j)⟩
theorem OwnL.below(hN:Nest k R)(h:OwnL N k t R p W lv us ls)(hb:Below W.heap.size W W'):OwnL N k t R p W' lv us ls:=
 ⟨ob2 h.own hb,h.len,fun j hj hj'=>hN.ag (h.at_ j hj hj') (Ag.new _ hb)⟩
theorem OwnL.more(hN:Nest k R)(h:OwnL N k t R p W lv us ls){x:List Value}{y:α}(hx:R (fun b=>p b/\lv.ownBlock≠some b) W x y)
  (hown:W'.ownsRow N t k lv' (us.length+1) (us.flatten++x)) (hg:W.grownBy W' lv.ownBlock) (hloc:lv'.ownBlock=lv.ownBlock∨lv'.ownBlock=some W.heap.size):OwnL N k t R p W' lv' (us++[x]) (ls++[y]):=by
 have Ac:Ag (fun b=>lv.ownBlock≠some b) W W':=Ag.grown hg fun g e=>by rw[e];simp
 have Ab:∀{cs z},R (fun b=>p b/\lv.ownBlock≠some b) W cs z->R (fun b=>p b/\lv'.ownBlock≠some b) W' cs z:=fun h=>
  hN.weak (hN.ag (hN.lt h) (Ac.weak fun b hb=>hb.1.2)) fun b hb=>⟨hb.1.1,by
   rcases hloc with e|e
   ·rw[e];exact hb.1.2
   ·rw[e];intro e2;have:=zr e2;have:=hb.2;omega⟩
 refine⟨by simpa using hown,by simp[h.len],fun j hj hj'=>?_⟩;by_cases hjl:j<us.length
 ·have Aa:j<ls.length:=by have:=h.len;omega
  rw[xE hjl,xE Aa];exact Ab (h.at_ j Aa hjl)
 ·have e1:j=us.length:=by simp at hj';omega
  have e2:j=ls.length:=by have:=h.len;omega
  rw[xV (by omega),xV (by omega)];simp only[e1,h.len,Nat.sub_self,zo];exact Ab hx
theorem fU{k:Nat}(us:List (List Value))(h:∀x∈us,x.length=k):∀(j i:Nat) (hj:j<us.length),i<k->us.flatten[j*k+i]?=us[j][i]?:=by have:=flatK (f:=fun x=>x) us h;simpa using this
theorem OwnL.lens(hN:Nest k R)(h:OwnL N k t R p W lv us ls):∀x∈us,x.length=k:=fun x hx=>by obtain⟨j,hj,rfl⟩:=qAp.1 hx;exact hN.len (h.at_ j (by have:=h.len;omega) hj)
theorem OwnL.listed(hN:Nest k R)(h:OwnL N k t R p W lv us ls)(hpq:∀b,p b->q b)(hNq:∀b,N<=b->q b)(hl:ls.length<=maxLen)(hn:ls=[]->lv = .slice none 0 0):LA k (R q) q W lv ls:=by
 have Ab:=h.len;rcases jI us.length with h0|h0
 ·have Ac:ls=[]:=jQ (by omega);rw[hn Ac,Ac];exact LA.nil _ _ _ _
 ·obtain⟨g,Ad,hv,hb,Af,Ag,hm,hc⟩:=oca h.own h0;refine⟨_,Ad,by rw[hv,Ab],hl,by omega,(fun e=>by cases e),fun _=>⟨g,0,rfl,Af,hNq g hb,fun j hj=>?_⟩⟩;have Aa:j<us.length:=by omega
  refine⟨us[j],h.lens hN _ (qP Aa),hN.weak (h.at_ j hj Aa) fun b hb=>hpq b hb.1,fun i hi=>?_⟩
  have Ae:j*k+i<us.length*k:=by have:=jO k (show j+1<=us.length from Aa);rw[qAs]at this;omega
  rw[qj,hc _ Ae];exact fU us (h.lens hN) j i Aa hi
end
end Go.Proofs.Q9
namespace Go.Proofs.Q9
open Go.RowKit Go.Sort
open Tess (cmpV cV3)
theorem gm(w:World)(q n:Nat)(os os':Array Obj):grow ((grow (w.drewN q) os).drewN n) os'=grow (w.drewN (q+n)) (os++os'):=by show grow (grow ((w.drewN q).drewN n) os) os'=_;rw[grow_grow,World.drewN_drewN]
theorem gt2(w:World)(n:Nat)(A B:Obj):((w.drewN n).alloc A).alloc B=grow (w.drewN n) #[A,B]:=by rw[alloc_eq_grow,alloc_eq_grow,grow_grow];rfl
theorem gr2(w:World)(A B:Obj):∃q os,(w.alloc A).alloc B=grow (w.drewN q) os:=⟨0,#[A,B],gt2 w 0 A B⟩
theorem vCa3(a b:Tess.Val)(w:World):Calls Tryz.prog 139 #[.agg #[.string a.s,.bool a.null],.agg #[.string b.s,.bool b.null]] w fun e w'=>e = .returned (.int .i64 (cmpV a b))/\∃q os,w'=grow (w.drewN q) os:=by
 obtain⟨x,m⟩:=a;obtain⟨y,n⟩:=b;have HC:=fun w=>Tryz.strings_Compare x y w;cases m<;>cases n
 all_goals
  go_enter Tryz.func139,Tryz.ntmps139;go_wp2_with (go_at_call 185;refine(HC _).mono ?_;rintro e w2 ⟨rfl,rfl⟩);go_ret;exact⟨rfl,gr2 _ _ _⟩
def VC(w:World)(a:Option Addr)(l:List Tess.Val):Prop:=∀j (h:j<l.length),∃b off,a=some ⟨b,off,none⟩/\b<w.heap.size/\w.cell? ⟨b,off+j*2,none⟩=some (.string l[j].s)/\w.cell? ⟨b,off+j*2+1,none⟩=some (.bool l[j].null)
theorem VA2.cells{p:Nat->Prop}{w:World}{v:Value}{l:List Tess.Val}(h:VA2 p w v l):∃a cap,v = .slice a l.length cap/\l.length<=9223372036854775807/\VC w a l:=by obtain⟨a,cap,hv,h1,_,_,h4⟩:=h;exact⟨a,cap,hv,h1,fun j hj=>let⟨b,off,ha,hb,_,hc⟩:=h4 (by omega);⟨b,off,ha,hb,hc j hj⟩⟩
theorem cFa(a b:Option Addr)(c d:Nat)(l m:List Tess.Val)(w:World)(hm:m.length<=9223372036854775807)(ha:VC w a l)(hb:VC w b m) :
  Calls Tryz.prog 138 #[.slice a l.length c,.slice b m.length d,.func (.func 139) #[] #[]] w fun e w'=>e = .returned (.int .i64 (cV3 l m))/\∃q os,w'=grow (w.drewN q) os:=by
 have HA:=Hd ha;have HB:=Hd hb;have HC:=Hd vCa3;clear ha hb;go_enter Tryz.func138,Tryz.ntmps138;go_wp2;go_loopg [13] l.length (fun kx i wr=>∃(k q:Nat) (os:Array Obj),kx+k=l.length/\k<=m.length/\i = .int .i64 k/\Hid (cV3 l m=cV3 (l.drop k) (m.drop k))/\wr=grow (w.drewN q) os)
 case atStart=>exact⟨0,0,#[],by omega,qN _,rfl,Hd rfl,by rw[grow_empty];rfl⟩
 case round=>
  obtain⟨k,q,os,hk,As,rfl,HE,rfl⟩:=hrel;by_cases h1:k<l.length
  ·obtain⟨b1,o1,rfl,Ae,x0,x1⟩:=HA.out k h1;by_cases h2:k<m.length
   ·obtain⟨b2,o2,rfl,Ao,y0,y1⟩:=HB.out k h2;have u0:=zx Ae x0 q os;have u1:=zx Ae x1 q os;have v0:=zx Ao y0 q os;have v1:=zx Ao y1 q os;have HD:=Hd (Tess.cVd h1 h2);have Am:(k:Int)<(l.length:Int):=by omega
    have Ag:(k:Int)<(m.length:Int):=by omega
    clear x0 x1 y0 y1;generalize l[k]=s at *;generalize m[k]=t at *;obtain⟨W0,Ab⟩:=XQ (grow (w.drewN q) os)
    rw[Ab]at u0 u1 v0 v1⊢;have Aq:b1<W0.heap.size:=by rw[<-Ab,size_grow];simp;omega
    have Ac:b2<W0.heap.size:=by rw[<-Ab,size_grow];simp;omega
    have Ar:=Hd Ab;clear Ab;obtain⟨W1,Aj⟩:=XQ (W0.alloc (.cells #[.string s.s,.bool s.null] 47))
    obtain⟨W2,Ah⟩:=XQ (W1.alloc (.cells #[.string t.s,.bool t.null] 47))
    obtain⟨k1,Al,Ad⟩:=la2 W0 (.cells #[.string s.s,.bool s.null] 47);obtain⟨k2,An,Ai⟩:=la2 W1 (.cells #[.string t.s,.bool t.null] 47);rw[Aj]at k1 Al Ad;rw[Ah]at k2 An Ai;have y0:=(Ad.cell (p:=⟨b2,o2+k*2,none⟩) Ac).trans v0;have y1:=(Ad.cell (p:=⟨b2,o2+k*2+1,none⟩) Ac).trans v1;obtain⟨⟨z0,z1⟩,_⟩:=can2 ((Ai.block _ (by omega)).trans k1);obtain⟨⟨z2,z3⟩,_⟩:=can2 k2
    have HG:=Hd (show W2=grow (w.drewN q) (os++#[.cells #[.string s.s,.bool s.null] 47]++#[.cells #[.string t.s,.bool t.null] 47]) by rw[<-Ah,<-Aj,<-Ar.out,alloc_eq_grow,alloc_eq_grow,grow_grow,grow_grow,Array.append_assoc]);clear k1 k2 Al An Ad Ai;go_wp2_with (fail);refine(HC.out s t W2).mono ?_;rintro e w2 ⟨rfl,nq,Ak,rfl⟩
    have Ap:=Hd (show ∃q' Af,grow (W2.drewN nq) Ak=grow (w.drewN q') Af from⟨_,_,by rw[HG.out,gm]⟩);clear z0 z1 z2 z3 y0 y1 u0 u1 v0 v1 Aj Ah;generalize grow (W2.drewN nq) Ak=W3 at *;by_cases hc:cmpV s t=0
    ·have Aa:=Hd (HE.out.trans (by rw[HD.out,qR hc]));rw[hc];clear hc;go_wp2;go_roundg (l.length-(k+1))
     case measure=>omega
     case rel=>
      obtain⟨q',Af,e⟩:=Ap.out;exact⟨k+1,q',Af,by omega,by omega,by go_num,Aa,e⟩
    ·have Aa:=Hd (HE.out.trans (by rw[HD.out,qH hc]));generalize cmpV s t=z at *;go_wp2;go_ret;rw[Aa.out];exact⟨rfl,Ap.out⟩
   ·have Am:(k:Int)<(l.length:Int):=by omega
    have Ag:(m.length:Int)<=(k:Int):=by omega
    have u0:=zx Ae x0 q os;have u1:=zx Ae x1 q os;have Aa:=Hd (HE.out.trans (by rw[zv h1,xO (Nat.le_of_not_lt h2)];rfl:_=(1:Int)));clear x0 x1;generalize l[k]=s at *;obtain⟨W0,Ab⟩:=XQ (grow (w.drewN q) os)
    rw[Ab]at u0 u1⊢;have HG:=Hd (show W0.alloc (.cells #[.string s.s,.bool s.null] 47)=grow (w.drewN q) (os++#[.cells #[.string s.s,.bool s.null] 47]) by rw[<-Ab,alloc_eq_grow,grow_grow]);clear Ab;go_wp2;go_ret;rw[Aa.out];exact⟨rfl,_,_,HG.out⟩
  ·obtain rfl:k=l.length:=by omega
   have Am:¬(l.length:Int)<(l.length:Int):=by omega
   by_cases h2:l.length<m.length
   ·have Ag:(l.length:Int)<(m.length:Int):=by omega
    have Aa:=Hd (HE.out.trans (by rw[qBq,zv h2];rfl:_=(-1:Int)));go_wp2;go_ret;rw[Aa.out];exact⟨rfl,_,_,rfl⟩
   ·have Ag:¬(l.length:Int)<(m.length:Int):=by omega
    have Aa:=Hd (HE.out.trans (by rw[qBq,xO (Nat.le_of_not_lt h2)];rfl:_=(0:Int)));go_wp2;go_ret;rw[Aa.out];exact⟨rfl,_,_,rfl⟩
theorem la7(a b:Option Addr)(c d:Nat)(l m:List Tess.Val)(w:World)(hm:m.length<=9223372036854775807)(ha:VC w a l)(hb:VC w b m) :
  Calls Tryz.prog 91 #[.slice a l.length c,.slice b m.length d] w fun e w'=>e = .returned (.bool (Tess.Kl.lex Tess.vLt (l.map Tess.Val.c) (m.map Tess.Val.c)))/\∃q os,w'=grow (w.drewN q) os:=by
 have H:=Hd (cFa a b c d l m w hm ha hb);rw[<-Tess.cVl];generalize cV3 l m=z at *;clear ha hb;go_enter Tryz.func91,Tryz.ntmps91;go_wp2_with (go_at_call 138;refine H.out.mono ?_;rintro e w2 ⟨rfl,nq,Aa,rfl⟩);go_ret;exact⟨rfl,_,_,rfl⟩
theorem VC.grown{w:World}{a:Option Addr}{l:List Tess.Val}(h:VC w a l)(q:Nat)(os:Array Obj):VC (grow (w.drewN q) os) a l:=fun j hj=>by obtain⟨b,off,ha,hb,h0,h1⟩:=h j hj;exact⟨b,off,ha,by rw[size_grow];simp;omega,zx hb h0 q os,zx hb h1 q os⟩
theorem cl7(t u:Int)(l m:List Tess.DV):Tess.ckLt (t,l) (u,m)=if t=u then Tess.Kl.lex Tess.vLt l m else decide (t<u):=by
 unfold Tess.ckLt Tess.Kl.pair Tess.iLt;simp only;split
 ·rename_i h;subst h;simp
 ·rename_i h;rcases Int.lt_or_gt_of_ne h with h|h
  ·simp[h]
  ·rw[qG (by omega:¬t<u),decide_eq_true (by omega:u<t)];rfl
theorem aa(a b:Option Addr)(c d:Nat)(l m:List Tess.Val)(t u n o:Int)(a3 a4 a5 b3 b4 b5:Option Addr)(n3 n4 n5 c3 c4 c5 o3 o4 o5 d3 d4 d5:Nat)(w:World)(hm:m.length<=9223372036854775807)(ha:VC w a l)(hb:VC w b m) :
  Calls Tryz.prog 40 #[.agg #[.int .i64 t,.slice a l.length c,.int .i64 n,.slice a3 n3 c3,.slice a4 n4 c4,.slice a5 n5 c5],.agg #[.int .i64 u,.slice b m.length d,.int .i64 o,.slice b3 o3 d3,.slice b4 o4 d4,.slice b5 o5 d5]] w
   fun e w'=>e = .returned (.bool (Tess.ckLt (t,l.map Tess.Val.c) (u,m.map Tess.Val.c)))/\∃q os,w'=grow (w.drewN q) os:=by
 have H:=Hd (fun W q os (e:W=grow (w.drewN q) os)=>la7 a b c d l m W hm (e▸ha.grown q os) (e▸hb.grown q os));clear ha hb;rw[cl7];generalize Tess.Kl.lex Tess.vLt (l.map Tess.Val.c) (m.map Tess.Val.c)=r at *
 obtain⟨W0,Aa⟩:=XQ ((w.alloc (.cells #[.int .i64 t,.slice a l.length c,.int .i64 n,.slice a3 n3 c3,.slice a4 n4 c4,.slice a5 n5 c5] 80)).alloc (.cells #[.int .i64 u,.slice b m.length d,.int .i64 o,.slice b3 o3 d3,.slice b4 o4 d4,.slice b5 o5 d5] 56))
 obtain⟨k0,k1,kS,kB⟩:=la3 w (.cells #[.int .i64 t,.slice a l.length c,.int .i64 n,.slice a3 n3 c3,.slice a4 n4 c4,.slice a5 n5 c5] 80) (.cells #[.int .i64 u,.slice b m.length d,.int .i64 o,.slice b3 o3 d3,.slice b4 o4 d4,.slice b5 o5 d5] 56);rw[Aa]at k0 k1 kS kB;have HG:=Hd (show W0=grow (w.drewN 0) #[_,_] by rw[<-Aa];exact gt2 w 0 _ _);obtain⟨⟨x0,x1,_⟩,_⟩:=can6 k0;obtain⟨⟨y0,y1,_⟩,_⟩:=can6 k1
 clear k0 k1 kS kB;by_cases h:t=u
 ·have ht:(t !=u)=false:=by rw[zg];exact h
  rw[qR h];clear h;go_enter Tryz.func40,Tryz.ntmps40;go_wp2_with (fail);refine(H.out W0 _ _ HG.out).mono ?_;rintro e w2 ⟨rfl,nq,Ab,rfl⟩;have Ac:=Hd (show ∃q' os',grow (W0.drewN nq) Ab=grow (w.drewN q') os' from⟨_,_,by rw[HG.out,gm]⟩);clear x0 x1 y0 y1 Aa;generalize grow (W0.drewN nq) Ab=W3 at *;go_wp2;go_ret;exact⟨rfl,Ac.out⟩
 ·have ht:(t !=u)=true:=by rw[zj];exact h
  rw[qH h];clear h;generalize hr:decide (t<u)=r';go_enter Tryz.func40,Tryz.ntmps40;go_wp2;go_ret;exact⟨rfl,_,_,HG.out⟩
end Go.Proofs.Q9
namespace Go.Proofs.Q9
open Go.RowKit Go.Sort Go.Shelf
open Tess (CK Pay)
theorem pa11(bl bc bb off k cap i:Nat)(a b:Option Addr)(c d:Nat)(l m:List Tess.Val)(t u n o:Int)(a3 a4 a5 b3 b4 b5:Option Addr)(n3 n4 n5 c3 c4 c5 o3 o4 o5 d3 d4 d5:Nat)(W:World)
  (hi:i<k) (hm:m.length<=9223372036854775807)
  (hl:W.cell? ⟨bl,0,none⟩=some (.slice (some ⟨bb,off,none⟩) k cap))
  (e0:W.cell? ⟨bb,off+i*6,none⟩=some (.int .i64 t)) (e1:W.cell? ⟨bb,off+i*6+1,none⟩=some (.slice a l.length c)) (e2:W.cell? ⟨bb,off+i*6+2,none⟩=some (.int .i64 n)) (e3:W.cell? ⟨bb,off+i*6+3,none⟩=some (.slice a3 n3 c3)) (e4:W.cell? ⟨bb,off+i*6+4,none⟩=some (.slice a4 n4 c4)) (e5:W.cell? ⟨bb,off+i*6+5,none⟩=some (.slice a5 n5 c5))
  (f0:W.cell? ⟨bc,0,none⟩=some (.int .i64 u)) (f1:W.cell? ⟨bc,1,none⟩=some (.slice b m.length d)) (f2:W.cell? ⟨bc,2,none⟩=some (.int .i64 o)) (f3:W.cell? ⟨bc,3,none⟩=some (.slice b3 o3 d3)) (f4:W.cell? ⟨bc,4,none⟩=some (.slice b4 o4 d4)) (f5:W.cell? ⟨bc,5,none⟩=some (.slice b5 o5 d5))
  (ha:VC W a l) (hb:VC W b m) :
  Calls Tryz.prog 63 (#[.int .i64 i]++#[.pointer (some ⟨bl,0,none⟩),.pointer (some ⟨bc,0,none⟩)]) W fun e w'=>e = .returned (.bool (!Tess.ckLt (t,l.map Tess.Val.c) (u,m.map Tess.Val.c)))/\∃q os,w'=grow (W.drewN q) os:=by
 have Ad:(i:Int)<(k:Int):=by omega
 have H:=Hd (fun q os=>aa a b c d l m t u n o a3 a4 a5 b3 b4 b5 n3 n4 n5 c3 c4 c5 o3 o4 o5 d3 d4 d5 (grow (W.drewN q) os) hm (ha.grown q os) (hb.grown q os));generalize Tess.ckLt (t,l.map Tess.Val.c) (u,m.map Tess.Val.c)=r at *;go_enter Tryz.func63,Tryz.ntmps63;go_wp2_with (fail);have ql:=fun k os=>zx (qK _ _ hl) hl k os;have q0:=fun k os=>zx (qK _ _ e0) e0 k os
 have q1:=fun k os=>zx (qK _ _ e1) e1 k os;have q2:=fun k os=>zx (qK _ _ e2) e2 k os;have q3:=fun k os=>zx (qK _ _ e3) e3 k os;have q4:=fun k os=>zx (qK _ _ e4) e4 k os;have q5:=fun k os=>zx (qK _ _ e5) e5 k os;have r0:=fun k os=>zx (qK _ _ f0) f0 k os;have r1:=fun k os=>zx (qK _ _ f1) f1 k os;have r2:=fun k os=>zx (qK _ _ f2) f2 k os;have r3:=fun k os=>zx (qK _ _ f3) f3 k os
 have r4:=fun k os=>zx (qK _ _ f4) f4 k os;have r5:=fun k os=>zx (qK _ _ f5) f5 k os;clear hl e0 e1 e2 e3 e4 e5 f0 f1 f2 f3 f4 f5 ha hb;refine wp_region_quiet_grown (by kernel_rfl) (by kernel_rfl) ?_
 repeat(go_big_quiet_step (exact Calls.grown_of (H.out _ _)))
 refine qAl ?_;intro _ Ab;obtain⟨⟨nq,Ac⟩,Aa⟩:=Ab;subst Aa;go_wp2;go_ret;exact⟨rfl,_,_,rfl⟩
end Go.Proofs.Q9
namespace Go.Proofs.Q9
open Go.RowKit Go.Sort
open Tess (Fil)
theorem la16(w:World)(A B C D E:Obj):((((((w.alloc A).alloc B).alloc C).alloc D).alloc E)).heap[w.heap.size]?=some A/\((((((w.alloc A).alloc B).alloc C).alloc D).alloc E)).heap[w.heap.size+1]?=some B/\((((((w.alloc A).alloc B).alloc C).alloc D).alloc E)).heap[w.heap.size+2]?=some C /\
  ((((((w.alloc A).alloc B).alloc C).alloc D).alloc E)).heap[w.heap.size+3]?=some D/\((((((w.alloc A).alloc B).alloc C).alloc D).alloc E)).heap[w.heap.size+4]?=some E/\((((((w.alloc A).alloc B).alloc C).alloc D).alloc E)).heap.size=w.heap.size+5/\Below w.heap.size w ((((((w.alloc A).alloc B).alloc C).alloc D).alloc E)):=by
 obtain⟨h1,h2,h3,h4,h5,h6⟩:=la14 w A B C D;obtain⟨k1,k2,k4⟩:=la2 ((((w.alloc A).alloc B).alloc C).alloc D) E;rw[h5]at k1 k2;exact⟨(k4.block _ (by omega)).trans h1,(k4.block _ (by omega)).trans h2,(k4.block _ (by omega)).trans h3,(k4.block _ (by omega)).trans h4,k1,k2,h6.trans (k4.mono (by omega))⟩
