/- Joined. -/
import Derived.Test.YtjdccifdkjnknaaGreatDoorZC22
set_option maxRecDepth 100000
set_option maxHeartbeats 4000000
namespace Tess
open Go
theorem lb2:∀(f x:Nat),x<2^f->Lib.bitLenAux f x=bitLen x
 |0,x,h=>by
   have:x=0:=by simpa using h
   subst this;rfl
 |f+1,x,h=>by
   unfold Lib.bitLenAux;split
   ·subst_vars;rfl
   ·rename_i h0;rw[yN]at h;rw[lb2 f (x/2) (by omega)];unfold bitLen;rw[qH h0];by_cases h2:x/2=0
    ·have h1:x=1:=by omega
     subst h1;rfl
    ·rw[qH h2]
     conv=>rhs;rw[Nat.log2_def]
     rw[qR (by omega)];omega
theorem mmN(l:List Nat):max 0 (Lib.maxOf ((l.map fun n:Nat=>(n:Int))++[0]))=(maxN l:Nat):=by
 have Aa:∀(l:List Nat) (a:Nat),(l.map fun n:Nat=>(n:Int)).foldl max (a:Int)=((l.foldl max a:Nat):Int):=by
  intro l
  induction l with
  |nil=>intro a;rfl
  |cons x l ih=>
    intro a;rw[jN,jJ,jJ,show max (a:Int) (x:Int)=((max a x:Nat):Int) by omega];exact ih _
 unfold Lib.maxOf maxN;cases l with
 |nil=>rfl
 |cons x l=>
   rw[jN,qk,List.headD_cons,jJ,yr,show max (x:Int) (x:Int)=((max 0 x:Nat):Int) by omega,Aa,jJ];simp only[jJ,List.foldl_nil];omega
end Tess
namespace Go.Proofs.Q9
open Go.RowKit Go.Sort
theorem oa7(n:Nat)(w:World)(h:n<=65535):Calls Tryz.prog 161 #[.int .i64 n] w fun e w'=>e = .returned (.bool false)/\w'=w:=by have h1:decide ((65535:Int)<(n:Int))=false:=qG (by omega);have h2:decide ((n:Int)<0)=false:=qG (by omega);go_enter Tryz.func161,Tryz.ntmps161;go_wp2;go_ret;exact⟨rfl,rfl⟩
theorem wo3(v:Value)(l:List Nat)(w:World)(hv:SlOf w v (l.map fun n=>.int .i64 (n:Nat)))(hl:∀x∈l,x<=65535) :
  Calls Tryz.prog 202 #[v,.func (.func 161) #[] #[]] w fun e w'=>e = .returned (.int .i64 (-1))/\Below w.heap.size w w':=by
 obtain⟨a,Ad,rfl,Ab,hc⟩:=so3 _ hv;have HC:=Hd hc;have HL:=Hd hl;clear hc hv hl;go_enter Tryz.func202,Tryz.ntmps202;go_wp2;go_loopw [8] (fun i wr=>∃k:Nat,k<=l.length/\i = .int .i64 k/\Below w.heap.size w wr) (fun i _=>l.length-(intOf i).toNat)
 case atStart=>exact⟨0,qN _,rfl,qJ _ _⟩
 case round=>
  obtain⟨k,hk,rfl,hB⟩:=hrel;by_cases hlt:k<l.length
  ·obtain⟨b,Ae,rfl,hb,Aa⟩:=HC.out wr hB k hlt;have hx:=HL.out _ (qP hlt);have Ac:(k:Int)<(l.length:Int):=by omega
   generalize l[k]=y at *;have HB:=Hd hB;clear hB hb;go_wp2_with (go_at_call 161;refine(oa7 y _ hx).mono ?_;rintro e w2 ⟨rfl,rfl⟩);go_roundw
   case rel=>exact⟨k+1,by omega,by go_num,HB.out⟩
   case measure=>simp[intOf];omega
  ·have Ac:¬(k:Int)<(l.length:Int):=by omega
   go_wp2;go_ret;exact⟨rfl,hB⟩
theorem wo2(v:Value)(l:List Nat)(w:World)(hv:SlOf w v (l.map fun n=>.int .i64 (n:Nat)))(hl:∀x∈l,x<=65535) :
  Calls Tryz.prog 162 #[v,.func (.func 161) #[] #[]] w fun e w'=>e = .returned (.bool false)/\Below w.heap.size w w':=by
 have HI:=Hd (wo3 v l w hv hl);obtain⟨a,Ab,rfl,Aa,hc⟩:=so3 _ hv;clear hc hv;go_enter Tryz.func162,Tryz.ntmps162;go_wp2_with (go_at_call 202;refine HI.out.mono ?_;rintro e w2 ⟨rfl,hB⟩);go_ret;exact⟨rfl,hB⟩
theorem wa2(a:Option Addr)(cap:Nat)(l:List Nat)(w:World)(hv:SlOf w (.slice a l.length cap) (l.map fun n=>.int .i64 (n:Nat)))(hcap:l.length<=cap)(hl:∀x∈l,x<=65535)(hll:l.length<=1000) :
  Calls Tryz.prog 122 #[.slice a l.length cap] w fun e w'=>e = .returned (.tuple #[.int .i64 (Tess.widN l:Nat),.int .i64 0])/\Below w.heap.size w w':=by
 have Ao:=Hd (fun W (hB:Below w.heap.size w W)=>wo2 _ l W (hv.below hB) hl);obtain⟨a',Av,e,Am,hc⟩:=so3 _ hv;cases e
 have HC:=Hd hc;have hm:Tess.maxN l<=65535:=Tess.mNl 65535 l 0 (by omega) hl;have HM:=Hd hm;have Ay:decide ((1000:Int)<(l.length:Int))=false:=qG (by omega);have Aw:IntKind.u64.wrap ((Tess.maxN l:Nat):Int)=((Tess.maxN l:Nat):Int):=by rw[wrap_u64];omega
 obtain⟨i0,hi,An,At,Al⟩:=zF (P:=Tryz.prog) (e:=3) (z:=.int .i64 0) (size:=1) (bytes:=8) (by kernel_rfl);clear hc hv;go_enter Tryz.func122,Tryz.ntmps122
 have Ad:a=none->l.length=0/\l.length=0:=fun e=>by
  rcases jI l.length with h|h
  ·exact⟨h,h⟩
  ·obtain⟨b,Ar,h1,_⟩:=HC.out w (qJ _ _) 0 h;rw[e]at h1;cases h1
 have Aq:(l.map fun n:Nat=>Value.int .i64 (n:Nat)).length=l.length*1:=by simp
 have Ak:=Hd (Tess.mmN l);have Af:(l.length:Int)<=9223372036854775807:=by omega
 go_wp2_with (first
  |(go_at_call 162;refine(Ao.out _ (qJ _ _)).mono ?_;rintro e w2 ⟨rfl,hB⟩;have HB:=Hd hB;clear hB)
  |(at_builtin;refine wpList_append_grows _ rfl _ _ 96 rfl 3 i0 (.int .i64 0) 1 8 Tryz.underlying96 hi An At Al rfl (by decide) a l.length l.length (l.map fun n:Nat=>Value.int .i64 (n:Nat)) rfl Ad Aq ?c1 ⟨w2.heap.size,0,none⟩ 1 1 [.int .i64 0] rfl rfl (zh _ _ _) (by simp[Value.oneCell']) (by omega) (by unfold maxLen;omega) (by omega) ?_))
 case c1=>
  intro b hb j u hj;have Ai:j<l.length:=by have:=(zW.1 hj).1;simpa using this
  obtain⟨b',Ar,h1,_,h2⟩:=HC.out (w2.alloc (.cells #[.int .i64 0] 3)) (HB.out.alloc HB.out.size _) j Ai;rw[h1]at hb;cases hb
  rw[qp,qD Ai]at hj;cases hj
  rw[ap2];exact h2
 intro v' w3 Ab Ah;obtain⟨g,cp,rfl,_,Ap,_,Aj⟩:=oc2 Ab (by omega)
 have Aa:=Tryz.slices_Max_int g 0 (l.length+1) cp ((l.map fun n:Nat=>(n:Int))++[0]) w3 (by omega) (by simp) (by omega) (fun j hj=>by
  have As:j<l.length+1:=by simpa using hj
  rw[(Aj j As).1];by_cases h:j<l.length
  ·rw[jX (by simpa using h),qE,jX (by simpa using h)];simp[h]
  ·have:j=l.length:=by omega
   subst this;rw[jk (by simp),qE,jk (by simp)]
   simp)
 rw[qh (by simp)]at Aa;generalize hz:Lib.maxOf ((l.map fun n:Nat=>(n:Int))++[0])=z at Aa Ak;have Ax:=Ak.out;have Ag:=Hd Aa;have Au:=Hd ((HB.out.alloc HB.out.size (.cells #[.int .i64 0] 3)).grown Ah (by have:=HB.out.size;simp;omega) (fun k e=>by cases e));have Ac:=fun W=>Tryz.bits_Len ((Tess.maxN l:Nat):Int) W (by omega) (by omega)
 rw[xj,show Lib.bitLen (Tess.maxN l)=bitLen (Tess.maxN l)from Tess.lb2 64 _ (by omega)]at Ac;have Ae:=Hd Ac;clear Aa Ac Ab Ah Aj
 go_wp2_with (first
  |(go_at_call 164;refine Ag.out.mono ?_;rintro e w4 ⟨rfl,rfl⟩)
  |(go_at_call 163;refine(Ae.out _).mono ?_;rintro e w5 ⟨rfl,rfl⟩))
 go_ret2;exact⟨rfl,Au.out⟩
end Go.Proofs.Q9
namespace Go.Proofs.Q9
open Go.RowKit Go.Sort Go.Shelf
attribute [local go_sem] jK
theorem pa8(n w:Nat)(W:World)(hn:n<=1000)(hw:w<=16):Calls Tryz.prog 177 #[.int .i64 n,.int .i64 w] W fun e w'=>e = .returned (.int .i64 (Tess.sP n w:Nat))/\w'=W:=by
 have hm:n*w<=1000*16:=yh hn hw;have h1:(n:Int)*(w:Int)=((n*w:Nat):Int):=by simp
 have h2:decide ((n:Int)<0)=false:=qG (by omega);have h3:decide ((w:Int)<0)=false:=qG (by omega);unfold Tess.sP;generalize n*w=m at *;go_enter Tryz.func177,Tryz.ntmps177;go_wp2;go_ret;refine⟨?_,rfl⟩;show Ending.returned (.int .i64 (((m:Int)+8-1)/8))=_;rw[show((m:Int)+8-1)/8=((m+7)/8:Nat) by omega]
theorem pa4(a:Addr)(n w:Nat)(W:World):Calls Tryz.prog 178 #[.pointer (some a),.int .i64 n,.int .i64 w] W fun e w'=>e = .returned (.func (.func 209) #[] #[.pointer (some ⟨W.heap.size+1,0,none⟩),.pointer (some ⟨W.heap.size,0,none⟩),.pointer (some ⟨W.heap.size+2,0,none⟩)])/\w'=((W.alloc (.cells #[.pointer (some a)] 246)).alloc (.cells #[.int .i64 n] 3)).alloc (.cells #[.int .i64 w] 3):=by go_enter Tryz.func178,Tryz.ntmps178;go_wp2;go_ret;exact⟨rfl,rfl⟩
theorem os4{base:Nat}{e:TypeId}{v:Value}{n:Nat}{xs:List Value}{w:World}(h:w.ownsRow base e 1 v n xs):∃a c,v = .slice a n c/\n<=c/\SlOf w v xs:=by
 have hs:=SlOf.owned h;rcases h.2 with⟨h,h0⟩|⟨g,Aa,_,h,_,_,h2,_⟩
 ·exact⟨none,0,by rw[h,h0],by omega,hs⟩
 ·exact⟨_,_,h,h2,hs⟩
theorem nKl(w:Nat)(T:List UInt8)(k:Nat)(hw:w<=16):Tess.numK w T k<=65535:=by
 unfold Tess.numK;have h1:2^w<=2^16:=zf (by omega) hw;have h2:=yX (Tess.valB T/2^(8*T.length-(k+1)*w)) (jh w);have e:(2:Nat)^16=65536:=by decide
 omega
structure Nv(X:World)(bo br L:Nat)(rec:Loop)(o:List Nat)(vo:Value)(n c:Nat)(st:ByteArray)(W:World):Prop where
 kO:W.heap[bo]?=some (.cells #[vo] 96 (0,0))
 kR:Dg br 251 n c (.string st) W
 kL:W.heap[L]?=some (.loop rec)
 own:W.ownsRow X.heap.size 3 1 vo o.length (o.map fun n=>.int .i64 (n:Nat))
 os:W.os=X.os
 tape:W.tape=X.tape
 output:W.output=X.output
 size:X.heap.size<=W.heap.size
 rest:∀k,k<X.heap.size->k≠bo->k≠br->k≠L->W.heap[k]?=X.heap[k]?
 bo_br:bo≠br
 bo_L:bo≠L
 br_L:br≠L
 lts:bo<X.heap.size/\br<X.heap.size/\L<X.heap.size
section
variable {X W W' W2:World} {bo br L n c n' c' x:Nat} {rec rec':Loop} {o:List Nat} {vo v':Value} {st st':ByteArray} {ob:Obj}
theorem Nv.low(h:Nv X bo br L rec o vo n c st W):∀g,vo.ownBlock=some g->X.heap.size<=g/\g<W.heap.size:=fun g e=>h.own.lt g e
theorem Nv.one(h:Nv X bo br L rec o vo n c st W)(ho:OneB br W W')(hb:Dg br 251 n' c' (.string st') W'):Nv X bo br L rec o vo n' c' st' W':=by obtain⟨l1,l2,l3⟩:=h.lts;have hs:=h.size;refine⟨(ho.block _ (by omega) h.bo_br).trans h.kO,hb,(ho.block _ (by omega) (xR h.br_L)).trans h.kL,oo2 h.own (fun e=>by have:=(h.low _ e).1;omega) ho,ho.os.trans h.os,ho.tape.trans h.tape,ho.output.trans h.output,qt hs ho.size,fun k h1 h2 h3 h4=>(ho.block k (by omega) h3).trans (h.rest k h1 h2 h3 h4),h.bo_br,h.bo_L,h.br_L,h.lts⟩
theorem Nv.but(h:Nv X bo br L rec o vo n c st W)(hs:Rf.SB L W W')(hl:W'.heap[L]?=some (.loop rec')):Nv X bo br L rec' o vo n c st W':=by obtain⟨l1,l2,l3⟩:=h.lts;have Aa:W'.ownsRow X.heap.size 3 1 vo o.length (o.map fun n=>.int .i64 (n:Nat)):=hs.owns h.own h.kL rfl;exact⟨(hs.block _ h.bo_L).trans h.kO,(hs.block _ h.br_L).trans h.kR,hl,Aa,hs.os.trans h.os,hs.tape.trans h.tape,hs.output.trans h.output,by rw[hs.size];exact h.size,fun k h1 h2 h3 h4=>(hs.block k h4).trans (h.rest k h1 h2 h3 h4),h.bo_br,h.bo_L,h.br_L,h.lts⟩
theorem Nv.old(h:Nv X bo br L rec o vo n c st W)(hg:(W.alloc ob).grownBy W2 vo.ownBlock):∀k,k<X.heap.size->W2.heap[k]?=W.heap[k]?:=fun k hk=>(hg.block k (by have:=h.size;simp;omega) (fun e=>by have:=(h.low _ e.symm).1;omega)).trans (zu W ob k (by have:=h.size;omega))
theorem Nv.app(h:Nv X bo br L rec o vo n c st W)(hg:(W.alloc ob).grownBy W2 vo.ownBlock)(hown:W2.ownsRow X.heap.size 3 1 v' (o.length+1) ((o.map fun n=>.int .i64 (n:Nat))++[.int .i64 (x:Nat)])):Nv X bo br L rec (o++[x]) v' n c st (W2.setCell ⟨bo,0,none⟩ v'):=by
 obtain⟨l1,l2,l3⟩:=h.lts;have hs:=h.size;have old:∀k,k<X.heap.size->W2.heap[k]?=W.heap[k]?:=fun k hk=>(hg.block k (by simp;omega) (fun e=>by have:=(h.low _ e.symm).1;omega)).trans (zu W ob k (by omega));have Aa:=(old bo l1).trans h.kO
 refine⟨fhs v' Aa,(fhn (xR h.bo_br)).trans ((old br l2).trans h.kR),(fhn (xR h.bo_L)).trans ((old L l3).trans h.kL),?_,hg.os.trans h.os,hg.tape.trans h.tape,hg.output.trans h.output,?_,fun k h1 h2 h3 h4=>(fhn h2).trans ((old k h1).trans (h.rest k h1 h2 h3 h4)),h.bo_br,h.bo_L,h.br_L,h.lts⟩
 ·rw[qI,qs];exact oo2 (b:=bo) hown (fun e=>by have:=(hown.lt _ e).1;omega) ((OneB.of (qJ W2.heap.size W2)).set bo 0 v')
 ·have:=hg.size;simp[World.setCell]at this⊢;omega
theorem Nv.drawn(h:Nv X bo br L rec o vo n c st W)(q:Nat):Nv X bo br L rec o vo n c st (W.drewN q):=⟨h.kO,h.kR,h.kL,h.own,h.os,h.tape,h.output,h.size,h.rest,h.bo_br,h.bo_L,h.br_L,h.lts⟩
theorem Nv.later(h:Nv X bo br L rec o vo n c st W)(hb:Below W.heap.size W W'):Nv X bo br L rec o vo n c st W':=h.one (OneB.of hb) ((hb.block _ (Dg.cells h.kR).2.2).trans h.kR)
theorem Nv.at(h:Nv X bo br L rec o vo n c st W){k:Nat}{v:Value}{t:TypeId}(hk:X.heap[k]?=some (.cells #[v] t (0,0)))(h2:k≠bo)(h3:k≠br)(h4:k≠L):W.cell? ⟨k,0,none⟩=some v/\W.frozen? ⟨k,0,none⟩=false:=fco ((h.rest k (qA.1 hk).1 h2 h3 h4).trans hk)
theorem Nv.below(h:Nv X bo br L rec o vo n c st W){N:Nat}{w:World}(hb:Below N w X)(h1:N<=bo)(h2:N<=br)(h3:N<=L)(hN:N<=X.heap.size):Below N w W:=hb.trans ⟨h.os,h.tape,h.output,h.size,fun k hk=>h.rest k (by omega) (by omega) (by omega) (by omega)⟩
end
def UF(w:World)(Z n wd:Nat)(T:List UInt8)(W4:World):Prop:=∃(vo:Value) (nn c:Nat) (st:ByteArray),W4.heap[w.heap.size]?=some (.cells #[vo] 96 (0,0))/\W4.ownsRow w.heap.size 3 1 vo n (((List.range n).map (Tess.numK wd T)).map fun m=>.int .i64 (m:Nat))/\Dg (Z+1) 251 nn c (.string st) W4/\nn=Tess.valB T%2^(8*T.length-n*wd)/\W4.heap[Z+5]?=some (.deferred (some []))/\Below w.heap.size w W4
theorem Nv.fin{X w W W4:World}{Z n wd nn c:Nat}{T:List UInt8}{rec:Loop}{vo:Value}{st:ByteArray}(h:Nv X w.heap.size (Z+1) (Z+5+1) rec ((List.range n).map (Tess.numK wd T)) vo nn c st W)(hs:Rf.SB (Z+5+1) W W4)(hB:Below w.heap.size w X)(hZ:w.heap.size<Z)(hX:X.heap.size=Z+5+2)(hD:X.heap[Z+5]?=some (.deferred (some [])))(hnn:nn=Tess.valB T%2^(8*T.length-n*wd)):UF w Z n wd T W4:=by
 have Aa:W4.ownsRow X.heap.size 3 1 vo ((List.range n).map (Tess.numK wd T)).length (((List.range n).map (Tess.numK wd T)).map fun m=>.int .i64 (m:Nat)):=hs.owns h.own h.kL rfl
 have ho:W4.ownsRow w.heap.size 3 1 vo ((List.range n).map (Tess.numK wd T)).length (((List.range n).map (Tess.numK wd T)).map fun m=>.int .i64 (m:Nat)):=by refine⟨Aa.1,Aa.2.imp id fun⟨g,cap,cur,e1,e2,e3⟩=>⟨g,cap,cur,e1,by omega,e3⟩⟩
 rw[qX,xK]at ho;exact⟨vo,nn,c,st,(hs.block _ h.bo_L).trans h.kO,ho,(hs.block _ h.br_L).trans h.kR,hnn,(hs.block _ (by omega)).trans ((h.rest _ (by omega) (by omega) (by omega) (by omega)).trans hD),(h.below hB (by omega) (by omega) (by omega) (by omega)).trans (hs.below (by omega))⟩
def PP2(s:ByteArray)(w:World)(e:Ending)(w':World):Prop:=∃a c,e = .returned (.tuple #[.slice a (Tess.uP s).1.length c,.string (Tess.uP s).2.1,.int .i64 ((Tess.uP s).2.2:Nat)])/\w'.ownsRow w.heap.size 3 1 (.slice a (Tess.uP s).1.length c) (Tess.uP s).1.length ((Tess.uP s).1.map fun n=>.int .i64 (n:Nat))/\Below w.heap.size w w'
theorem pa2(a0 a1:Addr)(s:ByteArray)(w:World)(hv:DV2 a0 a1 w):Calls Tryz.prog 134 #[.string s] w (PP2 s w):=by
 obtain⟨w0,Cd⟩:=XQ (w.alloc (.cells #[.slice none 0 0] 96))
 have By:Below w.heap.size w w0:=by rw[<-Cd];exact(qJ _ _).alloc (qC _) _
 have h0:w0.heap[w.heap.size]?=some (.cells #[.slice none 0 0] 96 (0,0)):=by rw[<-Cd];exact zS w _
 have HG:=Hd (ga2 a0 a1 s w0 (hv.below By));have HV:=Hd hv;have Ax:=Hd By;have H0:=Hd h0;obtain⟨U,hU⟩:=Xq (Tess.uP s)
 have HU:=Hd hU;unfold PP2;rw[<-hU];unfold GP2 at HG;have Ba:=Tess.gWl s;obtain⟨⟨n,r,c⟩,hg⟩:∃g,g=Tess.getW s:=⟨_,rfl⟩
 rw[<-hg]at HG Ba;simp only at HG Ba;have Aw:=Hd hg
 have Aq:c≠0∨(c=0/\1000<n)∨(c=0/\n<=1000/\r=ByteArray.empty)∨(c=0/\n<=1000/\∃b t,r=Tess.mk (b::t)/\(16<b.toNat∨b.toNat<=16/\t.length<Tess.sP n b.toNat∨b.toNat<=16/\Tess.sP n b.toNat<=t.length)):=by
  by_cases h1:c=0
  ·by_cases h2:1000<n
   ·exact .inr (.inl ⟨h1,h2⟩)
   ·right;right;cases he:r.data.toList with
    |nil=>exact .inl ⟨h1,by omega,Tess.me2 he⟩
    |cons b t=>exact .inr ⟨h1,by omega,b,t,Tess.me2 he,by omega⟩
  ·exact .inl h1
 clear hv By h0 hU hg;refine(qZ (n:=5)).1 ?_;refine jL Tryz.func134 rfl trivial ?_ rfl;simp only[Tryz.ntmps134,qu,qU,zE,Nat.reduceAdd,Nat.reduceSub,qv,qw,zO,zC,qr,qk];gi_wp2;refine Rf.wIs2 0 rfl ?_;rcases Aq with hc|⟨rfl,hn⟩|⟨rfl,hn,rfl⟩|⟨rfl,hn,b,t,rfl,h⟩
 ·have Db:((c:Int) !=0)=true:=by rw[zj];omega
  have HR:=Hd (show U=([],s,c) by rw[HU.out];unfold Tess.uP;rw[<-Aw.out,qR hc]);gi_wp2_with (refine⟨trivial,?_⟩;gi_at_call 176;refine(qZ.2 HG.out).mono ?_;rintro e w1 ⟨rfl,Ab⟩;have Ac:=Hd (Bt Ax.out Ab);clear Ab);refine wpIn_goto (Exit.tg2 (Exit.fg2 ?_));gi_wp2;rw[zI]
  refine⟨.tuple #[.slice none 0 0,.string s,.int .i64 c],by simp[results,Tryz.results134,go_sem],none,0,by rw[HR.out];rfl,by rw[HR.out];exact qg _ _ _ _,Ac.out.alloc Ac.out.size _⟩
 ·have Ck:(1000:Int)<(n:Int):=by omega
  have HR:=Hd (show U=([],s,40) by rw[HU.out];unfold Tess.uP;rw[<-Aw.out,qH (by simp),qR hn]);gi_wp2_with (refine⟨trivial,?_⟩;gi_at_call 176;refine(qZ.2 HG.out).mono ?_;rintro e w1 ⟨rfl,Ab⟩;have Ac:=Hd (Bt Ax.out Ab);clear Ab);refine wpIn_goto (Exit.tg2 (Exit.fg2 ?_));gi_wp2;rw[zI]
  refine⟨.tuple #[.slice none 0 0,.string s,.int .i64 40],by simp[results,Tryz.results134,go_sem],none,0,by rw[HR.out];rfl,by rw[HR.out];exact qg _ _ _ _,Ac.out.alloc Ac.out.size _⟩
 ·have HR:=Hd (show U=([],s,21) by rw[HU.out];unfold Tess.uP;rw[<-Aw.out,qH (by simp),qH (by omega)];rfl);have Ck:¬(1000:Int)<(n:Int):=by omega
  gi_wp2_with (refine⟨trivial,?_⟩;gi_at_call 176;refine(qZ.2 HG.out).mono ?_;rintro e w1 ⟨rfl,Ab⟩;have Ac:=Hd (Bt Ax.out Ab);clear Ab);refine wpIn_goto (Exit.tg2 (Exit.fg2 ?_));gi_wp2;rw[zI];refine⟨.tuple #[.slice none 0 0,.string s,.int .i64 21],by simp[results,Tryz.results134,go_sem],none,0,by rw[HR.out];rfl,by rw[HR.out];exact qg _ _ _ _,Ac.out.alloc Ac.out.size _⟩
 ·obtain⟨R,hR⟩:=Xq (Tess.mk (b::t))
  rw[<-hR]at HG Aw;have Dd:R.size=t.length+1:=by rw[hR,Tess.ms2];rfl
  have h0:0<R.size:=by omega
  have Cb:R[0]'h0=b:=by subst hR;rfl
  have Dn:R.toList.isEmpty=false:=sn3 (by omega);have B8:=b.toNat_lt;have Dk:wrap64 ((R[0]'h0).toNat:Int)=(b.toNat:Int):=by rw[Cb];unfold wrap64;omega
  have Ck:¬(1000:Int)<(n:Int):=by omega
  have Df:=Hd hR;have A4:=Hd (show R.data.toList=b::t by rw[hR];rfl);clear hR Cb
  have B4:b.toNat<=16->Tess.sP n b.toNat<=2001:=fun h=>by have:n*b.toNat<=1000*16:=yh hn h;unfold Tess.sP;omega
  have Bj:=Hd (fun W h=>pa8 n b.toNat W hn h);obtain⟨S,Be⟩:=Xq (Tess.sP n b.toNat)
  rw[<-Be]at B4 h;rw[<-Be]at Bj;have Bd:b.toNat<=16->wrap64 (1+(S:Int))=((S+1:Nat):Int):=fun h=>by have:=B4 h;unfold wrap64;omega
  have A3:=Hd Be;clear Be;rcases h with hb|⟨Ad,hS⟩|⟨Ad,hS⟩
  ·have Ci:(16:Int)<(b.toNat:Int):=by omega
   have HR:=Hd (show U=([],s,40) by rw[HU.out];unfold Tess.uP;rw[<-Aw.out,qH (by simp),qH (by omega)];simp only[A4.out];rw[qR hb]);gi_wp2_with (refine⟨trivial,?_⟩;gi_at_call 176;refine(qZ.2 HG.out).mono ?_;rintro e w1 ⟨rfl,Ab⟩;have Ac:=Hd (Bt Ax.out Ab);clear Ab);refine wpIn_goto (Exit.tg2 (Exit.fg2 ?_));gi_wp2;rw[zI]
   refine⟨.tuple #[.slice none 0 0,.string s,.int .i64 40],by simp[results,Tryz.results134,go_sem],none,0,by rw[HR.out];rfl,by rw[HR.out];exact qg _ _ _ _,Ac.out.alloc Ac.out.size _⟩
  ·have Ci:¬(16:Int)<(b.toNat:Int):=by omega
   have HR:=Hd (show U=([],s,21) by rw[HU.out];unfold Tess.uP;rw[<-Aw.out,qH (by simp),qH (by omega)];simp only[A4.out];rw[qH (by omega),qR (by rw[<-A3.out];exact hS)]);have Bd:=Bd Ad;have C5:(R.size:Int)<((S+1:Nat):Int):=by omega
   gi_wp2_with (first|(refine⟨trivial,?_⟩;gi_at_call 176;refine(qZ.2 HG.out).mono ?_;rintro e w1 ⟨rfl,Ab⟩;have Ac:=Hd (Bt Ax.out Ab);clear Ab)|(refine⟨trivial,?_⟩;gi_at_call 177;refine(qZ.2 (Bj.out _ Ad)).mono ?_;rintro e w2 ⟨rfl,rfl⟩));refine wpIn_goto (Exit.tg2 (Exit.fg2 ?_));gi_wp2;rw[zI]
   refine⟨.tuple #[.slice none 0 0,.string s,.int .i64 21],by simp[results,Tryz.results134,go_sem],none,0,by rw[HR.out];rfl,by rw[HR.out];exact qg _ _ _ _,Ac.out.alloc Ac.out.size _⟩
  ·have Ci:¬(16:Int)<(b.toNat:Int):=by omega
   have Bd:=Bd Ad;have C5:¬(R.size:Int)<((S+1:Nat):Int):=by omega
   gi_wp2_with (first|(refine⟨trivial,?_⟩;gi_at_call 176;refine(qZ.2 HG.out).mono ?_;rintro e w1 ⟨rfl,Ab⟩;have Ac:=Hd (Bt Ax.out Ab);have H1:=Hd ((Ab.block _ (qA.1 H0.out).1).trans H0.out);clear Ab)|(refine⟨trivial,?_⟩;gi_at_call 177;refine(qZ.2 (Bj.out _ Ad)).mono ?_;rintro e w2 ⟨rfl,rfl⟩));refine qAm ?_
   gi_wp2_with (refine⟨trivial,?_⟩;gi_at_call 178;refine(qZ.2 (pa4 _ _ _ _)).mono ?_;rintro e w' ⟨rfl,rfl⟩);obtain⟨T,hT⟩:=Xq (t.take S)
   have Cf:R.extract 1 (1+S)=Tess.mk T:=Tess.me2 (by rw[Tess.ext_list,A4.out,hT,show 1+S-1=S by omega];rfl);have Cj:T.length=S:=by rw[hT,qy];omega
   rw[Cf];have HT:=Hd hT;have Cu:=Hd Cj;clear Cf hT Cj;obtain⟨X1,Bp⟩:=XQ ((((((w1.alloc (.cells #[.int .u64 n] 92)).alloc (.cells #[.int .u64 0,.int .i64 0,.string (Tess.mk T)] 251)).alloc (.cells #[.pointer (some ⟨w1.heap.size+1,0,none⟩)] 246)).alloc (.cells #[.int .i64 n] 3)).alloc (.cells #[.int .i64 b.toNat] 3)))
   obtain⟨k0,k1,k2,k3,k4,kS,kB⟩:=la16 w1 (.cells #[.int .u64 n] 92) (.cells #[.int .u64 0,.int .i64 0,.string (Tess.mk T)] 251) (.cells #[.pointer (some ⟨w1.heap.size+1,0,none⟩)] 246) (.cells #[.int .i64 n] 3) (.cells #[.int .i64 b.toNat] 3);rw[Bp]at k0 k1 k2 k3 k4 kS kB;have Cw:=Hd ((kB.block _ (qA.1 H1.out).1).trans H1.out);have Cm:=Hd (Ac.out.trans (kB.mono Ac.out.size))
   have HZ:=Hd (show w.heap.size<w1.heap.size from(qA.1 H1.out).1);clear kB;obtain⟨Z,hZ⟩:=Xq w1.heap.size
   simp only[Bp,jq,Nat.reduceAdd];clear Bp;rw[<-hZ]at k0 k1 k2 k3 k4 kS HZ⊢;clear hZ;refine Rf.rf3 (gf:=209) (lb:=#[.pointer (some ⟨Z+3,0,none⟩),.pointer (some ⟨Z+2,0,none⟩),.pointer (some ⟨Z+4,0,none⟩)]) 0 (UF w Z n b.toNat T) rfl (yd Tryz.func209 (by kernel_rfl) rfl) ?_ ?_ ?_
   ·intro fn W2 hL hD Ak B1;rw[kS]at hL hD Ak B1⊢;obtain⟨Ae,Ap,hL⟩:∃Ae:Loop,Ae=_/\W2.heap[Z+5+1]?=some (.loop Ae):=⟨_,rfl,hL⟩
    have Bq:=Hd Ap;have Bs:Ae.state = .ready/\Ae.params.size=1/\Ae.pending=none:=by rw[Ap];exact⟨rfl,rfl,rfl⟩
    clear Ap;obtain⟨Bs,Cl,C8⟩:=Bs;have B7:=HZ.out;have HI:=Hd (show Nv W2 w.heap.size (Z+1) (Z+5+1) Ae [] (.slice none 0 0) 0 0 (Tess.mk T) W2 from⟨(Ak.block _ (by omega)).trans Cw.out,(Ak.block _ (by omega)).trans k1,hL,qg _ _ _ _,rfl,rfl,rfl,qC _,fun _ _ _ _ _=>rfl,by omega,by omega,by omega,by omega,by omega,by omega⟩);have J0:=Hd ((Ak.block Z (by omega)).trans k0)
    have J2:=Hd ((Ak.block (Z+2) (by omega)).trans k2);have J3:=Hd ((Ak.block (Z+3) (by omega)).trans k3);have J4:=Hd ((Ak.block (Z+4) (by omega)).trans k4);have JD:=Hd hD;have B3:=Hd (Cm.out.trans (Ak.mono (by omega)));obtain⟨c3,z3⟩:=fco J3.out;obtain⟨i0,hi,Cn,C6,C1⟩:=zF (P:=Tryz.prog) (e:=3) (z:=.int .i64 0) (size:=1) (bytes:=8) (by kernel_rfl);obtain⟨wd,A7⟩:=Xq b.toNat
    rw[<-A7]at J4 Ad A3⊢;have At:=Hd (show T.length=Tess.sP n wd by rw[Cu.out,A3.out]);clear k0 k1 k2 k3 k4 kS hL hD Ak A7;refine yg Tryz.func209 rfl trivial ?_ rfl;simp only[Tryz.ntmps209,qu,qU,zE,Nat.reduceAdd,Nat.reduceSub,qv,qw,zO,zC,qr,qk];gi_wp2
    gi_loopw [6] (fun iv wr=>∃(k:Nat) (vo:Value) (nn c j:Nat),k<=n/\(k=0∨k<n)/\iv = .int .i64 k/\Nv W2 w.heap.size (Z+1) (Z+5+1) Ae ((List.range k).map (Tess.numK wd T)) vo nn c (Tess.mk (T.drop j)) wr/\Tess.RSt wd T k j nn c/\c<8) (fun iv _=>n-(intOf iv).toNat)
    case atStart=>exact⟨0,_,0,0,0,qN _,.inl rfl,rfl,HI.out,Tess.RSt.none _ _,by omega⟩
    case round=>
     obtain⟨k,vo,nn,c,j,hk,Di,rfl,hN,hR,Dl⟩:=hrel;have HN:=Hd hN;have Bk:=Hd hR;clear hN hR c3 z3;by_cases hlt:k<n
     ·have Co:(k:Int)<(n:Int):=by omega
      gi_wp2;obtain⟨wa,Cs⟩:=Xq wr
      subst Cs;gi_loopw [12] (fun _ wr=>∃(nn c j:Nat),Nv W2 w.heap.size (Z+1) (Z+5+1) Ae ((List.range k).map (Tess.numK wd T)) vo nn c (Tess.mk (T.drop j)) wr/\Tess.RSt wd T k j nn c/\c<=wd+7) (fun _ wr=>24-cnt (Z+1) wr)
      case atStart=>exact⟨nn,c,j,HN.out,Bk.out,by omega⟩
      case round=>
       obtain⟨n2,c2,j2,A0,B2,Dc⟩:=hrel;obtain⟨p2,y2⟩:=A0.at J2.out (by omega) (by omega) (by omega);obtain⟨p4,y4⟩:=A0.at J4.out (by omega) (by omega) (by omega);obtain⟨⟨x0,x1,x2⟩,⟨z0,z1,z2⟩,hb⟩:=Dg.cells A0.kR;have Bb:cnt (Z+1) wr=c2:=by unfold cnt;rw[x1];rfl
       have Bn:=Hd A0;have A9:=Hd B2;have Cx:=Hd Bb;clear A0 B2 Bb;by_cases hcw:c2<wd
       ·have Br:(c2:Int)<(wd:Int):=by omega
        have Cr:j2<T.length:=by have h1:=A9.out.len;have h2:(k+1)*wd<=n*wd:=jO _ hlt;rw[jd]at h2;have h3:=Tess.sg2 n wd;rw[<-At.out]at h3;omega
        obtain⟨ST,A1⟩:=Xq (Tess.mk (T.drop j2))
        have Da:ST.size=T.length-j2:=by rw[A1,Tess.ms2,zn]
        have h0:0<ST.size:=by omega
        obtain⟨x,hx⟩:=Xq ((ST[0]'h0).toNat)
        have Cc:x=T[j2].toNat:=by rw[hx];subst A1;show((T.drop j2).toArray[0]'(by simp;omega)).toNat=_;simp
        have B5:x<2^8:=by rw[hx];exact UInt8.toNat_lt _
        have De:IntKind.u64.wrap (((ST[0]'h0).toNat:Nat):Int)=(x:Int):=by rw[wrap_u64,<-hx];omega
        have B6:n2*2^8+x<18446744073709551616:=by
         have h1:=A9.out.lt;have h2:2^c2<=2^16:=zf (by omega) (by omega);have e:(2:Nat)^16=65536:=by decide
         have e2:(2:Nat)^8=256:=by decide
         omega
        have Bi:=Hd (fun W h=>da5 (Z+1) 251 n2 c2 8 x (.string ST) W h B5 B6 (by omega) (by omega));have Ch:=Hd (A9.out.more Cr);rw[<-Cc]at Ch;rw[<-A1]at Bn x2;have Cz:=Hd (show ST.extract 1 ST.size=Tess.mk (T.drop (j2+1)) by rw[A1,Tess.md2,List.drop_drop]);have Do:(1:Int)<=(ST.size:Int):=by omega
        clear A1 Cc B6 B5 Da;gi_wp2;refine xt.2 ?_;go_quiet (fail);gi_wp2;generalize hw3:wr.drewN _=w3;have As:=Hd (show Nv W2 w.heap.size (Z+1) (Z+5+1) Ae ((List.range k).map (Tess.numK wd T)) vo n2 c2 ST w3 by rw[<-hw3];exact Bn.out.drawn _);clear p2 y2 p4 y4 x0 x1 x2 z0 z1 z2 hb hw3;obtain⟨p2,y2⟩:=As.out.at J2.out (by omega) (by omega) (by omega)
        obtain⟨⟨x0,x1,x2⟩,⟨z0,z1,z2⟩,hb⟩:=Dg.cells As.out.kR;have Bc:=qK _ _ p2;refine Flow.wIr 9 (Flow.sp3 [.inl ?_,.inl ?_,.inl ?_,.inl ?_,.inl ?_,.inl ?_,.inl ?_,.inl ?_,.inl ?_]) (by kernel_rfl) (by kernel_rfl) ?_ ?_;rotate_left 9
        ·refine Flow.sm2 ?_
         repeat(first|exact Flow.ln2|refine Flow.li2 ?_)
        all_goals try simp only[qL,qY,qM,qV]
        iterate 9 (refine Flow.tvK rfl (fun K hK=>⟨fun w hw hG=>?_,?_⟩);(have Cy:=Flow.bc4 hw;clear hG hw;unfold Flow.Runs Flow.yields;go_simp;try rfl);go_simp;refine hK _ ?_;clear hK K)
        refine Flow.tn2 fun w4 Am hG=>?_;clear hG;have Ao:=Hd (As.out.later Am);clear Am p2 y2 x0 x1 x2 z0 z1 z2 hb Bc;go_simp;gi_wp2_with (fail);rw[show(ST[0]'h0).toNat=x from hx.symm];refine⟨trivial,?_⟩;refine(qZ.2 (Bi.out w4 Ao.out.kR)).mono ?_;rintro e w5 ⟨rfl,A5,A8⟩;have Au:=Hd (Ao.out.one A8 A5);clear A5 A8;gi_wp2_with (fail);obtain⟨p2,y2⟩:=Au.out.at J2.out (by omega) (by omega) (by omega)
        obtain⟨⟨x0,x1,x2⟩,⟨z0,z1,z2⟩,hb⟩:=Dg.cells Au.out.kR;have Bc:=qK _ _ p2;refine Flow.wIr 6 (Flow.sp3 [.inl ?_,.inl ?_,.inl ?_,.inl ?_,.inl ?_,.inl ?_]) (by kernel_rfl) (by kernel_rfl) ?_ ?_;rotate_left 6
        ·refine Flow.sm2 ?_
         repeat(first|exact Flow.ln2|refine Flow.li2 ?_)
        all_goals try simp only[qL,qY,qM,qV]
        iterate 6 (refine Flow.tvK rfl (fun K hK=>⟨fun w hw hG=>?_,?_⟩);(have Cy:=Flow.bc4 hw;clear hG hw;unfold Flow.Runs Flow.yields;go_simp;try rfl);go_simp;refine hK _ ?_;clear hK K)
        refine Flow.tn2 fun w6 Am hG=>?_;clear hG;have Ah:=Hd (Au.out.later Am);clear Am p2 y2 x0 x1 x2 z0 z1 z2 hb Bc;obtain⟨⟨x0,x1,x2⟩,⟨z0,z1,z2⟩,hb⟩:=Dg.cells Ah.out.kR;go_simp;gi_wp2_with (fail);have A6:=Hd (Ah.out.one (st':=Tess.mk (T.drop (j2+1))) ((OneB.of (qJ w6.heap.size w6)).set (Z+1) 2 (.string (ST.extract 1 ST.size))) (by rw[<-Cz.out];exact Ah.out.kR.set2 _));go_roundw
        case rel=>exact⟨_,_,_,A6.out,Ch.out,by omega⟩
        case measure=>have h1:cnt (Z+1) _=c2+8:=(by unfold cnt;rw[(Dg.cells A6.out.kR).1.2.1];rfl);rw[h1,Cx.out];omega
       ·have Br:¬(c2:Int)<(wd:Int):=by omega
        gi_wp2;refine xt.2 ?_;go_quiet (fail);gi_wp2;generalize hw3:wr.drewN _=w3;have As:=Hd (show Nv W2 w.heap.size (Z+1) (Z+5+1) Ae ((List.range k).map (Tess.numK wd T)) vo n2 c2 (Tess.mk (T.drop j2)) w3 by rw[<-hw3];exact Bn.out.drawn _);clear p2 y2 p4 y4 x0 x1 x2 z0 z1 z2 hb hw3;obtain⟨p2,y2⟩:=As.out.at J2.out (by omega) (by omega) (by omega)
        obtain⟨p4,y4⟩:=As.out.at J4.out (by omega) (by omega) (by omega);have Bc:=qK _ _ p2;have C3:=qK _ _ p4;obtain⟨m,rfl⟩:∃m,c2=m+wd:=⟨c2-wd,by omega⟩
        have A2:n2<18446744073709551616:=qF A9.out.lt (qt (zf (by omega) (show m+wd<=64 by omega)) (by decide));have Bl:=Hd (fun W h=>da4 (Z+1) 251 n2 m wd (.string (Tess.mk (T.drop j2))) W h A2 (by omega));obtain⟨hr,hv⟩:=A9.out.take (show wd<=m+wd by omega);rw[yx]at hr hv;rw[hv]at Bl;have B0:=Hd hr;have Bu:=nKl wd T k Ad;obtain⟨y,hy⟩:=Xq (Tess.numK wd T k)
        rw[<-hy]at Bl Bu;have HY:=Hd hy;have C0:wrap64 (y:Int)=(y:Int):=by unfold wrap64;omega
        have Cq:IntKind.i64.wrap (y:Int)=(y:Int):=by rw[wrap_i64];exact C0
        clear hr hv A2 hy;refine FlowO.wrI [0] 8 rfl (by kernel_rfl) ?_
        iterate 1 (refine⟨_,_,rfl,rfl,(fun w=>by go_simp;try rfl),?_⟩)
        intro w4 Am _;have Ao:=Hd (As.out.later Am);clear Am p2 y2 p4 y4 Bc C3;obtain⟨p2,y2⟩:=Ao.out.at J2.out (by omega) (by omega) (by omega);obtain⟨p4,y4⟩:=Ao.out.at J4.out (by omega) (by omega) (by omega);rcases jb (k+1) n with Bf|Bf
        all_goals
         have Az:=Hd Bf;clear Bf;refine FlowO.tI2 1 4 (.pointer (some ⟨Z+1,0,none⟩)) (.int .i64 wd) (by kernel_rfl) rfl rfl rfl rfl (by go_simp) (by go_simp) ?_ ?_;refine FlowO.pI2 [2,3] 5 (by kernel_rfl) ?_
         iterate 2 (refine⟨_,_,rfl,rfl,(fun w=>by go_simp;try rfl),?_⟩)
         refine FlowO.sI 4 (.int .i64 wd) (by kernel_rfl) rfl rfl (by go_simp) ?_;refine FlowO.sI2 [5,6,7,8] (by kernel_rfl) (by kernel_rfl) ?_;rotate_left
         refine FlowO.sI 1 (.pointer (some ⟨Z+1,0,none⟩)) (by kernel_rfl) rfl rfl (by go_simp) ?_;refine FlowO.pI2 [2,3] 4 (by kernel_rfl) ?_
         iterate 2 (refine⟨_,_,rfl,rfl,(fun w=>by go_simp;try rfl),?_⟩)
         refine FlowO.sI2 [5,6,7,8] (by kernel_rfl) (by kernel_rfl) ?_;rotate_left
         all_goals simp only[FlowP.pick,zp,jg,qM,qV,qL,qY,zZ,qk,qr]
         all_goals go_simp
         all_goals
          gi_wp2_with (fail);refine⟨trivial,?_⟩;refine(qZ.2 (Bl.out w4 Ao.out.kR)).mono ?_;rintro e w5 ⟨rfl,A5,A8⟩;have Au:=Hd (Ao.out.one A8 A5);have C4:=xJ (P:=Tryz.prog) (w:=w5) (l:=Z+5+1) (r:=Ae) (args:=#[.int .i64 y]) Au.out.kL (by rw[Cl];rfl);clear A5 A8 p2 y2 p4 y4;gi_wp2;refine Rf.rw2 (r:=Ae) ?_;have C9:=Bq.out;subst C9;dsimp only
          gi_wp2_with (rw[zK _ _ _ (fun c h=>by cases h)];go_simp;try go_bits);refine⟨Au.out.kL,fun W6 hs6 hl6=>?_⟩;have Ah:=Hd (Au.out.but hs6 hl6);clear hs6 hl6 C4
         all_goals
          obtain⟨O,hO⟩:=Xq ((List.range k).map (Tess.numK wd T))
          rw[<-hO]at Ah;have Bw:O.length=k:=by rw[hO];simp
          have Ca:=Hd (show O++[y]=(List.range (k+1)).map (Tess.numK wd T) by rw[xX,qs,<-hO,HY.out];rfl);have An:W6.ownsRow W2.heap.size 3 1 vo k (O.map fun m=>.int .i64 (m:Nat)):=by have h:=Ah.out.own;rw[Bw]at h;exact h
          have Ct:=Hd Bw;clear hO Bw;obtain⟨q0,y0⟩:=fco Ah.out.kO
          first
           |(have Cp:¬(k:Int)+1=(n:Int):=by have:=Az.out;omega)
           |(have Cp:(k:Int)+1=(n:Int):=by have:=Az.out;omega)
          gi_wp2_with (gi_at_builtin;refine wpListIn_append_own _ rfl _ _ 96 rfl W2.heap.size 3 i0 (.int .i64 0) 1 8 Tryz.underlying96 hi Cn C6 C1 rfl (by decide) _ _ _ rfl (An.alloc _) ⟨W6.heap.size,0,none⟩ 1 1 [.int .i64 y] rfl rfl (zh _ _ _) (by simp[Value.oneCell']) (by unfold maxLen;omega) (by omega) (by have:=Ah.out.size;simp;omega) ?_;intro v' w7 Ai Bz _;have Av:=Ah.out.old Bz;obtain⟨q7,y7⟩:=fco ((Av w.heap.size (by omega)).trans Ah.out.kO);obtain⟨n7,_⟩:=fco ((Av Z (by omega)).trans ((Ah.out.rest Z (by omega) (by omega) (by omega) (by omega)).trans J0.out));have A6:=Hd (Ah.out.app Bz (v':=v') (x:=y) (by rw[Ct.out];exact Ai));obtain⟨gg,cp,rfl,_⟩:=oc2 Ai (by omega);clear Av Bz Ai;go_frame)
          refine⟨A6.out.kL,fun W8 hs8 hl8=>?_⟩;have Bv:=Hd (A6.out.but hs8 hl8);clear hs8 hl8 q7 y7 n7 q0 y0 An;dsimp only;gi_wp2
         all_goals
          refine⟨rfl,?_⟩;gi_wp2
          first
           |(refine jW (qBj (by rfl) _ _ _) rfl ?_
             refine⟨⟨_,rfl⟩,_,Bv.out.kL,by simp,.inr rfl,fun W9 hs9=>?_⟩;have Bo:k+1=n:=by have:=Az.out;omega
             have Dm:=B0.out.len;have hj:j2=T.length:=by rw[At.out];unfold Tess.sP;rw[<-Bo];omega
             have h8:=Bv.out;have hr:=B0.out;rw[Ca.out,Bo]at h8;rw[Bo,hj]at hr
             exact h8.fin hs9 B3.out B7 B1 JD.out hr.rest)
           |(refine⟨⟨k+1,_,_,m,j2,yV Az.out,.inr Az.out,by go_num,by rw[<-Ca.out];exact Bv.out,B0.out,by omega⟩,?_⟩
             have:=Az.out;simp[intOf]
             omega)
     ·have Co:¬(k:Int)<(n:Int):=by omega
      have Bx:n=0:=by omega
      have Bh:k=0:=by omega
      subst Bx Bh;gi_wp2;go_end0;refine⟨⟨_,rfl⟩,Ae,HN.out.kL,by rw[Bs];decide,.inl C8,fun W4 hs4=>?_⟩;have Dj:T.length=0:=by rw[At.out];unfold Tess.sP;omega
      have hj:=Bk.out.le;have C7:j=T.length:=by omega
      subst C7;exact HN.out.fin hs4 B3.out B7 B1 JD.out Bk.out.rest
   all_goals
    intro W4 Bm;obtain⟨vo,nn,c4,st,g0,Al,gR,gn,gD,gB⟩:=Bm;obtain⟨av,cv,rfl,Dh,Bg⟩:=os4 Al;obtain⟨ls,Ay⟩:=Xq ((List.range n).map (Tess.numK b.toNat T))
    rw[<-Ay]at Bg;have Aj:ls.length=n:=by rw[Ay];simp
    have Ar:=fun W (hB:Below W4.heap.size W4 W)=>wa2 av cv ls W (by rw[Aj];exact Bg.below hB) (by omega) (fun x hx=>by
     rw[Ay]at hx;obtain⟨k,_,rfl⟩:=qd.1 hx
     exact nKl _ _ _ Ad) (by omega)
    simp only[Aj]at Ar;have HW:=Hd Ar
    have hU:U=if nn≠0∨Tess.widN ls≠b.toNat then([],s,40)else(ls,Tess.mk (t.drop S),0):=by rw[HU.out];unfold Tess.uP;rw[<-Aw.out,qH (by simp),qH (by omega)];simp only[A4.out];rw[qH (by omega),qH (by rw[<-A3.out];omega),<-A3.out,<-HT.out,<-Ay,gn]
    rw[<-Ay]at Al;have Cv:=Hd Al;have Cg:=Hd Aj;obtain⟨wd,A7⟩:=Xq (Tess.widN ls)
    rw[<-A7]at hU HW;have Ce:=Hd hU;obtain⟨q0,y0⟩:=fco g0;obtain⟨⟨x0,x1,x2⟩,_,_⟩:=Dg.cells gR;have GD:=Hd gD;have GB:=Hd gB;have GR:=Hd gR;have G0:=Hd g0;clear Ay Aj Ar hU A7 gn Al Bg gD gB gR g0;by_cases hgood:nn=0/\wd=b.toNat
    ·obtain⟨rfl,rfl⟩:=hgood;gi_wp2_with (refine⟨trivial,?_⟩;gi_at_call 122;refine(qZ.2 (HW.out _ (qJ _ _))).mono ?_;rintro e W5 ⟨rfl,Af⟩;have Ag:=Hd Af;have hx:=(Af.cell (p:=⟨Z+1,0,none⟩) (Dg.cells GR.out).2.2).trans x0;have hy:=(Af.cell (p:=⟨w.heap.size,0,none⟩) (qA.1 G0.out).1).trans q0;clear Af);refine xt.2 ?_;go_quiet (fail);gi_wp2;rw[Exit.fr2];have Aa:=(qA.1 GD.out).1
     refine⟨by simp,.inl ⟨_,_,rfl,jD ((Ag.out.block _ Aa).trans GD.out),?_⟩⟩;have HR:=Hd (show U=(ls,Tess.mk (t.drop S),0) by rw[Ce.out,qH (by simp)]);have B9:Z+5<W5.heap.size:=qF Aa Ag.out.size;have C2:Below w.heap.size w (W5.drewN nq):=(GB.out.trans (Ag.out.mono GB.out.size)).trans ⟨rfl,rfl,rfl,qC _,fun _ _=>rfl⟩
     refine⟨.tuple #[.slice av n cv,.string (R.extract (1+S) (t.length+1)),.int .i64 0],by simp[results,Tryz.results134,go_sem],av,cv,?_,?_,C2.grown (fgB _ (Z+5) (.deferred none)) (by have:=HZ.out;show w.heap.size<=W5.heap.size;omega) (fun k e=>by cases e;have:=HZ.out;omega)⟩
     ·rw[HR.out,Cg.out,show R.extract (1+S) (t.length+1)=Tess.mk (t.drop S)from Tess.me2 (by rw[Tess.ext_list,A4.out,show 1+S=S+1 by omega,qM,qh (by rw[zn];omega)])];rfl
     ·have ho:(W5.drewN nq).ownsRow w.heap.size 3 1 (.slice av n cv) n (ls.map fun m=>.int .i64 (m:Nat)):=ob2 Cv.out (zi Ag.out _);rw[HR.out,Cg.out];exact ho.kept (fgB _ (Z+5) _) (oRn ho (show(W5.drewN nq).heap[Z+5]?=some (.deferred (some []))from(Ag.out.block _ Aa).trans GD.out) (fun cur e=>by cases e))
    ·have HR:=Hd (show U=([],s,40) by rw[Ce.out,qR (by by_cases h:nn=0<;>simp_all)]);by_cases Bx:nn=0
     ·subst Bx;have Dp:((wd:Int) !=(b.toNat:Int))=true:=by rw[zj];intro e;exact hgood ⟨rfl,by omega⟩
      gi_wp2_with (refine⟨trivial,?_⟩;gi_at_call 122;refine(qZ.2 (HW.out _ (qJ _ _))).mono ?_;rintro e W5 ⟨rfl,Af⟩;have Ag:=Hd Af;have hx:=(Af.cell (p:=⟨Z+1,0,none⟩) (Dg.cells GR.out).2.2).trans x0;have hy:=(Af.cell (p:=⟨w.heap.size,0,none⟩) (qA.1 G0.out).1).trans q0;clear Af);refine wpIn_goto (Exit.tg2 (Exit.fg2 ?_));gi_wp2;rw[zI];have Aa:=(qA.1 GD.out).1
      refine⟨by simp,.inl ⟨_,_,rfl,jD ((Ag.out.block _ Aa).trans GD.out),?_⟩⟩;have B9:Z+5<W5.heap.size:=qF Aa Ag.out.size
      refine⟨.tuple #[.slice none 0 0,.string s,.int .i64 40],by simp[results,Tryz.results134,go_sem],none,0,by rw[HR.out];rfl,by rw[HR.out];exact qg _ _ _ _,(GB.out.trans (Ag.out.mono GB.out.size)).grown (fgB _ (Z+5) (.deferred none)) (by have:=HZ.out;omega) (fun k e=>by cases e;have:=HZ.out;omega)⟩
     ·have Dq:((nn:Int) !=0)=true:=by rw[zj];omega
      gi_wp2_with (refine⟨trivial,?_⟩;gi_at_call 122;refine(qZ.2 (HW.out _ (qJ _ _))).mono ?_;rintro e W5 ⟨rfl,Af⟩;have Ag:=Hd Af;have hx:=(Af.cell (p:=⟨Z+1,0,none⟩) (Dg.cells GR.out).2.2).trans x0;have hy:=(Af.cell (p:=⟨w.heap.size,0,none⟩) (qA.1 G0.out).1).trans q0;clear Af);refine wpIn_goto (Exit.tg2 (Exit.fg2 ?_));gi_wp2;rw[zI];have Aa:=(qA.1 GD.out).1
      refine⟨by simp,.inl ⟨_,_,rfl,jD ((Ag.out.block _ Aa).trans GD.out),?_⟩⟩;have B9:Z+5<W5.heap.size:=qF Aa Ag.out.size
      refine⟨.tuple #[.slice none 0 0,.string s,.int .i64 40],by simp[results,Tryz.results134,go_sem],none,0,by rw[HR.out];rfl,by rw[HR.out];exact qg _ _ _ _,(GB.out.trans (Ag.out.mono GB.out.size)).grown (fgB _ (Z+5) (.deferred none)) (by have:=HZ.out;omega) (fun k e=>by cases e;have:=HZ.out;omega)⟩
end Go.Proofs.Q9
namespace Tess
def iO2(C:List (CK×Pay))(i:Nat)(d:List ByteArray):List Nat:=C.map fun x=>idOf d (x.1.2.getD i none)
theorem iOt(C:List (CK×Pay))(i:Nat)(d:List ByteArray)(k:Nat)(hk:k<C.length):iO2 (C.take (k+1)) i d=iO2 (C.take k) i d++[idOf d (C[k].1.2.getD i none)]:=by unfold iO2;rw[qQ hk,qs];rfl
theorem iOl(C:List (CK×Pay))(i:Nat)(d:List ByteArray):(iO2 C i d).length=C.length:=by unfold iO2;simp
end Tess
namespace Go.Proofs.Q9
open Go.RowKit Go.Sort
open Tess (CK Pay)
theorem iI2:(Tryz.prog.info? 3).map (fun i=>(i.zero,i.size,i.bytes))=some (some (.int .i64 0),1,8):=by kernel_rfl
theorem fi2{d:List ByteArray}(h:Tess.right d=true)(x:ByteArray):(Tess.fW2 d x).1=Tess.place d x:=by unfold Tess.fW2;rw[qR h]
theorem ia2(p:Nat->Prop)(vl vd:Value)(C:List (CK×Pay))(d:List ByteArray)(i:Nat)(w:World)(hv:CA2 p w vl C)(hd:SlOf w vd (d.map .string))(hr:Tess.right d=true)(hi:∀x∈C,i<x.1.2.length)(hC:C.length<=1000) :
  Calls Tryz.prog 72 #[vl,.int .i64 i,vd] w fun e w'=>∃a c,e = .returned (.slice a C.length c)/\C.length<=c/\SlOf w' (.slice a C.length c) ((Tess.iO2 C i d).map fun n=>.int .i64 (n:Nat))/\Below w.heap.size w w':=by
 have HF:=Hd (fun W (hB:Below w.heap.size w W) x=>fa12 vd d x W (hd.below hB));have A3:=Hd (fun x=>fi2 hr x);obtain⟨ad,cd,rfl,A9,_⟩:=so2 hd;clear hd;obtain⟨a,A8,rfl,hl,hc⟩:=hv.opened;have HC:=Hd hc;have HI:=Hd hi;obtain⟨i0,Av,At,Ay,Aw⟩:=zF iI2;clear hc hv hi hr;go_enter Tryz.func72,Tryz.ntmps72;go_wp2
 go_loopw [7,14] (fun v j wr=>∃k:Nat,k<=C.length/\j = .int .i64 k/\wr.ownsRow w.heap.size 3 1 v k ((Tess.iO2 (C.take k) i d).map fun n=>.int .i64 (n:Nat))/\Below w.heap.size w wr) (fun _ j _=>C.length-(intOf j).toNat)
 case atStart=>exact⟨0,qN _,rfl,qg _ _ _ _,qJ _ _⟩
 case round=>
  obtain⟨k,hk,rfl,Ag,hB⟩:=hrel;have HO:=Hd Ag;have HB:=Hd hB;clear Ag;by_cases hlt:k<C.length
  ·obtain⟨b,A7,ad,cd,a3,c3,a4,c4,a5,c5,rfl,hb,⟨q0,q1,q2,q3,q4,q5⟩,Am,_⟩:=HC.out wr hB k hlt;have A0:(k:Int)<(C.length:Int):=by omega
   have HM:=Hd (show C[k]∈C from qP hlt);have Ah:=HI.out _ HM.out;have HW:=Hd (Tess.iOt C i d k hlt);generalize C[k]=x at *;obtain⟨⟨t,l⟩,P⟩:=x;dsimp only at q0 q1 q2 q3 q4 q5 Am Ah HW;obtain⟨b2,Ad,rfl,Aq,e0,e1⟩:=Am i (by simpa using Ah);rw[zL]at e0 e1;have Au:l.getD i none=l[i]:=by rw[qE,qD Ah];rfl
   rw[Au]at HW;have A2:(i:Int)<(l.length:Int):=by omega
   generalize l[i]=dv at *;obtain⟨W3,Az⟩:=XQ (wr.alloc (.cells #[.int .i64 t,.slice (some ⟨b2,Ad,none⟩) l.length cd,.int .i64 P.n,.slice a3 P.sums.length c3,.slice a4 P.mins.length c4,.slice a5 P.maxs.length c5] 56))
   obtain⟨k1,kS,kB⟩:=la2 wr (.cells #[.int .i64 t,.slice (some ⟨b2,Ad,none⟩) l.length cd,.int .i64 P.n,.slice a3 P.sums.length c3,.slice a4 P.mins.length c4,.slice a5 P.maxs.length c5] 56);rw[Az]at k1 kS kB;obtain⟨⟨r0,r1,r2,r3,r4,r5⟩,_⟩:=can6 k1;have f0:=(kB.cell (p:=⟨b2,Ad+i*2,none⟩) Aq).trans e0;have f1:=(kB.cell (p:=⟨b2,Ad+i*2+1,none⟩) Aq).trans e1;have Aj:=Hd kB;have Ba:=Hd kS
   clear Am Ah Au e0 e1 kS k1 kB hb hB Aq;cases dv with
   |none=>
     obtain⟨W4,Ao⟩:=XQ (W3.alloc (.cells #[.string ByteArray.empty,.bool true] 47))
     obtain⟨k4,Af,Ac⟩:=la2 W3 (.cells #[.string ByteArray.empty,.bool true] 47);rw[Ao]at k4 Af Ac;obtain⟨⟨y0,y1⟩,_⟩:=can2 k4;have Ae:=Hd (Bt HB.out (Bt Aj.out Ac));have Ak:=Hd (ob2 HO.out (Bt Aj.out Ac));change W3.cell? _=some (.string ByteArray.empty)at f0;change W3.cell? _=some (.bool true)at f1;rw[show Tess.idOf d none=d.length from rfl]at HW;clear k4 Af Ac
     go_wp2_with (at_builtin;refine qq _ rfl _ _ 96 rfl w.heap.size 3 i0 (.int .i64 0) 1 8 Tryz.underlying96 Av At Ay Aw rfl (by decide) _ _ _ rfl (Ak.out.alloc _) ⟨W4.heap.size,0,none⟩ 1 1 [.int .i64 d.length] rfl rfl (zh _ _ _) (by simp[Value.oneCell']) (by unfold maxLen;omega) (by omega) (by have:=Ae.out.size;simp;omega) ?_);intro v' w5 Ab Aa _
     have Ap:=Hd ((Ae.out.alloc Ae.out.size (.cells #[.int .i64 d.length] 3)).grown Aa (by have:=Ae.out.size;simp;omega) (fun m e=>(Ak.out.lt m e).1));have Al:=Hd Ab;clear Ab Aa;go_wp2_with (fail);go_roundw
     case rel=>exact⟨k+1,by omega,by go_num,by rw[HW.out,qs];exact Al.out,Ap.out⟩
     case measure=>simp[intOf];omega
   |some y=>
     obtain⟨W4,Ao⟩:=XQ (W3.alloc (.cells #[.string y,.bool false] 47))
     obtain⟨k4,Af,Ac⟩:=la2 W3 (.cells #[.string y,.bool false] 47);rw[Ao]at k4 Af Ac;obtain⟨⟨y0,y1⟩,_⟩:=can2 k4;have Ae:=Hd (Bt HB.out (Bt Aj.out Ac));have Ak:=Hd (ob2 HO.out (Bt Aj.out Ac));have A5:=ss3 (o:=1) (v:=.bool false) k4 rfl;change W3.cell? _=some (.string y)at f0;change W3.cell? _=some (.bool false)at f1;have hf:=HF.out W4 Ae.out y;unfold FP at hf;rw[A3.out y]at hf
     rw[show Tess.idOf d (some y)=Tess.place d y from rfl]at HW;obtain⟨pl,As⟩:=Xq (Tess.place d y)
     rw[<-As]at hf HW;have A4:=Hd hf;clear k4 Af Ac hf As;go_wp2_with (fail);go_at_call 124;refine A4.out.mono ?_;rintro e w6 ⟨rfl,An⟩;have Ai:=Hd (Bt Ae.out An);have Ax:=Hd (ob2 Ak.out An);clear An A5
     go_wp2_with (at_builtin;refine qq _ rfl _ _ 96 rfl w.heap.size 3 i0 (.int .i64 0) 1 8 Tryz.underlying96 Av At Ay Aw rfl (by decide) _ _ _ rfl (Ax.out.alloc _) ⟨w6.heap.size,0,none⟩ 1 1 [.int .i64 pl] rfl rfl (zh _ _ _) (by simp[Value.oneCell']) (by unfold maxLen;omega) (by omega) (by have:=Ai.out.size;simp;omega) ?_);intro v' w5 Ab Aa _
     have Ap:=Hd ((Ai.out.alloc Ai.out.size (.cells #[.int .i64 pl] 3)).grown Aa (by have:=Ai.out.size;simp;omega) (fun m e=>(Ax.out.lt m e).1));have Al:=Hd Ab;clear Ab Aa;go_wp2_with (fail);go_roundw
     case rel=>exact⟨k+1,by omega,by go_num,by rw[HW.out,qs];exact Al.out,Ap.out⟩
     case measure=>simp[intOf];omega
  ·have A0:¬(k:Int)<(C.length:Int):=by omega
   obtain rfl:k=C.length:=by omega
   rw[jy]at HO;obtain⟨av,cv,rfl,A1,Ar⟩:=os4 HO.out;have A6:=Hd Ar;clear Ar hB;go_wp2_with (fail);go_ret;exact⟨av,cv,rfl,A1,A6.out,HB.out⟩
