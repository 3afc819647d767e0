/- Joined. -/
import Derived.Test.YtjdccifdkjnknaaGreatDoorZC21
set_option maxRecDepth 100000
set_option maxHeartbeats 4000000
namespace Tess
theorem tb6(n:Int)(h: -9223372036854775808<=n/\n<=9223372036854775807):Go.bits .xor .u64 (Go.IntKind.u64.wrap (Go.IntKind.u64.wrap n*2)) (Go.IntKind.u64.wrap (n/9223372036854775808))=((tN n:Nat):Int):=by
 rw[Go.wrap_u64,Go.wrap_u64,Go.wrap_u64];by_cases h0:0<=n
 ·have e1:(n%18446744073709551616*2%18446744073709551616:Int)=((2*n).toNat:Int):=by omega
  have e2:(n/9223372036854775808%18446744073709551616:Int)=0:=by omega
  rw[e1,e2,Go.xn _ (by omega)];unfold tN;rw[qR h0]
 ·have e1:(n%18446744073709551616*2%18446744073709551616:Int)=((2*n+18446744073709551616).toNat:Int):=by omega
  have e2:(n/9223372036854775808%18446744073709551616:Int)=18446744073709551615:=by omega
  rw[e1,e2,Go.xa3 _ (by omega)];unfold tN;rw[qH h0];omega
end Tess
namespace Go.Proofs.Q9
open Go.RowKit Go.Sort
theorem ta6(n:Int)(w:World)(hn: -9223372036854775808<=n/\n<=9223372036854775807):Calls Tryz.prog 155 #[.int .i64 n] w fun e w'=>e = .returned (.int .u64 (Tess.tN n:Nat))/\w'=w:=by have hb:=Tess.tb6 n hn;go_enter Tryz.func155,Tryz.ntmps155;go_wp2;go_ret;exact⟨by rw[<-hb];rfl,rfl⟩
end Go.Proofs.Q9
namespace Go.Proofs.Q9
open Go.RowKit Go.Sort Go.Shelf
theorem un2{c c':Array Value}{fz fz':Nat×Nat}:Obj.cells c 92 fz≠Obj.cells c' 5 fz':=by intro e;simp at e
theorem pl3:∀l:List Nat,(∀x∈l,x<18446744073709551616)->(l.flatMap Tess.putL).length<=l.length*10
 |[],_=>by simp
 |x::l,h=>by have h1:=Tess.pLl3 x 9 (qF (h x (by simp)) (by decide));have h2:=pl3 l fun y hy=>h y (by simp[hy]);rw[zp,qI,qU];omega
theorem pn3(n:Nat):Tess.putL n≠[]:=by
 by_cases h:n<128
 ·rw[Tess.pLl2 n h];simp
 ·rw[Tess.pLg n h];simp
structure Pv(w:World)(N:Nat)(rec:Loop)(ks:List Nat)(bs:List UInt8)(m:Nat)(W:World):Prop where
 kb:Bd w.heap.size bs W
 kn:W.heap[N]?=some (.cells #[.int .u64 m] 92 (0,0))
 kD:W.heap[N+1]?=some (.deferred (some []))
 kL:W.heap[N+2]?=some (.loop rec)
 old:∀k∈ks,W.heap[k]?=some (.deferred (some []))
 size:N+3<=W.heap.size
 hN:w.heap.size<N
 below:Below w.heap.size w W
section
variable {w W W':World} {N:Nat} {rec rec':Loop} {ks:List Nat} {bs:List UInt8} {m:Nat}
theorem Pv.but(h:Pv w N rec ks bs m W)(hs:Rf.SB (N+1+1) W W')(hl:W'.heap[N+1+1]?=some (.loop rec')):Pv w N rec' ks bs m W':=by
 have hN:=h.hN;refine⟨bs2 h.kb (hs.block _ (by omega)) fun k c fz hk=>hs.block _ (fun e=>?_),(hs.block _ (by omega)).trans h.kn,(hs.block _ (by omega)).trans h.kD,hl,fun k hk=>(hs.block _ (fun e=>?_)).trans (h.old k hk),by rw[hs.size];exact h.size,hN,h.below.trans (hs.below (by omega))⟩
 ·subst e;have:=h.kL;rw[hk]at this;cases this
 ·subst e;have:=h.kL;rw[h.old _ hk]at this;cases this
theorem Pv.wrote{c:UInt8}(h:Pv w N rec ks bs m W)(hb:Lib.BuilderAt 88 5 w.heap.size w.heap.size (.pointer (some ⟨w.heap.size,0,none⟩)) (Lib.byteCells bs++[.int .u8 c.toNat]) W')(hB:Below w.heap.size W W')(hk:Oth w.heap.size W W'):Pv w N rec ks (bs++[c]) m W':=by
 have hN:=h.hN;refine⟨.inr ?_,hk _ _ h.kn (by simp;omega) (fun _ _=>un2),hk _ _ h.kD (by simp;omega) (fun _ _ e=>by cases e),hk _ _ h.kL (by simp;omega) (fun _ _ e=>by cases e),fun k hk'=>hk _ _ (h.old k hk') (fun e=>?_) (fun _ _ e=>by cases e),qt h.size hB.size,hN,h.below.trans hB⟩
 ·have e:Lib.byteCells (bs++[c])=Lib.byteCells bs++[.int .u8 c.toNat]:=by simp[Lib.byteCells]
  show Lib.BuilderAt _ _ _ _ _ (Lib.byteCells (bs++[c])) W';rw[e];exact hb
 ·cases e
  rcases h.kb with⟨_,v,h1,_⟩|⟨_,v,h1,_⟩
  ·have:=h.old _ hk';rw[h1]at this;cases this
  ·have:=h.old _ hk';rw[h1]at this;cases this
theorem Pv.setn(h:Pv w N rec ks bs m W)(m':Nat):Pv w N rec ks bs m' (W.setCell ⟨N,0,none⟩ (.int .u64 m')):=by
 have hN:=h.hN;refine⟨bs2 h.kb (dhn (by omega)) fun k c fz hk=>dhn (fun e=>?_),dhs _ h.kn,(dhn (by omega)).trans h.kD,(dhn (by omega)).trans h.kL,fun k hk=>(dhn (fun e=>?_)).trans (h.old k hk),by simpa[World.setCell]using h.size,hN,h.below.setCell (by show _<=N;omega) _⟩
 ·subst e;have:=h.kn;rw[hk]at this;exact un2 (zr this).symm
 ·subst e;have:=h.kn;rw[h.old _ hk]at this;cases this
end
structure Pu(w:World)(ks:List Nat)(bs:List UInt8)(W:World):Prop where
 kb:Bd w.heap.size bs W
 old:∀k∈ks,W.heap[k]?=some (.deferred (some []))
 nd:ks.Nodup
 gt:∀k∈ks,w.heap.size<k
 size:w.heap.size<W.heap.size
 below:Below w.heap.size w W
theorem pa13(l:List Nat)(a:Option Addr)(c:Nat)(w:World)(hc:∀W,Below w.heap.size w W->∀j (hj:j<l.length),∃b off,a=some ⟨b,off,none⟩/\W.cell? ⟨b,off+j,none⟩=some (.int .u64 l[j]))(hn:∀x∈l,x<18446744073709551616)(hl:l.length<=1000000)(h0:l≠[]) :
  Calls Tryz.prog 93 #[.slice a l.length c] w fun e w'=>e = .returned (.string ⟨(l.flatMap Tess.putL).toArray⟩)/\Below w.heap.size w w':=by
 have HC:=Hd hc;have HN:=Hd hn;clear hc hn;refine(qZ (n:=5)).1 ?_;refine jL Tryz.func93 rfl trivial ?_ rfl;simp only[Tryz.ntmps93,qu,qU,zE,Nat.reduceAdd,Nat.reduceSub,qv,qw,zO,zC,qr,qk];gi_wp2
 refine wpIn_loop (fun a' wr=>∃(k:Nat) (ks:List Nat) (u5 u10 u11 u12 u13 u14 u18:Value),k<=l.length/\Pu w ks ((l.take k).flatMap Tess.putL) wr/\a'={ tmps:=#[.slice a l.length c,undef,.string ⟨#[]⟩,.pointer (some ⟨w.heap.size,0,none⟩),undef,u5,undef,.slice a l.length c,.int .i64 l.length,.int .i64 k,u10,u11,u12,u13,u14,undef,undef,undef,u18,undef],defers:=ks.map coll }) (fun a' _=>l.length-(intOf (a'.tmps.getD 9 undef)).toNat) ?_ ?_
 ·exact⟨0,[],_,_,_,_,_,_,_,qN _,⟨bf (zS w _),(fun _ h=>by cases h),List.nodup_nil,(fun _ h=>by cases h),by simp,(qJ _ _).alloc (qC _) _⟩,rfl⟩
 ·rintro _ wr ⟨k,ks,u5,u10,u11,u12,u13,u14,u18,hk,hS,rfl⟩;dsimp only;have HS:=Hd hS;clear hS;by_cases hlt:k<l.length
  ·obtain⟨bb,off,ha,Aj⟩:=HC.out wr HS.out.below k hlt;subst ha;have A2:(k:Int)<(l.length:Int):=by omega
   obtain⟨n,Ax⟩:=Xq (l[k])
   rw[<-Ax]at Aj;have hn:n<18446744073709551616:=by rw[Ax];exact HN.out _ (qP hlt)
   have Bn:=Hd Ax;clear Ax;obtain⟨N,Ah⟩:=Xq wr.heap.size
   gi_wp2_with (refine⟨trivial,?_⟩;gi_at_call 141;refine(qZ.2 (ba3 _ _)).mono ?_;rintro e w' ⟨rfl,rfl⟩);obtain⟨w0,Aq⟩:=XQ (wr.alloc (.cells #[.int .u64 n] 92))
   have hA:w0.heap.size=N+1:=by rw[<-Aq,Ah];simp
   have Bd:w0.heap[N]?=some (.cells #[.int .u64 n] 92 (0,0)):=by rw[<-Aq,Ah];exact zS wr _
   have Ab:Below N wr w0:=by rw[<-Aq,Ah];exact(qJ _ _).alloc (qC _) _
   rw[Aq,<-Ah];have Aw:=HS.out.size;rw[<-Ah]at Aw;have A7:N<=wr.heap.size:=by omega
   clear Aq;refine Rf.rw3 (gf:=186) (lb:=#[.pointer (some ⟨N,0,none⟩)]) rfl (yd Tryz.func186 (by kernel_rfl) rfl) ?_;intro fn W2 hL hD Av Ba;rw[hA]at hL hD Ba Av⊢;obtain⟨Aa,Af,hL⟩:∃Aa:Loop,Aa=_/\W2.heap[N+1+1]?=some (.loop Aa):=⟨_,rfl,hL⟩
   have Am:=Hd Af;have Ar:Aa.state = .ready/\Aa.params.size=1/\Aa.pending=none:=by rw[Af];exact⟨rfl,rfl,rfl⟩
   clear Af;obtain⟨Ar,A9,Br⟩:=Ar
   have hI:Pv w N Aa ks ((l.take k).flatMap Tess.putL) n W2:=by have A4:Below N wr W2:=Ab.trans (Av.mono (by omega));have As:∀j o,wr.heap[j]?=some o->W2.heap[j]?=wr.heap[j]?:=fun j o h=>A4.block j (by rw[Ah];exact(qA.1 h).1);refine⟨bs2 HS.out.kb (A4.block _ Aw) (fun j c fz h=>As j _ h),(Av.block _ (by omega)).trans Bd,hD,hL,fun j hj=>(As j _ (HS.out.old j hj)).trans (HS.out.old j hj),by omega,Aw,HS.out.below.trans (A4.mono (by omega))⟩
   have Bl:=Hd (show ∀j∈ks,j≠N+1 from fun j hj e=>by
    have h:=HS.out.old j hj;have:=(qA.1 h).1
    omega)
   have Bk:=Hd HS.out.nd;have Bi:=Hd HS.out.gt;clear Ab Av Bd hD hL Ah hA Ba A7 Aw;refine yg Tryz.func186 rfl trivial ?_ rfl;simp only[Tryz.ntmps186,qu,qU,zE,Nat.reduceAdd,Nat.reduceSub,qv,qw,zO,zC,qr,qk];gi_wp2;obtain⟨wA,Bp⟩:=Xq wr
   subst Bp;obtain⟨B0,Ab⟩:=Xq ((l.take k).flatMap Tess.putL)
   rw[<-Ab]at hI;have A8:=Hd Ab;clear Ab HS;gi_loopw [3] (fun _ wr=>∃(m:Nat) (bs:List UInt8),B0++bs++Tess.putL m=B0++Tess.putL n/\m<18446744073709551616/\bs.length<=10/\B0.length<=10000000/\Pv w N Aa ks (B0++bs) m wr) (fun _ wr=>mea N wr)
   case atStart=>
    refine⟨n,[],by simp,hn,by simp,?_,by simpa using hI⟩;rw[A8.out];have:=pl3 (l.take k) fun x hx=>HN.out x (jp hx);rw[qy]at this;omega
   case round=>
    obtain⟨m,bs,Bb,hm,Bh,Ao,hS⟩:=hrel;have A5:=Hd Bb;have HS:=Hd hS;have Az:=ma3 hS.kn;obtain⟨c1,z1⟩:=dco hS.kn;clear Bb hS;by_cases h128:128<=m
    ·have Ap:(128:Int)<=(m:Int):=by omega
     have Ai:=ob6 m;obtain⟨c,Ay⟩:=Xq (128+m%128)
     rw[<-Ay]at Ai;have Bj:=Hd Ay;have An:c<256:=by omega
     clear Ay;have A3:=xJ (P:=Tryz.prog) (w:=wr) (l:=N+1+1) (r:=Aa) (args:=#[.int .u8 (c:Int)]) HS.out.kL (by rw[A9];rfl);gi_wp2;refine Rf.rw2 (r:=Aa) ?_;have A6:=Am.out;subst A6;dsimp only;gi_wp2_with (rw[zK _ _ _ (fun c h=>by cases h)];go_simp;try go_bits);refine⟨HS.out.kL,fun W4 hs4 hl4=>?_⟩;have Ac:=Hd (HS.out.but hs4 hl4);clear hs4 hl4 A3 hL
     gi_wp2_with (rw[zK _ _ _ (fun c h=>by cases h)];go_simp;try go_bits);refine⟨trivial,?_⟩;refine xD (yu _ (qZ.2 (wBk w.heap.size w.heap.size (Lib.byteCells (B0++bs)) c W4 Ac.out.kb (by rw[yA,qI];omega) (by have:=Ac.out.size;have:=Ac.out.hN;omega)))) ?_;rintro e w5 ⟨rfl,Ag,At,Al⟩;rw[show(c:Int)=((UInt8.ofNat c).toNat:Int) by rw[zP];omega]at Ag;have Au:=Hd (Ac.out.wrote Ag At Al);clear Ag At Al
     gi_wp2;refine⟨Au.out.kL,fun W6 hs6 hl6=>?_⟩;have Ad:=Hd (Au.out.but hs6 hl6);clear hs6 hl6;dsimp only;obtain⟨c6,z6⟩:=dco Ad.out.kn;gi_wp2;have Ak:(m:Int)/128=((m/128:Nat):Int):=by omega
     have A0:=zM List.length A5.out;have Bq:=Tess.pLl3 n 9 (qF hn (by decide));rw[Tess.pLg m (by omega),qI,qI,qI,qU]at A0;refine⟨⟨m/128,bs++[UInt8.ofNat c],?_,by omega,by rw[qI,zX];omega,Ao,?_⟩,?_⟩
     ·rw[<-A5.out,Tess.pLg m (by omega),Bj.out];simp
     ·rw[Ak,<-zN];exact Ad.out.setn (m/128)
     ·rw[Ak,ma3 (Ad.out.setn (m/128)).kn];omega
    ·have Ap:¬(128:Int)<=(m:Int):=by omega
     have An:m<256:=by omega
     have A3:=xJ (P:=Tryz.prog) (w:=wr) (l:=N+1+1) (r:=Aa) (args:=#[.int .u8 (m:Int)]) HS.out.kL (by rw[A9];rfl);gi_wp2;refine Rf.rw2 (r:=Aa) ?_;have A6:=Am.out;subst A6;dsimp only;gi_wp2_with (rw[zK _ _ _ (fun c h=>by cases h)];go_simp;try go_bits);refine⟨HS.out.kL,fun W4 hs4 hl4=>?_⟩;have Ac:=Hd (HS.out.but hs4 hl4);clear hs4 hl4 A3 hL
     gi_wp2_with (rw[zK _ _ _ (fun c h=>by cases h)];go_simp;try go_bits);refine⟨trivial,?_⟩;refine xD (yu _ (qZ.2 (wBk w.heap.size w.heap.size (Lib.byteCells (B0++bs)) m W4 Ac.out.kb (by rw[yA,qI];omega) (by have:=Ac.out.size;have:=Ac.out.hN;omega)))) ?_;rintro e w5 ⟨rfl,Ag,At,Al⟩;rw[show(m:Int)=((UInt8.ofNat m).toNat:Int) by rw[zP];omega]at Ag;have Au:=Hd (Ac.out.wrote Ag At Al);clear Ag At Al
     gi_wp2;refine⟨Au.out.kL,fun W6 hs6 hl6=>?_⟩;have Ad:=Hd (Au.out.but hs6 hl6);clear hs6 hl6;dsimp only;obtain⟨c6,z6⟩:=dco Ad.out.kn;gi_wp2;go_end0;refine⟨⟨_,rfl⟩,_,Ad.out.kL,by simp,?_⟩;intro W7 Ae;dsimp only
     have A1:B0++bs++[UInt8.ofNat m]=(l.take (k+1)).flatMap Tess.putL:=by rw[<-Tess.pLl2 m (by omega),A5.out,A8.out,qQ hlt,yt,Bn.out];simp
     have HU:=Hd (show Pu w ((N+1)::ks) ((l.take (k+1)).flatMap Tess.putL) W7 from by
      have h:=Ad.out;rw[<-A1];refine⟨bs2 h.kb (Ae.block _ (by have:=h.hN;omega)) (fun j c fz hj=>Ae.block _ (fun e=>?_)),fun j hj=>?_,List.nodup_cons.2 ⟨fun e=>Bl.out _ e rfl,Bk.out⟩,(fun j hj=>by rcases qm.1 hj with rfl|hj;exact Nat.lt_succ_of_lt h.hN;exact Bi.out j hj),by rw[Ae.size];have:=h.size;have:=h.hN;omega,h.below.trans (Ae.below (by have:=h.hN;omega))⟩
      ·subst e;have:=h.kL;rw[hj]at this;cases this
      ·rcases qm.1 hj with rfl|hj
       ·exact(Ae.block _ (by omega)).trans h.kD
       ·refine(Ae.block _ (fun e=>?_)).trans (h.old j hj)
        subst e;have:=h.kL;rw[h.old _ hj]at this;cases this)
     clear Ae c6 z6 hm Bh Ao Az c1 z1;gi_wp2;refine⟨?_,?_⟩
     ·exact⟨k+1,(N+1)::ks,_,_,_,_,_,_,_,by omega,HU.out,rfl⟩
     ·simp[intOf];omega
  ·have Bg:k=l.length:=by omega
   have A2:¬(k:Int)<(l.length:Int):=by omega
   obtain⟨B0,Ab⟩:=Xq (l.flatMap Tess.putL)
   have Ar:=sk2 w.heap.size B0 wr (by rw[Ab];have:=HS.out.kb;rwa [Bg,jy]at this) (by
    rw[Ab];intro e;cases l with
    |nil=>exact h0 rfl
    |cons x l=>exact pn3 x (List.flatMap_eq_nil_iff.1 e x (by simp)))
   have Bm:=Hd Ar;clear Ar;gi_wp2_with (refine⟨trivial,?_⟩;gi_at_call 43;refine(qZ.2 Bm.out).mono ?_;rintro e w8 ⟨rfl,Be,Bc⟩;have Bo:=Hd Be;have Bf:=Hd Bc;clear Be Bc);refine lc2 ks w8 HS.out.nd (fun j hj=>Bf.out _ _ (HS.out.old j hj) (fun e=>?_) (fun _ _ e=>by cases e)) fun w9 h1 h2 h3 h4 h5=>?_
   ·cases e
    rcases HS.out.kb with⟨_,v,h1,_⟩|⟨_,v,h1,_⟩
    ·have:=HS.out.old _ hj;rw[h1]at this;cases this
    ·have:=HS.out.old _ hj;rw[h1]at this;cases this
   refine⟨_,qAn rfl _ _ _,rfl,?_⟩;refine(HS.out.below.trans Bo.out).trans ⟨h1,h2,h3,Nat.le_of_eq h4.symm,fun j hj=>h5 j fun e=>?_⟩;have:=HS.out.gt j e;omega
end Go.Proofs.Q9
namespace Tess
theorem ds5:∀(l:List Int) (last:Int) (k:Nat),k<l.length->∀(pre:List Nat) (x:Int),pre++(di x (l.drop k)).map tN=(di last l).map tN->(pre++[tN (Go.RowKit.wrap64 (l.getD k 0-x))])++(di (l.getD k 0) (l.drop (k+1))).map tN=(di last l).map tN:=by intro l last k hk pre x h;rw[<-h,zv hk,qE,qD hk];simp[di]
theorem pLf2(l:List Int):(l.length::(di 0 l).map tN).flatMap putL=pL2 l:=by unfold pL2;rw[zp,List.flatMap_map]
end Tess
namespace Go.Proofs.Q9
open Go.RowKit Go.Sort
theorem pa12(v:Value)(l:List Int)(w:World)(h:SlOf w v (l.map (.int .i64)))(hr:Tess.I64s l)(hl:l.length<=1000) :
  Calls Tryz.prog 118 #[v] w fun e w'=>e = .returned (.tuple #[.string (Tess.mk (Tess.pL2 l)),.int .i64 0])/\Below w.heap.size w w':=by
 obtain⟨a,c,rfl,_,hc⟩:=so3 _ h;have HC:=Hd hc;have HR:=Hd hr;have Ax:decide ((1000:Int)<(l.length:Int))=false:=qG (by omega);have Aw:¬(1000:Int)<(l.length:Int):=by omega
 obtain⟨i0,hi,Aq,At,An⟩:=zF (P:=Tryz.prog) (e:=92) (z:=.int .u64 0) (size:=1) (bytes:=8) (by kernel_rfl);clear h hr hc;go_enter Tryz.func118,Tryz.ntmps118;go_wp2
 go_loopw [4,5,17] (fun vo vl vi wr=>∃(k:Nat) (pre:List Nat) (Aa:Int),k<=l.length/\vi = .int .i64 k/\vl = .int .i64 Aa/\pre.length=k/\pre++(Tess.di Aa (l.drop k)).map Tess.tN=(Tess.di 0 l).map Tess.tN/\(-9223372036854775808<=Aa/\Aa<=9223372036854775807)/\wr.ownsRow w.heap.size 92 1 vo (1+k) ((l.length::pre).map fun n=>.int .u64 (n:Nat))/\Below w.heap.size w wr) (fun _ _ vi _=>l.length-(intOf vi).toNat)
 case atStart=>
  refine⟨0,[],0,qN _,rfl,rfl,rfl,rfl,by omega,?_,(qJ _ _).alloc (qC _) _⟩;have:=World.ownsRow_lit (base:=w.heap.size) (e:=92) (size:=1) w #[.int .u64 (l.length:Nat)] 1 (qC _) (by unfold maxLen;omega) rfl;exact this
 case round=>
  obtain⟨k,pre,Aa,hk,rfl,rfl,Ah,Ab,Ay,Ag,hB⟩:=hrel;have HO:=Hd Ag;have HB:=Hd hB;clear Ag;by_cases hlt:k<l.length
  ·obtain⟨b,Al,rfl,hb,Ak⟩:=HC.out wr hB k hlt;have Ar:(k:Int)<(l.length:Int):=by omega
   have Aj:=Hd (Tess.ds5 l 0 k hlt pre Aa Ab);rw[qE,qD hlt,yz]at Aj;have hx:=HR.out _ (qP hlt);generalize l[k]=x at *;have ht:=fun W=>ta6 (wrap64 (x-Aa)) W (Tess.wr5 _);have HT:=Hd ht;have Au:=Hd Ah;have hw:=wrap_i64 (x-Aa);clear hB Ab Ah ht
   go_wp2_with (first
    |(go_at_call 155;refine(HT.out _).mono ?_;rintro e w2 ⟨rfl,rfl⟩)
    |(at_builtin;refine qq _ rfl _ _ 196 rfl w.heap.size 92 i0 (.int .u64 0) 1 8 Tryz.underlying196 hi Aq At An rfl (by decide) _ _ _ rfl (HO.out.alloc _) ⟨w2.heap.size,0,none⟩ 1 1 [.int .u64 (Tess.tN (wrap64 (x-Aa)):Nat)] rfl rfl (zh _ _ _) (by simp[Value.oneCell']) (by unfold maxLen;omega) (by omega) (by have:=HB.out.size;simp;omega) ?_))
   intro v' w3 Ae Ad _;have Av:=Hd ((HB.out.alloc HB.out.size _).grown Ad (by have:=HB.out.size;simp;omega) (fun j e=>(HO.out.lt j e).1));have Ao:=Hd Ae;clear Ae Ad;go_wp2;go_roundw
   case rel=>exact⟨k+1,pre++[Tess.tN (wrap64 (x-Aa))],x,by omega,by go_num,rfl,by simp[Au.out],Aj.out,hx,by have:=Ao.out;rw[<-qk,qs];exact this,Av.out⟩
   case measure=>simp[intOf];omega
  ·have Ar:¬(k:Int)<(l.length:Int):=by omega
   obtain rfl:k=l.length:=by omega
   rw[qBq]at Ab;have Ab:pre=(Tess.di 0 l).map Tess.tN:=by rw[<-Ab];simp[Tess.di]
   obtain⟨P,hP⟩:=Xq (l.length::pre)
   have Ap:P.length=1+l.length:=by rw[hP,qU,Ah];omega
   have Ac:=Tess.pLf2 l;rw[<-Ab,<-hP]at Ac;rw[<-hP]at HO;obtain⟨a3,c3,rfl,_,Am⟩:=so3 (fun n:Nat=>Value.int .u64 (n:Nat)) (SlOf.owned HO.out)
   have Af:=pa13 P a3 c3 wr (fun W hW j hj=>let⟨b,Al,h1,_,h2⟩:=Am W hW j hj;⟨b,Al,h1,h2⟩) (fun y hy=>by
    rw[hP]at hy;rcases qm.1 hy with rfl|hy
    ·omega
    ·rw[Ab]at hy;obtain⟨d,hd,rfl⟩:=qd.1 hy
     exact Tess.tl2 d (Tess.dr2 l 0 d hd)) (by omega) (by rw[hP];simp)
   rw[Ac]at Af;have Ai:=Hd Af;clear Af Ab Am Ac hP Ap Ah;go_wp2_with (go_at_call 93;refine Ai.out.mono ?_;rintro e w2 ⟨rfl,As⟩);go_ret2;exact⟨rfl,HB.out.trans (As.mono HB.out.size)⟩
end Go.Proofs.Q9
namespace Tess
def lB4(C:List (CK×Pay))(gs:List (CK×Pay->Int)):List UInt8:=gs.flatMap fun g=>pL2 (C.map g)
theorem lBt(C:List (CK×Pay))(gs:List (CK×Pay->Int))(k:Nat)(h:k<gs.length):lB4 C (gs.take (k+1))=lB4 C (gs.take k)++pL2 (C.map gs[k]):=by unfold lB4;rw[qQ h,yt];simp
theorem lBl(C:List (CK×Pay))(gs:List (CK×Pay->Int))(hC:C.length<=1000):(lB4 C gs).length<=gs.length*10010:=fl2 _ 10010 gs fun g _=>by have:=pLf (C.map g) (by simpa using hC);rw[qX]at this;omega
def tL(C:List (CK×Pay))(g:CK×Pay->Int)(k:Nat):List Int:=(C.take k).map g
theorem tLs(C:List (CK×Pay))(g:CK×Pay->Int)(k:Nat)(h:k<C.length):tL C g (k+1)=tL C g k++[g C[k]]:=by unfold tL;rw[qQ h,qs];rfl
end Tess
namespace Go.Proofs.Q9
open Go.RowKit Go.Sort
open Tess (CK Pay)
def Te(p:Nat->Prop)(w:World)(C:List (CK×Pay))(id:Nat)(caps:Array Value)(g:CK×Pay->Int):Prop:=
 (∀args W,(callFunc id args).run Tryz.prog W = .ok (.enter id args) W)/\(∀x∈C,I64 (g x)) /\
  ∀W,Below w.heap.size w W->∀x∈C,∀ad cd a3 c3 a4 c4 a5 c5,PayAt p W (.slice a3 x.2.sums.length c3) (.slice a4 x.2.mins.length c4) (.slice a5 x.2.maxs.length c5) x.2 ->
    Calls Tryz.prog id (#[.agg #[.int .i64 x.1.1,.slice ad x.1.2.length cd,.int .i64 x.2.n,.slice a3 x.2.sums.length c3,.slice a4 x.2.mins.length c4,.slice a5 x.2.maxs.length c5]]++caps) W fun e w'=>e = .returned (.int .i64 (g x))/\Below W.heap.size W w'
theorem la4(p:Nat->Prop)(vl:Value)(C:List (CK×Pay))(fs:List (Nat×Array Value))(gs:List (CK×Pay->Int))(af:Option Addr)(cf:Nat)(w:World)(hv:CA2 p w vl C)(hC:C.length<=1000)(hgl:gs.length=fs.length)(hfl:fs.length<=10)
  (hf:∀W,Below w.heap.size w W->∀j (hj:j<fs.length),∃b off,af=some ⟨b,off,none⟩/\W.cell? ⟨b,off+j,none⟩=some (.func (.func fs[j].1) #[] fs[j].2))
  (ht:∀j (hj:j<fs.length) (hj':j<gs.length),Te p w C fs[j].1 fs[j].2 gs[j]) :
  Calls Tryz.prog 66 #[vl,.slice af fs.length cf] w fun e w'=>e = .returned (.string (Tess.mk (Tess.lB4 C gs)))/\Below w.heap.size w w':=by
 obtain⟨a,Be,rfl,hl,hc⟩:=hv.opened;have HC:=Hd hc;have HF:=Hd hf;have HT:=Hd ht;have Ap:=Hd hgl;obtain⟨i0,A7,Av,Ba,A8⟩:=zF (P:=Tryz.prog) (e:=2) (z:=.int .i64 0) (size:=1) (bytes:=8) (by kernel_rfl);clear hc hv hf ht hgl;go_enter Tryz.func66,Tryz.ntmps66;go_wp2
 go_loopw [5,15] (fun v j wr=>∃k:Nat,k<=fs.length/\j = .int .i64 k/\v = .string (Tess.mk (Tess.lB4 C (gs.take k)))/\Below w.heap.size w wr) (fun _ j _=>fs.length-(intOf j).toNat)
 case atStart=>exact⟨0,qN _,rfl,rfl,qJ _ _⟩
 case round=>
  obtain⟨j,hj,rfl,rfl,hB⟩:=hrel;by_cases hlt:j<fs.length
  ·obtain⟨b,off,rfl,Ac⟩:=HF.out wr hB j hlt;have A2:(j:Int)<(fs.length:Int):=by omega
   have An:j<gs.length:=by rw[Ap.out];exact hlt
   have Ai:=Hd (HT.out j hlt An);have HL:=Hd (Tess.lBt C gs j An);have As:=Tess.lBl C (gs.take j) hC;rw[qy]at As;generalize gs[j]=g at *;generalize fs[j]=f at *;obtain⟨id,Az⟩:=f;dsimp only at Ac Ai;have Bd:=Ai.out.1;obtain⟨A,hA⟩:=Xq (Tess.mk (Tess.lB4 C (gs.take j)))
   have A9:A.size<=100100:=by rw[hA,Tess.ms2];omega
   rw[<-hA];have HA:=Hd hA;have HB:=Hd hB;obtain⟨wa,A3⟩:=Xq wr
   subst A3;clear hA As An hB;go_wp2_with (fail);go_loopw [8,21] (fun v i wr=>∃k:Nat,k<=C.length/\i = .int .i64 k/\wr.ownsRow w.heap.size 2 1 v k ((Tess.tL C g k).map (.int .i64))/\Below w.heap.size w wr) (fun _ i _=>C.length-(intOf i).toNat)
   case atStart=>exact⟨0,qN _,rfl,qg _ _ _ _,HB.out⟩
   case round=>
    obtain⟨k,hk,rfl,Af,Ah⟩:=hrel;have HO:=Hd Af;have Am:=Hd Ah;clear Af;by_cases hkl:k<C.length
    ·obtain⟨b1,o1,ad,cd,a3,c3,a4,c4,a5,c5,rfl,A0,⟨q0,q1,q2,q3,q4,q5⟩,_,Ae⟩:=HC.out wr Ah k hkl;have Ax:(k:Int)<(C.length:Int):=by omega
     have HM:=Hd (show C[k]∈C from qP hkl);have HW:=Hd (Tess.tLs C g k hkl);generalize C[k]=x at *;obtain⟨W3,Aw⟩:=XQ (wr.alloc (.cells #[.int .i64 x.1.1,.slice ad x.1.2.length cd,.int .i64 x.2.n,.slice a3 x.2.sums.length c3,.slice a4 x.2.mins.length c4,.slice a5 x.2.maxs.length c5] 56))
     obtain⟨k1,kS,kB⟩:=la2 wr (.cells #[.int .i64 x.1.1,.slice ad x.1.2.length cd,.int .i64 x.2.n,.slice a3 x.2.sums.length c3,.slice a4 x.2.mins.length c4,.slice a5 x.2.maxs.length c5] 56);rw[Aw]at k1 kS kB;obtain⟨⟨r0,r1,r2,r3,r4,r5⟩,_⟩:=can6 k1;have A5:=Hd kB;have Ad:=Hd (Ai.out.2.2 W3 (Bt Am.out kB) x HM.out ad cd a3 c3 a4 c4 a5 c5 (Ae.ag (Ag.new p kB)));have Au:=Hd (ob2 HO.out kB)
     clear kS k1 kB A0 Ah Ae;go_wp2_with (fail);refine Ad.out.mono ?_;rintro e w4 ⟨rfl,Ao⟩;have Ak:=Hd (Bt Am.out (Bt A5.out Ao));have Ar:=Hd (ob2 Au.out Ao);clear Ao q0 q1 q2 q3 q4 q5 r0 r1 r2 r3 r4 r5
     go_wp2_with (at_builtin;refine qq _ rfl _ _ 49 rfl w.heap.size 2 i0 (.int .i64 0) 1 8 Tryz.underlying49 A7 Av Ba A8 rfl (by decide) _ _ _ rfl (Ar.out.alloc _) ⟨w4.heap.size,0,none⟩ 1 1 [.int .i64 (g x)] rfl rfl (zh _ _ _) (by simp[Value.oneCell']) (by unfold maxLen;omega) (by omega) (by have:=Ak.out.size;simp;omega) ?_);intro v' w5 Ab Aa _
     have Bc:=Hd ((Ak.out.alloc Ak.out.size (.cells #[.int .i64 (g x)] 2)).grown Aa (by have:=Ak.out.size;simp;omega) (fun m e=>(Ar.out.lt m e).1));have Ay:=Hd Ab;clear Ab Aa;go_wp2_with (fail);go_roundw
     case rel=>exact⟨k+1,by omega,by go_num,by rw[HW.out,qs];exact Ay.out,Bc.out⟩
     case measure=>simp[intOf];omega
    ·have Ax:¬(k:Int)<(C.length:Int):=by omega
     obtain rfl:k=C.length:=by omega
     have Al:=pa12 _ (C.map g) wr (by have h:=SlOf.owned HO.out;unfold Tess.tL at h;rw[jy]at h;exact h) (fun z hz=>by
      obtain⟨x,hx,rfl⟩:=qd.1 hz
      exact Ai.out.2.1 x hx) (by rw[qX];exact hC)
     obtain⟨B,Aj⟩:=Xq (Tess.mk (Tess.pL2 (C.map g)))
     rw[<-Aj]at Al
     have A4:B.size<=10010:=by rw[Aj,Tess.ms2];have:=Tess.pLf (C.map g) (by simpa using hC);rw[qX]at this;omega
     have A6:A.size+B.size<=9223372036854775807:=by omega
     have Bb:=Hd Al;have At:=Hd Aj;clear Al Aj A4 A9 Ah;go_wp2_with (go_at_call 118;refine Bb.out.mono ?_;rintro e w6 ⟨rfl,Aq⟩;have A1:=Hd (Bt Am.out Aq);clear Aq);go_roundw
     case rel=>exact⟨j+1,by omega,by go_num,by rw[HL.out,HA.out,At.out,Tess.ma2],A1.out⟩
     case measure=>simp[intOf];omega
  ·have A2:¬(j:Int)<(fs.length:Int):=by omega
   obtain rfl:j=fs.length:=by omega
   rw[qh (by rw[Ap.out];exact qC _)];go_wp2_with (fail);go_ret;exact⟨rfl,hB⟩
end Go.Proofs.Q9
namespace Tess
open Go Go.RowKit Go.Proofs.Q9
theorem lT(C:List (CK×Pay)):lB4 C [fun x=>x.1.1,fun x=>x.2.n]=colT C:=by unfold lB4 colT;simp only[zp,jg,zZ]
theorem lM2(C:List (CK×Pay))(m:Nat):lB4 C [fun x=>wHi (x.2.sums.getD m 0),fun x=>wrap64 (wLo (x.2.sums.getD m 0)),fun x=>x.2.mins.getD m 0,fun x=>x.2.maxs.getD m 0]=colM C m:=by unfold lB4 colM;simp only[zp,jg,zZ]
end Tess
namespace Go.Proofs.Q9
open Go.RowKit Go.Sort
open Tess (CK Pay)
section
variable {p:Nat->Prop} {w:World} {C:List (CK×Pay)}
theorem te6(h:∀x∈C,I64 x.1.1):Te p w C 67 #[] (fun x=>x.1.1):=
 ⟨yd Tryz.func67 (by kernel_rfl) rfl,h,fun W _ x _ _ _ _ _ _ _ _ _ _=>ca7 x.1.1 _ _ _ _ _ W⟩
theorem te3(h:∀x∈C,I64 x.2.n):Te p w C 68 #[] (fun x=>x.2.n):=
 ⟨yd Tryz.func68 (by kernel_rfl) rfl,h,fun W _ x _ _ _ _ _ _ _ _ _ _=>ca6 x.2.n _ _ _ _ _ W⟩
variable {bi m:Nat} (hb:w.cell? ⟨bi,0,none⟩=some (.int .i64 (m:Int)))
include hb
theorem te5(hm:∀x∈C,m<x.2.sums.length)(h:∀x∈C,I64 (wHi (x.2.sums.getD m 0))):Te p w C 73 #[.pointer (some ⟨bi,0,none⟩)] (fun x=>wHi (x.2.sums.getD m 0)):=
 ⟨yd Tryz.func73 (by kernel_rfl) rfl,h,fun W hW x hx ad cd a3 c3 a4 c4 a5 c5 hp=>ca11 p x.1.1 (.slice ad x.1.2.length cd) a3 a4 a5 c3 c4 c5 bi m x.2 W hp (hm x hx) ((hW.cell (p:=⟨bi,0,none⟩) (qK _ _ hb)).trans hb)⟩
theorem te7(hm:∀x∈C,m<x.2.sums.length):Te p w C 74 #[.pointer (some ⟨bi,0,none⟩)] (fun x=>wrap64 (wLo (x.2.sums.getD m 0))):=
 ⟨yd Tryz.func74 (by kernel_rfl) rfl,fun _ _=>Tess.wr5 _,fun W hW x hx ad cd a3 c3 a4 c4 a5 c5 hp=>ca9 p x.1.1 (.slice ad x.1.2.length cd) a3 a4 a5 c3 c4 c5 bi m x.2 W hp (hm x hx) ((hW.cell (p:=⟨bi,0,none⟩) (qK _ _ hb)).trans hb)⟩
theorem te4(hm:∀x∈C,m<x.2.mins.length)(h:∀x∈C,I64 (x.2.mins.getD m 0)):Te p w C 75 #[.pointer (some ⟨bi,0,none⟩)] (fun x=>x.2.mins.getD m 0):=
 ⟨yd Tryz.func75 (by kernel_rfl) rfl,h,fun W hW x hx ad cd a3 c3 a4 c4 a5 c5 hp=>ca10 p x.1.1 (.slice ad x.1.2.length cd) a3 a4 a5 c3 c4 c5 bi m x.2 W hp (hm x hx) ((hW.cell (p:=⟨bi,0,none⟩) (qK _ _ hb)).trans hb)⟩
theorem te2(hm:∀x∈C,m<x.2.maxs.length)(h:∀x∈C,I64 (x.2.maxs.getD m 0)):Te p w C 76 #[.pointer (some ⟨bi,0,none⟩)] (fun x=>x.2.maxs.getD m 0):=
 ⟨yd Tryz.func76 (by kernel_rfl) rfl,h,fun W hW x hx ad cd a3 c3 a4 c4 a5 c5 hp=>ca5 p x.1.1 (.slice ad x.1.2.length cd) a3 a4 a5 c3 c4 c5 bi m x.2 W hp (hm x hx) ((hW.cell (p:=⟨bi,0,none⟩) (qK _ _ hb)).trans hb)⟩
end
theorem cTa(p:Nat->Prop)(vl:Value)(C:List (CK×Pay))(b cf T:Nat)(w:World)(hv:CA2 p w vl C)(hC:C.length<=1000)
  (hb:w.heap[b]?=some (.cells #[.func (.func 67) #[] #[],.func (.func 68) #[] #[]] T (0,0)))
  (h1:∀x∈C,I64 x.1.1) (h2:∀x∈C,I64 x.2.n) :
  Calls Tryz.prog 66 #[vl,.slice (some ⟨b,0,none⟩) 2 cf] w fun e w'=>e = .returned (.string (Tess.mk (Tess.colT C)))/\Below w.heap.size w w':=by
 rw[<-Tess.lT];refine la4 p vl C [(67,#[]),(68,#[])] _ (some ⟨b,0,none⟩) cf w hv hC rfl (by decide) (fun W hW j hj=>⟨b,0,rfl,?_⟩) (fun j hj hj'=>?_)
 ·have hk:=(hW.block b (qA.1 hb).1).trans hb;have e:=qT _ _ (0+j) _ _ _ hk;rw[e]
  match j,hj with
  |0,_=>rfl
  |1,_=>rfl
 ·match j,hj,hj' with
  |0,_,_=>exact te6 h1
  |1,_,_=>exact te3 h2
theorem cMa(p:Nat->Prop)(vl:Value)(C:List (CK×Pay))(b bi m cf T:Nat)(w:World)(hv:CA2 p w vl C)(hC:C.length<=1000)
  (hb:w.heap[b]?=some (.cells #[.func (.func 73) #[] #[.pointer (some ⟨bi,0,none⟩)],.func (.func 74) #[] #[.pointer (some ⟨bi,0,none⟩)],.func (.func 75) #[] #[.pointer (some ⟨bi,0,none⟩)],.func (.func 76) #[] #[.pointer (some ⟨bi,0,none⟩)]] T (0,0)))
  (hbi:w.cell? ⟨bi,0,none⟩=some (.int .i64 (m:Int))) (hm:∀x∈C,m<x.2.sums.length/\m<x.2.mins.length/\m<x.2.maxs.length)
  (h3:∀x∈C,I64 (wHi (x.2.sums.getD m 0))) (h5:∀x∈C,I64 (x.2.mins.getD m 0)) (h6:∀x∈C,I64 (x.2.maxs.getD m 0)) :
  Calls Tryz.prog 66 #[vl,.slice (some ⟨b,0,none⟩) 4 cf] w fun e w'=>e = .returned (.string (Tess.mk (Tess.colM C m)))/\Below w.heap.size w w':=by
 rw[<-Tess.lM2];refine la4 p vl C [(73,#[.pointer (some ⟨bi,0,none⟩)]),(74,#[.pointer (some ⟨bi,0,none⟩)]),(75,#[.pointer (some ⟨bi,0,none⟩)]),(76,#[.pointer (some ⟨bi,0,none⟩)])] _ (some ⟨b,0,none⟩) cf w hv hC rfl (by simp) (fun W hW j hj=>⟨b,0,rfl,?_⟩) (fun j hj hj'=>?_)
 ·have hk:=(hW.block b (qA.1 hb).1).trans hb;have e:=qT _ _ (0+j) _ _ _ hk;rw[e]
  match j,hj with
  |0,_=>rfl
  |1,_=>rfl
  |2,_=>rfl
  |3,_=>rfl
 ·match j,hj,hj' with
  |0,_,_=>exact te5 hbi (fun x hx=>(hm x hx).1) h3
  |1,_,_=>exact te7 hbi (fun x hx=>(hm x hx).1)
  |2,_,_=>exact te4 hbi (fun x hx=>(hm x hx).2.1) h5
  |3,_,_=>exact te2 hbi (fun x hx=>(hm x hx).2.2) h6
end Go.Proofs.Q9
namespace Tess
open Go Go.RowKit
structure WSt(V B:Nat)(out:List UInt8)(n c:Nat):Prop where
 len:8*out.length+c=B
 val:valB out*2^c+n=V
 lt:n<2^c
theorem WSt.none:WSt 0 0 [] 0 0:=⟨rfl,rfl,by decide⟩
theorem WSt.add{V B:Nat}{out:List UInt8}{n c:Nat}(h:WSt V B out n c)(w x:Nat)(hx:x<2^w):WSt (V*2^w+x) (B+w) out (n*2^w+x) (c+w):=by
 refine⟨by have:=h.len;omega,?_,?_⟩
 ·rw[<-h.val,yZ,jd,xC,jq]
 ·have:=h.lt;have h2:(n+1)*2^w<=2^c*2^w:=jO _ this;rw[jd,ya]at h2;rw[yZ];omega
theorem WSt.take{V B:Nat}{out:List UInt8}{n c:Nat}(h:WSt V B out n c)(hc:8<=c):WSt V B (out++[UInt8.ofNat (n/2^(c-8))]) (n%2^(c-8)) (c-8)/\n/2^(c-8)<256:=by
 have hq:n/2^(c-8)<256:=by
  rw[Nat.div_lt_iff_lt_mul (jh _)];have:=h.lt;have e:(2:Nat)^c=256*2^(c-8):=by rw[show(256:Nat)=2^8 by decide,<-yZ];congr 1;omega
  omega
 refine⟨⟨?_,?_,yX _ (jh _)⟩,hq⟩
 ·rw[qI,zX];have:=h.len;omega
 ·rw[vBs,zP,jf hq,jd,jq,xB (n/2^(c-8)),Nat.div_add_mod];rw[<-h.val,xC];congr 2;rw[show(256:Nat)=2^8 by decide,<-yZ];congr 1;omega
theorem WSt.done{V B:Nat}{out:List UInt8}(h:WSt V B out 0 0):out=bytesBE (B/8) V:=by have h1:=h.len;have h2:=h.val;rw[Nat.pow_zero,yY,yD]at h2;rw[<-h2,show B/8=out.length by omega];exact(bv out).symm
theorem WSt.zero{V B:Nat}{out:List UInt8}{n:Nat}(h:WSt V B out n 0):n=0:=by have:=h.lt;simpa using this
structure RSt(w:Nat)(T:List UInt8)(k j n c:Nat):Prop where
 le:j<=T.length
 len:k*w+c=8*j
 val:n=valB (T.take j)%2^c
theorem RSt.none(w:Nat)(T:List UInt8):RSt w T 0 0 0 0:=⟨qN _,by simp,by simp[valB]⟩
theorem RSt.lt{w:Nat}{T:List UInt8}{k j n c:Nat}(h:RSt w T k j n c):n<2^c:=by rw[h.val];exact yX _ (jh _)
theorem RSt.more{w:Nat}{T:List UInt8}{k j n c:Nat}(h:RSt w T k j n c)(hj:j<T.length):RSt w T k (j+1) (n*2^8+T[j].toNat) (c+8):=by
 refine⟨hj,by have:=h.len;omega,?_⟩;rw[qQ hj,vBs,h.val];obtain⟨V,hV⟩:=Xq (valB (T.take j))
 rw[<-hV,yZ,xB (2^c)];have hb:T[j].toNat<2^8:=T[j].toNat_lt;rw[show(256:Nat)=2^8 by decide,Nat.mod_mul,yO (V*2^8),Nat.add_mul_mod_self_right,jf hb,Nat.add_mul_div_right _ _ (jh 8),xu hb,qj,xB (2^8),yO]
theorem RSt.take{w:Nat}{T:List UInt8}{k j n c:Nat}(h:RSt w T k j n c)(hc:w<=c):RSt w T (k+1) j (n%2^(c-w)) (c-w)/\n/2^(c-w)=numK w T k:=by
 refine⟨⟨h.le,by have:=h.len;rw[jd];omega,?_⟩,?_⟩
 ·rw[h.val,show c=(c-w)+w by omega,yZ,yx,Nat.mod_mul_right_mod]
 ·unfold numK
  have hl:valB T=valB (T.take j)*256^(T.length-j)+valB (T.drop j):=by
   conv=>lhs;rw[<-jm j T]
   rw[vBa,zn]
  have hd:valB (T.drop j)<256^(T.length-j):=by have:=vBl (T.drop j);rwa [zn]at this
  have Ab:=h.le;have Aa:=h.len;have e:8*T.length-(k+1)*w=8*(T.length-j)+(c-w):=by rw[jd];omega
  rw[e,yZ,<-qBm,hl,p22,xB (valB (T.take j)),Nat.mul_add_div (jh _),<-p22,xu hd,yD,h.val];obtain⟨V,hV⟩:=Xq (valB (T.take j))
  rw[<-hV];have e2:(2:Nat)^c=2^(c-w)*2^w:=by rw[<-yZ];congr 1;omega
  rw[e2,Nat.mod_mul_right_div_self]
theorem RSt.rest{w:Nat}{T:List UInt8}{k n c:Nat}(h:RSt w T k T.length n c):n=valB T%2^(8*T.length-k*w):=by have h1:=h.len;rw[h.val,jy,show 8*T.length-k*w=c by omega]
end Tess
namespace Go.Proofs.Q9
open Go.RowKit Go.Sort
structure Kp(b:Nat)(o:Option Nat)(w w':World):Prop where
 os:w'.os=w.os
 tape:w'.tape=w.tape
 output:w'.output=w.output
 size:w.heap.size<=w'.heap.size
 block:∀k,k<w.heap.size->k≠b->o≠some k->w'.heap[k]?=w.heap[k]?
theorem Kp.one{b:Nat}{o:Option Nat}{w w1 w2:World}(h:Kp b o w w1)(h':OneB b w1 w2):Kp b o w w2:=⟨h'.os.trans h.os,h'.tape.trans h.tape,h'.output.trans h.output,qt h.size h'.size,fun k h1 h2 h3=>(h'.block k (qF h1 h.size) h2).trans (h.block k h1 h2 h3)⟩
theorem Kp.refl(b:Nat)(o:Option Nat)(w:World):Kp b o w w:=⟨rfl,rfl,rfl,qC _,fun _ _ _ _=>rfl⟩
theorem Kp.below{b N:Nat}{o:Option Nat}{w w':World}(h:Kp b o w w')(hb:N<=b)(hN:N<=w.heap.size)(ho:∀g,o=some g->N<=g):Below N w w':=⟨h.os,h.tape,h.output,h.size,fun k hk=>h.block k (by omega) (by omega) fun e=>by have:=ho k e;omega⟩
def Loc(o:Option Nat)(w:World)(v:Value):Prop:=∀g,v.ownBlock=some g->o=some g∨w.heap.size<=g
structure Wtr(N b:Nat)(h0:UInt8)(V B:Nat)(o:List UInt8)(n c:Nat)(vo:Value)(w:World):Prop where
 box:Dg b 171 n c vo w
 own:w.ownsRow N 5 1 vo (o.length+1) (Lib.byteCells (h0::o))
 ne:vo.ownBlock≠some b
 st:Tess.WSt V B o n c
theorem oo2{b base:Nat}{e:TypeId}{v:Value}{n:Nat}{xs:List Value}{w w':World}(h:w.ownsRow base e 1 v n xs)(hne:v.ownBlock≠some b)(ho:OneB b w w'):w'.ownsRow base e 1 v n xs:=by
 obtain⟨hl,h⟩:=h;refine⟨hl,?_⟩;rcases h with h|⟨g,Aa,Ab,rfl,h2,h3,h4⟩
 ·exact .inl h
 ·exact .inr ⟨g,Aa,Ab,rfl,h2,(ho.block g (qA.1 h3).1 (fun e=>hne (by rw[<-e];rfl))).trans h3,h4⟩
theorem bs3{base:Nat}{e:TypeId}{v:Value}{n:Nat}{xs:List Value}{w:World}(h:w.ownsRow base e 1 v n xs):∃a c,v = .slice a n c:=by
 rcases h.2 with⟨h,h0⟩|⟨g,Aa,_,h,_⟩
 ·exact⟨none,0,by rw[h,h0]⟩
 ·exact⟨_,_,h⟩
def cnt(b:Nat)(w:World):Nat:=match w.cell? ⟨b,1,none⟩with|some (.int _ z)=>z.toNat|_=>0
theorem Wtr.app{N b V B n c:Nat}{h0 x:UInt8}{o:List UInt8}{vo v':Value}{W W2:World}{ob:Obj}(ne:vo.ownBlock≠some b)(hbox:Dg b 171 n c vo W)(hst:Tess.WSt V B (o++[x]) n c)
  (hown:W2.ownsRow N 5 1 v' (o.length+1+1) (Lib.byteCells (h0::o)++[.int .u8 x.toNat])) (hg:(W.alloc ob).grownBy W2 vo.ownBlock) (hloc:v'.ownBlock=vo.ownBlock∨v'.ownBlock=some (W.heap.size+1)) :
  Wtr N b h0 V B (o++[x]) n c v' (W2.setCell ⟨b,2,none⟩ v'):=by
 have hb:=(Dg.cells hbox).2.2;have Aa:Dg b 171 n c vo W2:=(hg.block b (by simp;omega) (fun e=>ne e.symm)).trans ((zu W ob b hb).trans hbox)
 have Ab:v'.ownBlock≠some b:=by
  rcases hloc with e|e
  ·rw[e];exact ne
  ·rw[e];simp;omega
 have e1:Lib.byteCells (h0::(o++[x]))=Lib.byteCells (h0::o)++[.int .u8 x.toNat]:=by simp[Lib.byteCells]
 refine⟨Aa.set2 v',oo2 (b:=b) ?_ Ab ((OneB.of (qJ W2.heap.size W2)).set b 2 v'),Ab,hst⟩;rw[e1,qI,zX];exact hown
theorem Kp.app{b:Nat}{o:Option Nat}{w W W2:World}{ob:Obj}{v v':Value}(h:Kp b o w W)(hl:Loc o w v)(hg:(W.alloc ob).grownBy W2 v.ownBlock):Kp b o w (W2.setCell ⟨b,2,none⟩ v'):=by
 refine⟨hg.os.trans h.os,hg.tape.trans h.tape,hg.output.trans h.output,?_,fun k h1 h2 h3=>?_⟩
 ·have:=h.size;have:=hg.size;simp[World.setCell]at this⊢;omega
 ·have:=h.size;rw[yE _ _ _ _ h2,hg.block k (by simp;omega) (fun e=>?_),zu W ob k (by omega),h.block k h1 h2 h3];rcases hl k e.symm with e|e
  ·exact h3 e
  ·omega
theorem Loc.app{b:Nat}{o:Option Nat}{w W:World}{v v':Value}(h:Kp b o w W)(hl:Loc o w v)(hv:v'.ownBlock=v.ownBlock∨v'.ownBlock=some (W.heap.size+1)):Loc o w v':=fun g e=>by
 rcases hv with e2|e2
 ·exact hl g (by rw[<-e2];exact e)
 ·rw[e2]at e;have:=zr e;have:=h.size;right;omega
theorem wa3(N b width V B:Nat)(h0:UInt8)(o:List UInt8)(n c:Nat)(vo:Value)(l:List Nat)(a:Option Addr)(cp:Nat)(w:World)(h:Wtr N b h0 V B o n c vo w)(hc8:c<8)(hw:width<=16)(hx:∀x∈l,x<2^width)(hll:l.length<=1000)(hB:B<=1000000)(hNw:N<=w.heap.size)
  (hl:∀W,Kp b vo.ownBlock w W->∀k (hk:k<l.length),∃bb off,a=some ⟨bb,off,none⟩/\W.cell? ⟨bb,off+k,none⟩=some (.int .i64 (l[k]:Nat))) :
  Calls Tryz.prog 123 #[.pointer (some ⟨b,0,none⟩),.int .i64 width,.slice a l.length cp] w fun e w'=>e = .returned (.tuple #[])/\∃o' n' c' vo',Wtr N b h0 (l.foldl (fun a x=>a*2^width+x) V) (B+l.length*width) o' n' c' vo' w'/\c'<8/\Kp b vo.ownBlock w w'/\Loc vo.ownBlock w vo':=by
 have HX:=Hd hx;have HL:=Hd hl;have HH:=Hd h;have A9:=Hd hc8;obtain⟨i0,hi,Av,A4,A1⟩:=zF (P:=Tryz.prog) (e:=5) (z:=.int .u8 0) (size:=1) (bytes:=1) (by kernel_rfl);clear hx hl h hc8;go_enter Tryz.func123,Tryz.ntmps123;go_wp2
 go_loopw [10] (fun vi wr=>∃(k:Nat) (o':List UInt8) (n' c':Nat) (vo':Value),k<=l.length/\vi = .int .i64 k/\Wtr N b h0 ((l.take k).foldl (fun a x=>a*2^width+x) V) (B+k*width) o' n' c' vo' wr/\c'<8/\Kp b vo.ownBlock w wr/\Loc vo.ownBlock w vo') (fun vi _=>l.length-(intOf vi).toNat)
 case atStart=>exact⟨0,o,n,c,vo,qN _,rfl,by simpa using HH.out,A9.out,Kp.refl _ _ _,fun g e=>.inl e⟩
 case round=>
  obtain⟨k,o1,n1,c1,Be,hk,rfl,hW,Bp,hK,hL⟩:=hrel;by_cases hlt:k<l.length
  ·obtain⟨bb,off,rfl,Ap⟩:=HL.out wr hK k hlt;have Bl:(k:Int)<(l.length:Int):=by omega
   have A8:=HX.out _ (qP hlt);have HV:=Hd (show(l.take (k+1)).foldl (fun a x=>a*2^width+x) V=(l.take k).foldl (fun a x=>a*2^width+x) V*2^width+l[k] by rw[qQ hlt,yr];rfl);generalize l[k]=x at *;generalize (l.take k).foldl (fun a x=>a*2^width+x) V=Vk at *;have Aj:=hW.st.add width x A8;have Al:=Aj.lt
   have Ba:n1*2^width+x<18446744073709551616:=qF Al (qt (zf (by omega) (show c1+width<=64 by omega)) (by decide))
   have Bt:IntKind.u64.wrap (x:Int)=(x:Int):=by rw[wrap_u64];have:=zf (n:=2) (by omega) hw;have e:(2:Nat)^16=65536:=(by decide);omega
   have Aw:=Hd (da5 b 171 n1 c1 width x Be wr hW.box A8 Ba (by omega) (by omega));have Ar:=Hd Aj;have HW:=Hd hW;have HK:=Hd hK;have Aq:=Hd hL;clear hW hK hL Aj Al Ba A8;go_wp2_with (fail);go_at_call 165;refine Aw.out.mono ?_;rintro e w2 ⟨rfl,Bg,Ay⟩;have Bf:Wtr N b h0 (Vk*2^width+x) (B+k*width+width) o1 (n1*2^width+x) (c1+width) Be w2:=⟨Bg,oo2 HW.out.own HW.out.ne Ay,HW.out.ne,Ar.out⟩
   have Bb:=HK.out.one Ay;have Ax:=Hd Bf;have Bn:=Hd Bb;clear Bg Ay Bf Bb Ap;go_wp2_with (fail);obtain⟨wa,Bm⟩:=Xq w2
   subst Bm;obtain⟨V2,Bc⟩:=Xq (Vk*2^width+x)
   rw[<-Bc]at HV Ax;obtain⟨B2,A3⟩:=Xq (B+k*width+width)
   rw[<-A3]at Ax;have Bh:=Hd A3;clear Bc A3;go_loopw [25] (fun _ wr=>∃(o':List UInt8) (n' c':Nat) (vo':Value),Wtr N b h0 V2 B2 o' n' c' vo' wr/\c'<=23/\Kp b vo.ownBlock w wr/\Loc vo.ownBlock w vo') (fun _ wr=>cnt b wr)
   case atStart=>exact⟨_,_,_,_,Ax.out,by have:=A9.out;omega,Bn.out,Aq.out⟩
   case round=>
    obtain⟨o2,n2,c2,Bu,hW,Bs,hK,hL⟩:=hrel;obtain⟨a2,Az,rfl⟩:=bs3 hW.own;obtain⟨⟨x0,x1,x2⟩,⟨z0,z1,z2⟩,hb⟩:=Dg.cells hW.box;have HW:=Hd hW;have HK:=Hd hK;have Aq:=Hd hL;have As:cnt b wr=c2:=by unfold cnt;rw[x1];rfl
    have A6:=Hd As;clear hW hK hL As;by_cases h8:8<=c2
    ·obtain⟨m,rfl⟩:∃m,c2=m+8:=⟨c2-8,by omega⟩
     have Bj:(8:Int)<=((m+8:Nat):Int):=by omega
     have Ao:n2<18446744073709551616:=qF HW.out.st.lt (qt (zf (by omega) (show m+8<=64 by omega)) (by decide));have HT:=Hd (fun W (h:Dg b 171 n2 (m+8) (.slice a2 (o2.length+1) Az) W)=>da4 b 171 n2 m 8 _ W h Ao (by omega));obtain⟨A2,hq⟩:=HW.out.st.take (show 8<=m+8 by omega);rw[yx]at A2 hq;have Ar:=Hd A2;obtain⟨q,A7⟩:=Xq (n2/2^m)
     obtain⟨r,hr⟩:=Xq (n2%2^m)
     rw[<-A7]at Ar hq;rw[<-hr]at Ar;rw[<-A7,<-hr]at HT;have Bw:IntKind.u8.wrap (q:Int)=(q:Int):=by unfold IntKind.wrap;simp[IntKind.bits,IntKind.signed];omega
     have Af:=Hd (show o2.length<=2000000 by
      have h1:=HW.out.st.len;have h2:=Bh.out;have h3:k*width<=1000*16:=yh (by omega) hw
      omega)
     clear A2 Ao A7 hr;go_wp2_with (fail);refine FlowO.wp_region [0,1,2,3,5,6,7] 8 rfl (by kernel_rfl) ?_
     iterate 7 (refine⟨_,_,rfl,rfl,(fun w=>by go_simp;try rfl),?_⟩)
     intro w1 Am Br;have Ai:Dg b 171 n2 (m+8) (.slice a2 (o2.length+1) Az) w1:=(Am.block _ hb).trans HW.out.box;have Ah:=ob2 HW.out.own Am;have Bi:=Hd (HK.out.one (OneB.of (b:=b) Am));have A5:=Hd (show wr.heap.size<=w1.heap.size from Am.size);clear x0 x1 x2 z0 z1 z2 hb Am Br;obtain⟨⟨d0,d1,d2⟩,⟨y0,y1,y2⟩,hb⟩:=Dg.cells Ai;have H1:=Hd Ai;clear Ai;refine FlowO.two 4 8 (by kernel_rfl) rfl rfl ?_ ?_
     go_wp2_with (fail);refine⟨rfl,FlowO.seq [8,9,10,11,12,13,14] (by kernel_rfl) (by kernel_rfl) ?_⟩;simp only[FlowP.pick,zp,jg,qM,qV,qL,qY,zZ,qk,qr];go_wp2_with (fail);go_at_call 166;refine((HT.out _ H1.out).mono ?_);rintro e w3 ⟨rfl,Ac,Ad⟩;have Ab:=oo2 Ah HW.out.ne Ad;have Ak:=Hd (Bi.out.one Ad);obtain⟨⟨e0,e1,e2⟩,⟨t0,t1,t2⟩,A0⟩:=Dg.cells Ac;have Au:=Hd Ac;have At:=Hd Ab;clear Ac Ad Ab d0 d1
     go_wp2_with (at_builtin;refine jT _ rfl _ _ 86 rfl N 5 i0 (.int .u8 0) 1 1 Tryz.underlying86 hi Av A4 A1 rfl (by decide) _ _ _ rfl (At.out.alloc _) ⟨w3.heap.size,0,none⟩ 1 1 [.int .u8 q] rfl rfl (zh _ _ _) (by simp[Value.oneCell']) (by have:=Af.out;unfold maxLen;omega) (by have:=Af.out;omega) (by have:=A5.out;have:=Ak.out.size;simp;omega) ?_);rotate_left
     go_wp2_with (fail);go_at_call 166;refine((HT.out _ H1.out).mono ?_);rintro e w3 ⟨rfl,Ac,Ad⟩;have Ab:=oo2 Ah HW.out.ne Ad;have Ak:=Hd (Bi.out.one Ad);obtain⟨⟨e0,e1,e2⟩,⟨t0,t1,t2⟩,A0⟩:=Dg.cells Ac;have Au:=Hd Ac;have At:=Hd Ab;clear Ac Ad Ab d0 d1;go_wp2_with (fail);refine⟨rfl,FlowO.pu [9] 6 (by kernel_rfl) ?_⟩
     iterate 1 (refine⟨_,_,rfl,rfl,(fun w=>by go_simp;try rfl),?_⟩)
     refine FlowO.two 4 10 (by kernel_rfl) rfl rfl ?_ ?_;go_wp2_with (fail);refine⟨rfl,FlowO.seq [10,11,12,13,14] (by kernel_rfl) (by kernel_rfl) ?_⟩;simp only[FlowP.pick,zp,jg,qM,qV,qL,qY,zZ,qk,qr]
     go_wp2_with (at_builtin;refine jT _ rfl _ _ 86 rfl N 5 i0 (.int .u8 0) 1 1 Tryz.underlying86 hi Av A4 A1 rfl (by decide) _ _ _ rfl (At.out.alloc _) ⟨w3.heap.size,0,none⟩ 1 1 [.int .u8 q] rfl rfl (zh _ _ _) (by simp[Value.oneCell']) (by have:=Af.out;unfold maxLen;omega) (by have:=Af.out;omega) (by have:=A5.out;have:=Ak.out.size;simp;omega) ?_);rotate_left
     go_wp2_with (fail);refine⟨rfl,FlowO.seq [4,11,12,13,14] (by kernel_rfl) (by kernel_rfl) ?_⟩;simp only[FlowP.pick,zp,jg,qM,qV,qL,qY,zZ,qk,qr]
     go_wp2_with (at_builtin;refine jT _ rfl _ _ 86 rfl N 5 i0 (.int .u8 0) 1 1 Tryz.underlying86 hi Av A4 A1 rfl (by decide) _ _ _ rfl (At.out.alloc _) ⟨w3.heap.size,0,none⟩ 1 1 [.int .u8 q] rfl rfl (zh _ _ _) (by simp[Value.oneCell']) (by have:=Af.out;unfold maxLen;omega) (by have:=Af.out;omega) (by have:=A5.out;have:=Ak.out.size;simp;omega) ?_)
     all_goals
      intro v' w4 Ae Aa _ Ag;have Bo:((UInt8.ofNat q).toNat:Int)=(q:Int):=by rw[zP];omega
      rw[<-Bo]at Ae;have Bd:=Hd (Wtr.app HW.out.ne Au.out Ar.out Ae Aa Ag);have Bk:=Hd (Kp.app (v':=v') Ak.out Aq.out Aa);have Bq:=Hd (Loc.app Ak.out Aq.out Ag);have An:Dg b 171 r m (.slice a2 (o2.length+1) Az) w4:=(Aa.block b (by simp;omega) (fun e=>HW.out.ne e.symm)).trans ((zu w3 _ b A0).trans Au.out);clear Aa Ag d2 y0 y1 y2 hb e0 e1 e2 t0 t1 t2 A0;obtain⟨a4,Bv,rfl⟩:=bs3 Ae
      obtain⟨⟨d0,d1,d2⟩,⟨y0,y1,y2⟩,hb⟩:=Dg.cells An;clear Ae An;go_wp2_with (fail);refine⟨rfl,?_⟩;go_roundw
      case rel=>exact⟨_,_,_,_,_,_,_,_,_,_,_,_,_,_,_,_,_,_,_,_,⟨_,_,_,_,Bd.out,by omega,Bk.out,Bq.out⟩,rfl⟩
      case measure=>have h1:cnt b _=m:=(by unfold cnt;rw[(Dg.cells Bd.out.box).1.2.1];rfl);rw[h1,A6.out];omega
    ·have Bj:¬(8:Int)<=(c2:Int):=by omega
     go_wp2;go_roundw
     case rel=>exact⟨k+1,o2,n2,c2,_,by omega,by go_num,by rw[HV.out,qAs,<-jq,<-Bh.out];exact HW.out,by omega,HK.out,Aq.out⟩
     case measure=>simp[intOf];omega
  ·have Bl:¬(k:Int)<(l.length:Int):=by omega
   obtain rfl:k=l.length:=by omega
   rw[jy]at hW;go_wp2;go_end0;exact⟨rfl,_,_,_,_,hW,Bp,hK,hL⟩
