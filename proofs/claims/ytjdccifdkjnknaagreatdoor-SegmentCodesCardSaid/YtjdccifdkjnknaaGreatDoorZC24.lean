/- Joined. -/
import Derived.Test.YtjdccifdkjnknaaGreatDoorZC23
import Derived.Test.YtjdccifdkjnknaaGreatDoorZC06
set_option maxRecDepth 100000
set_option maxHeartbeats 4000000
namespace Go.Proofs.Q9
open Go.RowKit Go.Sort
theorem Wtr.fin{N b V B n c:Nat}{h0:UInt8}{o:List UInt8}{vo:Value}{w:World}(h:Wtr N b h0 V B o n c vo w)(hc:c<8)(hB:B%8=0):o=Tess.bytesBE (B/8) V:=by
 have h1:=h.st;have h2:=h1.len;have h0:c=0:=by omega
 subst h0;have h3:=h1.zero;subst h3;exact h1.done
theorem Wtr.alloc{N b V B n c:Nat}{h0:UInt8}{o:List UInt8}{vo:Value}{w:World}(h:Wtr N b h0 V B o n c vo w)(ob:Obj):Wtr N b h0 V B o n c vo (w.alloc ob):=
 ⟨(zu w ob b (Dg.cells h.box).2.2).trans h.box,h.own.alloc _,h.ne,h.st⟩
theorem pp2(l:List Nat)(wd d:Nat)(hd:d<8)(h8:(l.length*wd+d)%8=0):Tess.bytesBE ((l.length*wd+d)/8) (Tess.fV wd l*2^d)=Tess.bytesBE (Tess.sP l.length wd) (Tess.fV wd l*2^(8*Tess.sP l.length wd-l.length*wd)):=by
 have e:8*Tess.sP l.length wd=l.length*wd+d:=by unfold Tess.sP;omega
 rw[show(l.length*wd+d)/8=Tess.sP l.length wd by omega,show 8*Tess.sP l.length wd-l.length*wd=d by omega]
theorem pa9(a:Option Addr)(cap:Nat)(l:List Nat)(w:World)(hv:SlOf w (.slice a l.length cap) (l.map fun n=>.int .i64 (n:Nat)))(hcap:l.length<=cap)(hl:∀x∈l,x<=65535)(hll:l.length<=1000) :
  Calls Tryz.prog 71 #[.slice a l.length cap] w fun e w'=>e = .returned (.tuple #[.string (Tess.mk (Tess.pN2 l)),.int .i64 0])/\Below w.heap.size w w':=by
 have Ba:=Hd (wa2 a cap l w hv hcap hl hll);obtain⟨a',Bg,e,Bi,hc⟩:=so3 _ hv;cases e
 have HC:=Hd hc;have Ag:=Tess.wNl l hl;have A8:=Hd (Tess.wNl2 l);obtain⟨wd,Ax⟩:=Xq (Tess.widN l)
 rw[<-Ax]at Ag Ba A8;have Bm:=Hd Ax;have h8:IntKind.u8.wrap (wd:Int)=(wd:Int):=by unfold IntKind.wrap;simp[IntKind.bits,IntKind.signed];omega
 clear hc hv Ax;go_enter Tryz.func71,Tryz.ntmps71;go_wp2_with (fail);go_at_call 122;refine Ba.out.mono ?_;rintro e w1 ⟨rfl,Af⟩;obtain⟨w2,As⟩:=XQ (w1.alloc (.cells #[.int .u8 wd] 5))
 obtain⟨w3,Aq⟩:=XQ (w2.alloc (.cells #[.int .u64 0,.int .i64 0,.slice (some ⟨w1.heap.size,0,none⟩) 1 1] 171))
 have Bk:w2.heap.size=w1.heap.size+1:=by rw[<-As];simp
 have Ao:w3.ownsRow w.heap.size 5 1 (.slice (some ⟨w1.heap.size,0,none⟩) 1 1) (0+1) (Lib.byteCells [UInt8.ofNat wd]):=by have h:=(World.ownsRow_lit (base:=w.heap.size) (e:=5) (size:=1) w1 #[.int .u8 wd] 1 Af.size (by unfold maxLen;omega) rfl).alloc (.cells #[.int .u64 0,.int .i64 0,.slice (some ⟨w1.heap.size,0,none⟩) 1 1] 171);rw[As,Aq]at h;rw[show Lib.byteCells [UInt8.ofNat wd]=[.int .u8 wd] by simp[Lib.byteCells];omega];exact h
 have A0:Wtr w.heap.size w2.heap.size (UInt8.ofNat wd) 0 0 [] 0 0 (.slice (some ⟨w1.heap.size,0,none⟩) 1 1) w3:=
  ⟨by rw[<-Aq];exact zS w2 _,Ao,by simp[Value.ownBlock];omega,Tess.WSt.none⟩
 have Ak:Below w.heap.size w w3:=by rw[<-Aq,<-As];exact(Af.alloc Af.size _).alloc (by have:=Af.size;simp;omega) _
 have A7:=Hd Ak;have Av:=Hd (show w.heap.size<=w2.heap.size by have:=Af.size;omega);have A5:=Hd (show w.heap.size<=w1.heap.size from Af.size)
 have Aa:=wa3 w.heap.size w2.heap.size wd 0 0 (UInt8.ofNat wd) [] 0 0 _ l a cap w3 A0 (by omega) Ag A8.out hll (by omega) Ak.size (fun W hK k hk=>by
  obtain⟨bb,A3,h1,h2,h3⟩:=HC.out w (qJ _ _) k hk;refine⟨bb,A3,h1,?_⟩;have Bs:=Ak.size;have Br:=Av.out;have h4:=hK.block bb (by omega) (by omega) (by simp[Value.ownBlock];have:=A5.out;omega);rw[jz h4]
  exact(Ak.cell (p:=⟨bb,A3+k,none⟩) h2).trans h3)
 rw[qj]at Aa;have Ay:=Hd Aa;clear Aa A0 Ao Ak Af Bk;go_wp2_with (fail);go_at_call 123;refine Ay.out.mono ?_;rintro e w4 ⟨rfl,o4,n4,c4,Bu,At,A2,A1,Bv⟩;have A6:=A7.out.trans (A1.below Av.out A7.out.size (fun g e=>by cases e;exact A5.out));obtain⟨a4,Bh,rfl⟩:=bs3 At.own;obtain⟨⟨x0,x1,x2⟩,⟨z0,z1,z2⟩,hb⟩:=Dg.cells At.box;have Ac:=Hd At;have Al:=Hd A6;clear At A1 A6 As Aq
 have Bd:l.length*wd<=16000:=qt (yh hll Ag) (by decide);have Bb:=Hd Bd;clear Bd;rcases jI c4 with h0|h0
 have Be:¬(0:Int)<(c4:Int):=by omega
 have Ap:=Ac.out.st.len;have hp:=pp2 l wd 0 (by omega) (by omega);rw[Nat.pow_zero,yY]at hp;have HE:=Hd ((Ac.out.fin A2 (by omega)).trans hp);clear hp;clear Ap;go_wp2_with (fail);obtain⟨W,rfl⟩:=Xq w4
 obtain⟨ol,rfl⟩:=Xq o4
 obtain⟨aw,rfl⟩:=Xq a4
 obtain⟨cw,rfl⟩:=Xq Bh
 have HO:=Hd Ac.out.own;have Az:=Hd Ac.out.box;have HB:=Hd Al.out;rotate_left
 obtain⟨d,hd⟩:∃d,c4+d=8:=⟨8-c4,by omega⟩
 have Be:(0:Int)<(c4:Int):=by omega
 have Aw:(8:Int)-(c4:Int)=(d:Int):=by omega
 have A4:=Ac.out.alloc (.cells #[.int .i64 0] 3)
 have Aa:=wa3 w.heap.size w2.heap.size d _ _ _ _ _ _ _ [0] (some ⟨w4.heap.size,0,none⟩) 1 _ A4 A2 (by omega) (fun x hx=>by rw[zJ.1 hx];exact jh _) (by simp) (by have:=Bb.out;omega) (by have:=Al.out.size;simp;omega) (fun W hK k hk=>by
  have Bj:k=0:=by simpa using hk
  subst Bj;refine⟨_,_,rfl,?_⟩
  have h4:=hK.block w4.heap.size (by simp) (by omega) (fun e=>by
   have:=(Ac.out.own.lt _ e).2
   omega)
  rw[jz h4,qT _ _ _ _ _ _ (zS w4 _)]
  rfl)
 simp only[qU,zE,qj,ya,jJ,List.foldl_nil,yD]at Aa;have An:=Hd Aa;have Ad:=Hd Ac.out.st.len;clear Aa A4;go_wp2_with (fail);go_at_call 123;rw[Aw];refine An.out.mono ?_;rintro e W ⟨rfl,ol,n6,c6,Bt,Aj,Bc,A9,Bn⟩;have hp:=pp2 l wd d (by omega) (by have:=Ad.out;omega);have hf:=Aj.fin Bc (by have:=Ad.out;omega);have HE:=Hd ((show ol=Tess.bytesBE ((l.length*wd+d)/8) (Tess.fV wd l*2^d) by exact hf).trans hp)
 clear hp hf;have HB:=Hd (Al.out.trans ((qJ w4.heap.size w4).alloc (qC _) (.cells #[.int .i64 0] 3) |>.mono Al.out.size) |>.trans (A9.below Av.out (by have:=Al.out.size;simp;omega) (fun g e=>(Ac.out.own.lt g e).1)));obtain⟨aw,cw,rfl⟩:=bs3 Aj.own;have HO:=Hd Aj.own;have Az:=Hd Aj.box;clear Aj Bc A9 Bn x0 x1 x2 z0 z1 z2 hb;obtain⟨⟨x0,x1,x2⟩,⟨z0,z1,z2⟩,hb⟩:=Dg.cells Az.out;go_wp2_with (fail)
 rotate_left
 all_goals
  obtain⟨X,hX⟩:=XQ ((⟨(UInt8.ofNat wd::ol).toArray⟩:ByteArray))
  have Bo:X.size<=5000:=by
   have h1:=HE.out;have h2:=zM List.length h1;rw[Tess.bBl]at h2;have h3:Tess.sP l.length wd<=2001:=by unfold Tess.sP;have:=Bb.out;omega
   rw[<-hX];show(UInt8.ofNat wd::ol).toArray.size<=5000;simp;omega
  have Bf:(Tess.putW l.length).size<=10:=by show(Tess.putL l.length).toArray.size<=10;have:=Tess.pLt (n:=l.length) (by omega);simpa using this
  have Bl:(Tess.putW l.length).size+X.size<=9223372036854775807:=by omega
  have Ah:=Hd (show Tess.mk (Tess.pN2 l)=Tess.putW l.length++X by
   unfold Tess.pN2;rw[<-Bm.out,<-HE.out,<-hX]
   exact(Tess.ma2 _ _).symm)
  have Bq:IntKind.u64.wrap (l.length:Int)=(l.length:Int):=by rw[wrap_u64];omega
  clear Bo Bf;refine FlowO.wp_region [0,1,2,4,5,6] 6 rfl (by kernel_rfl) ?_
  iterate 6 (refine⟨_,_,rfl,rfl,(fun w=>by go_simp;try rfl),?_⟩)
  intro w7 Ar Bp;have Am:Dg w2.heap.size 171 _ _ _ w7:=(Ar.block _ hb).trans Az.out;have Au:=Hd (ob2 HO.out Ar);have Ai:=Hd (HB.out.trans (Ar.mono HB.out.size));clear x0 x1 x2 z0 z1 z2 hb Ar Bp;obtain⟨⟨x0,x1,x2⟩,⟨z0,z1,z2⟩,hb⟩:=Dg.cells Am;clear Am;refine FlowO.two 3 7 (by kernel_rfl) rfl rfl ?_ ?_
  ·go_wp2_with (go_at_call 42;refine(dpa l.length _ (by omega)).mono ?_;rintro e w9 ⟨rfl,Ab⟩;have Ae:=Hd Ab;have q2:=(Ab.cell (p:=⟨w2.heap.size,2,none⟩) hb).trans x2;clear Ab);refine⟨rfl,FlowO.seq [7,8,9,10,11] (by kernel_rfl) (by kernel_rfl) ?_⟩;simp only[FlowP.pick,zp,jg,qM,qV,qL,qY,zZ,qk,qr]
   go_wp2_with (with_reducible refine ac2 86 9 ?_;refine wLb _ _ 5 _ rfl Tryz.underlying86 Tryz.underlying5 Tryz.underlying9 (.slice aw (ol.length+1) cw) (ol.length+1) w.heap.size rfl (UInt8.ofNat wd::ol) (ob2 Au.out Ae.out) ?_;rw[hX]);refine⟨rfl,?_⟩;go_wp2_with (fail);go_ret2;exact⟨by rw[Ah.out];rfl,Ai.out.trans (Ae.out.mono Ai.out.size)⟩
  ·go_wp2_with (fail);refine⟨rfl,FlowO.two 3 8 (by kernel_rfl) rfl rfl ?_ ?_⟩
   ·go_wp2_with (go_at_call 42;refine(dpa l.length _ (by omega)).mono ?_;rintro e w9 ⟨rfl,Ab⟩;have Ae:=Hd Ab;have q2:=(Ab.cell (p:=⟨w2.heap.size,2,none⟩) hb).trans x2;clear Ab);refine⟨rfl,FlowO.seq [8,9,10,11] (by kernel_rfl) (by kernel_rfl) ?_⟩;simp only[FlowP.pick,zp,jg,qM,qV,qL,qY,zZ,qk,qr]
    go_wp2_with (with_reducible refine ac2 86 9 ?_;refine wLb _ _ 5 _ rfl Tryz.underlying86 Tryz.underlying5 Tryz.underlying9 (.slice aw (ol.length+1) cw) (ol.length+1) w.heap.size rfl (UInt8.ofNat wd::ol) (ob2 Au.out Ae.out) ?_;rw[hX]);refine⟨rfl,?_⟩;go_wp2_with (fail);go_ret2;exact⟨by rw[Ah.out];rfl,Ai.out.trans (Ae.out.mono Ai.out.size)⟩
   ·refine wLb _ _ 5 _ rfl Tryz.underlying86 Tryz.underlying5 Tryz.underlying9 (.slice aw (ol.length+1) cw) (ol.length+1) w.heap.size rfl (UInt8.ofNat wd::ol) Au.out ?_;rw[hX];go_wp2_with (fail);refine⟨rfl,FlowO.seq [3,9,10,11] (by kernel_rfl) (by kernel_rfl) ?_⟩;simp only[FlowP.pick,zp,jg,qM,qV,qL,qY,zZ,qk,qr]
    go_wp2_with (go_at_call 42;refine(dpa l.length _ (by omega)).mono ?_;rintro e w9 ⟨rfl,Ab⟩;have Ae:=Hd Ab;have q2:=(Ab.cell (p:=⟨w2.heap.size,2,none⟩) hb).trans x2;clear Ab);refine⟨rfl,?_⟩;go_wp2_with (fail);go_ret2;exact⟨by rw[Ah.out];rfl,Ai.out.trans (Ae.out.mono Ai.out.size)⟩
end Go.Proofs.Q9
namespace Tess
open Go Go.RowKit Go.Proofs.Q9
def cS3(D M:Nat)(C:List (CK×Pay)):List (List UInt8):=colT C::((List.range D).map (colD C)++(List.range M).map (colM C))
theorem df(C:List (CK×Pay))(i:Nat)(hC:C.length<=1000)(hw:∀y∈dW C i,y.size<=100):right (dO2 C i)=true/\∀n∈iO2 C i (dO2 C i),n<=65535:=by
 obtain⟨d,hd⟩:=XQ (dO2 C i)
 have Aa:∀b,b∈d↔b∈dW C i:=fun b=>by rw[<-hd];exact sWa _ b
 have Ac:d.length<=1000:=by rw[<-hd];have h1:=sWf (dW C i);have h2:(dW C i).length<=C.length:=je _ _;unfold dO2;omega
 have Ab:Asc d:=by rw[<-hd];exact ua3 (sWu _)
 rw[hd];refine⟨ro5 d Ac (fun y hy=>hw y ((Aa y).1 hy)) Ab,fun n hn=>?_⟩;unfold iO2 at hn;obtain⟨x,hx,rfl⟩:=qd.1 hn;cases hv:x.1.2.getD i none with
 |none=>unfold idOf;simp only;omega
 |some b=>
   obtain⟨j,hj,e⟩:=zq ((Aa b).2 (qBb.2 ⟨x,hx,hv⟩));have e2:=pm5 d Ab j hj;rw[e]at e2;unfold idOf;simp only;omega
end Tess
namespace Go.Proofs.Q9
open Go.RowKit Go.Sort
open Tess (CK Pay)
attribute [local go_sem] jK
def IS2(gf:FuncId)(lb:Array Value)(m:Nat)(vs:List (Array Value))(q:Nat->Prop)(W0:World):Prop:=
 ∀(l:Nat) (fn0:FuncId) (T:Array Value->Array Value) (A B:Code) (Inv:Nat->World->Prop),
   (∀k W W',Inv k W->Below W.heap.size W W'->Inv k W')->(∀k W,Inv k W->l<W.heap.size/\Ag q W0 W) ->
   (∀k W,Inv k W->∀z:Array Value,z.size=m->(Instr.yield l z).run Tryz.prog W = .ok (.round l fn0 (T z) A B) W) ->
   (∀k W (hk:k<vs.length),Inv k W->RoundIn Fence.wide 5 Tryz.prog l fn0 (T vs[k]) A B W (fun e W'=>e = .returned (.bool true)/\Inv (k+1) W')) ->
   ∀W,Inv 0 W->Calls Tryz.prog gf (#[.func (.yield l) #[] #[]]++lb) W fun e W'=>(∃v,e = .returned v)/\Inv vs.length W'
theorem ci2(b D M:Nat)(ad am:Option Addr)(capd capm:Nat)(g:Int)(vl:Value)(C:List (CK×Pay))(p q:Nat->Prop)(hpq:∀c,p c->q c)(W0:World)
  (h0:W0.heap[b]?=some (.cells #[.slice ad D capd,.slice am M capm,.int .i64 g] 24 (0,0))) (h1:W0.cell? ⟨b+1,0,none⟩=some vl) (hb0:q b) (hb1:q (b+1)) (hv:CA2 p W0 vl C) (hC:C.length<=1000)
  (hD:D<=6) (hM:M<=4) (hdl:∀x∈C,x.1.2.length=D) (hw:∀i,∀y∈Tess.dW C i,y.size<=100) (hfew:∀i,(Tess.colD C i).length<=1000000000)
  (hml:∀x∈C,x.2.sums.length=M/\x.2.mins.length=M/\x.2.maxs.length=M) (h3:∀m,m<M->∀x∈C,I64 (wHi (x.2.sums.getD m 0))) (h5:∀m,m<M->∀x∈C,I64 (x.2.mins.getD m 0)) (h6:∀m,m<M->∀x∈C,I64 (x.2.maxs.getD m 0))
  (ht:∀x∈C,I64 x.1.1) (hn:∀x∈C,I64 x.2.n) :
  IS2 65 #[.pointer (some ⟨b+1,0,none⟩),.pointer (some ⟨b,0,none⟩)] 1 ((Tess.cS3 D M C).map fun x=>#[.string (Tess.mk x)]) q W0:=by
 intro l Bx T A B Aj A1 Bg hy hr W hI;have HI:=Hd hI;have Aa:=Hd A1;have Ap:=Hd Bg;have HY:=Hd hy;have HR:=Hd hr;have HV:=Hd (fun k X (h:Aj k X)=>hv.ag ((Ap.out k X h).2.weak hpq));have Ah:=(qA.1 h0).1;have Ab:=qK W0 _ h1;have Al:=Hd (fun k X (h:Aj k X)=>((Ap.out k X h).2.cell Ab hb1).trans h1);have Bb:=Hd (fun k X (h:Aj k X)=>((Ap.out k X h).2.2 b Ah hb0).trans h0);have HT:=Hd ht;have HN:=Hd hn
 have Bn:=Hd hdl;have Bq:=Hd hml;have H3:=Hd h3;have H5:=Hd h5;have H6:=Hd h6;have Bf:=Hd hw;have Ar:=Hd hfew;obtain⟨a,By,rfl,_⟩:=hv.opened;clear hI A1 Bg hy hr hv ht hn h0 h1 hdl hw hfew hml h3 h5 h6;have c1:=Al.out 0 W HI.out;obtain⟨W1,Bw⟩:=XQ (W.alloc (.cells #[.func (.func 67) #[] #[],.func (.func 68) #[] #[]] 117))
 obtain⟨k1,A5,Av⟩:=la2 W (.cells #[.func (.func 67) #[] #[],.func (.func 68) #[] #[]] 117);rw[Bw]at k1 A5 Av;have A7:=Hd (Aa.out 0 W W1 HI.out Av);have Bs:=Hd (cTa p _ C W.heap.size 2 _ W1 (HV.out 0 W1 A7.out) hC k1 HT.out HN.out);clear k1 A5 Av;refine(qZ (n:=5)).1 ?_;refine yg Tryz.func65 rfl trivial ?_ rfl;simp only[Tryz.ntmps65,qu,qU,zE,Nat.reduceAdd,Nat.reduceSub,qv,qw,zO,zC,qr,qk]
 gi_wp2_with (refine⟨trivial,?_⟩;gi_at_call 66;refine(qZ.2 Bs.out).mono ?_;rintro e w2 ⟨rfl,A8⟩;have Ad:=Hd (Aa.out 0 W1 w2 A7.out A8);have Af:=HY.out 0 w2 Ad.out #[.string (Tess.mk (Tess.colT C))] rfl;clear A8);have A0:=Hd (HR.out 0 w2 (by simp[Tess.cS3]) Ad.out);refine rIa (A0.out.mono ?_);clear Af A0;rintro e w3 ⟨rfl,hinv⟩;have Ak:=Hd hinv;clear hinv;have c0:=qT _ _ 0 _ _ _ (Bb.out 1 w3 Ak.out)
 simp at c0;gi_wp2;gi_loopw [20] (fun i wr=>∃k:Nat,k<=D/\i = .int .i64 k/\Aj (1+k) wr) (fun i _=>D-(intOf i).toNat)
 case atStart=>exact⟨0,qN _,rfl,Ak.out⟩
 case round=>
  obtain⟨k,hk,rfl,hI⟩:=hrel;have HJ:=Hd hI;clear hI c0 c1;by_cases hlt:k<D
  ·have Bj:(k:Int)<(D:Int):=by omega
   have c1:=Al.out _ wr HJ.out;obtain⟨At,Ag⟩:=Tess.df C k hC (Bf.out k);have Bk:=Hd At;have Aw:=Hd Ag;have Ay:∀x∈C,k<x.1.2.length:=fun x hx=>by rw[Bn.out x hx];exact hlt
   have A9:=Hd Ay;have Az:=Hd (show Tess.mk (Tess.encL (Tess.dO2 C k))++Tess.mk (Tess.pN2 (Tess.iO2 C k (Tess.dO2 C k)))=Tess.mk (Tess.colD C k)from Tess.ma2 _ _);have hf:=Ar.out k
   have Bo:(Tess.mk (Tess.encL (Tess.dO2 C k))).size+(Tess.mk (Tess.pN2 (Tess.iO2 C k (Tess.dO2 C k)))).size<=9223372036854775807:=by rw[<-yJ,Az.out,Tess.ms2];omega
   have Bv:=Hd (show Tess.encW (Tess.dO2 C k)=(Tess.mk (Tess.encL (Tess.dO2 C k)),0) by unfold Tess.encW;rw[qR At];rfl);clear At Ag Ay hf
   gi_wp2_with (first
    |(refine⟨trivial,?_⟩;gi_at_call 69;refine(qZ.2 (wa4 p _ C k wr (HV.out _ wr HJ.out) A9.out hC (Bf.out k))).mono ?_;rintro e w4 ⟨v,rfl,An,Ae⟩;obtain⟨av,cv,rfl,_⟩:=so2 An;have A6:=Hd An;have Bm:=Hd (Aa.out _ _ w4 HJ.out Ae);clear An Ae)
    |(refine⟨trivial,?_⟩;gi_at_call 70;refine(qZ.2 (ea2 _ _ _ A6.out)).mono ?_;rintro e w5 ⟨rfl,Au⟩;rw[Bv.out];have Bu:=Hd (A6.out.below Au);have Aq:=Hd (Aa.out _ _ w5 Bm.out Au);have c5:=Al.out _ w5 Aq.out;clear Au)
    |(refine⟨trivial,?_⟩;gi_at_call 72;refine(qZ.2 (ia2 p _ _ C _ k w5 (HV.out _ w5 Aq.out) Bu.out Bk.out A9.out hC)).mono ?_;rintro e w6 ⟨a6,c6,rfl,Ac,As,A3⟩;have Bz:=Hd As;have Bt:=Hd (Aa.out _ _ w6 Aq.out A3);have Be:=Hd (pa9 a6 c6 (Tess.iO2 C k (Tess.dO2 C k)) w6 (by rw[Tess.iOl];exact As) (by rw[Tess.iOl];exact Ac) Aw.out (by rw[Tess.iOl];exact hC));rw[Tess.iOl]at Be;clear As A3)
    |(refine⟨trivial,?_⟩;gi_at_call 71;refine(qZ.2 Be.out).mono ?_;rintro e w7 ⟨rfl,Bh⟩;have Bc:=Hd (Aa.out _ _ w7 Bt.out Bh);have Af:=HY.out _ w7 Bc.out #[.string (Tess.mk (Tess.encL (Tess.dO2 C k))++Tess.mk (Tess.pN2 (Tess.iO2 C k (Tess.dO2 C k))))] rfl;clear Bh))
   rw[Az.out];have hR:=HR.out (1+k) w7 (by simp[Tess.cS3];omega) Bc.out
   have Ai:((Tess.cS3 D M C).map fun x=>#[Value.string (Tess.mk x)])[1+k]'(by simp[Tess.cS3];omega)=#[.string (Tess.mk (Tess.colD C k))]:=by rw[zL];unfold Tess.cS3;simp only[yO 1 k,zR];rw[xE (by simpa using hlt),zL,yU]
   rw[Ai]at hR;refine rIa (hR.mono ?_);clear hR Af Ai c5 c1;rintro e w8 ⟨rfl,hinv⟩;have Ax:=Hd hinv;clear hinv;gi_wp2;go_roundw
   case rel=>exact⟨k+1,by omega,by go_num,Ax.out⟩
   case measure=>simp[intOf];omega
  ·have Bj:¬(k:Int)<(D:Int):=by omega
   obtain rfl:k=D:=by omega
   have c2:=qT _ _ 1 _ _ _ (Bb.out _ wr HJ.out);simp at c2;gi_wp2;gi_loopw [49] (fun i wr=>∃m:Nat,m<=M/\i = .int .i64 m/\Aj (1+k+m) wr) (fun i _=>M-(intOf i).toNat)
   case atStart=>exact⟨0,qN _,rfl,HJ.out⟩
   case round=>
    clear c2;obtain⟨m,hm,rfl,hI⟩:=hrel;have HJ:=Hd hI;clear hI;by_cases hlm:m<M
    ·have Br:(m:Int)<(M:Int):=by omega
     obtain⟨W2,Bp⟩:=XQ (wr.alloc (.cells #[.int .i64 (m:Int)] 3))
     obtain⟨k2,A2,Ao⟩:=la2 wr (.cells #[.int .i64 (m:Int)] 3);rw[Bp]at k2 A2 Ao;have Ad:=Hd (Aa.out _ wr W2 HJ.out Ao);have c1:=Al.out _ W2 Ad.out
     obtain⟨W3,Bi⟩:=XQ (W2.alloc (.cells #[.func (.func 73) #[] #[.pointer (some ⟨wr.heap.size,0,none⟩)],.func (.func 74) #[] #[.pointer (some ⟨wr.heap.size,0,none⟩)],.func (.func 75) #[] #[.pointer (some ⟨wr.heap.size,0,none⟩)],.func (.func 76) #[] #[.pointer (some ⟨wr.heap.size,0,none⟩)]] 117))
     obtain⟨k3,Ba,Am⟩:=la2 W2 (.cells #[.func (.func 73) #[] #[.pointer (some ⟨wr.heap.size,0,none⟩)],.func (.func 74) #[] #[.pointer (some ⟨wr.heap.size,0,none⟩)],.func (.func 75) #[] #[.pointer (some ⟨wr.heap.size,0,none⟩)],.func (.func 76) #[] #[.pointer (some ⟨wr.heap.size,0,none⟩)]] 117);rw[Bi]at k3 Ba Am;have Ak:=Hd (Aa.out _ W2 W3 Ad.out Am)
     have Bd:W3.cell? ⟨wr.heap.size,0,none⟩=some (.int .i64 (m:Int)):=(Am.cell (p:=⟨wr.heap.size,0,none⟩) (by show wr.heap.size<W2.heap.size;omega)).trans (qT _ _ 0 _ _ _ k2)
     have Bl:=Hd (cMa p _ C W2.heap.size wr.heap.size m 4 _ W3 (HV.out _ W3 Ak.out) hC k3 Bd (fun x hx=>by
      obtain⟨e1,e2,e3⟩:=Bq.out x hx
      omega) (H3.out m hlm) (H5.out m hlm) (H6.out m hlm))
     clear k2 A2 Ao k3 Ba Am Bd;gi_wp2_with (refine⟨trivial,?_⟩;gi_at_call 66;refine(qZ.2 Bl.out).mono ?_;rintro e w4 ⟨rfl,Ae⟩;have A4:=Hd (Aa.out _ W3 w4 Ak.out Ae);have Af:=HY.out _ w4 A4.out #[.string (Tess.mk (Tess.colM C m))] rfl;clear Ae);have hlen:1+k+m<((Tess.cS3 k M C).map fun x=>#[Value.string (Tess.mk x)]).length:=by simp[Tess.cS3];omega
     have hR:=HR.out (1+k+m) w4 hlen A4.out
     have Ai:((Tess.cS3 k M C).map fun x=>#[Value.string (Tess.mk x)])[1+k+m]'hlen=#[.string (Tess.mk (Tess.colM C m))]:=by rw[zL];unfold Tess.cS3;simp only[show 1+k+m=k+m+1 by omega,zR];rw[xV (by simp),zL,yU];simp
     rw[Ai]at hR;refine rIa (hR.mono ?_);clear hR Af Ai c1;rintro e w8 ⟨rfl,hinv⟩;have Ax:=Hd hinv;clear hinv;gi_wp2;go_roundw
     case rel=>exact⟨m+1,by omega,by go_num,Ax.out⟩
     case measure=>simp[intOf];omega
    ·have Br:¬(m:Int)<(M:Int):=by omega
     obtain rfl:m=M:=by omega
     gi_wp2;go_end0;refine⟨⟨_,rfl⟩,?_⟩;have e:(Tess.cS3 k m C).length=1+k+m:=by simp[Tess.cS3];omega
     rw[e];exact HJ.out
end Go.Proofs.Q9
namespace Go.Proofs.Q9
open Go.RowKit Go.Sort
def colF(g:Nat):Value:=.func (.func 65) #[] #[.pointer (some ⟨g+1,0,none⟩),.pointer (some ⟨g,0,none⟩)]
theorem ca2(vd vm:Value)(g:Int)(a:Option Addr)(n c:Nat)(w:World) :
  Calls Tryz.prog 28 #[.agg #[vd,vm,.int .i64 g],.slice a n c] w fun e w'=>e = .returned (colF w.heap.size)/\Below w.heap.size w w'/\w'.heap[w.heap.size]?=some (.cells #[vd,vm,.int .i64 g] 24 (0,0))/\w'.heap[w.heap.size+1]?=some (.cells #[.slice a n c] 28 (0,0))/\w'.heap.size=w.heap.size+2:=by
 obtain⟨k1,k2,kS,kB⟩:=la3 w (.cells #[vd,vm,.int .i64 g] 24) (.cells #[.slice a n c] 28);have K1:=Hd k1;have K2:=Hd k2;have KS:=Hd kS;have KB:=Hd kB;clear k1 k2 kS kB;go_enter Tryz.func28,Tryz.ntmps28;go_wp2;go_ret;exact⟨rfl,KB.out,K1.out,K2.out,KS.out⟩
end Go.Proofs.Q9
namespace Go.Proofs.Q9
open Go.RowKit Go.Sort
open Tess (CK Pay)
attribute [local go_sem] jK
theorem so6(p:Nat->Prop)(ad am a:Option Addr)(capd capm cap:Nat)(s:Tess.Sch)(C:List (CK×Pay))(w:World)(hs:SA p w (.agg #[.slice ad s.dims.length capd,.slice am s.mets.length capm,.int .i64 s.grain]) s)(hok:Tess.sO s=true)(hv:CA2 p w (.slice a C.length cap) C)
  (hfs:∀x∈(Tess.pS2 s C).map Tess.mk,x.size<=maxLen) (hfl:((Tess.pS2 s C).map Tess.mk).length<=1000)
  (hiter:∀W0 b,Below w.heap.size w W0->W0.heap[b]?=some (.cells #[.slice ad s.dims.length capd,.slice am s.mets.length capm,.int .i64 s.grain] 24 (0,0))->W0.heap[b+1]?=some (.cells #[.slice a C.length cap] 28 (0,0))->IS2 65 #[.pointer (some ⟨b+1,0,none⟩),.pointer (some ⟨b,0,none⟩)] 1 ((Tess.cS3 s.dims.length s.mets.length C).map fun x=>#[.string (Tess.mk x)]) (fun x=>(p x/\x<w.heap.size)∨x=b∨x=b+1) W0)
  (hr:∀W,Below w.heap.size w W->Calls Tryz.prog 17 #[(.agg #[.slice ad s.dims.length capd,.slice am s.mets.length capm,.int .i64 s.grain]),(.slice a C.length cap)] W fun e w'=>e = .returned (.bool true)/\Below W.heap.size W w') :
  Calls Tryz.prog 11 #[(.agg #[.slice ad s.dims.length capd,.slice am s.mets.length capm,.int .i64 s.grain]),(.slice a C.length cap)] w fun e w'=>e = .returned (.tuple #[.string (Tess.jP ((Tess.pS2 s C).map Tess.mk)).1,.int .i64 ((Tess.jP ((Tess.pS2 s C).map Tess.mk)).2:Nat)])/\Below w.heap.size w w':=by
 have HH:=Hd (fun(W:World) (hB:Below w.heap.size w W)=>ha4 p _ s W (hs.ag (Ag.new p hB)));have HW:=Hd (show Tess.headW s=(Tess.mk (Tess.hB14 s),0) by unfold Tess.headW;rw[hok];rfl);have HR:=Hd hr;have HV:=Hd hv;clear hr;have Cd:s.dims.length<=9223372036854775807:=by obtain⟨_,_,e,hd,_⟩:=hs;cases e;obtain⟨_,_,_,h⟩:=sl3 hd;exact h
 have Cb:s.mets.length<=9223372036854775807:=by obtain⟨_,_,e,_,hm,_⟩:=hs;cases e;obtain⟨_,_,_,h⟩:=sl3 hm;exact h
 have Aj:=Hd hiter;clear hiter hv hs;obtain⟨g,hg⟩:=Xq s.grain
 rw[<-hg]at HH HR Aj⊢;clear hg;refine(qZ (n:=5)).1 ?_;refine jL Tryz.func11 rfl trivial ?_ rfl;simp only[Tryz.ntmps11,qu,qU,zE,Nat.reduceAdd,Nat.reduceSub,qv,qw,zO,zC,qr,qk]
 gi_wp2_with (first
  |(refine⟨trivial,?_⟩;gi_at_call 18;refine(qZ.2 (HH.out _ ((qJ _ _).alloc (qC _) _))).mono ?_;rintro e w1 ⟨rfl,A1⟩;rw[HW.out];have k1:=(A1.block w.heap.size (by simp)).trans (la2 w _).1;have c0:=qT _ _ 0 _ _ _ k1;have c1:=qT _ _ 1 _ _ _ k1;have c2:=qT _ _ 2 _ _ _ k1;simp at c0 c1 c2;have K1:=Hd k1;have Ay:=Hd (((qJ _ _).alloc (qC _) _).trans (A1.mono (by simp)));clear A1 k1)
  |(refine⟨trivial,?_⟩;gi_at_call 17;refine(qZ.2 (HR.out _ Ay.out)).mono ?_;rintro e w2 ⟨rfl,A3⟩;have k2:=(A3.block w.heap.size (qA.1 K1.out).1).trans K1.out;have d0:=qT _ _ 0 _ _ _ k2;have d1:=qT _ _ 1 _ _ _ k2;have d2:=qT _ _ 2 _ _ _ k2;simp at d0 d1 d2;have Bu:=Hd k2;have A5:=Hd (Bt Ay.out A3);obtain⟨W4,Bf⟩:=XQ ((w2.alloc (.cells #[.string (Tess.mk (Tess.hB14 s))] 9)).alloc (.cells #[.slice (some ⟨w2.heap.size,0,none⟩) 1 1] 22));obtain⟨l1,l2,lS,lB⟩:=la3 w2 (.cells #[.string (Tess.mk (Tess.hB14 s))] 9) (.cells #[.slice (some ⟨w2.heap.size,0,none⟩) 1 1] 22);rw[Bf]at l1 l2 lS lB;have k4:=(lB.block w.heap.size (qA.1 k2).1).trans k2;have e0:=qT _ _ 0 _ _ _ k4;have e1:=qT _ _ 1 _ _ _ k4;have e2:=qT _ _ 2 _ _ _ k4;simp at e0 e1 e2;have L1:=Hd l1;have L2:=Hd l2;have LS:=Hd lS;have LB:=Hd (Bt A5.out lB);clear A3 k2 c0 c1 c2 K1 k4 l1 l2 lS lB)
  |(refine⟨trivial,?_⟩;gi_at_call 28;refine(qZ.2 (ca2 _ _ _ a C.length cap W4)).mono ?_;rintro e w5 ⟨rfl,Bd,m1,m2,mS⟩;have Av:=Hd Bd;have M1:=Hd m1;have M2:=Hd m2;have MS:=Hd mS;clear Bd m1 m2 mS))
 obtain⟨b,hb⟩:=Xq w2.heap.size
 have Be:=LS.out;have Bj:=MS.out;have Bw:=A5.out.size;rw[<-hb]at L1 L2 Be Bw⊢;clear LS MS;rw[Be]at M1 M2 Bj⊢;have Am:=Hd (Bt LB.out Av.out);have B3:=Hd ((Av.out.block b (by omega)).trans L1.out);have B4:=Hd ((Av.out.block (b+1) (by omega)).trans L2.out);have Bm:=Hd (Aj.out w5 (b+2) Am.out M1.out M2.out);clear hb e0 e1 e2 d0 d1 d2 Bf L1 L2 Bu LB Av A5 Ay
 refine Rf.rw3 (gf:=65) (lb:=#[.pointer (some ⟨b+2+1,0,none⟩),.pointer (some ⟨b+2,0,none⟩)]) rfl (yd Tryz.func65 (by kernel_rfl) rfl) ?_;intro fn W6 hL hD Ai Bz;obtain⟨Aa,Al,hL⟩:∃Aa:Loop,Aa=_/\W6.heap[w5.heap.size+1]?=some (.loop Aa):=⟨_,rfl,hL⟩
 have Ar:=Hd Al;have A2:Aa.state = .ready/\Aa.params.size=1/\Aa.pending=none:=by rw[Al];exact⟨rfl,rfl,rfl⟩
 clear Al;obtain⟨A2,Bh,B5⟩:=A2;have Aq:w5.heap.size=b+4:=by omega
 rw[Aq]at hL hD Ai Bz Ar⊢;obtain⟨F,hF⟩:=Xq ((Tess.pS2 s C).map Tess.mk)
 rw[<-hF]at hfs hfl;have Bk:=Hd hfs;have A0:((Tess.cS3 s.dims.length s.mets.length C).map fun x=>#[Value.string (Tess.mk x)]).length+1=F.length:=by rw[hF];simp[Tess.cS3,Tess.pS2]
 clear hfs;have Aw:=Hd hF;clear hF
 obtain⟨J,hJ⟩:=Xq (fun k X=>(∃vo,X.heap[b+1]?=some (.cells #[vo] 22 (0,0))/\X.ownsRow b 9 1 vo (k+1) ((F.take (k+1)).map Value.string))/\X.heap[b+2]?=some (.cells #[.slice ad s.dims.length capd,.slice am s.mets.length capm,.int .i64 g] 24 (0,0))/\X.heap[b+3]?=some (.cells #[.slice a C.length cap] 28 (0,0))/\X.heap[b+4]?=some (.deferred (some []))/\X.heap[b+4+1]?=some (.loop Aa)/\Below w.heap.size w X:Nat->World->Prop)
 have HJ:RowKit.Hid (∀k X,J k X↔((∃vo,X.heap[b+1]?=some (.cells #[vo] 22 (0,0))/\X.ownsRow b 9 1 vo (k+1) ((F.take (k+1)).map Value.string))/\X.heap[b+2]?=some (.cells #[.slice ad s.dims.length capd,.slice am s.mets.length capm,.int .i64 g] 24 (0,0))/\X.heap[b+3]?=some (.cells #[.slice a C.length cap] 28 (0,0))/\X.heap[b+4]?=some (.deferred (some []))/\X.heap[b+4+1]?=some (.loop Aa)/\Below w.heap.size w X)):=Hd fun k X=>by rw[hJ]
 clear hJ
 have A6:w5.ownsRow b 9 1 (.slice (some ⟨b,0,none⟩) 1 1) 1 ((F.take 1).map Value.string):=by rw[Aw.out];refine⟨by simp[Tess.pS2],.inr ⟨b,1,_,rfl,qC _,B3.out,by omega,by decide,by simp,by simp[Tess.pS2]⟩⟩
 have B0:J 0 W6:=(HJ.out _ _).2 ⟨⟨_,(Ai.block _ (by omega)).trans B4.out,ob2 A6 (by rw[Aq];exact Ai)⟩,(Ai.block _ (by omega)).trans M1.out,(Ai.block _ (by omega)).trans M2.out,hD,hL,Am.out.trans (Ai.mono (by omega))⟩;refine qZ.2 ((Bm.out (b+4+1) Aa.fn (fun v=>(Aa.params.zip v).foldl (fun tmps (t,a)=>tmps.setIfInBounds t a) Aa.tmps) Aa.assign Aa.body J ?_ ?_ ?_ ?_ W6 B0).mono ?_)
 ·intro k X X' h hb;obtain⟨⟨vo,h1,h2⟩,h3,h4,h5,h6,h7⟩:=(HJ.out _ _).1 h;exact(HJ.out _ _).2 ⟨⟨vo,(hb.block _ (qA.1 h1).1).trans h1,ob2 h2 hb⟩,(hb.block _ (qA.1 h3).1).trans h3,(hb.block _ (qA.1 h4).1).trans h4,(hb.block _ (qA.1 h5).1).trans h5,(hb.block _ (qA.1 h6).1).trans h6,Bt h7 hb⟩
 ·intro k X h;obtain⟨⟨vo,h1,h2⟩,h3,h4,h5,h6,h7⟩:=(HJ.out _ _).1 h;have hx:=(qA.1 h6).1;refine⟨hx,by omega,fun x hxl Bc=>?_⟩;rcases Bc with⟨Bc,Ba⟩|rfl|rfl
  ·exact(h7.block x Ba).trans (Am.out.block x Ba).symm
  ·exact h3.trans M1.out.symm
  ·exact h4.trans M2.out.symm
 ·intro k X h z hz;obtain⟨⟨vo,h1,h2⟩,h3,h4,h5,h6,h7⟩:=(HJ.out _ _).1 h;exact xJ h6 (by rw[Bh,hz])
 ·intro k X hk h;obtain⟨⟨vo,h1,h2⟩,h3,h4,h5,h6,h7⟩:=(HJ.out _ _).1 h;rw[qX]at hk;have H1:=Hd h1;have H2:=Hd h2;have H6:=Hd h6;have HX:=Hd h;have Bl:=Hd (HJ.out (k+1));simp only[zL];clear h h1 h2 h3 h4 h5 h6 h7;refine Rf.rw2 (r:=Aa) ?_;have B7:=Ar.out;subst B7;dsimp only;gi_wp2_with (rw[zK _ _ _ (fun c h=>by cases h)];go_simp;try go_bits);refine⟨H6.out,fun X2 Ah hl2=>?_⟩
  have g1:=(Ah.block (b+1) (by omega)).trans H1.out;have e8:=(cob g1).1
  have Ap:X2.ownsRow b 9 1 vo (k+1) ((F.take (k+1)).map Value.string):=by
   obtain⟨hl,h2|⟨g',Ac,An,Ak,Ao,Ae,r'⟩⟩:=H2.out
   ·exact⟨hl,.inl h2⟩
   ·exact⟨hl,.inr ⟨g',Ac,An,Ak,Ao,(Ah.block g' (fun e=>by subst e;rw[H6.out]at Ae;cases Ae)).trans Ae,r'⟩⟩
  obtain⟨i0,hi,Bi,B1,By⟩:=zF iS2;have Ap:=Hd Ap;have Ca:k<1000:=by simp at A0;omega
  have Cf:b<X2.heap.size:=by have:=(qA.1 g1).1;omega
  have Ax:=(qA.1 g1).1
  have B2:=Hd (show vo.ownBlock≠some (b+1)from fun e=>by
   obtain⟨c,fz,h⟩:=ok3 Ap.out _ e;rw[g1]at h
   cases h)
  have G1:=Hd g1;have z8:=zY X2 (b+1) 0 _ _ g1
  have Bp:=Hd (show(F.take (k+1+1)).map Value.string=(F.take (k+1)).map Value.string++[Value.string (Tess.mk (Tess.cS3 s.dims.length s.mets.length C)[k])] by
   have hF:=Aw.out;rw[hF,qQ (show k+1<_ by rw[<-hF];simp at A0;omega),qs,zL]
   rfl)
  have B6:=Hd hl2;have B9:=Hd Ah;clear hl2 Ah;generalize (Tess.cS3 s.dims.length s.mets.length C)[k]=x at *
  gi_wp2_with (gi_at_builtin;refine wpListIn_append_own _ rfl _ _ 22 rfl b 9 i0 (.string ByteArray.empty) 1 16 Tryz.underlying22 hi Bi B1 By rfl (by decide) _ _ _ rfl (Ap.out.alloc _) ⟨X2.heap.size,0,none⟩ 1 1 [.string (Tess.mk x)] rfl rfl (zh _ _ _) (by simp[Value.oneCell']) (by unfold maxLen;omega) (by omega) (by simp;omega) ?_;intro v' X3 Ad Ab _;obtain⟨av,nv,cv,rfl⟩:∃a n c,v' = .slice a n c:=by { rcases Ad.2 with⟨hv,_⟩|⟨_,_,_,hv,_⟩<;>exact⟨_,_,_,hv⟩ };have g3:=(Ab.block (b+1) (by simp;omega) (fun e=>B2.out e.symm)).trans ((Lib.alloc_old X2 _ (b+1) Ax).trans G1.out);have e9:=(cob g3).1;have z9:=zY X3 (b+1) 0 _ _ g3;have G3:=Hd g3;have Bg:=Hd Ad;have Bo:=Hd Ab;clear Ad Ab g3)
  obtain⟨⟨Cc,q1,q2⟩,q3,q4,q5,q6,q7⟩:=(HJ.out k X).1 HX.out;have Ah:=B9.out;have A7:=Bo.out;have Au:∀(j:Nat) (ob:Obj),X2.heap[j]?=some ob->(∀c fz,ob ≠ .cells c 9 fz)->X3.heap[j]?=some ob:=fun j ob h hn=>(A7.block j (by have:=(qA.1 h).1;simp;omega) (fun e=>by obtain⟨c,fz,h'⟩:=ok3 Ap.out _ e.symm;rw[h]at h';exact hn c fz (zr h'))).trans ((Lib.alloc_old X2 _ j (qA.1 h).1).trans h)
  obtain⟨X4,At⟩:=XQ (X3.setCell ⟨b+1,0,none⟩ (.slice av nv cv))
  have Af:∀j,j≠b+1->X4.heap[j]?=X3.heap[j]?:=fun j hj=>by rw[<-At,qW _ _ _ _ (show j≠b+1 from hj)]
  have A9:=(Af (b+4+1) (by omega)).trans (Au _ _ B6.out (by intro c fz e;cases e));have B8:X4.heap[b+1]?=some (.cells #[.slice av nv cv] 22 (0,0)):=by rw[<-At];exact qO _ _ 0 _ _ (.slice av nv cv) G3.out
  have Bs:X4.ownsRow b 9 1 (.slice av nv cv) (k+1+1) ((F.take (k+1+1)).map Value.string):=by
   rw[Bp.out];obtain⟨hl,h2|⟨g',Ac,An,Ak,Ao,Ae,r'⟩⟩:=Bg.out
   ·exact⟨hl,.inl h2⟩
   ·exact⟨hl,.inr ⟨g',Ac,An,Ak,Ao,(Af g' (fun e=>by subst e;rw[G3.out]at Ae;cases Ae)).trans Ae,r'⟩⟩
  have Bx:∀g',vo.ownBlock=some g'->w.heap.size<=g':=fun g' e=>by
   obtain⟨_,⟨h2,_⟩|⟨Ce,Ac,An,Ak,Ao,_⟩⟩:=Ap.out
   ·rw[h2]at e;simp[Value.ownBlock]at e
   ·rw[Ak]at e;simp[Value.ownBlock]at e;omega
  have Ai:Below w.heap.size w X4:=by rw[<-At];exact((((q7.trans (Ah.below (by omega))).alloc (by omega) _).grown A7 (by simp;omega) Bx)).setCell (by show _<=b+1;omega) _
  rw[At]
  exact⟨A9,fun X7 hs7 hl7=>⟨rfl,(Bl.out X7).2 ⟨⟨.slice av nv cv,(hs7.block _ (by omega)).trans B8,hs7.owns Bs A9 rfl⟩,(hs7.block _ (by omega)).trans ((Af _ (by omega)).trans (Au _ _ ((Ah.block _ (by omega)).trans q3) (by intro c fz e;cases e))),(hs7.block _ (by omega)).trans ((Af _ (by omega)).trans (Au _ _ ((Ah.block _ (by omega)).trans q4) (by intro c fz e;cases e))),(hs7.block _ (by omega)).trans ((Af _ (by omega)).trans (Au _ _ ((Ah.block _ (by omega)).trans q5) (by intro c fz e;cases e))),hl7,Ai.trans (hs7.below (by omega))⟩⟩⟩
 ·rintro e W8 ⟨⟨vv,rfl⟩,h⟩;obtain⟨⟨vo,h1,h2⟩,h3,h4,h5,h6,h7⟩:=(HJ.out _ _).1 h;refine⟨⟨_,rfl⟩,Aa,h6,by rw[A2];decide,?_⟩;intro W9 As;rw[B5];dsimp only
  have Bb:W9.ownsRow b 9 1 vo F.length (F.map Value.string):=by
   rw[A0,jy]at h2;obtain⟨hl,h2|⟨g',Ac,An,Ak,Ao,Ae,r'⟩⟩:=h2
   ·exact⟨hl,.inl h2⟩
   ·exact⟨hl,.inr ⟨g',Ac,An,Ak,Ao,(As.block g' (fun e=>by subst e;rw[h6]at Ae;cases Ae)).trans Ae,r'⟩⟩
  have g1:=(As.block (b+1) (by omega)).trans h1;have e8:=(cob g1).1;have A8:=(As.block (b+4) (by omega)).trans h5;have Br:=h7.trans (As.below (by omega));have Bn:=Hd (ja vo F W9 (SlOf.owned Bb) Bk.out hfl);clear h1 h2 h3 h4 h5 h6 h7 As g1 Bb
  gi_wp2_with (refine⟨trivial,?_⟩;gi_at_call 29;refine(qZ.2 Bn.out).mono ?_;rintro e wz ⟨rfl,A4⟩;have Bq:=Hd (Bt Br A4);have Bv:=(A4.block _ (qA.1 A8).1).trans A8;clear A4);have Az:=Hd (Bq.out.trans ((Rf.SB.put wz (b+4) (.deferred none)).below (show w.heap.size<=b+4 by omega)));refine⟨by simp,.inl ⟨_,_,rfl,jD Bv,?_⟩⟩
  refine⟨.tuple #[.string (Tess.jP F).1,.int .i64 ((Tess.jP F).2:Nat)],by simp[results,Tryz.results11,go_sem],by rw[Aw.out],Az.out⟩
end Go.Proofs.Q9
namespace Tess
open Go Kl Go.RowKit Go.Proofs.Q9
theorem cDa(C:List (CK×Pay))(hC:C.length<=1000)(i:Nat)(hw:∀y∈dW C i,y.size<=100):(colD C i).length<=1000000000:=by
 unfold colD;rw[qI,pNl,qX,eLf,qI];have hd:=df3 C i;have e1:=pLt (n:=(dO2 C i).length) (by omega);have e2:=ef2 (dO2 C i) w0 (fun z hz=>hw z ((sWa _ z).1 hz));have e3:=pLt (n:=C.length) (by omega)
 have e4:widN (C.map fun x=>idOf (dO2 C i) (x.1.2.getD i none))<=16:=wNl _ fun n hn=>by
  obtain⟨x,hx,rfl⟩:=qd.1 hn;cases x.1.2.getD i none with
  |none=>show(dO2 C i).length<=65535;omega
  |some b=>
    have:place (dO2 C i) b<=(dO2 C i).length:=qAa;show place (dO2 C i) b<=65535;omega
 have e5:sP C.length (widN (C.map fun x=>idOf (dO2 C i) (x.1.2.getD i none)))<=2001:=by unfold sP;have:=yh hC e4;omega
 omega
end Tess
namespace Go.Proofs.Q9
open Go.RowKit Go.Sort
open Tess (CK Pay)
def fL2(q:CK×Pay->Bool)(l:List (CK×Pay))(a:Option Addr)(w:World):Prop:=
 ∀k (hk:k<l.length),∃b off,a=some ⟨b,off,none⟩/\b<w.heap.size/\∃c0 c1 c2 c3 c4 c5,(w.cell? ⟨b,off+k*6,none⟩=some c0/\w.cell? ⟨b,off+k*6+1,none⟩=some c1/\w.cell? ⟨b,off+k*6+2,none⟩=some c2/\w.cell? ⟨b,off+k*6+3,none⟩=some c3/\w.cell? ⟨b,off+k*6+4,none⟩=some c4/\w.cell? ⟨b,off+k*6+5,none⟩=some c5) /\
   ∀W,Below w.heap.size w W->Calls Tryz.prog 61 #[.agg #[c0,c1,c2,c3,c4,c5]] W fun e w'=>e = .returned (.bool (q l[k]))/\Below W.heap.size W w'
theorem if2(q:CK×Pay->Bool)(l:List (CK×Pay))(a:Option Addr)(cap:Nat)(w:World)(hlen:l.length<=maxLen)(hc:fL2 q l a w) :
  Calls Tryz.prog 88 #[.slice a l.length cap,.func (.func 61) #[] #[]] w fun e w'=>∃i:Int,e = .returned (.int .i64 i)/\decide (0<=i)=l.any q/\Below w.heap.size w w':=by
 have HC:=Hd hc;have Ag:l.length<=9223372036854775807:=by unfold maxLen at hlen;omega
 clear hc hlen;go_enter Tryz.func88,Tryz.ntmps88;go_wp2;go_loopw [8] (fun i wr=>∃k:Nat,k<=l.length/\i = .int .i64 k/\(∀j (hj:j<l.length),j<k->q l[j]=false)/\Below w.heap.size w wr) (fun i _=>l.length-(intOf i).toNat)
 case atStart=>exact⟨0,qN _,rfl,fun j _ h=>absurd h (zH _),qJ _ _⟩
 case round=>
  obtain⟨k,hk,rfl,Ac,hB⟩:=hrel;have HA:=Hd Ac;have HB:=Hd hB;clear Ac hB;by_cases hlt:k<l.length
  ·obtain⟨b,Aa,rfl,hb,c0,c1,c2,c3,c4,c5,⟨g0,g1,g2,g3,g4,g5⟩,Ab⟩:=HC.out k hlt;have e0:wr.cell? ⟨b,Aa+k*6,none⟩=some c0:=(HB.out.cell (p:=⟨b,Aa+k*6,none⟩) hb).trans g0;have e1:wr.cell? ⟨b,Aa+k*6+1,none⟩=some c1:=(HB.out.cell (p:=⟨b,Aa+k*6+1,none⟩) hb).trans g1;have e2:wr.cell? ⟨b,Aa+k*6+2,none⟩=some c2:=(HB.out.cell (p:=⟨b,Aa+k*6+2,none⟩) hb).trans g2
   have e3:wr.cell? ⟨b,Aa+k*6+3,none⟩=some c3:=(HB.out.cell (p:=⟨b,Aa+k*6+3,none⟩) hb).trans g3;have e4:wr.cell? ⟨b,Aa+k*6+4,none⟩=some c4:=(HB.out.cell (p:=⟨b,Aa+k*6+4,none⟩) hb).trans g4;have e5:wr.cell? ⟨b,Aa+k*6+5,none⟩=some c5:=(HB.out.cell (p:=⟨b,Aa+k*6+5,none⟩) hb).trans g5;have HX:=Hd Ab;clear g0 g1 g2 g3 g4 g5 Ab;have Af:(k:Int)<(l.length:Int):=by omega
   cases hyx:q l[k]
   ·rw[hyx]at HX;have HY:=Hd hyx;clear hyx;go_wp2_with (go_at_call 61;refine(HX.out _ HB.out).mono ?_;rintro e w2 ⟨rfl,Ad⟩;have Ae:=Hd Ad;clear Ad);go_roundw
    case rel=>
     refine⟨k+1,by omega,by go_num,fun j hj hjk=>?_,Bt HB.out Ae.out⟩;by_cases hjk':j<k
     ·exact HA.out j hj hjk'
     ·obtain rfl:j=k:=by omega
      exact HY.out
    case measure=>simp[intOf];omega
   ·rw[hyx]at HX;have HY:=Hd hyx;clear hyx;go_wp2_with (go_at_call 61;refine(HX.out _ HB.out).mono ?_;rintro e w2 ⟨rfl,Ad⟩;have Ae:=Hd Ad;clear Ad);go_ret;refine⟨(k:Int),rfl,?_,Bt HB.out Ae.out⟩;rw[decide_eq_true (by omega),qBy,yj];exact⟨l[k],qP hlt,HY.out⟩
  ·have Af:¬(k:Int)<(l.length:Int):=by omega
   go_wp2;go_ret;refine⟨-1,rfl,?_,HB.out⟩;rw[qG (by omega),qBy,xI];intro y hy;obtain⟨j,hj,rfl⟩:=zq hy;rw[HA.out j hj (by omega)];simp
theorem cf3(q:CK×Pay->Bool)(l:List (CK×Pay))(a:Option Addr)(cap:Nat)(w:World)(hlen:l.length<=maxLen)(hc:fL2 q l a w) :
  Calls Tryz.prog 36 #[.slice a l.length cap,.func (.func 61) #[] #[]] w fun e w'=>e = .returned (.bool (l.any q))/\Below w.heap.size w w':=by
 have HI:=Hd (if2 q l a cap w hlen hc);clear hc;go_enter Tryz.func36,Tryz.ntmps36;go_wp2_with (go_at_call 88;refine HI.out.mono ?_;rintro e w2 ⟨i,rfl,hi,hB⟩;have HH:=Hd hi;have HB:=Hd hB;clear hi hB);go_ret;refine⟨?_,HB.out⟩;rw[<-HH.out];rfl
theorem fa10(t n:Int)(ad a3 a4 a5:Option Addr)(dn dc n3 c3 n4 c4 n5 c5:Nat)(W:World) :
  Calls Tryz.prog 61 #[.agg #[.int .i64 t,.slice ad dn dc,.int .i64 n,.slice a3 n3 c3,.slice a4 n4 c4,.slice a5 n5 c5]] W fun e w'=>e = .returned (.bool (decide (1000000<n)))/\Below W.heap.size W w':=by
 obtain⟨W0,Aa⟩:=XQ (W.alloc (.cells #[.int .i64 t,.slice ad dn dc,.int .i64 n,.slice a3 n3 c3,.slice a4 n4 c4,.slice a5 n5 c5] 56))
 obtain⟨k0,kS,kB⟩:=la2 W (.cells #[.int .i64 t,.slice ad dn dc,.int .i64 n,.slice a3 n3 c3,.slice a4 n4 c4,.slice a5 n5 c5] 56);rw[Aa]at k0 kS kB;obtain⟨⟨f0,f1,f2,f3,f4,f5⟩,_⟩:=can6 k0;go_enter Tryz.func61,Tryz.ntmps61;go_wp2;go_ret;exact⟨rfl,kB⟩
theorem ea3(p:Nat->Prop)(va:Value)(L:List (CK×Pay))(w:World)(hv:CA2 p w va L)(hl:L.length<=1000)(hn:∀x∈L,x.2.n<=1000000) :
  Calls Tryz.prog 25 #[va] w fun e w'=>e = .returned (.tuple #[va,.int .i64 0])/\Below w.heap.size w w':=by
 obtain⟨a,Ae,rfl,_,hm,_,hc⟩:=LA.open hv
 have HC:=Hd (cf3 (fun x=>decide (1000000<x.2.n)) L a Ae w hm (fun k hk=>by
  obtain⟨b,Af,h1,h2,_,cs,_,Ab,Aa⟩:=hc k hk;obtain⟨ad,cd,a3,c3,a4,c4,a5,c5,rfl,_⟩:=Ab.shapes
  exact⟨b,Af,h1,h2,_,_,_,_,_,_,⟨Aa 0 (by omega),Aa 1 (by omega),Aa 2 (by omega),Aa 3 (by omega),Aa 4 (by omega),Aa 5 (by omega)⟩,fun W _=>fa10 _ _ _ _ _ _ _ _ _ _ _ _ _ _ W⟩))
 have hf:L.any (fun x=>decide (1000000<x.2.n))=false:=xI.2 fun x hx=>by have:=hn x hx;simp;omega
 rw[hf]at HC;have Ag:¬(1000:Int)<(L.length:Int):=by omega
 clear hc hv;go_enter Tryz.func25,Tryz.ntmps25;go_wp2_with (go_at_call 36;refine HC.out.mono ?_;rintro e w2 ⟨rfl,Ac⟩;have Ad:=Hd Ac;clear Ac);go_ret2;exact⟨rfl,Ad.out⟩
def RowC(p:Nat->Prop)(w:World)(cs:List Value)(r:Tess.Row):Prop:=∃vd a c,cs=[.int .i64 r.t,vd,.slice a r.ns.length c]/\r.ns.length<=c/\VA2 p w vd r.l/\SlP p w (.slice a r.ns.length c) (r.ns.map (.int .i64))
def RowsIn(p:Nat->Prop):World->Value->List Tess.Row->Prop:=LA 3 (RowC p) p
