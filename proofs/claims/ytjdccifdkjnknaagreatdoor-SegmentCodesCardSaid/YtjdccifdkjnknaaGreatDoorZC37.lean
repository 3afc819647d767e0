/- Joined. -/
import Derived.Test.YtjdccifdkjnknaaGreatDoorZC36
import Derived.Lib.SmallJoins
set_option maxRecDepth 100000
set_option maxHeartbeats 4000000
namespace Go.Proofs.Q9
open Go.RowKit Go.Sort
open Tess (CK Pay)
theorem oiS{α:Type}{P:α->Prop}{a:α}(h:P a):∀x∈[a],P x:=fun x hx=>by
 rcases qm.1 hx with rfl|hx
 ·exact h
 ·cases hx
theorem sa6{W:World}{b0:Nat}(k0:W.heap[b0]?=some (.cells #[.string Tess.ta] 9 (0,0))):SA (fun _=>True) W (.agg #[.slice (some ⟨b0,0,none⟩) 1 1,.slice none 0 0,.int .i64 1]) Tess.sc2:=by
 refine⟨_,_,rfl,⟨⟨(by decide:(1:Nat)<=maxLen),_,1,rfl,fun _=>⟨b0,0,rfl,(qA.1 k0).1,fun j hj=>?_⟩⟩,fun _ _ _=>trivial,?_⟩,SlP.nil _ _,oiS (P:=fun x:ByteArray=>x.size<=maxLen) (by decide),fun x hx=>by cases hx⟩
 ·have hj:j<1:=hj;obtain rfl:j=0:=by omega
  exact qT _ _ 0 _ _ _ k0
 ·exact fun n c e=>by cases e
theorem la15(w:World)(A B C D E F:Obj):∃W,(((((w.alloc A).alloc B).alloc C).alloc D).alloc E).alloc F=W/\W.heap[w.heap.size]?=some A/\W.heap[w.heap.size+1]?=some B/\W.heap[w.heap.size+2]?=some C/\W.heap[w.heap.size+3]?=some D/\W.heap[w.heap.size+4]?=some E/\W.heap[w.heap.size+5]?=some F/\W.heap.size=w.heap.size+6/\Below w.heap.size w W:=by obtain⟨h1,h2,h3,h4,h5,h6⟩:=la14 w A B C D;obtain⟨k1,k2,k3,k4⟩:=la3 ((((w.alloc A).alloc B).alloc C).alloc D) E F;rw[h5]at k1 k2;exact⟨_,rfl,(k4.block _ (by omega)).trans h1,(k4.block _ (by omega)).trans h2,(k4.block _ (by omega)).trans h3,(k4.block _ (by omega)).trans h4,k1,k2,by rw[k3,h5],h6.trans (k4.mono (by omega))⟩
theorem va5{W:World}{b:Nat}{x:Tess.DV}{t:TypeId}(h:W.heap[b]?=some (.cells #[.string (Tess.valOf x).s,.bool (Tess.valOf x).null] t (0,0))):V1 0 x (.slice (some ⟨b,0,none⟩) 1 1) W:=
 ⟨b,1,rfl,qN _,(qA.1 h).1,qT _ _ 0 _ _ _ h,qT _ _ 1 _ _ _ h⟩
theorem rS3{w:World}{b:Nat}{t:TypeId}{x y z:ByteArray}(h:w.heap[b]?=some (.cells #[.string x,.string y,.string z] t (0,0))):SlOf w (.slice (some ⟨b,0,none⟩) 3 3) ([x,y,z].map .string):=
 ⟨(by decide:(3:Nat)<=maxLen),_,3,rfl,fun _=>⟨b,0,rfl,(qA.1 h).1,fun j hj=>by
   have hj':j<3:=hj;rcases (show j=0∨j=1∨j=2 by omega)with rfl|rfl|rfl
   ·exact qT _ _ 0 _ _ _ h
   ·exact qT _ _ 1 _ _ _ h
   ·exact qT _ _ 2 _ _ _ h⟩⟩
theorem rn6:Tess.RRng (Tess.ce2.map Tess.toR):=fun x hx=>by
 obtain⟨y,hy,rfl⟩:=qd.1 hx
 have h:y.2.mins=[]/\y.2.maxs=[]:=by simp only[Tess.ce2,qm,zG,jr]at hy;rcases hy with rfl|rfl<;>exact⟨rfl,rfl⟩
 unfold Tess.toR;rw[h.1,h.2];exact⟨fun _ h=>(by cases h),fun _ h=>(by cases h)⟩
theorem jo2:Tess.jP [⟨#[1,0,1,1,97]⟩,⟨#[2,0,10,2,2,2]⟩,⟨#[1,0,1,121,2,1,64]⟩]=Tess.encP Tess.sc2 Tess.ce2:=by rw[Tess.en2];unfold Tess.jP;rw[qR (by decide)]
theorem si4:(Tess.encP Tess.sc2 Tess.ce2).1.size<=1000000:=by rw[Tess.en2,Tess.jLl];decide
theorem sa10(a0 a1 a2:Addr)(w:World)(hv:DV2 a0 a1 w)(hs:SV a2 w):Calls Tryz.prog 7 #[] w fun e w'=>e = .returned (.bool true)/\Below w.heap.size w w':=by
 obtain⟨W,hW,k0,k1,k2,k3,k4,k5,kS,kB⟩:=la15 w (.cells #[.string { data:=#[97] }] 9) (.cells #[.slice (some ⟨w.heap.size,0,none⟩) 1 1,.slice none 0 0,.int .i64 1] 24) (.cells #[.string { data:=#[121] },.bool false] 47) (.cells #[.string { data:=#[] },.bool true] 47) (.cells #[.string { data:=#[] },.bool true] 47) (.cells #[.int .i64 0,.slice (some ⟨w.heap.size+2,0,none⟩) 1 1,.slice none 0 0,.int .i64 5,.slice (some ⟨w.heap.size+3,0,none⟩) 1 1,.slice none 0 0,.int .i64 5,.slice (some ⟨w.heap.size+4,0,none⟩) 1 1,.slice none 0 0] 51)
 obtain⟨⟨x0,x1,x2⟩,_⟩:=can3 k1
 have HR:=ra49 (w.heap.size+5) (fun k=>.slice (some ⟨w.heap.size+2+k,0,none⟩) 1 1) _ W (sa6 k0) (qA.1 k5).1 (fun k hk=>by
  rcases (show k=0∨k=1∨k=2 by omega)with rfl|rfl|rfl<;>exact⟨qT _ _ _ _ _ _ k5,qT _ _ _ _ _ _ k5,qT _ _ _ _ _ _ k5⟩) (fun k hk=>by
  rcases (show k=0∨k=1∨k=2 by omega)with rfl|rfl|rfl
  ·exact va5 k2
  ·exact va5 k3
  ·exact va5 k4)
 have HR:=Hd HR;have K0:=Hd k0;have K1:=Hd k1;have KB:=Hd kB;have HV:=Hd hv;have HS:=Hd hs;clear k0 k1 k2 k3 k4 k5 kS kB hv hs;go_enter Tryz.func7,Tryz.ntmps7;go_wp2_with (fail);go_at_call 9;refine HR.out.mono ?_;rintro e w1 ⟨v,rfl,hc,Af⟩;obtain⟨av,cv,rfl⟩:∃a c,v = .slice a 2 c:=let⟨a,c,h,_⟩:=hc;⟨a,c,h⟩
 have k0:=(Af.block _ (qA.1 K0.out).1).trans K0.out;have k1:=(Af.block _ (qA.1 K1.out).1).trans K1.out;have hE:=sa5 (fun _=>True) _ _ Tess.sc2 (Tess.ce2.map Tess.toR) w1 (sa6 k0) (ctR (hc.weak fun _ _=>trivial)) rn6;obtain⟨⟨S,z⟩,hS⟩:∃x,x=Tess.encP Tess.sc2 Tess.ce2:=⟨_,rfl⟩
 have hz:z=0:=by have:=zM Prod.snd hS;rw[Tess.en2]at this;exact this
 subst hz;rw[Tess.eRt rn6,<-hS]at hE;have HE:=Hd hE;have A2:=Hd (show S.size<=1000000 by have:=si4;rw[<-hS]at this;exact this);have Ar:=Hd (jo2.trans hS.symm);have A0:=Hd (show Tess.decP Tess.sc2 S=(Tess.ce2,0) by have:=Tess.de4;rw[<-hS]at this;exact this);have HC:=Hd hc;have Aw:=Hd (Bt KB.out Af);have Am:=Hd k0;have Ao:=Hd k1;clear x0 x1 x2 hW;obtain⟨⟨x0,x1,x2⟩,_⟩:=can3 k1;clear k0 k1 hE hS hc Af
 go_wp2_with (fail);go_at_call 11;refine HE.out.mono ?_;rintro e w2 ⟨rfl,Ab⟩
 try dsimp only
 have k0:=(Ab.block _ (qA.1 Am.out).1).trans Am.out;have k1:=(Ab.block _ (qA.1 Ao.out).1).trans Ao.out;have Ax:=Hd (HC.out.ag (Ag.new _ Ab));have A4:=Hd (Bt Aw.out Ab);obtain⟨W3,As⟩:=XQ (w2.alloc (.cells #[.string { data:=#[1,0,1,1,97] },.string { data:=#[2,0,10,2,2,2] },.string { data:=#[1,0,1,121,2,1,64] }] 9))
 obtain⟨g0,gS,gB⟩:=la2 w2 (.cells #[.string { data:=#[1,0,1,1,97] },.string { data:=#[2,0,10,2,2,2] },.string { data:=#[1,0,1,121,2,1,64] }] 9);rw[As]at g0 gS gB;have hJ:=ra11 (.slice (some ⟨w2.heap.size,0,none⟩) 3 3) [⟨#[1,0,1,1,97]⟩,⟨#[2,0,10,2,2,2]⟩,⟨#[1,0,1,121,2,1,64]⟩] W3 (rS3 g0) (by decide) (by decide);unfold JP at hJ;rw[Ar.out]at hJ;have HJ:=Hd hJ;have k0:=(gB.block _ (qA.1 k0).1).trans k0
 have k1:=(gB.block _ (qA.1 k1).1).trans k1;have A5:=Hd (Ax.out.ag (Ag.new _ gB));have Az:=Hd (Bt A4.out gB);have Al:=Hd k0;have Ak:=Hd k1;clear x0 x1 x2 g0 gS gB hJ k0 k1 Ab;go_wp2_with (fail);refine HJ.out.mono ?_;rintro e w4 ⟨rfl,Aa⟩
 try dsimp only
 have k0:=(Aa.block _ (qA.1 Al.out).1).trans Al.out;have k1:=(Aa.block _ (qA.1 Ak.out).1).trans Ak.out;have Ay:=Hd (A5.out.ag (Ag.new _ Aa));have Ah:=Hd (Bt Az.out Aa);have hD:=sa4 a0 a1 a2 (fun _=>True) _ Tess.sc2 S w4 (HV.out.below Ah.out) (HS.out.below Ah.out) (sa6 k0) A2.out;unfold SP2 at hD;rw[A0.out]at hD;have HD:=Hd hD;have Aj:=Hd k0;have An:=Hd k1;obtain⟨⟨x0,x1,x2⟩,_⟩:=can3 k1
 clear Aa hD k0 k1;go_wp2_with (fail);refine HD.out.mono ?_;rintro e w5 ⟨v5,rfl,Ac,Ae⟩
 try dsimp only at Ae
 obtain⟨a5,c5,rfl⟩:∃a c,v5 = .slice a 2 c:=let⟨a,c,h,_⟩:=Ae;⟨a,c,h⟩
 try dsimp only
 have k0:=(Ac.block _ (qA.1 Aj.out).1).trans Aj.out;have k1:=(Ac.block _ (qA.1 An.out).1).trans An.out;have Av:=Hd (Ay.out.ag (Ag.new _ Ac));have A1:=Hd Ae;have Ai:=Hd (Bt Ah.out Ac);have hD:=sa4 a0 a1 a2 (fun _=>True) _ Tess.sc2 { data:=#[120] } w5 (HV.out.below Ai.out) (HS.out.below Ai.out) (sa6 k0) (by decide);unfold SP2 at hD;rw[Tess.de3]at hD;have A3:=Hd hD;clear x0 x1 x2
 obtain⟨⟨x0,x1,x2⟩,_⟩:=can3 k1;clear Ac hD k0 k1 Ae;go_wp2_with (fail);refine A3.out.mono ?_;rintro e w6 ⟨v6,rfl,Ad,Ap⟩;obtain⟨a6,c6,rfl⟩:∃a c,v6 = .slice a 0 c:=let⟨a,c,h,_⟩:=Ap;⟨a,c,h⟩
 try dsimp only
 have A6:=Hd (se3 _ _ _ _ Tess.ce2 w6 (Av.out.ag (Ag.new _ Ad)) (A1.out.ag (Ag.new _ Ad)));have Au:=Hd (Bt Ai.out Ad);have A7:(S.toList==S.toList)=true:=by simp
 clear Ad Ap x0 x1 x2;go_wp2_with (fail);refine A6.out.mono ?_;rintro e w7 ⟨rfl,Aq⟩;have At:=Hd (Bt Au.out Aq);clear Aq;go_wp2_with (fail);go_ret;exact⟨rfl,At.out⟩
end Go.Proofs.Q9
namespace Go.Proofs.Q9
open Go.RowKit Go.Sort
open Tess (CK Pay RCel)
theorem rm3{α:Type}{k:Nat}{f:α->List Value}{p:Nat->Prop}{w:World}{a:Option Addr}{n c:Nat}{l:List α}(h:RA k f p w (.slice a n c) l)(m:Nat):RA k f p w (.slice a (min n m) c) (l.take m):=by
 obtain⟨a',Ab,hv,h1,h2,h3,h4⟩:=h;cases hv
 refine⟨a,c,by rw[qy,Nat.min_comm],by rw[qy];omega,by rw[qy];omega,h3,fun hl=>?_⟩;rw[qy]at hl;obtain⟨b,Aa,ha,hb,hp,hc⟩:=h4 (by omega);refine⟨b,Aa,ha,hb,hp,fun j hj i hi=>?_⟩;rw[qy]at hj;rw[hc j (by omega) i hi,yP]
theorem rn2:Nest 6 RA2 where
 ag h hg:=h.ag hg
 weak h hpq:=let⟨_,_,_,_,e,h1,h2,h3,h4⟩:=h;⟨_,_,_,_,e,h1.weak hpq,h2.weak hpq,h3.weak hpq,h4.weak hpq⟩
 lt h:=let⟨_,_,_,_,e,h1,h2,h3,h4⟩:=h;⟨_,_,_,_,e,h1.lt,h2.lt,h3.lt,h4.lt⟩
 len h:=by obtain⟨_,_,_,_,rfl,_⟩:=h;rfl
 one h u hu:=by obtain⟨vd,vs,vm,vx,rfl,h1,h2,h3,h4⟩:=h;obtain⟨_,_,rfl⟩:=h1.shape;obtain⟨_,_,rfl⟩:=h2.shape;obtain⟨_,_,rfl⟩:=h3.shape;obtain⟨_,_,rfl⟩:=h4.shape;simp only[qm,zG,jr]at hu;rcases hu with rfl|rfl|rfl|rfl|rfl|rfl<;>rfl
def cC2(x:RCel):RCel:=⟨x.t,cV2 x.l,x.n,x.sums.take 10,x.mins.take 10,x.maxs.take 10⟩
theorem ta5{B:Nat}{w w':World}(h:(turns fun _=>Option.none).r w w'):Ag (fun b=>B<=b) w w':=⟨h.2.2.2.1,fun _ hb _=>tb2 h hb rfl⟩
theorem tb3{w w':World}(h:(turns fun _=>Option.none).r w w'):Below w.heap.size w w':=tb4 h (qC _) fun _ _=>rfl
theorem bt4{w w':World}(h:Below w.heap.size w w'):(turns fun _=>Option.none).r w w':=⟨h.os,h.tape,h.output,h.size,fun k hk=>.inl (h.block k hk)⟩
theorem fa11(p:Nat->Prop)(v:Value)(l:List RCel)(w:World)(hv:LA 6 (RA2 p) p w v l) :
  Calls Tryz.prog 13 #[v] w fun e w'=>∃v',e = .returned v'/\LA 6 (RA2 fun b=>p b∨w.heap.size<=b) (fun b=>p b∨w.heap.size<=b) w' v' ((l.take 50).map cC2)/\Below w.heap.size w w':=by
 obtain⟨a,B3,rfl,_,hl,_,hc⟩:=LA.open hv;have hl:l.length<=9223372036854775807:=by unfold maxLen at hl;omega
 have HC:=Hd hc;clear hc;obtain⟨i0,hi,A8,Bn,Bj⟩:=zF iC;go_enter Tryz.func13,Tryz.ntmps13;go_wp2;go_loopw [3,4] (fun v i wr=>∃(k:Nat) (us:List (List Value)),k<=l.length/\k<=50/\i = .int .i64 k/\us.length=k/\OwnL w.heap.size 6 56 RA2 (fun b=>p b∨w.heap.size<=b) wr v us ((l.take k).map cC2)/\(k=0->v = .slice none 0 0)/\Below w.heap.size w wr) (fun _ i _=>50-(intOf i).toNat)
 case atStart=>exact⟨0,[],qN _,qN _,rfl,rfl,OwnL.nil _,fun _=>rfl,qJ _ _⟩
 case round=>
  obtain⟨k,us,hk,By,rfl,A4,Al,Ai,hB⟩:=hrel;have HN:=Hd Ai;have HU:=Hd A4;have HO:=Hd Al;have HB:=Hd hB;clear Ai A4 Al;by_cases hlt:k<l.length/\k<50
  ·obtain⟨h1,h2⟩:=hlt;obtain⟨b,Ba,rfl,hb,_,cs,_,hR,Ab⟩:=HC.out k h1;have HE:=Hd (show(l.take k).map cC2++[cC2 l[k]]=(l.take (k+1)).map cC2 by rw[qQ h1,qs];rfl);generalize l[k]=x at *;have hR:=rn2.lt hR;obtain⟨vd,vs,vm,vx,rfl,hd,Am,Aq,Ao⟩:=hR;have Bm:=Hd (fun W (hW:Below wr.heap.size wr W)=>va4 _ vd x.l W (hd.ag (Ag.new _ (Bt hB hW))))
   obtain⟨ad,nd,cd,rfl⟩:∃a n c,vd = .slice a n c:=by obtain⟨_,_,rfl⟩:=hd.shape;exact⟨_,_,_,rfl⟩
   obtain⟨a3,n3,c3,rfl,Bi⟩:∃a n c,vs = .slice a n c/\n<=c:=by obtain⟨_,_,rfl,_,h,_⟩:=Am;exact⟨_,_,_,rfl,h⟩
   obtain⟨a4,n4,c4,rfl,Bp⟩:∃a n c,vm = .slice a n c/\n<=c:=by obtain⟨_,_,rfl,_,h,_⟩:=Aq;exact⟨_,_,_,rfl,h⟩
   obtain⟨a5,n5,c5,rfl,Bo⟩:∃a n c,vx = .slice a n c/\n<=c:=by obtain⟨_,_,rfl,_,h,_⟩:=Ao;exact⟨_,_,_,rfl,h⟩
   have A3:=Hd (rm3 Am 10);have Ay:=Hd (rm3 Aq 10);have A2:=Hd (rm3 Ao 10)
   have Az:n3<=maxLen/\n4<=maxLen/\n5<=maxLen:=by
    obtain⟨_,_,e,h,_⟩:=Am;obtain⟨_,_,e',h',_⟩:=Aq;obtain⟨_,_,Bl,Bq,_⟩:=Ao;cases e;cases e';cases Bl
    exact⟨h,h',Bq⟩
   obtain⟨m3,Ax⟩:=Xq (min n3 10)
   obtain⟨m4,Av⟩:=Xq (min n4 10)
   obtain⟨m5,A1⟩:=Xq (min n5 10)
   rw[<-Ax]at A3;rw[<-Av]at Ay;rw[<-A1]at A2;have Bc:min (n3:Int) 10=(m3:Int):=by omega
   have Bd:min (n4:Int) 10=(m4:Int):=by omega
   have Bf:min (n5:Int) 10=(m5:Int):=by omega
   have Bk:(m3:Int)<=(c3:Int):=by omega
   have Bu:(m4:Int)<=(c4:Int):=by omega
   have A6:(m5:Int)<=(c5:Int):=by omega
   unfold maxLen at Az;obtain⟨Bz,Bx,B5⟩:=Az;have kc:=fun o (ho:o<6)=>(HB.out.cell (p:=⟨b,Ba+k*6+o,none⟩) hb).trans (Ab o ho);have e0:=kc 0 (by omega);have e1:=kc 1 (by omega);have e2:=kc 2 (by omega);have e3:=kc 3 (by omega);have e4:=kc 4 (by omega);have e5:=kc 5 (by omega);simp only[yD,jU,jV]at e0 e1 e2 e3 e4 e5;have B0:(k:Int)<(l.length:Int):=by omega
   have B4:(k:Int)<50:=by omega
   have B2:b<wr.heap.size:=qF hb HB.out.size;obtain⟨W1,A5⟩:=XQ (wr.alloc (.cells #[.int .i64 x.t,.slice ad nd cd,.int .i64 x.n,.slice a3 n3 c3,.slice a4 n4 c4,.slice a5 n5 c5] 56))
   obtain⟨k1,kS,kB⟩:=la2 wr (.cells #[.int .i64 x.t,.slice ad nd cd,.int .i64 x.n,.slice a3 n3 c3,.slice a4 n4 c4,.slice a5 n5 c5] 56);rw[A5]at k1 kS kB;have Bs:=Hd k1;have An:=Hd kB;have Ar:wr.heap.size<W1.heap.size:=by omega
   clear kc Ab Ax Av A1 Bi Bp Bo hd Am Aq Ao hB k1 kS kB;go_wp2_with (fail);clear A5;have Au:=Hd (fun V (hV:(turns fun _=>Option.none).r W1 V)=>(can6 ((tb2 hV Ar rfl).trans Bs.out)).1)
   refine FlowE.wp_region (R:=turns fun _=>Option.none) 29 29 0 (FlowR.sp3 44 (fun _=>.inl undef) (.inl ?_ :: .inl ?_ :: .inl ?_ :: .inl ?_ :: .inl ?_ :: .inr (fun u W=>VA2 (fun b=>W1.heap.size<=b) W u (cV2 x.l)) :: .inl ?_ :: .inl ?_ :: .inl ?_ :: .inl ?_ :: .inl ?_ :: .inl ?_ :: .inl ?_ :: .inl ?_ :: .inl ?_ :: .inl ?_ :: .inl ?_ :: .inl ?_ :: .inl ?_ :: .inl ?_ :: .inl ?_ :: .inl ?_ :: .inl ?_ :: .inl ?_ :: .inl ?_ :: .inl ?_ :: .inl ?_ :: .inl ?_ :: .inl ?_::[])) (fun _=>0) (FlowR.soU (by kernel_rfl)) (by kernel_rfl) (by kernel_rfl) ?_ rfl (by kernel_rfl) (by omega) (by first|(simp only[Region.wanted];done)|(simp[Region.wanted,yielded];done)) (fun w=>by go_simp;try rfl) ?_
   rotate_left 28
   ·refine FlowR.sm2 (fun x=>FlowR.mi _) ?_
    repeat(first|exact FlowR.ln2|refine FlowR.li2 ?_|refine FlowR.li3 (fun u A B h hr=>h.ag (ta5 hr)) ?_)
   all_goals try simp only[FlowE.addE,List.modify_succ_cons,List.modify_zero_cons]
   all_goals try simp only[qL,qY,qM,qV]
   iterate 5 (refine FlowR.tvK rfl (fun K hK=>⟨fun V hw hG=>?_,?_⟩);(obtain⟨t0,t1,t2,t3,t4,t5⟩:=Au.out V hw;clear hG hw;unfold FlowR.Runs FlowR.yields;go_simp;try rfl);go_simp;refine hK _ ?_;clear hK K)
   (refine FlowR.tvK2 rfl (fun K hK=>⟨fun V hw hG=>?_,?_⟩);(have HW:=Hd (tb3 hw);clear hG hw;unfold FlowR.Runs FlowR.yields;go_simp;refine(Bm.out _ (Bt An.out HW.out)).mono ?_;rintro e w3 ⟨u,rfl,Bb,Bg⟩;exact⟨u,rfl,bt4 Bg,Bb.weak fun b hb=>qt HW.out.size hb⟩);intro vz;go_simp;refine hK _ _ ?_;clear hK K)
   iterate 23 (refine FlowR.tvK rfl (fun K hK=>⟨fun V hw hG=>?_,?_⟩);(obtain⟨t0,t1,t2,t3,t4,t5⟩:=Au.out V hw;clear hG hw;unfold FlowR.Runs FlowR.yields;go_simp;try rfl);go_simp;refine hK _ ?_;clear hK K)
   refine FlowR.tn2 fun w2 hw2 hG=>?_;have Ap:=(show VA2 (fun b=>W1.heap.size<=b) w2 vz (cV2 x.l) by simpa[FlowR.upd]using hG 5)
   clear hG;have At:=tb3 hw2;obtain⟨z0,z1,rfl⟩:=Ap.shape;obtain⟨nz,Aw⟩:=Xq ((cV2 x.l).length)
   rw[<-Aw]at Ap⊢;obtain⟨W3,A9⟩:=XQ (w2.alloc (.cells #[.int .i64 x.t,.slice z0 nz z1,.int .i64 x.n,.slice a3 m3 c3,.slice a4 m4 c4,.slice a5 m5 c5] 56))
   obtain⟨k1,kS,kB⟩:=la2 w2 (.cells #[.int .i64 x.t,.slice z0 nz z1,.int .i64 x.n,.slice a3 m3 c3,.slice a4 m4 c4,.slice a5 m5 c5] 56);rw[A9]at k1 kS kB;have Ak:=Bt At kB;have Ae:=Bt An.out Ak;have Br:=Hd k1;have As:=Hd (HO.out.below rn2 Ae);have Ah:=Hd (Bt HB.out Ae);have B1:=Ah.out
   have HX:=Hd (show RA2 (fun b=>(p b∨w.heap.size<=b)/\u3.ownBlock≠some b) W3 [.int .i64 x.t,.slice z0 nz z1,.int .i64 x.n,.slice a3 m3 c3,.slice a4 m4 c4,.slice a5 m5 c5] (cC2 x)from by
    have Af:∀b,(p b/\b<w.heap.size)->(p b∨w.heap.size<=b)/\u3.ownBlock≠some b:=fun b hb=>⟨.inl hb.1,fun e=>by have:=(HO.out.own.lt b e).1;omega⟩
    refine⟨_,_,_,_,rfl,(Ap.ag (Ag.new _ kB)).weak fun b hb=>⟨.inr (by have:=An.out.size;have:=HB.out.size;omega),fun e=>by have:=(HO.out.own.lt b e).2;have:=An.out.size;omega⟩,(A3.out.ag (Ag.new _ Ah.out)).weak Af,(Ay.out.ag (Ag.new _ Ah.out)).weak Af,(A2.out.ag (Ag.new _ Ah.out)).weak Af⟩)
   have Be:W1.heap.size<=w2.heap.size:=At.size;clear Ap At kB Ak Ae hw2 k1 kS Aw e0 e1 e2 e3 e4 e5
   go_wp2_with (at_builtin;refine jT _ rfl _ _ 28 rfl w.heap.size 56 i0 (.agg #[.int .i64 0,.slice none 0 0,.int .i64 0,.slice none 0 0,.slice none 0 0,.slice none 0 0]) 6 112 Tryz.underlying28 hi A8 Bn Bj rfl (by decide) _ _ _ rfl As.out.own ⟨w2.heap.size,0,none⟩ 1 1 [.int .i64 x.t,.slice z0 nz z1,.int .i64 x.n,.slice a3 m3 c3,.slice a4 m4 c4,.slice a5 m5 c5] rfl rfl ?_ (rn2.one HX.out) ?_ ?_ ?_ ?_)
   ·intro j u hj;rw[addr_add,qT _ _ _ _ _ _ Br.out,qj];simpa using hj
   ·have:=HU.out;unfold maxLen;omega
   ·have:=HU.out;omega
   ·exact Ah.out.size
   intro v' w4 Ac Aa Aj Ad;have A7:=Hd (As.out.more rn2 HX.out Ac Aa Ad);have Bh:=Hd (Ah.out.grown Aa Ah.out.size (fun j e=>(As.out.own.lt j e).1));clear Ac Aa Aj Ad;go_wp2_with (fail);refine⟨rfl,?_⟩;go_wp2_with (fail);go_roundw
   case rel=>exact⟨k+1,us++[[.int .i64 x.t,.slice z0 nz z1,.int .i64 x.n,.slice a3 m3 c3,.slice a4 m4 c4,.slice a5 m5 c5]],by omega,by omega,by go_num,by simp[HU.out],by rw[<-HE.out];exact A7.out,fun h=>by omega,Bh.out⟩
   case measure=>simp[intOf];omega
  ·have he:(l.take k).map cC2=(l.take 50).map cC2:=by
    by_cases e:k=50
    ·rw[e]
    ·rw[qh (by omega),qh (by omega)]
   rw[he]at HO;have A0:((l.take 50).map cC2).length=k:=by rw[<-he];simp;omega
   have HL:=Hd (HO.out.listed (q:=fun b=>p b∨w.heap.size<=b) rn2 (fun _ h=>h) (fun _ h=>.inr h) (by unfold maxLen;omega) (fun h=>HN.out (by rw[<-A0,h];rfl)));clear hB he A0;rcases (show(¬(k:Int)<(l.length:Int))∨((k:Int)<(l.length:Int)/\¬(k:Int)<50) by omega)with Bv|⟨Bw,Bv⟩
   all_goals
    clear hlt;go_wp2;go_ret;exact⟨u3,rfl,(by have h:=HL.out;rw[qAj]at h;exact h),HB.out⟩
end Go.Proofs.Q9
namespace Go.Proofs.Q9
open Go.RowKit Go.Sort
open Tess (CK Pay CO)
theorem bw2{P1 P2:Prop}(H:Prop)(f:H->P1)(g:H->P2)(h:H):P1/\P2:=⟨f h,g h⟩
theorem SA.ltK{p:Nat->Prop}{w:World}{v:Value}{s:Tess.Sch}(h:SA p w v s):SA (fun b=>p b/\b<w.heap.size) w v s:=by obtain⟨vd,vm,e1,e2,e3,e4,e5⟩:=h;exact⟨vd,vm,e1,e2.lt,e3.lt,e4,e5⟩
def Nb(b0:Nat)(b:Nat):Prop:=b≠b0
theorem bp3{w:World}{b0:Nat}{u0 u1 u2:Value}(h:w.heap[b0]?=some (.cells #[u0,u1,u2] 24 (0,0)))(v0 v1 v2:Value):∃W,((w.setCell ⟨b0,0,none⟩ v0).setCell ⟨b0,1,none⟩ v1).setCell ⟨b0,2,none⟩ v2=W/\W.heap[b0]?=some (.cells #[v0,v1,v2] 24 (0,0))/\Ag (Nb b0) w W/\∀B,B<=b0->Below B w W:=by
 refine⟨_,rfl,qO _ _ 2 _ _ v2 (qO _ _ 1 _ _ v1 (qO _ _ 0 _ _ v0 h)),?_,fun B hB=>?_⟩
 ·exact((Ag.set _ _ _ (fun e=>e rfl)).trans (Ag.set _ _ _ (fun e=>e rfl))).trans (Ag.set _ _ _ (fun e=>e rfl))
 ·exact(((qJ _ _).setCell (by exact hB) _).setCell (by exact hB) _).setCell (by exact hB) _
end Go.Proofs.Q9
namespace Go.Proofs.Q9
open Go.RowKit Go.ChangeShapes Go.WideShapes Go.Deep Go.Joins
instance:Inhabited Tess.Row:=⟨⟨0,[],[]⟩⟩
instance:Inhabited Tess.Val:=⟨⟨ByteArray.empty,false⟩⟩
section
variable {w:World} {H:Type} {enc:TypeId×Value->H} {held:Bool}
theorem ap3{w:World}{a:Addr}{v:Value}(h:w.cell? (a.add 0)=some v):∃b off,a=⟨b,off,none⟩/\b<w.heap.size/\∀k,a.add k=⟨b,off+k,none⟩:=by
 obtain⟨ab,ao,Aa⟩:=a;cases Aa with
 |some x=>exfalso;simp[Addr.add,World.cell?]at h;split at h<;>simp at h
 |none=>
   have hk:∀k,(⟨ab,ao,none⟩:Addr).add k=⟨ab,ao+k,none⟩:=fun k=>by unfold Addr.add;split<;>simp_all
   rw[hk]at h;exact⟨ab,ao,rfl,qK w _ h,hk⟩
theorem lAo{α:Type}[Inhabited α](k:Nat)(hk0:0<k)(R:World->List Value->α->Prop)(Q:α->Prop){t e:TypeId}(ht:Tryz.prog.underlying t=some (.slice e))(hc:Tryz.prog.cellsOf e=k)
  (hd:∀n cs y,cs.length=k->DataW.trod enc Tryz.prog w 0 (fun _=>true) held n e cs=some y->∃z,R w cs z/\Q z) {fuel:Nat} {v:Value} {x:DataW H×List MemPlace} (h:DataW.trod enc Tryz.prog w 0 (fun _=>true) held fuel t [v]=some x) :
  ∃zs:List α,LA k R (fun _=>True) w v zs/\∀z∈zs,Q z:=by
 rcases open_slice ht h with⟨Aa,_⟩|⟨a,len,Af,m,n,D,Pl,Aa,_,hl,hm,Ad,_,hx⟩
 ·obtain rfl:v = .slice none 0 0:=by simpa using Aa
  exact⟨[],LA.nil _ _ _ _,fun z hz=>by cases hz⟩
 ·obtain rfl:v = .slice (some a) len Af:=by simpa using Aa
  simp only[jH]at Ad;subst Ad
  obtain⟨Z,hZ⟩:=choose_lt (α:=List Value×α) (n:=len) (p:=fun i z=>w.cells? 0 (a.add (i*k)) k=some z.1/\z.1.length=k/\R w z.1 z.2/\Q z.2) (fun i hi=>by
   obtain⟨Ae,e1,e2⟩:=hx i (by omega);rw[hc]at e1;have Ac:=(World.cells?_some e1).2.1;obtain⟨r,h1,h2⟩:=hd n Ae _ Ac e2
   exact⟨(Ae,r),e1,Ac,h1,h2⟩)
  refine⟨(List.range len).map fun i=>(Z i).2,⟨some a,m,by simp,by simp;omega,by simpa using hl,(fun e=>by cases e),fun hp=>?_⟩,fun z hz=>?_⟩
  ·replace hp:0<len:=by simpa using hp
   obtain⟨q1,q2,_⟩:=hZ 0 hp;obtain⟨_,_,z2⟩:=World.cells?_some q1;have z3:=z2 0 hk0;rw[qD (by omega),Deep.add_add]at z3;obtain⟨b,Ag,rfl,hb,Ab⟩:=ap3 (by simpa using z3);refine⟨b,Ag,rfl,hb,trivial,fun j hj=>?_⟩;replace hj:j<len:=by simpa using hj
   obtain⟨p1,p2,p3,_⟩:=hZ j hj;obtain⟨_,_,e5⟩:=World.cells?_some p1;refine⟨(Z j).1,p2,by simpa using p3,fun i hi=>?_⟩;have:=e5 i hi;rw[Deep.add_add,Ab]at this;rw[jq];exact this
  ·obtain⟨i,hi,rfl⟩:=qd.1 hz;exact(hZ i (zV.1 hi)).2.2.2
theorem cot{α:Type}[Inhabited α](f:α->Value)(Q:α->Prop){t e:TypeId}(ht:Tryz.prog.underlying t=some (.slice e))(hc:Tryz.prog.cellsOf e=1)
  (hd:∀n v y,DataW.trod enc Tryz.prog w 0 (fun _=>true) held n e [v]=some y->∃z,v=f z/\Q z) {fuel:Nat} {v:Value} {x:DataW H×List MemPlace} (h:DataW.trod enc Tryz.prog w 0 (fun _=>true) held fuel t [v]=some x) :
  ∃zs:List α,SlP (fun _=>True) w v (zs.map f)/\(∀z∈zs,Q z)/\∃a cap,v = .slice a zs.length cap/\zs.length<=cap:=by
 obtain⟨zs,⟨a,cap,hv,h1,h2,h3,h4⟩,hq⟩:=lAo 1 (by decide) (fun _ cs z=>cs=[f z]) Q ht hc (fun n cs y hl hy=>by
  match cs,hl with
  |[c],_=>
    obtain⟨z,rfl,hz⟩:=hd n c y hy
    exact⟨z,rfl,hz⟩) h
 refine⟨zs,⟨⟨by simpa using h1,a,cap,by simpa using hv,fun hp=>?_⟩,fun _ _ _=>trivial,fun n c e=>?_⟩,hq,a,cap,hv,h2⟩
 ·obtain⟨b,Aa,ha,hb,_,Ab⟩:=h4 (by simpa using hp);refine⟨b,Aa,ha,hb,fun j hj=>?_⟩;obtain⟨cs,e1,e2,e3⟩:=Ab j (by simpa using hj);have:=e3 0 (by decide);rw[e2]at this;simpa using this
 ·rw[hv]at e;simp only[yQ]at e;obtain⟨rfl,rfl,rfl⟩:=e;exact h3 rfl
theorem sot{fuel:Nat}{v:Value}{x:DataW H×List MemPlace}(h:DataW.trod enc Tryz.prog w 0 (fun _=>true) held fuel 22 [v]=some x) :
  ∃zs:List ByteArray,SlP (fun _=>True) w v (zs.map .string)/\(∀z∈zs,z.size<=maxLen)/\∃a cap,v = .slice a zs.length cap/\zs.length<=cap:=
 cot .string (fun z=>z.size<=maxLen) Tryz.underlying22 (by kernel_rfl) (fun n v y hy=>by
  obtain⟨s,hs,_,hz⟩:=DataW.trod_string Tryz.underlying9 hy
  exact⟨s,by simpa using hs,hz⟩) h
theorem ic{fuel:Nat}{v:Value}{x:DataW H×List MemPlace}(h:DataW.trod enc Tryz.prog w 0 (fun _=>true) held fuel 2 [v]=some x):∃z,v = .int .i64 z /\ -9223372036854775808<=z/\z<=9223372036854775807:=by obtain⟨z,hz,_,hw⟩:=DataW.trod_int Tryz.underlying2 h;simp only[Lit.wf,qb,qn]at hw;exact⟨z,by simpa using hz,hw.1,hw.2⟩
theorem vot{fuel:Nat}{v:Value}{x:DataW H×List MemPlace}(h:DataW.trod enc Tryz.prog w 0 (fun _=>true) held fuel 48 [v]=some x):∃l,VA2 (fun _=>True) w v l:=by
 obtain⟨zs,⟨a,Ab,hv,h1,h2,h3,h4⟩,hq⟩:=lAo 2 (by decide) (fun _ cs (z:Tess.Val)=>cs=[.string z.s,.bool z.null]) (fun z=>z.s.size<=maxLen) Tryz.underlying48 (by kernel_rfl) (fun n cs y hl hy=>by
  have Ad:Tryz.prog.cellsOf 47=2:=by kernel_rfl
  obtain⟨y0,y1,n',_,Aa,t0,t1⟩:=trod_struct2 Tryz.underlying47 hy
  match cs,hl with
  |[c0,c1],_=>
    have k0:Tryz.prog.cellsOf 9=1:=by kernel_rfl
    have k1:Tryz.prog.cellsOf 4=1:=by kernel_rfl
    obtain⟨s,hs,_,hz⟩:=DataW.trod_string Tryz.underlying9 (by simpa[k0]using t0);obtain⟨bb,hb,_⟩:=DataW.trod_bool Tryz.underlying4 (by simpa[k1]using t1);obtain rfl:c0 = .string s:=by simpa using hs
    obtain rfl:c1 = .bool bb:=by simpa using hb
    exact⟨⟨s,bb⟩,rfl,hz⟩) h
 refine⟨zs,a,Ab,hv,h1,hq,h3,fun hp=>?_⟩;obtain⟨b,Ac,ha,hb,hp,Aa⟩:=h4 hp;refine⟨b,Ac,ha,hb,hp,fun j hj=>?_⟩;obtain⟨cs,e1,e2,e3⟩:=Aa j hj;have g0:=e3 0 (by decide);have g1:=e3 1 (by decide);rw[e2]at g0 g1;exact⟨by simpa using g0,by simpa using g1⟩
theorem os7{r:Reach}{b0:Nat}{v:Value}{d:DataW H}{ps:List MemPlace}(hval:Value.okWide Tryz.prog w r b0 24 v)(hd:DataW.Trod enc Tryz.prog w 0 (fun _=>true) held 24 v d ps):∃s,SA (fun _=>True) w v s:=by obtain⟨v0,v1,v2,y0,y1,y2,n,rfl,_,_,h0,h1,h2⟩:=open_agg3 Tryz.underlying24 (by kernel_rfl) (by kernel_rfl) hval hd;obtain⟨zd,s0,q0,_⟩:=sot h0;obtain⟨zm,s1,q1,_⟩:=sot h1;obtain⟨g,rfl,_⟩:=ic h2;exact⟨⟨zd,zm,g⟩,v0,v1,rfl,s0,s1,q0,q1⟩
end
end Go.Proofs.Q9
namespace Go.Proofs.Q9
open Go.RowKit Go.ChangeShapes Go.WideShapes Go.Deep Go.Joins
open Tess (RCel)
instance:Inhabited RCel:=⟨⟨0,[],0,[],[],[]⟩⟩
section
variable {w:World} {H:Type} {enc:TypeId×Value->H} {held:Bool}
theorem rAo{α:Type}[Inhabited α](k:Nat)(hk0:0<k)(f:α->List Value)(Q:α->Prop){t e:TypeId}(ht:Tryz.prog.underlying t=some (.slice e))(hc:Tryz.prog.cellsOf e=k)
  (hd:∀n cs y,cs.length=k->DataW.trod enc Tryz.prog w 0 (fun _=>true) held n e cs=some y->∃z,cs=f z/\Q z) {fuel:Nat} {v:Value} {x:DataW H×List MemPlace} (h:DataW.trod enc Tryz.prog w 0 (fun _=>true) held fuel t [v]=some x) :
  ∃zs:List α,RA k f (fun _=>True) w v zs/\∀z∈zs,Q z:=by
 obtain⟨zs,⟨a,Aa,hv,h1,h2,h3,h4⟩,hq⟩:=lAo k hk0 (fun _ cs z=>cs=f z) Q ht hc hd h;refine⟨zs,⟨a,Aa,hv,h1,h2,h3,fun hp=>?_⟩,hq⟩;obtain⟨b,Ab,ha,hb,hp,Ac⟩:=h4 hp;refine⟨b,Ab,ha,hb,hp,fun j hj i hi=>?_⟩;obtain⟨cs,e1,e2,e3⟩:=Ac j hj;rw[e3 i hi,e2]
theorem uc5{fuel:Nat}{v:Value}{x:DataW H×List MemPlace}(h:DataW.trod enc Tryz.prog w 0 (fun _=>true) held fuel 92 [v]=some x):∃z,v = .int .u64 z/\0<=z/\z<=18446744073709551615:=by obtain⟨z,hz,_,hw⟩:=DataW.trod_int Tryz.underlying92 h;simp only[Lit.wf,qb,qn]at hw;exact⟨z,by simpa using hz,hw.1,hw.2⟩
theorem iot{fuel:Nat}{v:Value}{x:DataW H×List MemPlace}(h:DataW.trod enc Tryz.prog w 0 (fun _=>true) held fuel 49 [v]=some x) :
  ∃zs:List Int,RA 1 intF (fun _=>True) w v zs/\∀z∈zs,-9223372036854775808<=z/\z<=9223372036854775807:=
 rAo 1 (by decide) intF _ Tryz.underlying49 (by kernel_rfl) (fun n cs y hl hy=>by
  match cs,hl with
  |[c],_=>
    obtain⟨z,rfl,hz⟩:=ic hy
    exact⟨z,rfl,hz⟩) h
theorem wot{fuel:Nat}{v:Value}{x:DataW H×List MemPlace}(h:DataW.trod enc Tryz.prog w 0 (fun _=>true) held fuel 54 [v]=some x):∃zs:List Int,RA 2 wF (fun _=>True) w v zs:=by
 obtain⟨zs,hz,_⟩:=rAo (α:=Int) 2 (by decide) wF (fun _=>True) Tryz.underlying54 (by kernel_rfl) (fun n cs y hl hy=>by
  have Aa:Tryz.prog.cellsOf 100=2:=by kernel_rfl
  obtain⟨y0,y1,n',_,Ab,t0,t1⟩:=trod_struct2 Tryz.underlying100 hy
  match cs,hl with
  |[c0,c1],_=>
    have k0:Tryz.prog.cellsOf 2=1:=by kernel_rfl
    have k1:Tryz.prog.cellsOf 92=1:=by kernel_rfl
    obtain⟨hi,rfl,h1,h2⟩:=ic (by simpa[k0]using t0);obtain⟨lo,rfl,h3,h4⟩:=uc5 (by simpa[k0,k1]using t1);refine⟨hi*18446744073709551616+lo,?_,trivial⟩;have e1:wHi (hi*18446744073709551616+lo)=hi:=by unfold wHi;omega
    have e2:wLo (hi*18446744073709551616+lo)=lo:=by unfold wLo;omega
    simp[wF,e1,e2]) h
 exact⟨zs,hz⟩
theorem rot{n:Nat}{cs:List Value}{y:DataW H×List MemPlace}(hl:cs.length=6)(h:DataW.trod enc Tryz.prog w 0 (fun _=>true) held n 56 cs=some y) :
  ∃r:RCel,RA2 (fun _=>True) w cs r/\(∀z∈r.mins,-9223372036854775808<=z/\z<=9223372036854775807)/\∀z∈r.maxs,-9223372036854775808<=z/\z<=9223372036854775807:=by
 have k0:Tryz.prog.cellsOf 2=1:=by kernel_rfl
 have k1:Tryz.prog.cellsOf 48=1:=by kernel_rfl
 have k2:Tryz.prog.cellsOf 49=1:=by kernel_rfl
 have k3:Tryz.prog.cellsOf 54=1:=by kernel_rfl
 obtain⟨xs,n',rfl,_,_,Aa,hf⟩:=DataW.trod_struct Tryz.underlying56 h
 match cs,hl,xs,(show xs.length=6 from Aa)with
 |[c0,c1,c2,c3,c4,c5],_,[y0,y1,y2,y3,y4,y5],_=>
   have h0:DataW.trod enc Tryz.prog w 0 (fun _=>true) held n' 2 [c0]=some y0:=by simpa[k0]using hf 0 _ rfl
   have h1:DataW.trod enc Tryz.prog w 0 (fun _=>true) held n' 48 [c1]=some y1:=by simpa[k0,k1]using hf 1 _ rfl
   have h2:DataW.trod enc Tryz.prog w 0 (fun _=>true) held n' 2 [c2]=some y2:=by simpa[k0,k1]using hf 2 _ rfl
   have h3:DataW.trod enc Tryz.prog w 0 (fun _=>true) held n' 54 [c3]=some y3:=by simpa[k0,k1,k3]using hf 3 _ rfl
   have h4:DataW.trod enc Tryz.prog w 0 (fun _=>true) held n' 49 [c4]=some y4:=by simpa[k0,k1,k2,k3]using hf 4 _ rfl
   have h5:DataW.trod enc Tryz.prog w 0 (fun _=>true) held n' 49 [c5]=some y5:=by simpa[k0,k1,k2,k3]using hf 5 _ rfl
   obtain⟨t,rfl,_⟩:=ic h0;obtain⟨l,hl⟩:=vot h1;obtain⟨m,rfl,_⟩:=ic h2;obtain⟨ss,hs⟩:=wot h3;obtain⟨ms,hm,g1⟩:=iot h4;obtain⟨xs,hx,g2⟩:=iot h5;exact⟨⟨t,l,m,ss,ms,xs⟩,⟨c1,c3,c4,c5,rfl,hl,hs,hm,hx⟩,g1,g2⟩
theorem oc4{r:Reach}{b0:Nat}{v:Value}{d:DataW H}{ps:List MemPlace}(hval:Value.okWide Tryz.prog w r b0 28 v)(hd:DataW.Trod enc Tryz.prog w 0 (fun _=>true) held 28 v d ps) :
  ∃l:List RCel,LA 6 (RA2 fun _=>True) (fun _=>True) w v l/\Tess.RRng l:=by
 obtain⟨a0,Ab,Ac,rfl⟩:=okWide_slice Tryz.underlying28 hval;obtain⟨Aa,hf⟩:=hd;exact lAo 6 (by decide) (RA2 fun _=>True) _ Tryz.underlying28 (by kernel_rfl) (fun n cs y hl hy=>rot hl hy) (by simpa[Value.cells]using hf)
end
end Go.Proofs.Q9
namespace Go.Proofs.Q9
open Go.RowKit Go.Sort
open Tess (Fil hasW idxW nO nT iL iR)
theorem ne3(s:ByteArray)(h:s.size=0):nO s=false:=by have:s.data.toList=[]:=jQ (by simpa using h);unfold nO;rw[this];simp[Tess.nL2]
theorem nl4(s:ByteArray)(h:¬s.size<=20):nO s=false:=by unfold nO;rw[qG h,qo]
theorem rIN(s:ByteArray)(w:World)(hs:s.size<=maxLen):Calls Tryz.prog 103 #[.string s] w fun e w'=>e = .returned (.bool (nO s))/\Below w.heap.size w w':=by
 have Ak:s.size<=9223372036854775807:=by unfold maxLen at hs;omega
 by_cases h0:s.size=0
 ·have HR:=Hd (ne3 s h0);have d0:(s.size:Int)<1:=by omega
  clear h0;go_enter Tryz.func103,Tryz.ntmps103;go_wp2;go_ret;exact⟨rb2 HR.out.symm,qJ _ _⟩
 have hp:0<s.size:=by omega
 have d0:¬(s.size:Int)<1:=by omega
 clear h0;by_cases h20:s.size<=20
 ·have d1:¬(20:Int)<(s.size:Int):=by omega
  have HC:=Hd (Tess.on2 s 0 hp s[0].toNat rfl);by_cases hlow:97<=s[0].toNat/\s[0].toNat<=122
  ·obtain⟨l1,l2⟩:=hlow;have e1:¬(s[0].toNat:Int)<97:=by omega
   have e2:¬(122:Int)<(s[0].toNat:Int):=by omega
   have HL:=Hd (And.intro l1 l2);clear l1 l2;go_enter Tryz.func103,Tryz.ntmps103;go_wp2;go_loopw [3] (fun i wr=>∃k:Nat,k<=s.size/\i = .int .i64 k/\nT s k/\Below w.heap.size w wr) (fun i _=>s.size-(intOf i).toNat)
   case atStart=>exact⟨0,qN _,rfl,fun j _ h=>absurd h (zH _),qJ _ _⟩
   case round=>
    obtain⟨k,hk,rfl,Ae,hB⟩:=hrel;have Ac:=Hd Ae;have HB:=Hd hB;clear Ae hB e1 e2;by_cases hlt:k<s.size
    ·have Ai:(k:Int)<(s.size:Int):=by omega
     obtain⟨c,hc⟩:=XQ (s[k].toNat)
     have Ad:=Hd hc.symm;have Af:k=0->97<=c/\c<=122:=fun e=>by subst e;rw[<-hc];exact HL.out
     have Aj:=Hd Af;clear Af;by_cases hA:97<=c/\c<=122
     ·have a1:(97:Int)<=(c:Int):=by omega
      have a2:(c:Int)<=122:=by omega
      have HX:=Hd (Tess.nTs hlt Ac.out ((Tess.oi2 s k hlt c Ad.out).2 (.inl hA)));clear hA;go_wp2;go_roundw
      case rel=>exact⟨k+1,by omega,by go_num,HX.out,HB.out⟩
      case measure=>simp[intOf];omega
     ·have Ag:0<k:=by
       rcases jI k with e|e
       ·exact absurd (Aj.out e) hA
       ·exact e
      have a1:decide ((97:Int)<=(c:Int))=decide (97<=c):=yi.2 (by omega);obtain⟨r1,Aa⟩:=XQ (decide (97<=c))
      have a2:r1=true->decide ((c:Int)<=122)=false:=fun e=>by
       have:97<=c:=by rw[e]at Aa;exact zT Aa
       exact qG (by omega)
      rw[Aa]at a1;by_cases hD:48<=c/\c<=57
      ·have b1:decide ((48:Int)<=(c:Int))=true:=decide_eq_true (by omega);have b2:decide ((c:Int)<=57)=true:=decide_eq_true (by omega);have HX:=Hd (Tess.nTs hlt Ac.out ((Tess.oi2 s k hlt c Ad.out).2 (.inr ⟨Ag,.inr hD⟩)));clear hD hA Aa;cases r1
       ·clear a2;go_wp2;go_roundw
        case rel=>exact⟨k+1,by omega,by go_num,HX.out,HB.out⟩
        case measure=>simp[intOf];omega
       ·have a2:=a2 rfl;go_wp2;go_roundw
        case rel=>exact⟨k+1,by omega,by go_num,HX.out,HB.out⟩
        case measure=>simp[intOf];omega
      ·have b1:decide ((48:Int)<=(c:Int))=decide (48<=c):=yi.2 (by omega);obtain⟨r2,Ab⟩:=XQ (decide (48<=c))
       have b2:r2=true->decide ((c:Int)<=57)=false:=fun e=>by
        have:48<=c:=by rw[e]at Ab;exact zT Ab
        exact qG (by omega)
       rw[Ab]at b1;by_cases hU:c=95
       ·have u1:((c:Int)==95)=true:=xM.2 (by omega);have HX:=Hd (Tess.nTs hlt Ac.out ((Tess.oi2 s k hlt c Ad.out).2 (.inr ⟨Ag,.inl hU⟩)));clear hU hD hA Aa Ab;cases r1<;>cases r2
        all_goals
         try have a2:=a2 rfl
         try have b2:=b2 rfl
         go_wp2;go_roundw
         case rel=>exact⟨k+1,by omega,by go_num,HX.out,HB.out⟩
         case measure=>simp[intOf];omega
       ·have u1:((c:Int)==95)=false:=qi.2 (by omega);have HX:=Hd (Tess.nOn s k hlt (Tess.on2 s k hlt c Ad.out (by omega)));clear hU hD hA Aa Ab;cases r1<;>cases r2
        all_goals
         try have a2:=a2 rfl
         try have b2:=b2 rfl
         go_wp2;go_ret;exact⟨rb2 HX.out.symm,HB.out⟩
    ·have Ai:¬(k:Int)<(s.size:Int):=by omega
     have HX:=Hd (show nO s=true from by
      have Ah:k=s.size:=by omega
      rw[Tess.nOe s (Ah▸Ac.out),decide_eq_true hp,decide_eq_true h20];rfl)
     go_wp2;go_ret;exact⟨rb2 HX.out.symm,HB.out⟩
  ·have HX:=Hd (Tess.nOn s 0 hp (HC.out (by omega)));by_cases hl1:97<=s[0].toNat
   ·have e1:¬(s[0].toNat:Int)<97:=by omega
    have e2:(122:Int)<(s[0].toNat:Int):=by omega
    clear hlow;go_enter Tryz.func103,Tryz.ntmps103;go_wp2;go_ret;exact⟨rb2 HX.out.symm,qJ _ _⟩
   ·have e1:(s[0].toNat:Int)<97:=by omega
    clear hlow;go_enter Tryz.func103,Tryz.ntmps103;go_wp2;go_ret;exact⟨rb2 HX.out.symm,qJ _ _⟩
 ·have HR:=Hd (nl4 s h20);have d1:(20:Int)<(s.size:Int):=by omega
  clear h20;go_enter Tryz.func103,Tryz.ntmps103;go_wp2;go_ret;exact⟨rb2 HR.out.symm,qJ _ _⟩
end Go.Proofs.Q9
namespace Tess
open Go
theorem do2:∀{l:List ByteArray},(∀(i j:Nat) (hi:i<l.length) (hj:j<l.length),i<j->l[i]≠l[j])->distinct l=true
 |[],_=>rfl
 |a::r,h=>by
   simp only[distinct,qb,xd];refine⟨(hWn r a).2 fun hm=>?_,do2 fun i j hi hj hij=>?_⟩
   ·obtain⟨j,hj,e⟩:=zq hm;exact h 0 (j+1) (by simp) (by simpa using hj) (by omega) (by simpa using e.symm)
   ·intro e;exact h (i+1) (j+1) (by simpa using hi) (by simpa using hj) (by omega) (by simpa only[zR]using e)
theorem dn2:∀{l:List ByteArray} (i j:Nat) (hi:i<l.length) (hj:j<l.length),i<j->l[i]=l[j]->distinct l=false
 |[],i,_,hi,_,_,_=>absurd hi (by simp)
 |a::r,i,j,hi,hj,hij,e=>by
   obtain⟨j,rfl⟩:∃k,j=k+1:=⟨j-1,by omega⟩
   unfold distinct;cases i with
   |zero=>
     have:hasW r a=true:=(hWi r a).2 (by simp only[zo,zR]at e;rw[e];exact qP _);rw[this];rfl
   |succ i=>rw[dn2 (l:=r) i j (by simpa using hi) (by simpa using hj) (by omega) (by simpa using e),yp]
end Tess
namespace Go.Proofs.Q9
open Go.RowKit Go.Sort
open Tess (Fil hasW idxW nO nO3 sO)
theorem _root_.Go.Flow.fan{P:Program}{ops:Array Oper}{o:Oper}{a:Act}{w:World}{V:Value->World->Prop}(s x:Operand)(t e:TypeId)(i:TypeInfo)(z:Value)(bytes:Nat)(ho:o.op = .call { callee:=.builtin .append,args:=#[s,x],argTypes:=#[t,t] })
  (ht:P.underlying t=some (.slice e)) (hi:P.info? e=some i) (hz:i.zero=some z) (hsize:i.size=1) (hby:i.bytes=bytes) (hzs:z.cells.size=1)
  (hs:a.eval s = .slice none 0 0) (ad:Addr) (m c:Nat) (news:List Value) (hx:a.eval x = .slice (some ad) m c) (hl:news.length=m) (hnews:∀j u,news[j]?=some u->w.cell? (ad.add j)=some u) (h1:∀u∈news,u.oneCell'=true)
  (h63:m<=maxLen) (hbytes:m*bytes<=140737488355328) (hw:Region.wanted o (yielded ops a.tmps)=true)
  (hV:∀v w',w'.ownsRow w.heap.size e 1 v m news->V v w'):Flow.Runs P ops o (.inr V) a w:=by
 obtain⟨v',w',hr,h2,h3,_⟩:=run_append_own (P:=P) w w.heap.size t o.type e i z 1 bytes ht hi hz hsize hby hzs (by decide) (.slice none 0 0) 0 [] (qg _ _ _ _) ad m c news (by simpa using hl) hnews h1 (by simpa using h63) (by simpa using hbytes) (qC _);refine Flow.ro3 (w':=w') (u:=v') hw ?_ ((qJ _ _).grown h3 (qC _) (fun k e=>by cases e)) (hV _ _ (by simpa using h2));unfold execOp
 simp only[ho,resolve,invoke,builtin,xz,Sem.run_pure,Result.andThen_ok,List.map_toArray,jN,qAt,hs,hx,hr]
theorem ob4{w:World}{N N':Nat}{e:TypeId}{size:Nat}{v:Value}{n:Nat}{xs:List Value}(h:w.ownsRow N' e size v n xs)(hN:N<=N'):w.ownsRow N e size v n xs:=by
 refine⟨h.1,?_⟩;rcases h.2 with hn|⟨g,Aa,Ab,rfl,hb,rest⟩
 ·exact .inl hn
 ·exact .inr ⟨g,Aa,Ab,rfl,qt hN hb,rest⟩
theorem wLa{P:Program}{w:World}{ops:Array Oper}{rest:List Oper}{o:Oper}{a:Act}{Q:Exit->Act->World->Prop}(hgd:o.guard=none)(s x:Operand)(t:TypeId)
  (ho:o.op = .call { callee:=.builtin .append,args:=#[s,x],argTypes:=#[t,t] })
  (base:Nat) (e:TypeId) (i:TypeInfo) (z:Value) (bytes:Nat) (ht:P.underlying t=some (.slice e)) (hi:P.info? e=some i) (hz:i.zero=some z)
  (hsize:i.size=1) (hby:i.bytes=bytes) (hzs:z.cells.size=1)
  (v:Value) (n:Nat) (xs:List Value) (hs:a.eval s=v) (hown:w.ownsRow base e 1 v n xs)
  (ad:Option Addr) (m c:Nat) (news:List Value) (hx:a.eval x = .slice ad m c) (hl:news.length=m) (hnil:ad=none->m=0/\c=0) (hnews:∀b,ad=some b->∀j u,news[j]?=some u->w.cell? (b.add j)=some u) (h1:∀u∈news,u.oneCell'=true)
  (h63:n+m<=maxLen) (hbytes:(n+m)*bytes<=140737488355328) (hbase:base<=w.heap.size)
  (h:∀v' w',w'.ownsRow base e 1 v' (n+m) (xs++news)->w.grownBy w' v.ownBlock->wpList P ops Q rest (a.put o.dst v') w'):wpList P ops Q (o::rest) a w:=by
 cases ad with
 |none=>
   obtain⟨rfl,rfl⟩:=hnil rfl;have hn:news=[]:=jQ hl;subst hn;exact wpList_append_own_none hgd s x t ho base e i 1 ht hi v n xs hs hown hx (h v w (by simpa using hown) ⟨rfl,rfl,rfl,qC _,fun _ _ _=>rfl⟩)
 |some b=>exact qq _ hgd s x t ho base e i z 1 bytes ht hi hz hsize hby hzs (by decide) v n xs hs hown b m c news hx (by simpa using hl) (hnews b rfl) h1 h63 hbytes hbase fun v' w' h2 h3 _=>h v' w' h2 h3
def oN(N:Nat)(n:Nat)(xs:List Value)(v:Value)(w:World):Prop:=w.ownsRow N 9 1 v n xs
theorem oNm(N n:Nat)(xs:List Value):Flow.Spec.mono (.inr (oN N n xs)):=fun _ _ _ h hb=>ob2 h hb
theorem rRa(p:Nat->Prop)(vs:Value)(s:Tess.Sch)(w:World)(hs:SA p w vs s) :
  Calls Tryz.prog 50 #[vs] w fun e w'=>e = .returned (.bool (sO s))/\Below w.heap.size w w':=by
 obtain⟨vd,vm,rfl,hd,hm,Ax,Aw⟩:=hs;obtain⟨ds,ms,g⟩:=s;simp only at hd hm Ax Aw⊢;obtain⟨ad,Ad,rfl,Bz,Ay⟩:=so2 hd.1;obtain⟨am,Ab,rfl,Bw,Bj⟩:=so2 hm.1;have At:=Hd hm.2.2;have HE:RowKit.Hid (sO ⟨ds,ms,g⟩=((decide (1<=ds.length)&&decide (ds.length<=6))&&decide (ms.length<=4)&&decide (1<=g)&&decide (g<=1000000000)&&nO3 (ds++ms))):=Hd rfl;have A0:=Hd Ay;have A6:=Hd Bj;have Bs:=Hd Ax;have Bn:=Hd Aw
 clear hd hm Ay Bj Ax Aw;by_cases h1:1<=ds.length;rotate_left
 ·rw[qG h1]at HE;have d1:(ds.length:Int)<1:=by omega
  clear h1;go_enter Tryz.func50,Tryz.ntmps50;go_wp2;go_ret;exact⟨rb2 (by rw[HE.out];simp),(la2 _ _).2.2⟩
 by_cases h2:ds.length<=6;rotate_left
 ·rw[qG h2]at HE;have d1:¬(ds.length:Int)<1:=by omega
  have d2:(6:Int)<(ds.length:Int):=by omega
  clear h1 h2;go_enter Tryz.func50,Tryz.ntmps50;go_wp2;go_ret;exact⟨rb2 (by rw[HE.out];simp),(la2 _ _).2.2⟩
 by_cases h3:ms.length<=4;rotate_left
 ·rw[qG h3]at HE;have d1:¬(ds.length:Int)<1:=by omega
  have d2:¬(6:Int)<(ds.length:Int):=by omega
  have d3:(4:Int)<(ms.length:Int):=by omega
  clear h1 h2 h3;go_enter Tryz.func50,Tryz.ntmps50;go_wp2;go_ret;exact⟨rb2 (by rw[HE.out];simp),(la2 _ _).2.2⟩
 by_cases h4:1<=g;rotate_left
 ·rw[qG h4]at HE;have d1:¬(ds.length:Int)<1:=by omega
  have d2:¬(6:Int)<(ds.length:Int):=by omega
  have d3:¬(4:Int)<(ms.length:Int):=by omega
  have d4:g<1:=by omega
  clear h1 h2 h3 h4;go_enter Tryz.func50,Tryz.ntmps50;go_wp2;go_ret;exact⟨rb2 (by rw[HE.out];simp),(la2 _ _).2.2⟩
 by_cases h5:g<=1000000000;rotate_left
 ·rw[qG h5]at HE;have d1:¬(ds.length:Int)<1:=by omega
  have d2:¬(6:Int)<(ds.length:Int):=by omega
  have d3:¬(4:Int)<(ms.length:Int):=by omega
  have d4:¬g<1:=by omega
  have d5:1000000000<g:=by omega
  clear h1 h2 h3 h4 h5;go_enter Tryz.func50,Tryz.ntmps50;go_wp2;go_ret;exact⟨rb2 (by rw[HE.out];simp),(la2 _ _).2.2⟩
 rw[decide_eq_true h1,decide_eq_true h2,decide_eq_true h3,decide_eq_true h4,decide_eq_true h5]at HE;have d1:¬(ds.length:Int)<1:=by omega
 have d2:¬(6:Int)<(ds.length:Int):=by omega
 have d3:¬(4:Int)<(ms.length:Int):=by omega
 have d4:¬g<1:=by omega
 have d5:¬1000000000<g:=by omega
 have Ak:=Hd (And.intro h1 (And.intro h2 h3));obtain⟨db,Ae,rfl,By,Bp⟩:=A0.out 0 (by omega);clear h1 h2 h3 h4 h5 Bp
 have A2:=Hd (show ∀j u,(ds.map Value.string)[j]?=some u->w.cell? ((⟨db,Ae,none⟩:Addr).add j)=some u from fun j u hj=>by
  rw[qp]at hj;obtain⟨x,hx,rfl⟩:=jM.1 hj;obtain⟨As,rfl⟩:=zW.1 hx;obtain⟨b,Aj,ha,hb,h⟩:=A0.out j As;cases ha
  rw[show(⟨db,Ae,none⟩:Addr).add j=⟨db,Ae+j,none⟩ by unfold Addr.add;split<;>simp_all]
  exact h)
 obtain⟨W0,Bb⟩:=XQ (w.alloc (.cells #[.slice (some ⟨db,Ae,none⟩) ds.length Ad,.slice am ms.length Ab,.int .i64 g] 24))
 obtain⟨k0,kS,kB⟩:=la2 w (.cells #[.slice (some ⟨db,Ae,none⟩) ds.length Ad,.slice am ms.length Ab,.int .i64 g] 24);rw[Bb]at k0 kS kB;obtain⟨⟨x0,x1,x2⟩,_⟩:=can3 k0;have HB:=Hd kB;have Bx:w.heap.size<W0.heap.size:=by omega
 obtain⟨i0,hi,A1,Bi,Bd⟩:=zF iS2;clear k0 kS kB;go_enter Tryz.func50,Tryz.ntmps50;go_wp2_with (fail);clear Bb;refine Flow.wrf 6 (Flow.sp3 [.inl ?_,.inl ?_,.inl ?_,.inr (oN W0.heap.size ds.length (ds.map .string)),.inl ?_,.inl ?_]) (by kernel_rfl) (by kernel_rfl) ?_ ?_;rotate_left 5
 ·refine Flow.sm2 ?_
  repeat(first|exact Flow.ln2|refine Flow.li2 ?_|refine Flow.li3 (oNm _ _ _) ?_)
 all_goals try simp only[qL,qY,qM,qV]
 iterate 3 (refine Flow.tvK rfl (fun K hK=>⟨fun w hw hG=>?_,?_⟩);(have Bq:=Flow.bc4 hw;clear hG hw;unfold Flow.Runs Flow.yields;go_simp;try rfl);go_simp;refine hK _ ?_;clear hK K)
 refine Flow.tvK2 rfl (fun K hK=>⟨fun w5 hw hG=>?_,?_⟩)
 ·have HW:=Hd hw;clear hG hw;refine Flow.fan _ _ 22 9 i0 (.string ByteArray.empty) 16 rfl Tryz.underlying22 hi A1 Bi Bd rfl rfl ⟨db,Ae,none⟩ ds.length Ad (ds.map .string) rfl (by simp) (fun j u hj=>?_) (fun u hu=>?_) ?_ ?_ ?_ (fun v w' h=>?_)
  ·exact((Bt HB.out HW.out).cell (qK _ _ (A2.out j u hj))).trans (A2.out j u hj)
  ·obtain⟨y,_,rfl⟩:=qd.1 hu;rfl
  ·unfold maxLen;omega
  ·have:=Ak.out;omega
  ·simp[Region.wanted]
  ·exact ob4 h HW.out.size
 intro vz;go_simp;refine hK _ _ ?_;clear hK K
 iterate 2 (refine Flow.tvK rfl (fun K hK=>⟨fun w hw hG=>?_,?_⟩);(have Bq:=Flow.bc4 hw;clear hG hw;unfold Flow.Runs Flow.yields;go_simp;try rfl);go_simp;refine hK _ ?_;clear hK K)
 refine Flow.tn2 fun w2 hw2 hG=>?_;have HO:=Hd (show oN W0.heap.size ds.length (ds.map .string) vz w2 by simpa[Flow.upd]using hG 3);have Am:=Hd (Bt HB.out hw2);have A9:=hw2.size;clear hG hw2 x0 x1 x2
 have Aq:=Hd (show ∀b,am=some b->∀j u,(ms.map Value.string)[j]?=some u->w2.cell? (b.add j)=some u from fun b e j u hj=>by
  rw[qp]at hj;obtain⟨x,hx,rfl⟩:=jM.1 hj;obtain⟨As,rfl⟩:=zW.1 hx;obtain⟨b',Aj,ha,hb,h⟩:=A6.out j As;rw[e]at ha;cases ha
  rw[show(⟨b',Aj,none⟩:Addr).add j=⟨b',Aj+j,none⟩ by unfold Addr.add;split<;>simp_all]
  exact(Am.out.cell (p:=⟨b',Aj+j,none⟩) hb).trans h)
 have Bc:=Hd (show am=none->ms.length=0/\Ab=0 from fun e=>by
  subst e;refine⟨?_,At.out _ _ rfl⟩;rcases jI ms.length with h|h
  ·exact h
  ·obtain⟨_,_,ha,_⟩:=A6.out 0 h
   cases ha)
 go_wp2_with (have Bv:=Aq;clear Bv;at_builtin;refine wLa rfl _ _ 22 rfl W0.heap.size 9 i0 (.string ByteArray.empty) 16 Tryz.underlying22 hi A1 Bi Bd rfl _ ds.length _ rfl HO.out am ms.length Ab (ms.map .string) rfl (by simp) Bc.out Aq.out ?_ ?_ ?_ ?_ ?_)
 ·intro u hu;obtain⟨y,_,rfl⟩:=qd.1 hu;rfl
 ·have:=Ak.out;unfold maxLen;omega
 ·have:=Ak.out;omega
 ·exact A9
 intro v3 w3 Aa Az;rw[<-qs]at Aa;have Ap:ds.length+ms.length=(ds++ms).length:=by simp
 rw[Ap]at Aa;have Ao:=Hd (Am.out.grown Az Am.out.size (fun j e=>qt HB.out.size (HO.out.lt j e).1));have Bh:=Hd (show ∀x∈ds++ms,x.size<=maxLen from fun x hx=>(zk.1 hx).elim (Bs.out x) (Bn.out x));have Bk:1<=(ds++ms).length/\(ds++ms).length<=10:=by have:=Ak.out;simp;omega
 generalize ds++ms=al at HE Aa Ap Bh Bk;obtain⟨gg,cp,rfl,_,Ba,_,Ac⟩:=oc2 Aa (by omega);have A8:=Hd Ac;obtain⟨Bm,Bu⟩:=Bk;clear Aa Az Ap HO Am Ac Aq Bc A9;go_wp2_with (fail)
 go_loopw [4] (fun i wr=>∃k:Nat,k<=al.length/\i = .int .i64 k/\(∀(a b:Nat) (ha:a<al.length) (hb:b<al.length),a<b->b<k->al[a]≠al[b])/\(∀(j:Nat) (hj:j<al.length),j<k->nO al[j]=true)/\Below w3.heap.size w3 wr) (fun i _=>al.length-(intOf i).toNat)
 case atStart=>exact⟨0,qN _,rfl,fun _ _ _ _ _ h=>absurd h (zH _),fun _ _ h=>absurd h (zH _),qJ _ _⟩
 case round=>
  obtain⟨k,hk,rfl,Ai,Ah,A4⟩:=hrel;have A3:=Hd Ai;have Bf:=Hd Ah;have A7:=Hd A4;clear Ai Ah A4;by_cases hlt:k<al.length
  ·have Bl:(k:Int)<(al.length:Int):=by omega
   obtain⟨x,hx⟩:=Xq (al[k])
   have ek:=(A8.out k hlt).1;rw[qp,qD hlt,<-hx,qj]at ek;have HX:=Hd hx;have Bo:=Hd ek;clear hx ek;go_wp2_with (fail);go_loopw [5] (fun i wq=>∃m:Nat,m<=k/\i = .int .i64 m/\(∀(j:Nat) (hj:j<al.length),j<m->al[j]≠x)/\Below w3.heap.size w3 wq) (fun i _=>k-(intOf i).toNat)
   case atStart=>exact⟨0,qN _,rfl,fun _ _ h=>absurd h (zH _),A7.out⟩
   case round=>
    obtain⟨m,hm,rfl,Bg,A5⟩:=hrel;have Be:=Hd Bg;have Af:=Hd A5;clear Bg A5;have e1:=(Af.out.cell (p:=⟨gg,k,none⟩) Ba).trans Bo.out;by_cases hmk:m<k
    ·have Br:(m:Int)<(k:Int):=by omega
     have Av:m<al.length:=by omega
     obtain⟨y,hy⟩:=Xq (al[m])
     have em:=(A8.out m Av).1;rw[qp,qD Av,<-hy,qj]at em;have e2:=(Af.out.cell (p:=⟨gg,m,none⟩) Ba).trans em;have HY:=Hd hy;clear hy em;cases he:(x.toList==y.toList)
     ·have Ar:=Hd (sn4 he);go_wp2;go_quiet (fail);go_wp2;go_roundw
      case rel=>
       refine⟨m+1,by omega,by go_num,fun j hj hjm=>?_,zi Af.out _⟩;by_cases h:j<m
       ·exact Be.out j hj h
       ·obtain rfl:j=m:=by omega
        rw[<-HY.out];exact fun e=>Ar.out e.symm
      case measure=>simp[intOf];omega
     ·have Ar:=Hd (se5 he);go_wp2;go_quiet (fail);go_wp2;go_ret;refine⟨rb2 ?_,zi (Bt Ao.out Af.out) _⟩;rw[HE.out];have:Tess.distinct al=false:=Tess.dn2 m k Av hlt hmk (by rw[<-HX.out,<-HY.out];exact Ar.out.symm);unfold nO3;rw[this];simp
    ·have Br:¬(m:Int)<(k:Int):=by omega
     have Al:=Hd (fun W=>rIN x W (HX.out▸Bh.out _ (qP hlt)));cases hn:nO x
     ·rw[hn]at Al;have Au:=Hd hn;clear hn;go_wp2_with (go_at_call 103;refine(Al.out _).mono ?_;rintro e w6 ⟨rfl,Ag⟩;have An:=Hd (Bt Af.out Ag);clear Ag);go_ret;refine⟨rb2 ?_,Bt Ao.out An.out⟩;rw[HE.out]
      have:al.all nO=false:=by rw[List.all_eq_false];exact⟨al[k],qP hlt,by rw[<-HX.out,Au.out];simp⟩
      unfold nO3;rw[this];simp
     ·rw[hn]at Al;have Au:=Hd hn;clear hn;go_wp2_with (go_at_call 103;refine(Al.out _).mono ?_;rintro e w6 ⟨rfl,Ag⟩;have An:=Hd (Bt Af.out Ag);clear Ag);go_roundw
      case rel=>
       refine⟨k+1,by omega,by go_num,fun a b ha hb hab hbk=>?_,fun j hj hjk=>?_,An.out⟩
       ·by_cases h:b<k
        ·exact A3.out a b ha hb hab h
        ·obtain rfl:b=k:=by omega
         rw[<-HX.out];exact Be.out a ha (by omega)
       ·by_cases h:j<k
        ·exact Bf.out j hj h
        ·obtain rfl:j=k:=by omega
         rw[<-HX.out];exact Au.out
      case measure=>simp[intOf];omega
  ·have Bl:¬(k:Int)<(al.length:Int):=by omega
   go_wp2;go_ret;refine⟨rb2 ?_,Bt Ao.out A7.out⟩;rw[HE.out];have h1:Tess.distinct al=true:=Tess.do2 fun i j hi hj hij=>A3.out i j hi hj hij (by omega)
   have h2:al.all nO=true:=by rw[qx];intro y hy;obtain⟨j,hj,rfl⟩:=zq hy;exact Bf.out j hj (by omega)
   unfold nO3;rw[h1,h2];rfl
