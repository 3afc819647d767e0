/- Joined. -/
import Derived.Test.YtjdccifdkjnknaaGreatDoorZC06
import Derived.Test.YtjdccifdkjnknaaGreatDoorZC18
set_option maxRecDepth 100000
set_option maxHeartbeats 4000000
namespace Go.Proofs.Q9
open Go.RowKit Go.Sort
theorem ca4(x y:Int)(w:World):Calls Tryz.prog 183 #[.int .i64 x,.int .i64 y] w fun e w'=>e = .returned (.int .i64 (cmpI x y))/\Below w.heap.size w w':=by
 have HB:=Hd (qJ w.heap.size w);rcases Int.lt_trichotomy x y with h|h|h
 ·have hc:cmpI x y = -1:=by unfold cmpI;rw[qR h]
  rw[hc];clear hc;go_enter Tryz.func183,Tryz.ntmps183;go_wp2;go_ret;exact⟨rfl,HB.out⟩
 ·subst h;have hc:cmpI x x=0:=by unfold cmpI;simp
  rw[hc];clear hc;go_enter Tryz.func183,Tryz.ntmps183;go_wp2;go_ret;exact⟨rfl,HB.out⟩
 ·have hn:¬x<y:=by omega
  have hc:cmpI x y=1:=by unfold cmpI;rw[qH hn,qR h]
  rw[hc];clear hc;go_enter Tryz.func183,Tryz.ntmps183;go_wp2;go_ret;exact⟨rfl,HB.out⟩
theorem cUa(x y:Int)(w:World):Calls Tryz.prog 184 #[.int .u64 x,.int .u64 y] w fun e w'=>e = .returned (.int .i64 (cmpI x y))/\Below w.heap.size w w':=by
 have HB:=Hd (qJ w.heap.size w);rcases Int.lt_trichotomy x y with h|h|h
 ·have hc:cmpI x y = -1:=by unfold cmpI;rw[qR h]
  rw[hc];clear hc;go_enter Tryz.func184,Tryz.ntmps184;go_wp2;go_ret;exact⟨rfl,HB.out⟩
 ·subst h;have hc:cmpI x x=0:=by unfold cmpI;simp
  rw[hc];clear hc;go_enter Tryz.func184,Tryz.ntmps184;go_wp2;go_ret;exact⟨rfl,HB.out⟩
 ·have hn:¬x<y:=by omega
  have hc:cmpI x y=1:=by unfold cmpI;rw[qH hn,qR h]
  rw[hc];clear hc;go_enter Tryz.func184,Tryz.ntmps184;go_wp2;go_ret;exact⟨rfl,HB.out⟩
theorem oa8(x y:Int)(b:Nat)(w:World)(h0:w.cell? ⟨b,0,none⟩=some (.int .i64 x))(h1:w.cell? ⟨b,1,none⟩=some (.int .i64 y)):Calls Tryz.prog 182 #[.slice (some ⟨b,0,none⟩) 2 2] w fun e w'=>e = .returned (.int .i64 (if x≠0 then x else y))/\Below w.heap.size w w':=by
 have HB:=Hd (qJ w.heap.size w);by_cases hx:x=0
 ·subst hx;rw[qH (by simp)];by_cases hy:y=0
  ·subst hy;go_enter Tryz.func182,Tryz.ntmps182;go_wp2;refine jv 3 ?_;rw[jR];go_wp2;rw[jR];go_wp2;rw[jR];go_wp2;go_ret;exact⟨rfl,HB.out⟩
  ·go_enter Tryz.func182,Tryz.ntmps182;go_wp2;refine jv 3 ?_;rw[jR];go_wp2;rw[jR];go_wp2;go_ret;exact⟨rfl,HB.out⟩
 ·rw[qR hx];go_enter Tryz.func182,Tryz.ntmps182;go_wp2;refine jv 3 ?_;rw[jR];go_wp2;go_ret;exact⟨rfl,HB.out⟩
theorem wCa(n m:Int)(w:World):Calls Tryz.prog 137 #[.agg #[.int .i64 (wHi n),.int .u64 (wLo n)],.agg #[.int .i64 (wHi m),.int .u64 (wLo m)]] w fun e w'=>e = .returned (.int .i64 (cmpI n m))/\Below w.heap.size w w':=by
 have HC:=Hd (cw2 n m);have H1:=Hd (fun W=>ca4 (wHi n) (wHi m) W);have H2:=Hd (fun W=>cUa (wLo n) (wLo m) W);have HO:=Hd (fun b W h0 h1=>oa8 (cmpI (wHi n) (wHi m)) (cmpI (wLo n) (wLo m)) b W h0 h1);rw[HC.out]at HO;generalize cmpI n m=z at *;generalize cmpI (wHi n) (wHi m)=z1 at *;generalize cmpI (wLo n) (wLo m)=z2 at *;generalize wHi n=a1 at *;generalize wHi m=a2 at *;generalize wLo n=b1 at *
 generalize wLo m=b2 at *;clear HC;obtain⟨W0,Aj⟩:=XQ ((w.alloc (.cells #[.int .i64 a1,.int .u64 b1] 100)).alloc (.cells #[.int .i64 a2,.int .u64 b2] 100))
 obtain⟨k0,k1,kS,kB⟩:=la3 w (.cells #[.int .i64 a1,.int .u64 b1] 100) (.cells #[.int .i64 a2,.int .u64 b2] 100);rw[Aj]at k0 k1 kS kB;obtain⟨⟨x0,x1⟩,_⟩:=can2 k0;obtain⟨⟨y0,y1⟩,_⟩:=can2 k1;have Al:w.heap.size<W0.heap.size:=by omega
 have Am:w.heap.size+1<W0.heap.size:=by omega
 have HB:=Hd kB;clear kS kB k0 k1;go_enter Tryz.func137,Tryz.ntmps137;go_wp2_with (fail);refine Flow.wrf 10 (Flow.sp3 [.inl ?_,.inl ?_,.inl ?_,.inl ?_,.inl ?_,.inl ?_,.inl ?_,.inl ?_,.inl ?_,.inl ?_]) (by kernel_rfl) (by kernel_rfl) ?_ ?_;rotate_left 10
 ·refine Flow.sm2 ?_
  repeat(first|exact Flow.ln2|refine Flow.li2 ?_)
 all_goals try simp only[qL,qY,qM,qV]
 iterate 4 (refine Flow.tvK rfl (fun K hK=>⟨fun w hw hG=>?_,?_⟩);(have Ak:=Flow.bc4 hw;clear hG hw;unfold Flow.Runs Flow.yields;go_simp;try rfl);go_simp;refine hK _ ?_;clear hK K)
 (refine Flow.tvK rfl (fun K hK=>⟨fun w hw hG=>?_,?_⟩);(clear hG hw;unfold Flow.Runs Flow.yields;go_simp;refine(H1.out _).mono ?_;rintro e w5 ⟨rfl,Aa⟩;first|exact⟨_,rfl,Aa,rfl⟩|(refine⟨?_,Aa⟩;rfl));go_simp;refine hK _ ?_;clear hK K)
 iterate 4 (refine Flow.tvK rfl (fun K hK=>⟨fun w hw hG=>?_,?_⟩);(have Ak:=Flow.bc4 hw;clear hG hw;unfold Flow.Runs Flow.yields;go_simp;try rfl);go_simp;refine hK _ ?_;clear hK K)
 (refine Flow.tvK rfl (fun K hK=>⟨fun w hw hG=>?_,?_⟩);(clear hG hw;unfold Flow.Runs Flow.yields;go_simp;refine(H2.out _).mono ?_;rintro e w5 ⟨rfl,Aa⟩;first|exact⟨_,rfl,Aa,rfl⟩|(refine⟨?_,Aa⟩;rfl));go_simp;refine hK _ ?_;clear hK K)
 refine Flow.tn2 fun w5 hw5 hG=>?_;clear hG x0 x1 y0 y1;have Ah:=Hd (Bt HB.out hw5);clear hw5;obtain⟨W6,Ag⟩:=XQ (w5.alloc (.cells #[.int .i64 z1,.int .i64 z2] 3))
 obtain⟨k6,Ac,Ab⟩:=la2 w5 (.cells #[.int .i64 z1,.int .i64 z2] 3);rw[Ag]at k6 Ac Ab;obtain⟨⟨q0,q1⟩,_⟩:=can2 k6;have Ai:=Hd (Bt Ah.out Ab);have Ae:=Hd (HO.out _ _ q0 q1);clear Ac Ab k6 HO;go_simp;go_wp2_with (fail);go_at_call 182;refine Ae.out.mono ?_;rintro e w7 ⟨rfl,Ad⟩;have Af:=Hd (Bt Ai.out Ad);clear Ad;go_wp2;go_ret;exact⟨rfl,Af.out⟩
theorem wMa(n:Int)(m:Nat)(hn:I64 n)(hm:m<=1000000)(w:World):Calls Tryz.prog 136 #[.int .i64 n,.int .i64 m] w fun e w'=>e = .returned (.agg #[.int .i64 (wHi (n*m)),.int .u64 (wLo (n*m))])/\Below w.heap.size w w':=by
 obtain⟨a,ha,Ah,Ag,Ac,hd⟩:=mh n m hn hm;have Am:IntKind.u64.wrap (m:Int)=(m:Nat):=by rw[wu];omega
 have hM:=Hd (fun W=>Tryz.bits_Mul64 a m Ah (by omega) W);rw[<-Ag];obtain⟨U,hU⟩:=XQ (a*m/18446744073709551616:Nat)
 obtain⟨V,hV⟩:=XQ (a*m%18446744073709551616:Nat)
 rw[hU]at Ac hd;rw[hU,hV]at hM;rw[hV];have An:IntKind.i64.wrap (U:Int)=U:=by rw[zU];omega
 have Aj:IntKind.i64.wrap ((U:Int)-m)=(U:Int)-m:=by rw[zU];omega
 have Al:¬(m:Int)<0:=by omega
 generalize wHi (n*m)=z at *;clear Ag hU hV hn hm hd Ah;obtain⟨W0,Ak⟩:=XQ ((w.alloc (.cells #[.int .i64 0,.int .u64 0] 100)).alloc (.cells #[.int .i64 U,.int .u64 V] 100))
 obtain⟨k0,k1,kS,kB⟩:=la3 w (.cells #[.int .i64 0,.int .u64 0] 100) (.cells #[.int .i64 U,.int .u64 V] 100);rw[Ak]at k0 k1 kS kB;by_cases h0:n<0
 ·rw[qR h0]at Ac;have Af:=qO _ _ 0 _ _ (.int .i64 z) k1;obtain⟨⟨x0,x1⟩,f0,f1⟩:=can2 k1;obtain⟨⟨y0,y1⟩,g0,g1⟩:=can2 k0;have Ai:Below w.heap.size w (W0.setCell ⟨w.heap.size+1,0,none⟩ (.int .i64 z)):=kB.setCell (by show _<=w.heap.size+1;omega) _;have Ae:=(qW W0 ⟨w.heap.size+1,0,none⟩ _ (.int .i64 z) (show w.heap.size≠w.heap.size+1 by omega)).trans k0;obtain⟨⟨p0,p1⟩,_⟩:=can2 Af
  obtain⟨⟨r0,r1⟩,s0,s1⟩:=can2 Ae;have Aa:=qO _ _ 1 _ _ (.int .u64 V) (qO _ _ 0 _ _ (.int .i64 z) Ae);obtain⟨⟨e0,e1⟩,_⟩:=can2 Aa;have Ab:Below w.heap.size w (((W0.setCell ⟨w.heap.size+1,0,none⟩ (.int .i64 z)).setCell ⟨w.heap.size,0,none⟩ (.int .i64 z)).setCell ⟨w.heap.size,1,none⟩ (.int .u64 V)):=(Ai.setCell (qC _) _).setCell (qC _) _;have Ad:=Hd Ab;rw[Ac]at Aj;clear Af Ae Aa Ai Ab k0 k1 kS kB
  go_enter Tryz.func136,Tryz.ntmps136;go_wp2_with (go_at_call 181;refine(hM.out _).mono ?_;rintro e w1 ⟨rfl,rfl⟩);refine jW (v:=.agg #[.int .i64 z,.int .u64 V]) (by simp[results,Tryz.results136,go_sem,e0,e1]) rfl ⟨rfl,Ad.out⟩
 ·rw[qH h0]at Ac;obtain⟨⟨x0,x1⟩,f0,f1⟩:=can2 k1;obtain⟨⟨y0,y1⟩,g0,g1⟩:=can2 k0;have hz:(U:Int)=z:=by omega
  have Aa:=qO _ _ 1 _ _ (.int .u64 V) (qO _ _ 0 _ _ (.int .i64 U) k0);obtain⟨⟨e0,e1⟩,_⟩:=can2 Aa;have Ab:Below w.heap.size w ((W0.setCell ⟨w.heap.size,0,none⟩ (.int .i64 U)).setCell ⟨w.heap.size,1,none⟩ (.int .u64 V)):=(kB.setCell (qC _) _).setCell (qC _) _;have Ad:=Hd Ab;rw[<-hz];clear Aa Ab k0 k1 kS kB hz Ac;go_enter Tryz.func136,Tryz.ntmps136
  go_wp2_with (go_at_call 181;refine(hM.out _).mono ?_;rintro e w1 ⟨rfl,rfl⟩);refine jW (v:=.agg #[.int .i64 U,.int .u64 V]) (by simp[results,Tryz.results136,go_sem,e0,e1]) rfl ⟨rfl,Ad.out⟩
end Go.Proofs.Q9
namespace Go.Proofs.Q9
open Go.RowKit Go.Sort Go.Shelf
attribute [local go_sem] jK
theorem rIi{n m:Nat}{P:Program}{l l2:Nat}{f:FuncId}{tmps:Array Value}{assign body:Code}{w:World}{R:Ending->World->Prop}(h:RoundIn Fence.wide n P l f tmps assign body w R):RoundIn (Fence.wide.inRound l2) m P l f tmps assign body w R:=
 ⟨h.1,fun c cs _=>h.2 c cs (room_wide _)⟩
def Iter(gf:FuncId)(lb:Array Value)(m:Nat)(vs:List (Array Value))(q:Nat->Prop)(W0:World):Prop:=
 ∀(l:Nat) (fn0:FuncId) (T:Array Value->Array Value) (A B:Code) (Inv:Nat->World->Prop),
   (∀k W W',Inv k W->Below W.heap.size W W'->Inv k W')->(∀k W W' l' o,Inv k W->l<l'->W.heap[l']?=some o->o.isCells=false->Rf.SB l' W W'->Inv k W')->(∀k W,Inv k W->l<W.heap.size/\Ag q W0 W) ->
   (∀k W,Inv k W->∀z:Array Value,z.size=m->(Instr.yield l z).run Tryz.prog W = .ok (.round l fn0 (T z) A B) W) ->
   (∀k W (hk:k<vs.length),Inv k W->RoundIn Fence.wide 5 Tryz.prog l fn0 (T vs[k]) A B W (fun e W'=>e = .returned (.bool true)/\Inv (k+1) W')) ->
   ∀W,Inv 0 W->Calls Tryz.prog gf (#[.func (.yield l) #[] #[]]++lb) W fun e W'=>(∃v,e = .returned v)/\Inv vs.length W'
theorem va3(a:Option Addr)(n c:Nat)(w:World):Calls Tryz.prog 211 #[.slice a n c] w fun e w'=>e = .returned (.func (.func 231) #[] #[.pointer (some ⟨w.heap.size,0,none⟩)])/\w'=w.alloc (.cells #[.slice a n c] 49):=by go_enter Tryz.func211,Tryz.ntmps211;go_wp2;go_ret;exact⟨rfl,rfl⟩
theorem na3(a:Option Addr)(n c:Nat)(w:World):Calls Tryz.prog 179 #[.slice a n c] w fun e w'=>e = .returned (.func (.func 210) #[] #[.pointer (some ⟨w.heap.size,0,none⟩)])/\w'=w.alloc (.cells #[.slice a n c] 49):=by go_enter Tryz.func179,Tryz.ntmps179;go_wp2;go_ret;exact⟨rfl,rfl⟩
theorem vi2(ns:List Int)(b:Nat)(v:Value)(p q:Nat->Prop)(hpq:∀c,p c->q c)(W0:World)(h0:W0.cell? ⟨b,0,none⟩=some v)(hb:q b)(hv:RA 1 intF p W0 v ns) :
  Iter 231 #[.pointer (some ⟨b,0,none⟩)] 1 (ns.map fun n=>#[.int .i64 n]) q W0:=by
 intro l An T A B Ac Ae _ Af hy hr W hI;have HI:=Hd hI;have Ak:=Hd Ae;have Ab:=Hd Af;have HY:=Hd hy;have HR:=Hd hr;have Aa:=qK W0 _ h0;have HV:=Hd (fun k X (h:Ac k X)=>hv.ag ((Ab.out k X h).2.weak hpq));have c1:=((Ab.out 0 W hI).2.cell Aa hb).trans h0;obtain⟨a,c,rfl,hl,_⟩:=hv;have hl:ns.length<=9223372036854775807:=by unfold maxLen at *;omega
 clear hI Ae Af hy hr;refine(qZ (n:=5)).1 ?_;refine yg Tryz.func231 rfl trivial ?_ rfl;simp only[Tryz.ntmps231,qu,qU,zE,Nat.reduceAdd,Nat.reduceSub,qv,qw,zO,zC,qr,qk];gi_wp2;gi_loopw [7] (fun i wr=>∃k:Nat,k<=ns.length/\i = .int .i64 k/\Ac k wr) (fun i _=>ns.length-(intOf i).toNat)
 case atStart=>exact⟨0,qN _,rfl,HI.out⟩
 case round=>
  clear c1;obtain⟨k,hk,rfl,hI⟩:=hrel;have HJ:=Hd hI;clear hI;by_cases hlt:k<ns.length
  ·have Ai:(k:Int)<(ns.length:Int):=by omega
   obtain⟨b1,Al,rfl,Am,Ah⟩:=(HV.out k wr HJ.out).num1 hlt;have Ag:=HY.out k wr HJ.out #[.int .i64 ns[k]] rfl;have Ad:=Hd (HR.out k wr (by simp;omega) HJ.out);simp only[zL]at Ad;generalize ns[k]=z at *;gi_wp2;refine rIa (Ad.out.mono ?_);clear Ag Ah;rintro e w1 ⟨rfl,hinv⟩;have HW:=Hd hinv;clear hinv;gi_wp2;go_roundw
   case rel=>exact⟨k+1,by omega,by go_num,HW.out⟩
   case measure=>simp[intOf];omega
  ·have Ai:¬(k:Int)<(ns.length:Int):=by omega
   have Aj:k=ns.length:=by omega
   gi_wp2;go_end0;refine⟨⟨_,rfl⟩,?_⟩;exact Aj▸HJ.out
def IK(gf:FuncId)(lb:Array Value)(m:Nat)(vs:List (Array Value))(q:Nat->Prop)(W0:World):Prop:=
 ∀(l:Nat) (fn0:FuncId) (T:Array Value->Array Value) (A B:Code) (Inv:Nat->World->Prop),
   (∀k W W',Inv k W->Below W.heap.size W W'->Inv k W')->(∀k W W' l' o,Inv k W->l<l'->W.heap[l']?=some o->o.isCells=false->Rf.SB l' W W'->Inv k W')->(∀k W,Inv k W->l<W.heap.size/\Ag q W0 W) ->
   (∀k W,Inv k W->∀z:Array Value,z.size=m->(Instr.yield l z).run Tryz.prog W = .ok (.round l fn0 (T z) A B) W) ->
   (∀k W (hk:k<vs.length),Inv k W->RoundIn Fence.wide 5 Tryz.prog l fn0 (T vs[k]) A B W (fun e W'=>e = .returned (.bool true)/\Inv (k+1) W'/\∀b,l<b->b<W.heap.size->W'.heap[b]?=W.heap[b]?)) ->
   ∀W,Inv 0 W->Calls Tryz.prog gf (#[.func (.yield l) #[] #[]]++lb) W fun e W'=>(∃v,e = .returned v)/\Inv vs.length W'
theorem ni(ns:List Int)(b:Nat)(v:Value)(p q:Nat->Prop)(hpq:∀c,p c->q c)(hok:∀n∈ns,I64 n)(W0:World)(h0:W0.cell? ⟨b,0,none⟩=some v)(hb:q b)(hv:RA 1 intF p W0 v ns) :
  IK 210 #[.pointer (some ⟨b,0,none⟩)] 1 (ns.map fun n=>#[.agg (wF n).toArray]) q W0:=by
 intro l B3 T A B Aj Az Bb Bd hy hr W hI;have HI:=Hd hI;have Ak:=Hd Az;have Ag:=Hd Bb;have Ah:=Hd Bd;have HY:=Hd hy;have HR:=Hd hr;have Bm:=Hd hok;have Au:=qK W0 _ h0;have c1:=((Ah.out 0 W hI).2.cell Au hb).trans h0;have B2:=(Ah.out 0 W hI).1;obtain⟨a,c,rfl,hl,_⟩:=id hv;have Bk:=Hd hv.lt;clear hI Az Bb Bd hy hr hok hv;obtain⟨W1,Bf⟩:=XQ (W.alloc (.cells #[.func (.yield l) #[] #[]] 277))
 obtain⟨k1,A5,Am⟩:=la2 W (.cells #[.func (.yield l) #[] #[]] 277);rw[Bf]at k1 A5 Am;have Bp:=qK W _ c1;have d1:=(Am.cell (p:=⟨b,0,none⟩) Bp).trans c1;obtain⟨W2,A7⟩:=XQ (W1.alloc (.cells #[.slice a ns.length c] 49))
 obtain⟨k2,Bj,Af⟩:=la2 W1 (.cells #[.slice a ns.length c] 49);rw[A7]at k2 Bj Af;have Be:Below W.heap.size W W2:=Bt Am Af;have As:Aj 0 W2:=Ak.out 0 W W2 HI.out Be;have Ae:=(Ah.out 0 W2 As).2
 have Ba:=Hd (vi2 ns W1.heap.size (.slice a ns.length c) (fun x=>p x/\x<W0.heap.size) (fun x=>(p x/\x<W0.heap.size)∨x=W1.heap.size) (fun _ h=>.inl h) W2 (qT _ _ 0 _ _ _ k2) (.inr rfl) (Bk.out.ag ⟨Ae.1,fun x hx hp=>Ae.2 x hx (hpq _ hp.1)⟩));have A4:=Hd As;have Bs:=Hd ((Af.block _ (by omega)).trans k1);have Ao:=Hd k2;have Bw:=Hd Af;clear As Ae c1 k1 k2 Am Af Be;refine(qZ (n:=5)).1 ?_
 refine jL Tryz.func210 rfl trivial ?_ rfl;simp only[Tryz.ntmps210,qu,qU,zE,Nat.reduceAdd,Nat.reduceSub,qv,qw,zO,zC,qr,qk];gi_wp2;refine Rf.wIs ?_;gi_wp2;refine qAm ?_;gi_wp2_with (refine⟨trivial,?_⟩;gi_at_call 211;refine(qZ.2 (va3 a ns.length c _)).mono ?_;rintro e w2 ⟨rfl,rfl⟩);have Bu:W2.heap.size=W.heap.size+2:=by omega
 rw[A5]at Ba Ao Bw;refine Rf.rw3 (gf:=231) (lb:=#[.pointer (some ⟨W.heap.size+1,0,none⟩)]) rfl (yd Tryz.func231 (by kernel_rfl) rfl) ?_;intro fn W3 hL hD A3 A2;rw[Bu]at hL hD A2⊢;obtain⟨Aa,Ac,hL⟩:∃Aa:Loop,Aa=_/\W3.heap[W.heap.size+2+1]?=some (.loop Aa):=⟨_,rfl,hL⟩
 have Aq:=Hd Ac;have At:Aa.state = .ready/\Aa.params.size=1/\Aa.pending=none:=by rw[Ac];exact⟨rfl,rfl,rfl⟩
 clear Ac;obtain⟨At,Bg,Bx⟩:=At;have Ab:Below W2.heap.size W2 W3:=A3
 have Bc:Aj 0 W3/\W3.heap[W.heap.size]?=some (.cells #[.func (.yield l) #[] #[]] 277 (0,0))/\W3.heap[W.heap.size+1]?=some (.cells #[.slice a ns.length c] 49 (0,0))/\W3.heap[W.heap.size+2]?=some (.deferred (some []))/\W3.heap[W.heap.size+2+1]?=some (.loop Aa):=
  ⟨Ak.out _ _ _ A4.out Ab,(Ab.block _ (by omega)).trans Bs.out,(Ab.block _ (by omega)).trans Ao.out,hD,hL⟩
 obtain⟨J,hJ⟩:=Xq (fun k X=>Aj k X/\X.heap[W.heap.size]?=some (.cells #[.func (.yield l) #[] #[]] 277 (0,0))/\X.heap[W.heap.size+1]?=some (.cells #[.slice a ns.length c] 49 (0,0))/\X.heap[W.heap.size+2]?=some (.deferred (some []))/\X.heap[W.heap.size+2+1]?=some (.loop Aa):Nat->World->Prop)
 have HJ:RowKit.Hid (∀k X,J k X↔(Aj k X/\X.heap[W.heap.size]?=some (.cells #[.func (.yield l) #[] #[]] 277 (0,0))/\X.heap[W.heap.size+1]?=some (.cells #[.slice a ns.length c] 49 (0,0))/\X.heap[W.heap.size+2]?=some (.deferred (some []))/\X.heap[W.heap.size+2+1]?=some (.loop Aa))):=Hd fun k X=>by rw[hJ]
 have Br:J 0 W3:=(HJ.out _ _).2 Bc;clear hJ Bc A3 Ab hL hD A2 Bf A7;refine qZ.2 ((Ba.out (W.heap.size+2+1) Aa.fn (fun v=>(Aa.params.zip v).foldl (fun tmps (t,a)=>tmps.setIfInBounds t a) Aa.tmps) Aa.assign Aa.body J ?_ ?_ ?_ ?_ ?_ W3 Br).mono ?_)
 ·intro k X X' h hb;obtain⟨h1,h2,h3,h4,h5⟩:=(HJ.out _ _).1 h;exact(HJ.out _ _).2 ⟨Ak.out _ _ _ h1 hb,(hb.block _ (qA.1 h2).1).trans h2,(hb.block _ (qA.1 h3).1).trans h3,(hb.block _ (qA.1 h4).1).trans h4,(hb.block _ (qA.1 h5).1).trans h5⟩
 ·intro k X X' l' o h B7 ho hc hs;obtain⟨h1,h2,h3,h4,h5⟩:=(HJ.out _ _).1 h;exact(HJ.out _ _).2 ⟨Ag.out _ _ _ l' o h1 (by omega) ho hc hs,(hs.block _ (by omega)).trans h2,(hs.block _ (by omega)).trans h3,(hs.block _ (by omega)).trans h4,(hs.block _ (by omega)).trans h5⟩
 ·intro k X h;obtain⟨h1,h2,h3,h4,h5⟩:=(HJ.out _ _).1 h;have hx:=(qA.1 h5).1;refine⟨hx,by omega,fun x hxl Al=>?_⟩;rcases Al with⟨Al,A9⟩|rfl
  ·exact((Ah.out _ _ h1).2.2 x A9 (hpq _ Al)).trans ((Ah.out _ _ A4.out).2.2 x A9 (hpq _ Al)).symm
  ·exact h3.trans Ao.out.symm
 ·intro k X h z hz;obtain⟨h1,h2,h3,h4,h5⟩:=(HJ.out _ _).1 h;exact xJ h5 (by rw[Bg,hz])
 ·intro k X hk h;obtain⟨h1,h2,h3,h4,h5⟩:=(HJ.out _ _).1 h;rw[qX]at hk;have Bo:=Hd h1;have H2:=Hd h2;have H5:=Hd h5
  have Bi:=Hd (fun X' (g1:Aj (k+1) X') (gk:∀b,l<b->b<X.heap.size->b≠W.heap.size+2+1->X'.heap[b]?=X.heap[b]?) (gl:X'.heap[W.heap.size+2+1]?=some (.loop Aa))=>(HJ.out (k+1) X').2 ⟨g1,(gk _ (by omega) (qA.1 h2).1 (by omega)).trans h2,(gk _ (by omega) (qA.1 h3).1 (by omega)).trans h3,(gk _ (by omega) (qA.1 h4).1 (by omega)).trans h4,gl⟩);have Aw:=Hd (fun X=>HR.out k X (by simpa using hk))
  simp only[zL]at Aw⊢;have Bl:=Hd (fun X=>wOe ns[k] (Bm.out _ (qP hk)) X);unfold wF at Aw;generalize ns[k]=z at *;have B5:=Hd (qA.1 h5).1;clear h h1 h2 h3 h4 h5;refine Rf.rw2 (r:=Aa) ?_;have Bz:=Aq.out;subst Bz;dsimp only;gi_wp2_with (rw[zK _ _ _ (fun c h=>by cases h)];go_simp;try go_bits);refine⟨H5.out,fun X2 hs2 hl2=>?_⟩;have Ai:=(hs2.block W.heap.size (by omega)).trans H2.out
  have Ap:=Hd (Ag.out k X X2 _ _ Bo.out (by omega) H5.out rfl hs2);have B0:=Hd (fun b hb=>hs2.block b hb);have Bq:=Hd hs2.size;have By:=Hd hl2;have A6:=Hd (qA.1 hl2).1;have c2:=(cob Ai).1;have An:W.heap.size<X2.heap.size:=by have:=A6.out;omega
  clear hs2 hl2 Ai;gi_wp2_with (rw[zK _ _ _ (fun c h=>by cases h)];go_simp;try go_bits);refine Flow.wIR 3 (Flow.sp3 [.inl ?_,.inl ?_,.inl ?_]) (by kernel_rfl) (by kernel_rfl) (by kernel_rfl) ?_ ?_;rotate_left 3
  ·refine Flow.sm2 ?_
   repeat(first|exact Flow.ln2|refine Flow.li2 ?_)
  all_goals try simp only[qL,qY,qM,qV]
  iterate 2 (refine Flow.tvK rfl (fun K hK=>⟨fun w hw hG=>?_,?_⟩);(have B4:=Flow.bc4 hw;clear hG hw;unfold Flow.Runs Flow.yields;go_simp;try rfl);go_simp;refine hK _ ?_;clear hK K)
  (refine Flow.tvK rfl (fun K hK=>⟨fun w hw hG=>?_,?_⟩);(clear hG hw;unfold Flow.Runs Flow.yields;go_simp;refine(Bl.out _).mono ?_;rintro e w5 ⟨rfl,Ad⟩;first|exact⟨_,rfl,Ad,rfl⟩|(refine⟨?_,Ad⟩;rfl));go_simp;refine hK _ ?_;clear hK K)
  refine Flow.tn2 fun X5 hX5 hG=>?_;clear hG c2;have Av:=Ak.out k X2 X5 Ap.out hX5;have Bn:=HY.out k X5 Av #[.agg #[.int .i64 (wHi z),.int .u64 (wLo z)]] rfl;have Bh:=Hd (Aw.out X5 Av);have B1:=Hd hX5;clear Av hX5;gi_wp2_with (rw[zK _ _ _ (fun c h=>by cases h)];go_simp;try go_bits);refine rIi (Bh.out.mono ?_);clear Bn An;rintro e X6 ⟨rfl,hinv,Ay⟩;have Bv:=Hd hinv;have A0:=Hd Ay;clear hinv Ay
  gi_wp2_with (rw[zK _ _ _ (fun c h=>by cases h)];go_simp;try go_bits);have B6:=Bq.out;have Ai:=A6.out;have Ad:=B1.out;have A8:=(A0.out (W.heap.size+2+1) (by omega) (qF Ai Ad.size)).trans ((Ad.block _ Ai).trans By.out);refine⟨A8,fun X7 hs7 hl7=>⟨rfl,Bi.out X7 (Ag.out _ _ _ _ _ Bv.out (by omega) A8 rfl hs7) (fun b h1 h2 h3=>?_) hl7⟩⟩
  rw[hs7.block b h3,A0.out b h1 (by have:=Ad.size;omega),Ad.block b (by omega),B0.out b h3]
 ·rintro e W8 ⟨⟨vv,rfl⟩,h⟩;obtain⟨h1,h2,h3,h4,h5⟩:=(HJ.out _ _).1 h;refine⟨⟨_,rfl⟩,Aa,h5,by rw[At];decide,?_⟩;intro W9 Ar;rw[Bx];dsimp only;have Ax:=Ag.out _ _ _ _ _ h1 (by omega) h5 rfl Ar;have A1:=(Ar.block (W.heap.size+2) (by omega)).trans h4;have HF:=Hd (Ag.out _ _ _ _ _ Ax (by omega) A1 rfl (Rf.SB.put W9 (W.heap.size+2) (.deferred none)));clear h h1 h2 h3 h4 h5 Ar Ax;gi_wp2
  refine⟨by simp,.inl ⟨_,_,rfl,jD A1,?_⟩⟩;refine⟨.tuple #[],by simp[results,Tryz.results210,go_sem],⟨_,rfl⟩,?_⟩;have hf:=HF.out;rw[qX]at hf⊢;exact hf
attribute [local go_sem] jK
theorem aa6(p:Nat->Prop)(v:Value)(l:List Int)(w:World)(hv:RA 2 wF p w v l)(hl:l.length<=1000)(hok:∀k,k<l.length->WOk ((l.take k).sum+l.getD k 0)) :
  Calls Tryz.prog 180 #[v] w fun e w'=>e = .returned (.agg #[.int .i64 (wHi l.sum),.int .u64 (wLo l.sum)])/\Below w.heap.size w w':=by
 have HV:=Hd hv;have Ao:=Hd hok;obtain⟨a,c,rfl,_⟩:=hv;clear hok;obtain⟨W0,Ai⟩:=XQ ((w.alloc (.cells #[.int .i64 0,.int .u64 0] 100)).alloc (.cells #[.int .i64 0,.int .u64 0] 100))
 obtain⟨k0,k1,kS,kB⟩:=la3 w (.cells #[.int .i64 0,.int .u64 0] 100) (.cells #[.int .i64 0,.int .u64 0] 100);rw[Ai]at k0 k1 kS kB;have K0:=Hd k0;have K1:=Hd k1;have KB:=Hd kB;clear k0 k1 kB kS;go_enter Tryz.func180,Tryz.ntmps180;go_wp2_with (fail)
 go_loopw [8] (fun i wr=>∃k:Nat,k<=l.length/\i = .int .i64 k/\wr.heap[w.heap.size]?=some (.cells #[.int .i64 0,.int .u64 0] 100 (0,0))/\wr.heap[w.heap.size+1]?=some (.cells #[.int .i64 (wHi (l.take k).sum),.int .u64 (wLo (l.take k).sum)] 100 (0,0))/\Below w.heap.size w wr) (fun i _=>l.length-(intOf i).toNat)
 case atStart=>exact⟨0,qN _,rfl,K0.out,K1.out,KB.out⟩
 case round=>
  clear Ai;obtain⟨k,hk,rfl,h0,h1,hB⟩:=hrel;by_cases hlt:k<l.length
  ·have An:(k:Int)<(l.length:Int):=by omega
   obtain⟨b,Ap,rfl,hb,c0,c1⟩:=(HV.out.ag (Ag.new p hB)).num2 hlt;have Af:=Ao.out k hlt;have Ah:l.getD k 0=l[k]:=by simp[List.getD,hlt]
   rw[Ah]at Af;have Ad:(l.take (k+1)).sum=(l.take k).sum+l[k]:=by rw[qQ hlt,List.sum_append_int];simp
   have Ac:=Hd (fun W=>wAa (l.take k).sum l[k] Af W);rw[<-Ad]at Ac;have H0:=Hd h0;have H1:=Hd h1;have HB:=Hd hB;have Ab:w.heap.size+1<wr.heap.size:=(qA.1 h1).1;obtain⟨⟨x0,x1⟩,_⟩:=can2 h1;clear Af Ah Ad h0 h1 hB;generalize hS':(l.take (k+1)).sum=S' at *;have Al:=Hd hS';clear hS';generalize (l.take k).sum=S at *;generalize l[k]=z at *
   obtain⟨W1,Ak⟩:=XQ (wr.alloc (.cells #[.int .i64 (wHi z),.int .u64 (wLo z)] 100))
   obtain⟨q1,qS,qB⟩:=la2 wr (.cells #[.int .i64 (wHi z),.int .u64 (wLo z)] 100);rw[Ak]at q1 qS qB;obtain⟨⟨y0,y1⟩,_⟩:=can2 q1;have r1:=(qB.block _ Ab).trans H1.out;obtain⟨⟨z0,z1⟩,_⟩:=can2 r1;have Am:=Hd qB;clear q1 qS qB r1;go_wp2_with (fail);go_at_call 117;refine(Ac.out _).mono ?_;rintro e w2 ⟨rfl,Aj⟩;have Aa:=Bt Am.out Aj;have g1:=(Aa.block _ Ab).trans H1.out
   have g0:=(Aa.block w.heap.size (by omega)).trans H0.out;obtain⟨_,f0,f1⟩:=can2 g1;have G1:=Hd g1;have G0:=Hd g0;have Ae:=Hd (Bt HB.out Aa);clear Aj Aa g1 g0 x0 x1 y0 y1 z0 z1 c0 c1 Ak;go_wp2;go_roundw
   case rel=>
    refine⟨k+1,by omega,by go_num,?_,by rw[Al.out];exact qO _ _ 1 _ _ (.int .u64 (wLo S')) (qO _ _ 0 _ _ (.int .i64 (wHi S')) G1.out),(Ae.out.setCell (by show _<=w.heap.size+1;omega) _).setCell (by show _<=w.heap.size+1;omega) _⟩;rw[qW _ _ _ _ (show w.heap.size≠w.heap.size+1 by omega),qW _ _ _ _ (show w.heap.size≠w.heap.size+1 by omega)];exact G0.out
   case measure=>simp[intOf];omega
  ·have An:¬(k:Int)<(l.length:Int):=by omega
   obtain rfl:k=l.length:=by omega
   rw[jy]at h1;obtain⟨⟨x0,x1⟩,_⟩:=can2 h1;obtain⟨⟨y0,y1⟩,f0,f1⟩:=can2 h0;have hq:=qO _ _ 1 _ _ (.int .u64 (wLo l.sum)) (qO _ _ 0 _ _ (.int .i64 (wHi l.sum)) h0);obtain⟨⟨e0,e1⟩,_⟩:=can2 hq;have Ae:RowKit.Hid (Below w.heap.size w ((wr.setCell ⟨w.heap.size,0,none⟩ (.int .i64 (wHi l.sum))).setCell ⟨w.heap.size,1,none⟩ (.int .u64 (wLo l.sum)))):=Hd ((hB.setCell (qC _) _).setCell (qC _) _)
   clear h0 h1 hB hq;go_wp2_with (fail);refine jW (v:=.agg #[.int .i64 (wHi l.sum),.int .u64 (wLo l.sum)]) (by simp[results,Tryz.results180,go_sem,e0,e1]) rfl ⟨rfl,Ae.out⟩
theorem aa4(x y:Int)(b:Nat)(w:World)(hx:WOk x)(hxy:WOk (x+y))(h:w.heap[b]?=some (.cells #[.int .i64 (wHi x),.int .u64 (wLo x),.int .i64 (wHi y),.int .u64 (wLo y)] 100 (0,0))) :
  Calls Tryz.prog 180 #[.slice (some ⟨b,0,none⟩) 2 2] w fun e w'=>e = .returned (.agg #[.int .i64 (wHi (x+y)),.int .u64 (wLo (x+y))])/\Below w.heap.size w w':=by
 have hb:=(qA.1 h).1
 have hr:RA 2 wF (fun _=>True) w (.slice (some ⟨b,0,none⟩) 2 2) [x,y]:=by
  refine⟨_,2,rfl,(show(2:Nat)<=maxLen by decide),qC 2,(fun e=>by cases e),fun _=>⟨b,0,rfl,hb,trivial,fun j hj i hi=>?_⟩⟩;have Aa:j<2:=hj;rcases (show j=0∨j=1 by omega)with rfl|rfl<;>rcases (show i=0∨i=1 by omega)with rfl|rfl
  ·exact qT _ _ 0 _ _ _ h
  ·exact qT _ _ 1 _ _ _ h
  ·exact qT _ _ 2 _ _ _ h
  ·exact qT _ _ 3 _ _ _ h
 have:=aa6 _ _ [x,y] w hr (show(2:Nat)<=1000 by decide) (fun k hk=>by
  have Ab:k<2:=hk;rcases (show k=0∨k=1 by omega)with rfl|rfl
  ·simpa using hx
  ·simpa using hxy)
 simpa using this
attribute [local go_sem] jK
theorem wSa2(p:Nat->Prop)(v:Value)(ns:List Int)(w:World)(hv:RA 1 intF p w v ns)(hok:∀n∈ns,I64 n)(hs:∀k,k<ns.length->WOk (ns.take k).sum/\WOk ((ns.take k).sum+ns.getD k 0)) :
  Calls Tryz.prog 135 #[v] w fun e w'=>e = .returned (.agg #[.int .i64 (wHi ns.sum),.int .u64 (wLo ns.sum)])/\Below w.heap.size w w':=by
 have Ba:=Hd hv.lt;have HS:=Hd hs;obtain⟨a,c,rfl,_⟩:=id hv;clear hv hs;obtain⟨W1,A7⟩:=XQ (((w.alloc (.cells #[.int .i64 0,.int .u64 0] 100)).alloc (.cells #[.int .i64 0,.int .u64 0] 100)).alloc (.cells #[.slice a ns.length c] 49))
 obtain⟨k0,k1,k2,kS,kB⟩:=la5 w (.cells #[.int .i64 0,.int .u64 0] 100) (.cells #[.int .i64 0,.int .u64 0] 100) (.cells #[.slice a ns.length c] 49);rw[A7]at k0 k1 k2 kS kB;have Bf:=Hd (ni ns (w.heap.size+2) (.slice a ns.length c) (fun x=>p x/\x<w.heap.size) (fun x=>(p x/\x<w.heap.size)∨x=w.heap.size+2) (fun _ h=>.inl h) hok W1 (qT _ _ 0 _ _ _ k2) (.inr rfl) (Ba.out.ag (Ag.new _ kB)));have K0:=Hd k0
 have K1:=Hd k1;have K2:=Hd k2;have KB:=Hd kB;clear k0 k1 k2 kB;refine(qZ (n:=5)).1 ?_;refine jL Tryz.func135 rfl trivial ?_ rfl;simp only[Tryz.ntmps135,qu,qU,zE,Nat.reduceAdd,Nat.reduceSub,qv,qw,zO,zC,qr,qk];gi_wp2_with (refine⟨trivial,?_⟩;gi_at_call 179;refine(qZ.2 (na3 a ns.length c _)).mono ?_;rintro e w2 ⟨rfl,rfl⟩)
 refine Rf.rw3 (gf:=210) (lb:=#[.pointer (some ⟨w.heap.size+2,0,none⟩)]) rfl (yd Tryz.func210 (by kernel_rfl) rfl) ?_;intro fn W3 hL hD Ah A1;rw[kS]at hL hD A1⊢;obtain⟨Aa,Ab,hL⟩:∃Aa:Loop,Aa=_/\W3.heap[w.heap.size+3+1]?=some (.loop Aa):=⟨_,rfl,hL⟩
 have As:=Hd Ab;have Au:Aa.state = .ready/\Aa.params.size=1/\Aa.pending=none:=by rw[Ab];exact⟨rfl,rfl,rfl⟩
 clear Ab;obtain⟨Au,A8,Bj⟩:=Au
 obtain⟨J,hJ⟩:=Xq (fun k X=>X.heap[w.heap.size]?=some (.cells #[.int .i64 0,.int .u64 0] 100 (0,0))/\X.heap[w.heap.size+1]?=some (.cells #[.int .i64 (wHi (ns.take k).sum),.int .u64 (wLo (ns.take k).sum)] 100 (0,0))/\X.heap[w.heap.size+2]?=some (.cells #[.slice a ns.length c] 49 (0,0))/\X.heap[w.heap.size+3]?=some (.deferred (some []))/\X.heap[w.heap.size+3+1]?=some (.loop Aa)/\Below w.heap.size w X:Nat->World->Prop)
 have HJ:RowKit.Hid (∀k X,J k X↔(X.heap[w.heap.size]?=some (.cells #[.int .i64 0,.int .u64 0] 100 (0,0))/\X.heap[w.heap.size+1]?=some (.cells #[.int .i64 (wHi (ns.take k).sum),.int .u64 (wLo (ns.take k).sum)] 100 (0,0))/\X.heap[w.heap.size+2]?=some (.cells #[.slice a ns.length c] 49 (0,0))/\X.heap[w.heap.size+3]?=some (.deferred (some []))/\X.heap[w.heap.size+3+1]?=some (.loop Aa)/\Below w.heap.size w X)):=Hd fun k X=>by rw[hJ]
 have Bg:J 0 W3:=(HJ.out _ _).2 ⟨(Ah.block _ (by omega)).trans K0.out,(Ah.block _ (by omega)).trans K1.out,(Ah.block _ (by omega)).trans K2.out,hD,hL,Bt KB.out Ah⟩;clear hJ Ah hL hD A1 A7;refine qZ.2 ((Bf.out (w.heap.size+3+1) Aa.fn (fun v=>(Aa.params.zip v).foldl (fun tmps (t,a)=>tmps.setIfInBounds t a) Aa.tmps) Aa.assign Aa.body J ?_ ?_ ?_ ?_ ?_ W3 Bg).mono ?_)
 ·intro k X X' h hb;obtain⟨h1,h2,h3,h4,h5,h6⟩:=(HJ.out _ _).1 h;exact(HJ.out _ _).2 ⟨(hb.block _ (qA.1 h1).1).trans h1,(hb.block _ (qA.1 h2).1).trans h2,(hb.block _ (qA.1 h3).1).trans h3,(hb.block _ (qA.1 h4).1).trans h4,(hb.block _ (qA.1 h5).1).trans h5,Bt h6 hb⟩
 ·intro k X X' l' o h Bs ho hc hs;obtain⟨h1,h2,h3,h4,h5,h6⟩:=(HJ.out _ _).1 h;exact(HJ.out _ _).2 ⟨(hs.block _ (by omega)).trans h1,(hs.block _ (by omega)).trans h2,(hs.block _ (by omega)).trans h3,(hs.block _ (by omega)).trans h4,(hs.block _ (by omega)).trans h5,h6.trans (hs.below (by omega))⟩
 ·intro k X h;obtain⟨h1,h2,h3,h4,h5,h6⟩:=(HJ.out _ _).1 h;have hx:=(qA.1 h5).1;refine⟨hx,by omega,fun x hxl A5=>?_⟩;rcases A5 with⟨A5,A4⟩|rfl
  ·exact(h6.block x A4).trans (KB.out.block x A4).symm
  ·exact h3.trans K2.out.symm
 ·intro k X h z hz;obtain⟨h1,h2,h3,h4,h5,h6⟩:=(HJ.out _ _).1 h;exact xJ h5 (by rw[A8,hz])
 ·intro k X hk h;obtain⟨h1,h2,h3,h4,h5,h6⟩:=(HJ.out _ _).1 h;rw[qX]at hk;have HX:=Hd (HJ.out k X);have Bq:=Hd h;have An:=HS.out k hk;have A2:ns.getD k 0=ns[k]:=by simp[List.getD,hk]
  rw[A2]at An;have Aj:(ns.take (k+1)).sum=(ns.take k).sum+ns[k]:=by rw[qQ hk,List.sum_append_int];simp
  have At:=Hd (fun b W=>aa4 (ns.take k).sum ns[k] b W An.1 An.2);have Ay:=Hd (HJ.out (k+1));rw[Aj]at Ay;simp only[zL];unfold wF;clear An A2 Aj HJ;have H1:=Hd h1;have H2:=Hd h2;have H3:=Hd h3;have H4:=Hd h4;have H5:=Hd h5;have H6:=Hd h6;have A6:=Hd (qA.1 h5).1;generalize (ns.take k).sum=S at *;generalize ns[k]=z at *;generalize J (k+1)=J' at *;clear h h1 h2 h3 h4 h5 h6;refine Rf.rw2 (r:=Aa) ?_
  have Bk:=As.out;subst Bk;dsimp only;obtain⟨X1,Bb⟩:=XQ (X.alloc (.cells #[.int .i64 (wHi z),.int .u64 (wLo z)] 100))
  obtain⟨q1,qS,qB⟩:=la2 X (.cells #[.int .i64 (wHi z),.int .u64 (wLo z)] 100);rw[Bb]at q1 qS qB;have Q1:=Hd q1;have QS:=Hd qS;have QB:=Hd qB;clear q1 qS qB;gi_wp2_with (rw[zK _ _ _ (fun c h=>by cases h)];go_simp;try go_bits);have Ax:=A6.out;refine⟨(QB.out.block _ Ax).trans H5.out,fun X2 hs2 hl2=>?_⟩;have Bm:=QS.out;have Av:=hs2.size
  have g1:=(hs2.block (w.heap.size+1) (by omega)).trans ((QB.out.block _ (by omega)).trans H2.out);have gq:=(hs2.block X.heap.size (by omega)).trans Q1.out;obtain⟨⟨x0,x1⟩,_⟩:=can2 g1;obtain⟨⟨y0,y1⟩,_⟩:=can2 gq;obtain⟨X3,Be⟩:=XQ (X2.alloc (.cells #[.int .i64 (wHi S),.int .u64 (wLo S),.int .i64 (wHi z),.int .u64 (wLo z)] 100))
  obtain⟨r1,rS,rB⟩:=la2 X2 (.cells #[.int .i64 (wHi S),.int .u64 (wLo S),.int .i64 (wHi z),.int .u64 (wLo z)] 100);rw[Be]at r1 rS rB;have Bi:=Hd (At.out _ _ r1);have Aq:=Hd (show ∀b,b<X.heap.size->b≠w.heap.size+3+1->X3.heap[b]?=X.heap[b]? from fun b h1 h2=>(rB.block b (by omega)).trans ((hs2.block b h2).trans (QB.out.block b h1)));have Bn:=Hd ((rB.block _ (by omega)).trans hl2)
  have Bc:=Hd (Bt ((Bt H6.out QB.out).trans (hs2.below (by omega))) rB);have Bo:=Hd (show X.heap.size<X3.heap.size by omega);have Az:=Hd ((rB.block (w.heap.size+1) (by omega)).trans g1);clear g1 gq r1 rS rB Bm Av hs2 hl2 Ax
  gi_wp2_with (first|(refine⟨trivial,?_⟩;gi_at_call 180;refine xD (yu _ (qZ.2 Bi.out)) ?_;rintro e w5 ⟨rfl,Ac⟩;have Bp:=Hd Ac;have Ap:=(Ac.block _ (qA.1 Az.out).1).trans Az.out;have Bh:=Hd Ap;obtain⟨⟨p0,p1⟩,f0,f1⟩:=can2 Ap;clear Ac Ap)|(rw[zK _ _ _ (fun c h=>by cases h)];go_simp;try go_bits));have Ac:=Bp.out;have Ax:=A6.out;have Br:=Bo.out
  obtain⟨W6,Am⟩:=XQ ((w5.setCell ⟨w.heap.size+1,0,none⟩ (.int .i64 (wHi (S+z)))).setCell ⟨w.heap.size+1,1,none⟩ (.int .u64 (wLo (S+z))))
  have Al:∀b,b≠w.heap.size+1->W6.heap[b]?=w5.heap[b]?:=fun b hb=>by rw[<-Am,qW _ _ _ _ (show b≠w.heap.size+1 from hb),qW _ _ _ _ (show b≠w.heap.size+1 from hb)]
  have Ao:∀b,b<X.heap.size->b≠w.heap.size+3+1->b≠w.heap.size+1->W6.heap[b]?=X.heap[b]?:=fun b h1 h2 h3=>(Al b h3).trans ((Ac.block b (by omega)).trans (Aq.out b h1 h2));have Bd:=(Al (w.heap.size+3+1) (by omega)).trans ((Ac.block _ (by omega)).trans Bn.out)
  have Bl:W6.heap[w.heap.size+1]?=some (.cells #[.int .i64 (wHi (S+z)),.int .u64 (wLo (S+z))] 100 (0,0)):=by rw[<-Am];exact qO _ _ 1 _ _ (.int .u64 (wLo (S+z))) (qO _ _ 0 _ _ (.int .i64 (wHi (S+z))) Bh.out)
  have A9:Below w.heap.size w W6:=by rw[<-Am];exact((Bt Bc.out Ac).setCell (by show _<=w.heap.size+1;omega) _).setCell (by show _<=w.heap.size+1;omega) _
  rw[Am];refine⟨Bd,fun X7 hs7 hl7=>⟨rfl,(Ay.out X7).2 ⟨?_,?_,?_,?_,hl7,A9.trans (hs7.below (by omega))⟩,fun b h1 h2=>?_⟩⟩
  ·exact(hs7.block _ (by omega)).trans ((Ao _ (by omega) (by omega) (by omega)).trans H1.out)
  ·exact(hs7.block _ (by omega)).trans Bl
  ·exact(hs7.block _ (by omega)).trans ((Ao _ (by omega) (by omega) (by omega)).trans H3.out)
  ·exact(hs7.block _ (by omega)).trans ((Ao _ (by omega) (by omega) (by omega)).trans H4.out)
  ·exact(hs7.block b (by omega)).trans (Ao b h2 (by omega) (by omega))
 ·rintro e W8 ⟨⟨vv,rfl⟩,h⟩;rw[qX,HJ.out,jy]at h;obtain⟨h1,h2,h3,h4,h5,h6⟩:=h;refine⟨⟨_,rfl⟩,Aa,h5,by rw[Au];decide,?_⟩;intro W9 Ak;rw[Bj];dsimp only;have A0:=(Ak.block (w.heap.size+3) (by omega)).trans h4;have g0:=(Ak.block w.heap.size (by omega)).trans h1;have g1:=(Ak.block (w.heap.size+1) (by omega)).trans h2;have A3:=h6.trans (Ak.below (by omega));obtain⟨⟨x0,x1⟩,_⟩:=can2 g1
  obtain⟨_,f0,f1⟩:=can2 g0;have hq:=qO _ _ 1 _ _ (.int .u64 (wLo ns.sum)) (qO _ _ 0 _ _ (.int .i64 (wHi ns.sum)) g0);obtain⟨Ae,Ad⟩:=XQ ((W9.setCell ⟨w.heap.size,0,none⟩ (.int .i64 (wHi ns.sum))).setCell ⟨w.heap.size,1,none⟩ (.int .u64 (wLo ns.sum)))
  have Af:Below w.heap.size w Ae:=by rw[<-Ad];exact(A3.setCell (qC _) _).setCell (qC _) _
  have Aw:Ae.heap[w.heap.size+3]?=some (.deferred (some [])):=by rw[<-Ad,qW _ _ _ _ (show w.heap.size+3≠w.heap.size by omega),qW _ _ _ _ (show w.heap.size+3≠w.heap.size by omega)];exact A0
  rw[Ad]at hq;have Ai:=(xH (w:=Ae) (o:=.deferred none) (show w.heap.size≠w.heap.size+3 by omega)).trans hq;obtain⟨⟨e0,e1⟩,_⟩:=can2 Ai;have Ar:=Hd (Af.trans ((Rf.SB.put Ae (w.heap.size+3) (.deferred none)).below (show w.heap.size<=w.heap.size+3 by omega)));clear h1 h2 h3 h4 h5 h6 Ak g0 g1 A3 hq Ai Af A0;gi_wp2;refine⟨by simp,.inl ⟨_,_,rfl,jD Aw,?_⟩⟩
  refine⟨.agg #[.int .i64 (wHi ns.sum),.int .u64 (wLo ns.sum)],by simp[results,Tryz.results135,go_sem,e0,e1],rfl,Ar.out⟩
theorem sa11(x y:Int)(b:Nat)(w:World)(hx:I64 x)(hy:I64 y)(h:w.heap[b]?=some (.cells #[.int .i64 x,.int .i64 y] 2 (0,0))) :
  Calls Tryz.prog 135 #[.slice (some ⟨b,0,none⟩) 2 2] w fun e w'=>e = .returned (.agg #[.int .i64 (wHi (x+y)),.int .u64 (wLo (x+y))])/\Below w.heap.size w w':=by
 have hb:=(qA.1 h).1
 have hr:RA 1 intF (fun _=>True) w (.slice (some ⟨b,0,none⟩) 2 2) [x,y]:=by
  refine⟨_,2,rfl,(show(2:Nat)<=maxLen by decide),qC 2,(fun e=>by cases e),fun _=>⟨b,0,rfl,hb,trivial,fun j hj i hi=>?_⟩⟩;have Aa:j<2:=hj;obtain rfl:i=0:=by omega
  rcases (show j=0∨j=1 by omega)with rfl|rfl
  ·exact qT _ _ 0 _ _ _ h
  ·exact qT _ _ 1 _ _ _ h
 have:=wSa2 _ _ [x,y] w hr (fun n hn=>by
  rcases qm.1 hn with rfl|hn
  ·exact hx
  ·rw[zJ.1 hn];exact hy) (fun k hk=>by
  have Ab:k<2:=hk;obtain⟨h1,h2⟩:=hx;obtain⟨h3,h4⟩:=hy;rcases (show k=0∨k=1 by omega)with rfl|rfl
  ·simp[WOk];omega
  ·simp[WOk];omega)
 simpa using this
theorem box2{w W:World}{g:Nat}{x0 x1:Value}{T:TypeId}(y0 y1:Value)(h:W.heap[g]?=some (.cells #[x0,x1] T (0,0))){N:Nat}(hB:Below N w W)(hg:N<=g) :
  ∃W',(W.setCell ⟨g,0,none⟩ y0).setCell ⟨g,1,none⟩ y1=W'/\W'.heap[g]?=some (.cells #[y0,y1] T (0,0))/\(∀b,b≠g->W'.heap[b]?=W.heap[b]?)/\W'.heap.size=W.heap.size/\Below N w W':=
 ⟨_,rfl,qO _ _ 1 _ _ y1 (qO _ _ 0 _ _ y0 h),fun b hb=>by rw[qW _ _ _ _ (show b≠g from hb),qW _ _ _ _ (show b≠g from hb)],by simp[World.setCell],(hB.setCell hg _).setCell hg _⟩
def nBX(v:Value)(s e:Nat)(W:World):Prop:=∃g,v = .pointer (some ⟨g,0,none⟩)/\s<=g/\g<e/\W.heap[g]?=some (.cells #[.int .i64 0,.int .u64 0] 100 (0,0))
theorem nBX2:FlX.Spec.mono (some (.inr nBX)):=fun _ _ _ _ _ ⟨g,h1,h2,h3,h4⟩ hb=>⟨g,h1,h2,h3,(hb.block _ (qA.1 h4).1).trans h4⟩
theorem iSo2(l:Int)(hl:I64 l)(w:World):Calls Tryz.prog 89 #[.agg #[.int .i64 (wHi l),.int .u64 (wLo l)],.int .i64 1,.int .i64 l,.int .i64 l] w fun e w'=>e = .returned (.bool true)/\Below w.heap.size w w':=by
 have Ad:=Hd (fun W=>wOe l hl W);generalize wHi l=a at *;generalize wLo l=b at *;obtain⟨W0,Ab⟩:=XQ (w.alloc (.cells #[.int .i64 a,.int .u64 b] 100))
 obtain⟨k0,kS,kB⟩:=la2 w (.cells #[.int .i64 a,.int .u64 b] 100);rw[Ab]at k0 kS kB;obtain⟨⟨x0,x1⟩,_⟩:=can2 k0;have Af:w.heap.size<W0.heap.size:=by omega
 have HB:=Hd kB;clear k0 kS kB hl;go_enter Tryz.func89,Tryz.ntmps89;go_wp2_with (fail);refine Flow.wrf 8 (Flow.sp3 [.inl ?_,.inl ?_,.inl ?_,.inl ?_,.inl ?_,.inl ?_,.inl ?_,.inl ?_]) (by kernel_rfl) (by kernel_rfl) ?_ ?_;rotate_left 8
 ·refine Flow.sm2 ?_
  repeat(first|exact Flow.ln2|refine Flow.li2 ?_)
 all_goals try simp only[qL,qY,qM,qV]
 iterate 6 (refine Flow.tvK rfl (fun K hK=>⟨fun w hw hG=>?_,?_⟩);(have Ac:=Flow.bc4 hw;clear hG hw;unfold Flow.Runs Flow.yields;go_simp;try rfl);go_simp;refine hK _ ?_;clear hK K)
 (refine Flow.tvK rfl (fun K hK=>⟨fun w hw hG=>?_,?_⟩);(clear hG hw;unfold Flow.Runs Flow.yields;go_simp;refine(Ad.out _).mono ?_;rintro e w5 ⟨rfl,Aa⟩;first|exact⟨_,rfl,Aa,rfl⟩|(refine⟨?_,Aa⟩;rfl));go_simp;refine hK _ ?_;clear hK K)
 iterate 1 (refine Flow.tvK rfl (fun K hK=>⟨fun w hw hG=>?_,?_⟩);(have Ac:=Flow.bc4 hw;clear hG hw;unfold Flow.Runs Flow.yields;go_simp;try rfl);go_simp;refine hK _ ?_;clear hK K)
 refine Flow.tn2 fun w5 hw5 hG=>?_;clear hG x0 x1;have Ae:=Hd (Bt HB.out hw5);clear hw5;go_simp;go_wp2;go_ret;exact⟨rfl,Ae.out⟩
theorem iSm2(s n l h:Int)(hs:Tess.SO2 s n l h)(hn:2<=n/\n<=1000000)(hl:I64 l)(hh:I64 h)(w:World):Calls Tryz.prog 89 #[.agg #[.int .i64 (wHi s),.int .u64 (wLo s)],.int .i64 n,.int .i64 l,.int .i64 h] w fun e w'=>e = .returned (.bool true)/\Below w.heap.size w w':=by
 obtain⟨m,hm⟩:∃m:Nat,n-2=m:=⟨(n-2).toNat,by omega⟩
 have Ai:m<=1000000:=by omega
 have Bu:IntKind.i64.wrap (n-2)=(m:Int):=by rw[zU];omega
 have Bv:¬n=1:=by omega
 obtain⟨s1,s2,s3⟩:=hs;have b1:=mb2 hl (show(0:Int)<=(m:Int)/\(m:Int)<=1000000 by omega);have b2:=mb2 hh (show(0:Int)<=(m:Int)/\(m:Int)<=1000000 by omega);have e1:l*(n-1)=l*m+l:=by rw[show n-1=(m:Int)+1 by omega,qBt,qBu]
 have e2:h*(n-1)=h*m+h:=by rw[show n-1=(m:Int)+1 by omega,qBt,qBu]
 rw[e1]at s2;rw[e2]at s3;have Ac:=Hd (fun b W=>sa11 l h b W hl hh);have A2:=Hd (fun W=>wMa l m hl Ai W);have Az:=Hd (fun W=>wMa h m hh Ai W);have A3:=Hd (fun W=>wAa (l+h) (l*m) (by unfold WOk;unfold I64 at hl hh;omega) W);have A4:=Hd (fun W=>wAa (l+h) (h*m) (by unfold WOk;unfold I64 at hl hh;omega) W);have Ba:=Hd (fun W=>wCa (l+h+l*m) s W);have Bg:=Hd (fun W=>wCa s (l+h+h*m) W)
 have Bs:cmpI (l+h+l*m) s<=0:=(cIl _ _).2 (by omega);have Br:cmpI s (l+h+h*m)<=0:=(cIl _ _).2 (by omega);generalize cmpI (l+h+l*m) s=z1 at *;generalize cmpI s (l+h+h*m)=z2 at *;generalize wHi (l+h+l*m)=u1 at *;generalize wLo (l+h+l*m)=v1 at *;generalize wHi (l+h+h*m)=u2 at *;generalize wLo (l+h+h*m)=v2 at *;generalize wHi (l*m)=p1 at *;generalize wLo (l*m)=q1 at *;generalize wHi (h*m)=p2 at *
 generalize wLo (h*m)=q2 at *;generalize wHi (l+h)=p0 at *;generalize wLo (l+h)=q0 at *;generalize wHi s=a at *;generalize wLo s=b at *;clear s2 s3 b1 b2 e1 e2 hm Ai hl hh hn;obtain⟨W0,A1⟩:=XQ ((w.alloc (.cells #[.int .i64 a,.int .u64 b] 100)).alloc (.cells #[.int .i64 l,.int .i64 h] 2))
 obtain⟨k0,k1,kS,kB⟩:=la3 w (.cells #[.int .i64 a,.int .u64 b] 100) (.cells #[.int .i64 l,.int .i64 h] 2);rw[A1]at k0 k1 kS kB;have A9:=Hd (Ac.out _ _ k1);have K0:=Hd k0;have KB:=Hd kB;have KS:=Hd kS;clear k0 k1 kS kB Ac;go_enter Tryz.func89,Tryz.ntmps89;go_wp2_with (fail);go_at_call 135;refine A9.out.mono ?_;rintro e w1 ⟨rfl,Aj⟩;have Af:=(Aj.block w.heap.size (by have:=KS.out;omega)).trans K0.out
 have Bf:=Hd (Bt KB.out Aj);obtain⟨W2,A0⟩:=XQ (w1.alloc (.cells #[.int .i64 p0,.int .u64 q0] 100))
 obtain⟨k2,Au,Ae⟩:=la2 w1 (.cells #[.int .i64 p0,.int .u64 q0] 100);rw[A0]at k2 Au Ae;have As:=(Ae.block _ (qA.1 Af).1).trans Af;obtain⟨⟨x0,x1⟩,_⟩:=can2 k2;have Bl:w1.heap.size<W2.heap.size:=by omega
 have Bh:=Hd As;have Bo:=Hd (Bt Bf.out Ae);have Ag:=Hd (show w.heap.size<w1.heap.size from(qA.1 Af).1);have Bp:=Hd (show w.heap.size<W2.heap.size from(qA.1 As).1);clear Af As Aj k2 Ae Au A1;go_wp2_with (fail);clear A0
 refine FlX.wrf 14 (FlX.sp3 [some (.inl ?_),some (.inl ?_),some (.inl ?_),some (.inl ?_),some (.inl ?_),some (.inl ?_),some (.inl ?_),some (.inl ?_),some (.inl ?_),some (.inl ?_),some (.inl ?_),some (.inl ?_),some (.inr nBX),some (.inr nBX)]) (by kernel_rfl) (by kernel_rfl) ?_ ?_;rotate_left 12
 ·refine FlX.sm2 ?_
  repeat(first|exact FlX.ln2|refine FlX.li2 ?_|refine FlX.li3 nBX2 ?_)
 all_goals try simp only[qL,qY,qM,qV]
 iterate 4 (refine FlX.tvK rfl (fun K hK=>⟨fun w hw hG=>?_,?_⟩);(have Bj:=Flow.bc4 hw;clear hG hw;unfold FlX.RV Flow.yields;go_simp;try rfl);go_simp;refine hK _ ?_;clear hK K)
 (refine FlX.tvK rfl (fun K hK=>⟨fun w hw hG=>?_,?_⟩);(clear hG hw;unfold FlX.RV Flow.yields;go_simp;refine(A2.out _).mono ?_;rintro e w5 ⟨rfl,Aa⟩;first|exact⟨_,rfl,Aa,rfl⟩|(refine⟨?_,Aa⟩;rfl));go_simp;refine hK _ ?_;clear hK K)
 (refine FlX.tvK rfl (fun K hK=>⟨fun w hw hG=>?_,?_⟩);(clear hG hw;unfold FlX.RV Flow.yields;go_simp;refine(A3.out _).mono ?_;rintro e w5 ⟨rfl,Aa⟩;first|exact⟨_,rfl,Aa,rfl⟩|(refine⟨?_,Aa⟩;rfl));go_simp;refine hK _ ?_;clear hK K)
 iterate 4 (refine FlX.tvK rfl (fun K hK=>⟨fun w hw hG=>?_,?_⟩);(have Bj:=Flow.bc4 hw;clear hG hw;unfold FlX.RV Flow.yields;go_simp;try rfl);go_simp;refine hK _ ?_;clear hK K)
 (refine FlX.tvK rfl (fun K hK=>⟨fun w hw hG=>?_,?_⟩);(clear hG hw;unfold FlX.RV Flow.yields;go_simp;refine(Az.out _).mono ?_;rintro e w5 ⟨rfl,Aa⟩;first|exact⟨_,rfl,Aa,rfl⟩|(refine⟨?_,Aa⟩;rfl));go_simp;refine hK _ ?_;clear hK K)
 (refine FlX.tvK rfl (fun K hK=>⟨fun w hw hG=>?_,?_⟩);(clear hG hw;unfold FlX.RV Flow.yields;go_simp;refine(A4.out _).mono ?_;rintro e w5 ⟨rfl,Aa⟩;first|exact⟨_,rfl,Aa,rfl⟩|(refine⟨?_,Aa⟩;rfl));go_simp;refine hK _ ?_;clear hK K)
 ((refine FlX.tvK2 rfl (fun K hK=>⟨fun w hw hG=>?_,?_⟩);(have hl:=la2 w (.cells #[.int .i64 0,.int .u64 0] 100);clear hG hw;unfold FlX.RR2 Flow.yields;go_simp;exact⟨_,rfl,qC _,by omega,hl.1⟩));intro Bi;go_simp;refine hK _ _ ?_;clear hK K)
 ((refine FlX.tvK2 rfl (fun K hK=>⟨fun w hw hG=>?_,?_⟩);(have hl:=la2 w (.cells #[.int .i64 0,.int .u64 0] 100);clear hG hw;unfold FlX.RR2 Flow.yields;go_simp;exact⟨_,rfl,qC _,by omega,hl.1⟩));intro A8;go_simp;refine hK _ _ ?_;clear hK K)
 refine FlX.tn2 fun w5 hw5 hG=>?_;obtain⟨I,hI⟩:=hG;obtain⟨Am,rfl,Bn,Be,Aq⟩:=(show nBX Bi _ _ w5 by simpa[FlX.upd]using hI.holds 12)
 obtain⟨Al,rfl,Ak,Ao,Av⟩:=(show nBX A8 _ _ w5 by simpa[FlX.upd]using hI.holds 13)
 have Bq:=hI.apart 12 13 (by decide);have Ar:=hI.le 12;have An:=hI.le 13;clear hI;generalize (I 12).1=s12 at *;generalize (I 12).2=e12 at *;generalize (I 13).1=s13 at *;generalize (I 13).2=e13 at *;clear I x0 x1 A2 Az A3 A4;have Bk:Am≠Al:=by omega
 have HL:=Hd (show w1.heap.size<Am/\w1.heap.size<Al by omega);have A5:=Bt Bo.out hw5;have Ay:=(hw5.block _ Bp.out).trans Bh.out;clear Bq Ar An Bn Be Ak Ao hw5 Bl;obtain⟨W6,Bc,a6,o6,_,B6⟩:=box2 (.int .i64 u1) (.int .u64 v1) Aq A5 (by have:=HL.out;have:=Ag.out;omega);have Ab:=(o6 Al (by omega)).trans Av
 obtain⟨W7,A7,a7,o7,_,B7⟩:=box2 (.int .i64 u2) (.int .u64 v2) Ab B6 (by have:=HL.out;have:=Ag.out;omega);have Ah:=(o7 Am Bk).trans a6;have Ap:=(o7 w.heap.size (by have:=HL.out;have:=Ag.out;omega)).trans ((o6 w.heap.size (by have:=HL.out;have:=Ag.out;omega)).trans Ay);obtain⟨_,f0,f1⟩:=can2 Aq;obtain⟨_,f2,f3⟩:=can2 Ab;obtain⟨⟨x0,x1⟩,_⟩:=can2 Ah;obtain⟨⟨y0,y1⟩,_⟩:=can2 Ap;have Bw:=Hd Ah;have A6:=Hd Ap
 have At:=Hd a7;have Bb:=Hd B7;clear o6 o7 B6 B7 Ah Ap a7 a6 Ab Av Aq A5 Ay;go_simp;go_wp2_with (fail);go_at_call 137;refine(Ba.out _).mono ?_;rintro e w8 ⟨rfl,Ad⟩;have h8:=(Ad.block _ (qA.1 At.out).1).trans At.out;have Aw:=(Ad.block _ (qA.1 A6.out).1).trans A6.out;have Bm:=Hd (Bt Bb.out Ad);clear x0 x1 y0 y1 f0 f1 f2 f3 Bc A7;obtain⟨⟨p8,q8⟩,_⟩:=can2 h8;obtain⟨⟨r8,s8⟩,_⟩:=can2 Aw;clear Ad h8 Aw
 go_wp2_with (fail);go_at_call 137;refine(Bg.out _).mono ?_;rintro e w9 ⟨rfl,Ax⟩;have Bd:=Hd (Bt Bm.out Ax);clear Ax;go_wp2_with (fail);go_ret;exact⟨rfl,Bd.out⟩
theorem iSa(s n l h:Int)(hs:Tess.SO2 s n l h)(hn:1<=n/\n<=1000000)(hl:I64 l)(hh:I64 h)(w:World):Calls Tryz.prog 89 #[.agg #[.int .i64 (wHi s),.int .u64 (wLo s)],.int .i64 n,.int .i64 l,.int .i64 h] w fun e w'=>e = .returned (.bool true)/\Below w.heap.size w w':=by
 by_cases h1:n=1
 ·subst h1;obtain⟨s1,s2,s3⟩:=hs;obtain rfl:s=l:=by omega
  obtain rfl:h=s:=by omega
  exact iSo2 _ hl w
 ·exact iSm2 s n l h hs ⟨by omega,hn.2⟩ hl hh w
