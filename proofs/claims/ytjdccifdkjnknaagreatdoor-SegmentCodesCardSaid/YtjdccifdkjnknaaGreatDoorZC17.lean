/- Joined. -/
import Derived.Test.YtjdccifdkjnknaaGreatDoorZC16
set_option maxRecDepth 100000
set_option maxHeartbeats 2000000
namespace Go.Proofs.Q9
open Go.RowKit Go.Sort
open Tess (Fil)
theorem iV:(Tryz.prog.info? 47).map (fun i=>(i.zero,i.size,i.bytes))=some (some (.agg #[.string ByteArray.empty,.bool false]),2,24):=by kernel_rfl
def cV4(x:Tess.Val):Tess.Val:=⟨cutN 110 x.s,x.null⟩
def cV2(l:List Tess.Val):List Tess.Val:=(l.take 10).map cV4
def vC:List Tess.Val->List Value
 |[]=>[]
 |x::r=>.string x.s :: .bool x.null::vC r
theorem vCa(a b:List Tess.Val):vC (a++b)=vC a++vC b:=by
 induction a with
 |nil=>rfl
 |cons x r ih=>simp[vC,ih]
theorem vCa2(a:List Tess.Val):∀(j:Nat) (h:j<a.length),(vC a)[j*2]?=some (.string a[j].s)/\(vC a)[j*2+1]?=some (.bool a[j].null):=by
 induction a with
 |nil=>intro j h;simp at h
 |cons x r ih=>
   intro j h;cases j with
   |zero=>simp[vC]
   |succ j=>
     have:=ih j (by simpa using h);rw[show(j+1)*2=j*2+1+1 by omega];simpa[vC]using this
def nT2(a b:Value)(v:Value)(w:World):Prop:=∃g,v = .slice (some ⟨g,0,none⟩) 1 1/\g<w.heap.size/\w.cell? ⟨g,0,none⟩=some a/\w.cell? ⟨g,1,none⟩=some b
theorem nTm2(a b:Value):Flow.Spec.mono (.inr (nT2 a b)):=fun _ _ _ ⟨g,h1,h2,h3,h4⟩ hb=>⟨g,h1,qF h2 hb.size,(hb.cell (p:=⟨g,0,none⟩) h2).trans h3,(hb.cell (p:=⟨g,1,none⟩) h2).trans h4⟩
theorem nTm(a b:Value)(w:World)(t:TypeId):nT2 a b (.slice (some ⟨w.heap.size,0,none⟩) 1 1) (w.alloc (.cells #[a,b] t)):=⟨_,rfl,by simp,by simp,by simp⟩
theorem vs4(l:List Tess.Val)(k:Nat)(h:k<l.length):vC ((l.take k).map cV4)++[.string (cutN 110 l[k].s),.bool l[k].null]=vC ((l.take (k+1)).map cV4):=by rw[qQ h,qs,vCa];rfl
theorem vo3{w:World}{base:Nat}{t:TypeId}{v:Value}{l:List Tess.Val}(h:w.ownsRow base t 2 v l.length (vC l))(hs:∀x∈l,x.s.size<=maxLen)(hl:l.length<=maxLen)(hn:l=[]->v = .slice none 0 0):VA2 (fun b=>base<=b) w v l:=by
 rcases jI l.length with h0|h0
 ·have:l=[]:=yl.1 h0;subst this;rw[hn rfl];exact⟨_,_,rfl,by simp,hs,fun _=>rfl,fun h=>absurd h (by simp)⟩
 ·obtain⟨g,Aa,hv,hb,hg,_,_,hc⟩:=oca h h0;refine⟨_,_,hv,hl,hs,(fun e=>by cases e),fun _=>⟨g,0,rfl,hg,hb,fun j hj=>?_⟩⟩;have:=vCa2 l j hj;exact⟨by rw[qj,hc _ (by omega)];exact this.1,by rw[qj,hc _ (by omega)];exact this.2⟩
theorem va4(p:Nat->Prop)(v:Value)(l:List Tess.Val)(w:World)(hv:VA2 p w v l) :
  Calls Tryz.prog 31 #[v] w fun e w'=>∃v',e = .returned v'/\VA2 (fun b=>w.heap.size<=b) w' v' (cV2 l)/\Below w.heap.size w w':=by
 obtain⟨a,A2,rfl,hl,hs,_,hc⟩:=hv;have hl:l.length<=9223372036854775807:=by unfold maxLen at hl;omega
 have HC:=Hd hc;have HS:=Hd hs;clear hc hs;obtain⟨i0,hi,Aq,As,Am⟩:=zF iV;go_enter Tryz.func31,Tryz.ntmps31;go_wp2;go_loopw [3,4] (fun v i wr=>∃k:Nat,k<=l.length/\k<=10/\i = .int .i64 k/\wr.ownsRow w.heap.size 47 2 v k (vC ((l.take k).map cV4))/\(k=0->v = .slice none 0 0)/\Below w.heap.size w wr) (fun _ i _=>10-(intOf i).toNat)
 case atStart=>exact⟨0,qN _,qN _,rfl,by simpa[vC]using qg w w.heap.size 47 2,fun _=>rfl,qJ _ _⟩
 case round=>
  obtain⟨k,hk,Ax,rfl,Ab,Ae,hB⟩:=hrel;have HN:=Hd Ae;clear Ae;by_cases hlt:k<l.length/\k<10
  ·obtain⟨h1,h2⟩:=hlt;obtain⟨b,Ag,rfl,hb,_,Ai⟩:=HC.out (by omega);have Ay:wr.cell? ⟨b,Ag+k*2,none⟩=some (.string l[k].s):=(hB.cell (p:=⟨b,Ag+k*2,none⟩) hb).trans (Ai k h1).1;have A3:wr.cell? ⟨b,Ag+k*2+1,none⟩=some (.bool l[k].null):=(hB.cell (p:=⟨b,Ag+k*2+1,none⟩) hb).trans (Ai k h1).2;have A0:l[k].s.size<=9223372036854775807:=HS.out _ (qP h1);have HO:=Hd Ab;have HB:=Hd hB
   have A1:b<wr.heap.size:=qF hb HB.out.size;have HE:=Hd (vs4 l k h1);clear Ab hB Ai hb;obtain⟨x,hx⟩:=Xq (cutN 110 l[k].s)
   rw[<-hx]at HE;have HX:=Hd hx;clear hx;generalize l[k].s=xs at *;generalize l[k].null=xb at *;go_wp2;rcases (show((110:Int)<(xs.size:Int)/\(¬(xs.size:Int)<=110/\(110:Int)<=(xs.size:Int))/\min (xs.size:Int) 110=110)∨(¬(110:Int)<(xs.size:Int)/\(xs.size:Int)<=110/\min (xs.size:Int) 110=(xs.size:Int)) by omega)with⟨Ar,Ap,Ah⟩|⟨Ar,Ap,Ah⟩
   all_goals
    refine Flow.wrf 21 (Flow.sp3 [.inl ?_,.inl ?_,.inl ?_,.inl ?_,.inl ?_,.inl ?_,.inl ?_,.inl ?_,.inl ?_,.inl ?_,.inl ?_,.inl ?_,.inl ?_,.inl ?_,.inl ?_,.inl ?_,.inl ?_,.inl ?_,.inl ?_,.inl ?_,.inr (nT2 (.string x) (.bool xb))]) (by kernel_rfl) (by kernel_rfl) ?_ ?_;rotate_left 20
    ·refine Flow.sm2 ?_
     repeat(first|exact Flow.ln2|refine Flow.li2 ?_|refine Flow.li3 (nTm2 _ _) ?_)
    all_goals try simp only[qL,qY,qM,qV]
    iterate 20 (refine Flow.tvK rfl (fun K hK=>⟨fun w hw hG=>?_,?_⟩);(have A4:=Flow.bc4 hw;clear hG hw;unfold Flow.Runs Flow.yields;go_simp;try rfl);go_simp;refine hK _ ?_;clear hK K)
    (refine Flow.tvK2 rfl (fun K hK=>⟨fun w hw hG=>?_,?_⟩);(clear hG hw;unfold Flow.Runs Flow.yields;go_simp;refine⟨(qJ _ _).alloc (qC _) _,?_⟩;rw[HX.out]);rotate_left;intro vz;go_simp;refine hK _ _ ?_;clear hK K;rotate_left)
    ·first|exact nTm _ _ _ _|(rw[cNs _ _ (by omega)];exact nTm _ _ _ _)
    refine Flow.tn2 fun w2 hw2 hG=>?_;obtain⟨gn,rfl,Az,At,Ao⟩:=(show nT2 (.string x) (.bool xb) vz w2 by simpa[Flow.upd]using hG 20)
    clear hG;have Aj:=Hd (ob2 HO.out hw2);have Af:=HB.out.trans (hw2.mono HB.out.size);go_wp2_with (at_builtin;refine qq _ rfl _ _ 48 rfl w.heap.size 47 i0 (.agg #[.string ByteArray.empty,.bool false]) 2 24 Tryz.underlying48 hi Aq As Am rfl (by decide) _ _ _ rfl Aj.out ⟨gn,0,none⟩ 1 1 [.string x,.bool xb] rfl rfl ?_ ?_ ?_ ?_ ?_ ?_)
    ·intro j u hj;rcases j with _|_|j<;>simp at hj<;>subst hj;simpa[Addr.add]using At;simpa[Addr.add]using Ao
    ·simp[Value.oneCell']
    ·unfold maxLen;omega
    ·omega
    ·exact Af.size
    intro v' w3 Aa Ac Al;have Ak:Below w.heap.size w w3:=Af.grown Ac Af.size (fun j e=>(Aj.out.lt j e).1);have Aa:w3.ownsRow w.heap.size 47 2 v' (k+1) (vC ((l.take (k+1)).map cV4)):=by rw[<-HE.out,qAj];exact Aa
    have An:=Hd Aa;have Au:=Hd Ak;clear Aa Ac Ak Af;go_wp2;go_roundw
    case rel=>exact⟨k+1,by omega,by omega,by go_num,An.out,fun h=>by omega,Au.out⟩
    case measure=>simp[intOf];omega
  ·have he:(l.take k).map cV4=cV2 l:=by
    unfold cV2;by_cases e:k=10
    ·rw[e]
    ·rw[qh (by omega),qh (by omega)]
   have Ad:(cV2 l).length=k:=by rw[<-he];simp;omega
   rw[he]at Ab
   have HO:=Hd (vo3 (l:=cV2 l) (by rw[Ad];exact Ab) (fun x hx=>by
    obtain⟨y,_,rfl⟩:=qd.1 hx;have:=cNs3 110 y.s;show(cutN 110 y.s).size<=maxLen
    unfold maxLen;omega) (by unfold maxLen;omega) (fun h=>HN.out (by rw[<-Ad,h];rfl)))
   have HB:=Hd hB;clear Ab hB he Ad;rcases (show(¬(k:Int)<(l.length:Int))∨((k:Int)<(l.length:Int)/\¬(k:Int)<10) by omega)with Av|⟨Aw,Av⟩
   all_goals
    clear hlt;go_wp2;go_ret;exact⟨_,rfl,HO.out,HB.out⟩
def RA3(p:Nat->Prop)(w:World)(v:Value)(t:Int)(l:List Tess.Val)(ns:List Int):Prop:=∃vd a c,v = .agg #[.int .i64 t,vd,.slice a ns.length c]/\ns.length<=c/\VA2 p w vd l/\SlP p w (.slice a ns.length c) (ns.map (.int .i64))
theorem RA3.ag{p:Nat->Prop}{w w':World}{v:Value}{t:Int}{l:List Tess.Val}{ns:List Int}(h:RA3 p w v t l ns)(hg:Ag p w w'):RA3 p w' v t l ns:=let⟨vd,a,c,h1,h0,h2,h3⟩:=h;⟨vd,a,c,h1,h0,h2.ag hg,h3.ag hg⟩
theorem iVa(x:ByteArray)(b:Bool)(w:World):Calls Tryz.prog 110 #[.agg #[.string x,.bool b]] w fun e w'=>e = .returned (.bool (Tess.vO ⟨x,b⟩))/\Below w.heap.size w w':=by
 obtain⟨W0,Aa⟩:=XQ (w.alloc (.cells #[.string x,.bool b] 47))
 obtain⟨h0,hS,hB⟩:=la2 w (.cells #[.string x,.bool b] 47);rw[Aa]at h0 hS hB;have c0:=qT W0 w.heap.size 0 _ _ _ h0;have c1:=qT W0 w.heap.size 1 _ _ _ h0;simp only[js,jV,jU]at c0 c1;have HB:=Hd hB;clear h0 hB hS;have e:decide ((x.size:Int)<=100)=decide (x.size<=100):=yi.2 (by omega);cases b
 ·go_enter Tryz.func110,Tryz.ntmps110;go_wp2;go_ret;exact⟨by simp only[Tess.vO];rfl,HB.out⟩
 ·clear e;have hE:ByteArray.empty.toList=[]:=by rw[jn];rfl
  by_cases hx:x.toList=[]
  ·have HX:=Hd (show x=ByteArray.empty from si (hx.trans hE.symm));clear hE;go_enter Tryz.func110,Tryz.ntmps110;go_wp2;go_ret;exact⟨by simp[Tess.vO,HX.out],HB.out⟩
  ·have HX:=Hd (show x≠ByteArray.empty from fun e=>hx (by rw[e];exact hE));clear hE;go_enter Tryz.func110,Tryz.ntmps110;go_wp2;go_ret;exact⟨by simp[Tess.vO,HX.out],HB.out⟩
theorem iOa(x:ByteArray)(b:Bool)(w:World):Calls Tryz.prog 109 #[.agg #[.string x,.bool b]] w fun e w'=>e = .returned (.bool (!Tess.vO ⟨x,b⟩))/\Below w.heap.size w w':=by
 obtain⟨W0,Ab⟩:=XQ (w.alloc (.cells #[.string x,.bool b] 47))
 obtain⟨h0,hS,hB⟩:=la2 w (.cells #[.string x,.bool b] 47);rw[Ab]at h0 hS hB;have c0:=qT W0 w.heap.size 0 _ _ _ h0;have c1:=qT W0 w.heap.size 1 _ _ _ h0;simp only[js,jV,jU]at c0 c1;have HB:=Hd hB;have HI:=Hd (iVa x b W0);clear h0 hB hS;generalize Tess.vO ⟨x,b⟩=r at *;go_enter Tryz.func109,Tryz.ntmps109
 go_wp2_with (go_at_call 110;refine HI.out.mono ?_;rintro e w2 ⟨rfl,Aa⟩;have Ac:=Hd (Bt HB.out Aa);clear Aa);go_ret;exact⟨rfl,Ac.out⟩
theorem io2(p:Nat->Prop)(v:Value)(l:List Tess.Val)(w:World)(hv:VA2 p w v l) :
  Calls Tryz.prog 153 #[v,.func (.func 109) #[] #[]] w fun e w'=>∃i:Int,e = .returned (.int .i64 i)/\decide (0<=i)=(l.any fun x=> !Tess.vO x)/\Below w.heap.size w w':=by
 obtain⟨a,Ag,rfl,Ae,_,_,hc⟩:=hv;have HC:=Hd hc;have Ae:l.length<=9223372036854775807:=by unfold maxLen at Ae;omega
 clear hc;go_enter Tryz.func153,Tryz.ntmps153;go_wp2;go_loopw [8] (fun i wr=>∃k:Nat,k<=l.length/\i = .int .i64 k/\(∀j (hj:j<l.length),j<k->(!Tess.vO l[j])=false)/\Below w.heap.size w wr) (fun i _=>l.length-(intOf i).toNat)
 case atStart=>exact⟨0,qN _,rfl,fun j _ h=>absurd h (zH _),qJ _ _⟩
 case round=>
  obtain⟨k,hk,rfl,Aa,hB⟩:=hrel;have HA:=Hd Aa;have HB:=Hd hB;clear Aa hB;by_cases hlt:k<l.length
  ·obtain⟨b,Ac,rfl,hb,_,hg⟩:=HC.out (by omega);have e0:wr.cell? ⟨b,Ac+k*2,none⟩=some (.string l[k].s):=(HB.out.cell (p:=⟨b,Ac+k*2,none⟩) hb).trans (hg k hlt).1;have e1:wr.cell? ⟨b,Ac+k*2+1,none⟩=some (.bool l[k].null):=(HB.out.cell (p:=⟨b,Ac+k*2+1,none⟩) hb).trans (hg k hlt).2;clear hg;have HX:=Hd (fun W=>iOa l[k].s l[k].null W);have Af:(k:Int)<(l.length:Int):=by omega
   cases hyx: !Tess.vO l[k]
   ·rw[show(!Tess.vO ⟨l[k].s,l[k].null⟩)=_ from hyx]at HX;have HY:=Hd hyx;clear hyx;go_wp2_with (go_at_call 109;refine(HX.out _).mono ?_;rintro e w2 ⟨rfl,Ab⟩;have Ad:=Hd Ab;clear Ab);go_roundw
    case rel=>
     refine⟨k+1,by omega,by go_num,fun j hj hjk=>?_,Bt HB.out Ad.out⟩;by_cases hjk':j<k
     ·exact HA.out j hj hjk'
     ·obtain rfl:j=k:=by omega
      exact HY.out
    case measure=>simp[intOf];omega
   ·rw[show(!Tess.vO ⟨l[k].s,l[k].null⟩)=_ from hyx]at HX;have HY:=Hd hyx;clear hyx;go_wp2_with (go_at_call 109;refine(HX.out _).mono ?_;rintro e w2 ⟨rfl,Ab⟩;have Ad:=Hd Ab;clear Ab);go_ret;refine⟨(k:Int),rfl,?_,Bt HB.out Ad.out⟩;rw[decide_eq_true (by omega),qBy,yj];exact⟨l[k],qP hlt,HY.out⟩
  ·have Af:¬(k:Int)<(l.length:Int):=by omega
   go_wp2;go_ret;refine⟨-1,rfl,?_,HB.out⟩;rw[qG (by omega),qBy,xI];intro y hy;obtain⟨j,hj,rfl⟩:=zq hy;rw[HA.out j hj (by omega)];simp
theorem co3(p:Nat->Prop)(v:Value)(l:List Tess.Val)(w:World)(hv:VA2 p w v l) :
  Calls Tryz.prog 111 #[v,.func (.func 109) #[] #[]] w fun e w'=>e = .returned (.bool (!l.all Tess.vO))/\Below w.heap.size w w':=by
 have HI:=Hd (io2 p v l w hv);obtain⟨a,Aa,rfl,_⟩:=hv;go_enter Tryz.func111,Tryz.ntmps111;go_wp2_with (go_at_call 153;refine HI.out.mono ?_;rintro e w2 ⟨i,rfl,hi,hB⟩;have HH:=Hd hi;have HB:=Hd hB;clear hi hB);go_ret;refine⟨?_,HB.out⟩;rw[show(!l.all Tess.vO)=l.any fun x=> !Tess.vO x by simp[List.all_eq_not_any_not],<-HH.out];rfl
theorem sFa(p:Nat->Prop)(vs vr:Value)(s:Tess.Sch)(t:Int)(l:List Tess.Val)(ns:List Int)(w:World)(hs:SA p w vs s)(hr:RA3 p w vr t l ns) :
  Calls Tryz.prog 57 #[vs,vr] w fun e w'=>e = .returned (.bool (Tess.rowFits s t l ns.length))/\Below w.heap.size w w':=by
 have HR:=Hd (fun W (hB:Below w.heap.size w W)=>sRa vs s p W (hs.ag (Ag.new p hB)));obtain⟨vd,vm,rfl,hd,hm,_,_⟩:=hs;obtain⟨ad,Ad,rfl,_⟩:=sl3 hd;obtain⟨am,Ae,rfl,_⟩:=sl3 hm;obtain⟨Ak,na,nc,rfl,_,hv,_⟩:=hr;have HC:=Hd (fun W (hB:Below w.heap.size w W)=>co3 p Ak l W (hv.ag (Ag.new p hB)));obtain⟨da,dc,rfl,_⟩:=hv;clear hd hm
 obtain⟨W0,Aj⟩:=XQ ((w.alloc (.cells #[.slice ad s.dims.length Ad,.slice am s.mets.length Ae,.int .i64 s.grain] 24)).alloc (.cells #[.int .i64 t,.slice da l.length dc,.slice na ns.length nc] 51))
 obtain⟨h0,h1,hS,hB⟩:=la3 w (.cells #[.slice ad s.dims.length Ad,.slice am s.mets.length Ae,.int .i64 s.grain] 24) (.cells #[.int .i64 t,.slice da l.length dc,.slice na ns.length nc] 51);rw[Aj]at h0 h1 hS hB;obtain⟨⟨x0,x1,x2⟩,_⟩:=can3 h0;have H0:=Hd h0;have H1:=Hd h1;have HB:=Hd hB;have HS:=Hd hS
 have Aa:∀W,Below W0.heap.size W0 W->W.heap[w.heap.size]?=_/\W.heap[w.heap.size+1]?=_:=fun W hW=>⟨(hW.block _ (by omega)).trans h0,(hW.block _ (by omega)).trans h1⟩
 have Ai:=Hd Aa;clear h0 h1 hS hB Aa;have HE:RowKit.Hid (Tess.rowFits s t l ns.length=(Tess.sO s&&decide (0<=t)&&decide (t<=1000000000000)&&decide (l.length=s.dims.length)&&decide (ns.length=s.mets.length)&&l.all Tess.vO)):=Hd rfl;cases hok:Tess.sO s
 ·rw[hok]at HR HE;go_enter Tryz.func57,Tryz.ntmps57;go_wp2_with (go_at_call 23;refine(HR.out _ HB.out).mono ?_;rintro e w2 ⟨rfl,Ac⟩;have Ab:=Hd (Bt HB.out Ac);clear Ac);go_ret;exact⟨by rw[HE.out];rfl,Ab.out⟩
 ·rw[hok,zl]at HE;rw[hok]at HR;go_enter Tryz.func57,Tryz.ntmps57;go_wp2_with (fail);go_at_call 23;refine(HR.out _ HB.out).mono ?_;rintro e w2 ⟨rfl,Ac⟩;obtain⟨q0,q1⟩:=Ai.out w2 Ac;have Ab:=Hd (Bt HB.out Ac);clear Ac x0 x1 x2 hok HR;obtain⟨⟨x0,x1,x2⟩,_⟩:=can3 q0;obtain⟨⟨y0,y1,y2⟩,_⟩:=can3 q1;clear q0 q1;by_cases h1:0<=t
  ·have d1:decide (0<=t)=true:=decide_eq_true h1;rw[d1]at HE;by_cases h2:t<=1000000000000
   ·have d2:decide (t<=1000000000000)=true:=decide_eq_true h2;rw[d2]at HE;by_cases h3:l.length=s.dims.length
    ·have d3:((l.length:Int)==(s.dims.length:Int))=true:=xM.2 (by omega);rw[decide_eq_true h3]at HE;by_cases h4:ns.length=s.mets.length
     ·have d4:((ns.length:Int)==(s.mets.length:Int))=true:=xM.2 (by omega);rw[decide_eq_true h4]at HE;clear h3 h4;generalize l.all Tess.vO=r at HC HE;go_wp2_with (go_at_call 111;refine(HC.out _ Ab.out).mono ?_;rintro e w3 ⟨rfl,Af⟩;have Ah:=Hd (Bt Ab.out Af);clear Af);go_ret;exact⟨by rw[HE.out];simp,Ah.out⟩
     ·have d4:((ns.length:Int)==(s.mets.length:Int))=false:=qi.2 (by omega);rw[qG h4]at HE;clear h3 h4;go_wp2;go_ret;exact⟨by rw[HE.out];simp,Ab.out⟩
    ·have d3:((l.length:Int)==(s.dims.length:Int))=false:=qi.2 (by omega);rw[qG h3]at HE;clear h3;go_wp2;go_ret;exact⟨by rw[HE.out];simp,Ab.out⟩
   ·have d2:decide (t<=1000000000000)=false:=qG h2;rw[d2]at HE;go_wp2;go_ret;exact⟨by rw[HE.out];simp,Ab.out⟩
  ·have d1:decide (0<=t)=false:=qG h1;rw[d1]at HE;go_wp2;go_ret;exact⟨by rw[HE.out];simp,Ab.out⟩
end Go.Proofs.Q9
namespace Go.Proofs.Q9
open Go.RowKit Go.Sort
open Tess (Fil)
open Tess.Fil (sO3 gO2 sF2 sH)
theorem iTa(t:Int)(w:World):Calls Tryz.prog 112 #[.int .i64 t] w fun e w'=>e = .returned (.bool (decide (0<=t)&&decide (t<1000000000001)))/\w=w':=by
 by_cases h1:0<=t
 ·have d1:decide (0<=t)=true:=decide_eq_true h1;rw[d1,zl];generalize hr:decide (t<1000000000001)=r;go_enter Tryz.func112,Tryz.ntmps112;go_wp2;go_ret;exact⟨rfl,rfl⟩
 ·have d1:decide (0<=t)=false:=qG h1;rw[d1,qo];go_enter Tryz.func112,Tryz.ntmps112;go_wp2;go_ret;exact⟨rfl,rfl⟩
theorem gCa(t g:Int)(w:World)(ht:0<=t/\t<=1000000000000)(hg:1<=g/\g<=1000000000):Calls Tryz.prog 58 #[.int .i64 t,.int .i64 g] w fun e w'=>e = .returned (.tuple #[.int .i64 (t-t%g),.int .i64 0])/\Below w.heap.size w w':=by
 have HT:=Hd (iTa t w);rw[decide_eq_true ht.1,decide_eq_true (show t<1000000000001 by omega)]at HT;have HG:=Hd (aG w.heap.size g (w.alloc (.cells #[.int .i64 g] 2)) (cob (la2 w _).1).1);rw[show gO2 g=true by unfold gO2;rw[decide_eq_true hg.1,decide_eq_true hg.2];rfl]at HG;have HB:=Hd (la2 w (.cells #[.int .i64 g] 2)).2.2;obtain⟨Aa,Ab⟩:=ht;obtain⟨Af,Ac⟩:=hg
 have Ae:0<=t%g:=Int.emod_nonneg _ (by omega)
 have Ad:t%g<=t:=by have:=Int.mul_nonneg (show 0<=g by omega) (Int.ediv_nonneg Aa (show 0<=g by omega));rw[Int.emod_def];omega
 have Ag:(g==0)=false:=qi.2 (by omega);go_enter Tryz.func58,Tryz.ntmps58;go_wp2_with (first|(go_at_call 112;refine HT.out.mono ?_;rintro e w2 ⟨rfl,rfl⟩)|(go_at_call 113;refine HG.out.mono ?_;rintro e w2 ⟨rfl,rfl⟩));refine jW (v:=.tuple #[.int .i64 (t-t%g),.int .i64 0]) (by simp[results,Tryz.results58,go_sem]) rfl ⟨rfl,HB.out⟩
theorem iI:(Tryz.prog.info? 2).map (fun i=>(i.zero,i.size,i.bytes))=some (some (.int .i64 0),1,8):=by kernel_rfl
theorem iW:(Tryz.prog.info? 100).map (fun i=>(i.zero,i.size,i.bytes))=some (some (.agg #[.int .i64 0,.int .u64 0]),2,16):=by kernel_rfl
theorem cVa(a:Option Addr)(n cap:Nat)(xs:List Value)(w:World)(hn:n<=1000000)(hx:xs.length=n*2)(hnil:a=none->n=0/\cap=0)(hc:∀ad,a=some ad->∀j u,xs[j]?=some u->w.cell? (ad.add j)=some u)(h1:∀u∈xs,u.oneCell'=true) :
  Calls Tryz.prog 114 #[.slice a n cap] w fun e w'=>∃v',e = .returned v'/\w'.ownsRow w.heap.size 47 2 v' n xs/\(v' = .slice none 0 0∨∃g c,v' = .slice (some ⟨g,0,none⟩) n c)/\Below w.heap.size w w':=by
 obtain⟨i0,hi,Ae,Aj,Ac⟩:=zF iV;have q:∀(w:World) (a:Option Addr) (n c n' c':Nat),(binOp .eql 48 (.slice a n c) (.slice none n' c')).run Tryz.prog w = .ok (.bool a.isNone) w:=fun w a n c n' c'=>Lib.run_eql_slice_nil w _ _ a n c n' c' Tryz.underlying48;cases a with
 |none=>
   obtain⟨rfl,rfl⟩:=hnil rfl;have Ag:xs=[]:=jQ (by simpa using hx);subst Ag;clear hc h1 hnil hx;go_enter Tryz.func114,Tryz.ntmps114;go_wp2;go_ret;exact⟨_,rfl,qg _ _ _ _,.inl rfl,qJ _ _⟩
 |some ad=>
   obtain⟨hA,hS,hB⟩:=la2 w (.cells #[] 47);have HO:=Hd (show(w.alloc (.cells #[] 47)).ownsRow w.heap.size 47 2 (.slice (some ⟨w.heap.size,0,none⟩) 0 0) 0 []from⟨rfl,.inr ⟨w.heap.size,0,#[],rfl,qC _,hA,qC _,by decide,rfl,rfl⟩⟩)
   have HC:=Hd (show ∀j u,xs[j]?=some u->(w.alloc (.cells #[] 47)).cell? (ad.add j)=some u from fun j u hj=>by
    have h:=hc ad rfl j u hj;rw[<-h]
    exact hB.cell (qK w _ h))
   have HB:=Hd hB;have HX:=Hd hx;have HH:=Hd h1;clear hA hS hB hc hnil hx h1;go_enter Tryz.func114,Tryz.ntmps114;go_wp2_with (have Af:=HO;clear Af;at_builtin;refine jT _ rfl _ _ 48 rfl w.heap.size 47 i0 _ 2 24 Tryz.underlying48 hi Ae Aj Ac rfl (by decide) _ 0 [] rfl HO.out ad n cap xs rfl HX.out HC.out HH.out ?_ ?_ ?_ ?_)
   ·unfold maxLen;omega
   ·omega
   ·simp
   intro v3 w3 Aa Ab _ Ah
   try simp only[qj,qr]at Aa
   have Ad:=Hd Aa;have Ak:=Hd (HB.out.grown Ab (by simp) (fun g e=>(HO.out.lt g e).1))
   have Ai:=Hd (show v3 = .slice none 0 0∨∃g c,v3 = .slice (some ⟨g,0,none⟩) n c from by
    rcases Aa.2 with⟨e,_⟩|⟨g,c,_,e,_⟩
    ·exact .inl e
    ·exact .inr ⟨g,c,e⟩)
   clear Aa Ab Ah;go_wp2;go_ret;exact⟨_,rfl,Ad.out,Ai.out,Ak.out⟩
end Go.Proofs.Q9
namespace Go.Proofs.Q9
open Go.RowKit Go.Sort
open Tess (Fil)
theorem tw3{w W:World}{B:Nat}{t:TypeId}{x0 x1 x2 x3 x4 x5:Value}(y1 y3:Value)(h:W.heap[B]?=some (.cells #[x0,x1,x2,x3,x4,x5] t (0,0)))(hb:Below w.heap.size w W)(hB:w.heap.size<=B) :
  ∃W3,((W.setCell ⟨B,1,none⟩ y1).setCell ⟨B,3,none⟩ y3)=W3/\W3.heap[B]?=some (.cells #[x0,y1,x2,y3,x4,x5] t (0,0))/\(∀k,k≠B->W3.heap[k]?=W.heap[k]?)/\W3.heap.size=W.heap.size/\Below w.heap.size w W3:=
 ⟨_,rfl,qO _ _ _ _ _ _ (qO _ _ _ _ _ _ h),fun _ hk=>(qW _ _ _ _ hk).trans (qW _ _ _ _ hk),by simp[World.setCell],(hb.setCell hB _).setCell hB _⟩
theorem tw2{w W:World}{B:Nat}{t:TypeId}{x0 x1 x2 x3 x4 x5:Value}(y4 y5:Value)(h:W.heap[B]?=some (.cells #[x0,x1,x2,x3,x4,x5] t (0,0)))(hb:Below w.heap.size w W)(hB:w.heap.size<=B) :
  ∃W3,((W.setCell ⟨B,4,none⟩ y4).setCell ⟨B,5,none⟩ y5)=W3/\W3.heap[B]?=some (.cells #[x0,x1,x2,x3,y4,y5] t (0,0))/\(∀k,k≠B->W3.heap[k]?=W.heap[k]?)/\W3.heap.size=W.heap.size/\Below w.heap.size w W3:=
 ⟨_,rfl,qO _ _ _ _ _ _ (qO _ _ _ _ _ _ h),fun _ hk=>(qW _ _ _ _ hk).trans (qW _ _ _ _ hk),by simp[World.setCell],(hb.setCell hB _).setCell hB _⟩
end Go.Proofs.Q9
namespace Go.Proofs.Q9
open Go.RowKit Go.Sort
open Tess (CK Pay)
theorem RA.sM{α:Type}{k:Nat}{f:α->List Value}{p:Nat->Prop}{w:World}{v:Value}{l:List α}(h:RA k f p w v l){M:Nat}(hl:l.length=M):∃a c,v = .slice a M c/\M<=c/\M<=9223372036854775807/\∀j (hj:j<l.length),∃b off,a=some ⟨b,off,none⟩/\b<w.heap.size/\p b/\∀i,i<k->w.cell? ⟨b,off+j*k+i,none⟩=(f l[j])[i]?:=by obtain⟨a,c,hv,h1,h2,_,h4⟩:=h;subst hl;refine⟨a,c,hv,h2,by unfold maxLen at h1;omega,fun j hj=>?_⟩;obtain⟨b,off,ha,hb,hp,hc⟩:=h4 (by omega);exact⟨b,off,ha,hb,hp,hc j hj⟩
