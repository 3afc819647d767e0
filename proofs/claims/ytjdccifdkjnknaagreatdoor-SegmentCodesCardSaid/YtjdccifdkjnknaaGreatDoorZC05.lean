/- Joined. -/
import Derived.Test.YtjdccifdkjnknaaGreatDoorZC04
set_option maxRecDepth 100000
set_option maxHeartbeats 1000000
namespace Go
theorem su(n k:Nat)(h:n*2^k<18446744073709551616):IntKind.u64.wrap ((n:Int)*2^k)=((n*2^k:Nat):Int):=by rw[wrap_u64,show((n:Int)*2^k)=((n*2^k:Nat):Int) by simp];omega
theorem oa10(n k x:Nat)(hx:x<2^k)(h:n*2^k+x<18446744073709551616):bits .or .u64 ((n*2^k:Nat):Int) (x:Int)=((n*2^k+x:Nat):Int):=by rw[bits_or_u64_nat _ _ (by omega) (by omega),<-Nat.shiftLeft_eq,Nat.shiftLeft_add_eq_or_of_lt hx]
theorem am3(n k:Nat)(hk:2^k<=18446744073709551616)(h:n<18446744073709551616):bits .and .u64 (n:Int) ((2^k-1:Nat):Int)=((n%2^k:Nat):Int):=by rw[u64_and_nat _ _ h (by omega),Nat.and_two_pow_sub_one_eq_mod]
end Go
namespace Go.Proofs.Q9
open Go.RowKit Go.Sort
abbrev Dg(b T n c:Nat)(x:Value)(w:World):Prop:=w.heap[b]?=some (.cells #[.int .u64 n,.int .i64 c,x] T (0,0))
theorem Dg.cells{b T n c:Nat}{x:Value}{w:World}(h:Dg b T n c x w):(w.cell? ⟨b,0,none⟩=some (.int .u64 n)/\w.cell? ⟨b,1,none⟩=some (.int .i64 c)/\w.cell? ⟨b,2,none⟩=some x)/\(w.frozen? ⟨b,0,none⟩=false/\w.frozen? ⟨b,1,none⟩=false/\w.frozen? ⟨b,2,none⟩=false)/\b<w.heap.size:=by
 refine⟨⟨?_,?_,?_⟩,⟨?_,?_,?_⟩,(qA.1 h).1⟩
 all_goals first|(rw[jF h];rfl)|exact qAc h _
theorem Dg.set0{b T n c:Nat}{x:Value}{w:World}(h:Dg b T n c x w)(m:Nat):Dg b T m c x (w.setCell ⟨b,0,none⟩ (.int .u64 m)):=by show(w.setCell ⟨b,0,none⟩ _).heap[b]?=_;simp[World.setCell,jl,h]
theorem Dg.set1{b T n c:Nat}{x:Value}{w:World}(h:Dg b T n c x w)(m:Nat):Dg b T n m x (w.setCell ⟨b,1,none⟩ (.int .i64 m)):=by show(w.setCell ⟨b,1,none⟩ _).heap[b]?=_;simp[World.setCell,jl,h]
theorem Dg.set2{b T n c:Nat}{x:Value}{w:World}(h:Dg b T n c x w)(m:Value):Dg b T n c m (w.setCell ⟨b,2,none⟩ m):=by show(w.setCell ⟨b,2,none⟩ _).heap[b]?=_;simp[World.setCell,jl,h]
structure OneB(b:Nat)(w w':World):Prop where
 os:w'.os=w.os
 tape:w'.tape=w.tape
 output:w'.output=w.output
 size:w.heap.size<=w'.heap.size
 block:∀k,k<w.heap.size->k≠b->w'.heap[k]?=w.heap[k]?
theorem OneB.set(b i:Nat)(v:Value){w w':World}(h:OneB b w w'):OneB b w (w'.setCell ⟨b,i,none⟩ v):=⟨h.os,h.tape,h.output,by simpa[World.setCell]using h.size,fun k hk hb=>(yE _ _ _ _ hb).trans (h.block k hk hb)⟩
theorem OneB.of{b:Nat}{w w':World}(h:Below w.heap.size w w'):OneB b w w':=⟨h.os,h.tape,h.output,h.size,fun k hk _=>h.block k hk⟩
theorem OneB.trans{b:Nat}{w w1 w2:World}(h:OneB b w w1)(h':OneB b w1 w2):OneB b w w2:=⟨h'.os.trans h.os,h'.tape.trans h.tape,h'.output.trans h.output,qt h.size h'.size,fun k h1 h2=>(h'.block k (qF h1 h.size) h2).trans (h.block k h1 h2)⟩
theorem da5(b T n c k x:Nat)(v:Value)(w:World)(h:Dg b T n c v w)(hx:x<2^k)(hn:n*2^k+x<18446744073709551616)(hk:k<=64)(hc:c<=1000) :
  Calls Tryz.prog 165 #[.pointer (some ⟨b,0,none⟩),.int .u64 x,.int .i64 k] w fun e w'=>e = .returned (.tuple #[])/\Dg b T (n*2^k+x) (c+k) v w'/\OneB b w w':=by
 have h1:=su n k (by omega);have h2:=oa10 n k x hx hn;obtain⟨A,hA⟩:=Xq (n*2^k)
 obtain⟨B,hB⟩:=Xq (A+x)
 rw[<-hA]at h1 h2⊢;rw[<-hB]at h2⊢;have h3:IntKind.i64.wrap ((c:Int)+(k:Int))=((c+k:Nat):Int):=by rw[wrap_i64];unfold wrap64;omega
 have Ad:(0:Int)<=(k:Int):=by omega
 have Ac:(k:Int)<=64:=by omega
 obtain⟨⟨c0,c1,c2⟩,⟨z0,z1,z2⟩,hb⟩:=Dg.cells h;have H:=Hd h;clear h hA hB hn hx;go_enter Tryz.func165,Tryz.ntmps165;go_wp2_with (fail);refine FlowO.wp_region [0,1,2,3,4,6,8,10,11,12,14] 11 rfl (by kernel_rfl) ?_
 iterate 11 (refine⟨_,_,rfl,rfl,(fun w=>by go_simp;try rfl),?_⟩)
 intro w1 Aa Ab;have H1:=Hd (show Dg b T n c v w1 from(Aa.block _ hb).trans H.out);have hO:=Hd (OneB.of (b:=b) Aa);clear Aa Ab c0 c1 c2 z0 z1 z2 hb;obtain⟨⟨c0,c1,c2⟩,⟨z0,z1,z2⟩,hb⟩:=Dg.cells H1.out;refine FlowO.two 5 13 (by kernel_rfl) rfl rfl ?_ ?_
 ·go_wp2;refine⟨rfl,FlowO.pu [7,9] 8 (by kernel_rfl) ?_⟩
  iterate 2 (refine⟨_,_,rfl,rfl,(fun w=>by go_simp;try rfl),?_⟩)
  refine FlowO.single 13 (by kernel_rfl) rfl ?_;go_wp2;refine⟨rfl,FlowO.pu [15] 6 (by kernel_rfl) ?_⟩
  iterate 1 (refine⟨_,_,rfl,rfl,(fun w=>by go_simp;try rfl),?_⟩)
  refine FlowO.seq [16,17,18,19,20,21] (by kernel_rfl) (by kernel_rfl) ?_;simp only[FlowP.pick,zp,jg,qM,qV,qL,qY,zZ,qk,qr];go_wp2;refine⟨rfl,?_⟩;go_end0;exact⟨rfl,(H1.out.set0 _).set1 _,(hO.out.set b 0 _).set b 1 _⟩
 ·go_wp2;refine⟨rfl,FlowO.pu [15] 9 (by kernel_rfl) ?_⟩
  iterate 1 (refine⟨_,_,rfl,rfl,(fun w=>by go_simp;try rfl),?_⟩)
  refine FlowO.single 5 (by kernel_rfl) rfl ?_;go_wp2;refine⟨rfl,FlowO.pu [7,9] 6 (by kernel_rfl) ?_⟩
  iterate 2 (refine⟨_,_,rfl,rfl,(fun w=>by go_simp;try rfl),?_⟩)
  refine FlowO.seq [16,17,18,19,20,21] (by kernel_rfl) (by kernel_rfl) ?_;simp only[FlowP.pick,zp,jg,qM,qV,qL,qY,zZ,qk,qr];go_wp2;refine⟨rfl,?_⟩;go_end0;exact⟨rfl,(H1.out.set0 _).set1 _,(hO.out.set b 0 _).set b 1 _⟩
theorem da4(b T n m k:Nat)(v:Value)(w:World)(h:Dg b T n (m+k) v w)(hn:n<18446744073709551616)(hm:m<=60) :
  Calls Tryz.prog 166 #[.pointer (some ⟨b,0,none⟩),.int .i64 k] w fun e w'=>e = .returned (.int .u64 (n/2^m:Nat))/\Dg b T (n%2^m) m v w'/\OneB b w w':=by
 obtain⟨P,hP⟩:=Xq (2^m)
 have Ae:0<P:=by rw[hP];exact jh _
 have Ah:P<=1152921504606846976:=by rw[hP,show(1152921504606846976:Nat)=2^60 by decide];exact zf (by omega) hm
 have h2:(2:Int)^m=(P:Int):=by rw[hP];simp
 have Aa:=am3 n m (by rw[<-hP];omega) hn;rw[<-hP]at Aa⊢;have h3:IntKind.i64.wrap (((m+k:Nat):Int)-(k:Int))=(m:Int):=by rw[wrap_i64];unfold wrap64;omega
 have Aj:wrap64 (m:Int)=(m:Int):=by unfold wrap64;omega
 have h4:IntKind.u64.wrap ((P:Int)-1)=((P-1:Nat):Int):=by rw[wrap_u64];omega
 have h5:IntKind.u64.wrap (P:Int)=(P:Int):=by rw[wrap_u64];omega
 have h6:(n:Int)/2^min m 64=((n/P:Nat):Int):=by rw[show min m 64=m by omega,h2];omega
 have h7:IntKind.u64.wrap ((2:Int)^m)=(P:Int):=by rw[h2];exact h5
 have h8:bits .and .u64 (n:Int) (IntKind.u64.wrap (IntKind.u64.wrap (2^min m 64)-1))=((n%P:Nat):Int):=by rw[show min m 64=m by omega,h2,h5,h4];exact Aa
 have Ag:(0:Int)<=(m:Int):=by omega
 obtain⟨⟨c0,c1,c2⟩,⟨z0,z1,z2⟩,hb⟩:=Dg.cells h;have H1:=h.set1 m;have HO:=Hd ((OneB.of (qJ w.heap.size w)).set b 1 (.int .i64 m));obtain⟨w1,Ab⟩:=XQ (w.setCell ⟨b,1,none⟩ (.int .i64 m))
 rw[Ab]at H1 HO;obtain⟨⟨d0,d1,d2⟩,⟨y0,y1,y2⟩,Af⟩:=Dg.cells H1;have HH:=Hd H1;clear hP Ae h H1 hm hn;go_enter Tryz.func166,Tryz.ntmps166;go_wp2_with (fail);go_quiet (fail);go_wp2_with (fail);generalize hw3:w1.drewN _=w3;have H3:=Hd (show Dg b T n m v w3 by rw[<-hw3];exact HH.out);have Ad:=Hd (show OneB b w w3 by rw[<-hw3];exact⟨HO.out.os,HO.out.tape,HO.out.output,HO.out.size,HO.out.block⟩)
 clear c0 c1 c2 z0 z1 z2 hb d0 d1 d2 y0 y1 y2 Af hw3 Ab;obtain⟨⟨c0,c1,c2⟩,⟨z0,z1,z2⟩,hb⟩:=Dg.cells H3.out;refine Flow.wrf 11 (Flow.sp3 [.inl ?_,.inl ?_,.inl ?_,.inl ?_,.inl ?_,.inl ?_,.inl ?_,.inl ?_,.inl ?_,.inl ?_,.inl ?_]) (by kernel_rfl) (by kernel_rfl) ?_ ?_;rotate_left 11
 ·refine Flow.sm2 ?_
  repeat(first|exact Flow.ln2|refine Flow.li2 ?_)
 all_goals try simp only[qL,qY,qM,qV]
 iterate 11 (refine Flow.tvK rfl (fun K hK=>⟨fun w hw hG=>?_,?_⟩);(have Ai:=Flow.bc4 hw;clear hG hw;unfold Flow.Runs Flow.yields;go_simp;try rfl);go_simp;refine hK _ ?_;clear hK K)
 refine Flow.tn2 fun w2 hw2 hG=>?_;clear hG;have H2:=Hd (show Dg b T n m v w2 from(hw2.block _ hb).trans H3.out);have Ac:=Hd (Ad.out.trans (OneB.of (b:=b) hw2));clear hw2 c0 c1 c2 z0 z1 z2 hb;obtain⟨⟨c0,c1,c2⟩,⟨z0,z1,z2⟩,hb⟩:=Dg.cells H2.out;go_simp;go_wp2;go_ret;exact⟨rfl,H2.out.set0 _,Ac.out.set b 0 _⟩
end Go.Proofs.Q9
namespace Go.Rf
open Go
variable {P:Program} {n:Nat}
theorem wIs2{F:Fence}{c rest:Code}{Q:Exit->Act->World->Prop}{a:Act}{w:World}(l:Nat)(hf:findLabel c l=some rest)(h:c.wpIn F n P (Exit.fwd l (rest.wpIn F n P (Exit.noGoto Q)) Q) a w):(Code.scope c).wpIn F n P Q a w:=by
 intro b k cs Ac hb hr;have h0:(lone (b.atR a (.code (.scope c)::k)) cs w).fenced P F:=xw hb hr rfl;have hx:∀id,exitTo id (.inScope c::k)=exitTo id k:=fun id=>by simp[exitTo]
 obtain⟨e,a₁,w₁,hq,Ab⟩:=h b (.inScope c::k) cs Ac hb hr;cases e with
 |normal=>exact⟨.normal,a₁,w₁,hq,.head h0 sRs (qAh Ab (.one (xw hb hr rfl) sRi))⟩
 |exit id=>
   exact⟨.exit id,a₁,w₁,hq,fun k' hk=>.head h0 sRs (Ab.1 k' (by rw[hx];exact hk)),
    fun hr' hk=>let⟨k₁,h1,h2⟩:=Ab.2 hr' (by rw[hx];exact hk);⟨k₁,h1,.head h0 sRs h2⟩⟩
 |goto l'=>
   obtain⟨rfl,hJ⟩:=hq;have hg:gotoIn l' (.inScope c::k)=some (.code rest :: .inScope c::k):=by simp[gotoIn,hf]
   have h1:=Ab.1 _ hg;obtain⟨e,a₂,w₂,hq,Aa⟩:=hJ b (.inScope c::k) cs Ac hb hr;have pre:=StepsIn.head h0 sRs h1;cases e with
   |normal=>exact⟨.normal,a₂,w₂,hq,pre.trans (qAh Aa (.one (xw hb hr rfl) sRi))⟩
   |exit id=>
     exact⟨.exit id,a₂,w₂,hq,fun k' hk=>pre.trans (Aa.1 k' (by rw[hx];exact hk)),
      fun hr' hk=>let⟨k₁,g1,g2⟩:=Aa.2 hr' (by rw[hx];exact hk);⟨k₁,g1,pre.trans g2⟩⟩
   |goto l=>exact hq.elim
   |ret=>exact⟨_,a₂,w₂,hq,.of_steps pre Aa⟩
   |panic ch=>exact⟨_,a₂,w₂,hq,.of_steps pre Aa⟩
   |outgrown=>exact⟨_,a₂,w₂,hq,.of_steps pre Aa⟩
 |ret=>exact⟨_,a₁,w₁,hq,.of_steps (.one h0 sRs) Ab⟩
 |panic ch=>exact⟨_,a₁,w₁,hq,.of_steps (.one h0 sRs) Ab⟩
 |outgrown=>exact⟨_,a₁,w₁,hq,.of_steps (.one h0 sRs) Ab⟩
theorem rf3{g:Operand}{ps:Array Tmp}{assign body:Code}{Q:Exit->Act->World->Prop}{a:Act}{w:World}{gf:Nat}{lb:Array Value}(i:Nat)(Fin:World->Prop)
  (hg:a.eval g = .func (.func gf) #[] lb) (eg:∀args w,(callFunc gf args).run P w = .ok (.enter gf args) w)
  (h:∀(fn:Nat) (W1:World),W1.heap[w.heap.size+1]?=some (.loop { state:=.ready,pending:=none,fn,tmps:=a.tmps,params:=ps,assign,body,defers:=w.heap.size })->W1.heap[w.heap.size]?=some (.deferred (some [])) ->
    RowKit.Below w.heap.size w W1->W1.heap.size=w.heap.size+2 ->
    CallsIn Fence.wide (n-1) P gf (#[.func (.yield (w.heap.size+1)) #[] #[]]++lb) W1 fun e W3=>(∃v,e = .returned v)/\∃r:Loop,W3.heap[w.heap.size+1]?=some (.loop r)/\r.state ≠ .busy/\(r.pending=none∨r.pending=some (.exit i)) /\
     ∀W4,SB (w.heap.size+1) W3 W4->Fin W4)
  (hn:∀W4,Fin W4->Q .normal { a with defers:={ target:=.collected w.heap.size,args:=#[] }::a.defers } W4)
  (he:∀W4,Fin W4->(Code.exit i).wpIn Fence.wide n P Q { a with defers:={ target:=.collected w.heap.size,args:=#[] }::a.defers } W4):(Code.rangeFunc g ps assign body).wpIn Fence.wide n P Q a w:=by
 refine rw3 hg eg fun fn W1 h1 h2 h3 h4=>xD (h fn W1 h1 h2 h3 h4) ?_;rintro e W3 ⟨hv,r,hr,hs,hp,hf⟩;refine⟨hv,r,hr,hs,fun W4 h5=>?_⟩;rcases hp with hp|hp
 ·rw[hp];exact hn W4 (hf W4 h5)
 ·rw[hp];exact he W4 (hf W4 h5)
end Go.Rf
namespace Go.FlowO
open Go Go.RowKit Go.FlowP Go.Flow
section
variable {P:Program} {ops:Array Oper} {n:Nat}
theorem sAw(o:Oper)(ρ:Operand->Value):o.semAt Fence.wide.round ρ=execOp ρ o:=by simp[Oper.semAt,Fence.wide]
theorem uIw{o:Oper}{a:Act}{K K':Act->World->Prop}{Q:Exit->Act->World->Prop}{r:Result Next}(hK:∀b w,K b w->K' b w)(h:o.uponIn Fence.wide n P a K (Qn (Q .normal)) r):o.uponIn Fence.wide n P a K' Q r:=by
 cases r with
 |ok nx w'=>
   cases nx<;>simp only[Oper.uponIn]at h⊢
   case value u=>exact hK _ _ h
   case skip=>exact hK _ _ h
   case defer d=>exact hK _ _ h
   case enter f args=>
    refine⟨h.1,xD h.2 fun e w'' he=>?_⟩;cases e with
    |returned u=>exact hK _ _ he
    |panicked c=>exact(by cases he.1)
    |outgrown=>exact(nl2 _ he).elim
   case row=>exact⟨h.1,RowsIn.mono h.2 fun u w'' he=>hK _ _ he⟩
   case round=>
    refine⟨h.1,RoundIn.mono h.2 fun e w'' he=>?_⟩;cases e with
    |returned u=>exact hK _ _ he
    |panicked c=>exact(by cases he.1)
    |outgrown=>exact(nl2 _ he).elim
 |halt x w'=>
   cases x<;>simp only[Oper.uponIn]at h⊢
   case panic=>exact(by cases h.1)
theorem wAI3{Q:Exit->Act->World->Prop}:∀(fuel:Nat) (listed:Array Bool) (a:Act) (w:World),wpAnyIn Fence.wide n P .any ops (Qn (Q .normal)) fuel listed a w->wpAnyIn Fence.wide n P .any ops Q fuel listed a w
 |0,_,_,_,h=>⟨h.1,h.2.2⟩
 |fuel+1,listed,a,w,h=>by
   refine⟨fun h0=>(h.1 h0).2,fun i hi=>?_⟩;have h1:=h.2 i hi;unfold wpOpIn at h1⊢;split
   ·rename_i ho;simp only[ho]at h1;exact wAI3 fuel _ _ _ h1
   ·rename_i o ho;simp only[ho]at h1;split
    ·rename_i hw;simp only[hw,jH]at h1;exact⟨h1.1,uIw (fun b w hb=>wAI3 fuel _ _ _ hb) h1.2⟩
    ·rename_i hw;simp only[hw]at h1;exact⟨h1.1,wAI3 fuel _ _ _ h1.2⟩
theorem wAI6{E:Act->World->Prop}{i:Nat}{oi:Oper}{v:Value}(hi:ops[i]?=some oi)(hsel:∀(j:Nat) (o:Oper) cs b,ops[j]?=some o->o.op ≠ .select cs b) :
  ∀(fuel:Nat) (listed:Array Bool) (a:Act) (w:World),
    (∀j oj,ops[j]?=some oj->j≠i->listed.getD j true=false->(∀e∈oj.after,Region.binds .any e=true->e.on≠i)->oi.apart ops oj=true) ->
    i∈Region.ready .any ops listed->Region.wanted oi (yielded ops a.tmps)=true->(∀w,(execOp a.eval oi).run P w = .ok (.value v) w) ->
    wpAnyIn Fence.wide n P .any ops (Qn E) fuel (listed.setIfInBounds i true) (a.put oi.dst v) w->wpAnyIn Fence.wide n P .any ops (Qn E) (fuel+1) listed a w:=by
 intro fuel
 induction fuel with
 |zero=>
   intro listed a w _ hr hw hp H;refine⟨fun h=>(by rw[h]at hr;cases hr),fun j hj=>?_⟩;by_cases hji:j=i
   ·subst hji;unfold wpOpIn;simp only[hi,hw,jH];refine⟨fun _ _=>trivial,?_⟩;rw[sAw,hp];exact H
   ·have:=jj hj hji;rw[H.1]at this;cases this
 |succ fuel ih=>
   intro listed a w Ab hr hw hp H;refine⟨fun h=>(by rw[h]at hr;cases hr),fun j hj=>?_⟩;by_cases hji:j=i
   ·subst hji;unfold wpOpIn;simp only[hi,hw,jH];refine⟨fun _ _=>trivial,?_⟩;rw[sAw,hp];exact H
   ·obtain⟨Ad,oj,Ag,Ae⟩:=jZ.1 hj;have Af:=(jZ.1 hr).1;have Ak:∀k,listed.getD k true=false->listed.getD k false=true->False:=fun k h1 h0=>by rw[qAr h1]at h0;cases h0
    have Ah:∀e∈oj.after,Region.binds .any e=true->e.on≠i:=fun e he hb heq=>Ak i Af (by rw[<-heq];exact Ae e he hb);have Al:=Ab j oj Ag hji Ad Ah;obtain⟨h1,h2,h3⟩:=xN Al
    have Ac:∀k ok,ops[k]?=some ok->k≠i->(listed.setIfInBounds j true).getD k true=false ->
      (∀e∈ok.after,Region.binds .any e=true->e.on≠i)->oi.apart ops ok=true:=fun k ok hk hki hun hno=>by
     refine Ab k ok hk hki ?_ hno;by_cases hjk:j=k
     ·subst hjk;exact Ad
     ·rw[xP true hjk]at hun;exact hun
    have Hj:=H.2 j (jj hj hji);unfold wpOpIn at Hj⊢;simp only[Ag]at Hj⊢;rw[yS oj a oi.dst v h1]at Hj
    have step:∀(b:Act) (u:Value) (w':World),Region.wanted oi (yielded ops b.tmps)=true->(∀w,(execOp b.eval oi).run P w = .ok (.value v) w)->wpAnyIn Fence.wide n P .any ops (Qn E) fuel ((listed.setIfInBounds i true).setIfInBounds j true) (b.put oi.dst v) w'->wpAnyIn Fence.wide n P .any ops (Qn E) (fuel+1) (listed.setIfInBounds j true) b w':=fun b u w' hw hp H=>by refine ih (listed.setIfInBounds j true) b w' Ac (jj hr (xR hji)) hw hp ?_;rw[ye _ _ hji];exact H
    split
    ·rename_i hwj;simp only[hwj,jH]at Hj;refine⟨fun _ _=>trivial,?_⟩;have Hj:=Hj.2;rw[sAw]at Hj⊢;rw[yK oj (fun cs b=>hsel j oj cs b Ag) a oi.dst v h1]at Hj;generalize (execOp a.eval oj).run P w=r at Hj⊢;have Aj:∀u,Region.wanted oi (yielded ops (a.put oj.dst u).tmps)=true:=fun u=>by rw[yS oi a oj.dst u h3];exact hw
     have Ai:∀u w,(execOp (a.put oj.dst u).eval oi).run P w = .ok (.value v) w:=fun u w=>by rw[yK oi (fun cs b=>hsel i oi cs b hi) a oj.dst u h3];exact hp w
     have Aa:∀u w',wpAnyIn Fence.wide n P .any ops (Qn E) fuel ((listed.setIfInBounds i true).setIfInBounds j true) ((a.put oi.dst v).put oj.dst u) w'->wpAnyIn Fence.wide n P .any ops (Qn E) (fuel+1) (listed.setIfInBounds j true) (a.put oj.dst u) w':=fun u w' h=>
      step _ u w' (Aj u) (Ai u) (by rw[<-yn a v u h2];exact h)
     cases r with
     |ok nx w'=>
       cases nx<;>simp only[Oper.uponIn]at Hj⊢
       case value u=>exact Aa _ _ Hj
       case skip=>exact Aa _ _ Hj
       case defer d=>
        have e1:(({ a with defers:=d::a.defers }:Act).put oj.dst undef).tmps=(a.put oj.dst undef).tmps:=by cases oj.dst<;>rfl
        have e2:(({ a with defers:=d::a.defers }:Act).put oj.dst undef).eval=(a.put oj.dst undef).eval:=by funext x;cases oj.dst<;>cases x<;>rfl
        refine step _ undef w' (by rw[e1];exact Aj undef) (fun w=>by rw[e2];exact Ai undef w) ?_;rw[<-yn _ v undef h2];have:(({ a with defers:=d::a.defers }:Act).put oi.dst v)={ (a.put oi.dst v)with defers:=d::(a.put oi.dst v).defers }:=by cases oi.dst<;>rfl
        rw[this];exact Hj
       case enter f args=>
        refine⟨Hj.1,xD Hj.2 fun e w'' he=>?_⟩;cases e with
        |returned u=>exact Aa _ _ he
        |panicked c=>exact(by cases he.1)
        |outgrown=>exact(nl2 E he).elim
       case row=>exact⟨Hj.1,RowsIn.mono Hj.2 fun u w'' he=>Aa _ _ he⟩
       case round=>
        refine⟨Hj.1,RoundIn.mono Hj.2 fun e w'' he=>?_⟩;cases e with
        |returned u=>exact Aa _ _ he
        |panicked c=>exact(by cases he.1)
        |outgrown=>exact(nl2 E he).elim
     |halt x w'=>
       cases x<;>simp only[Oper.uponIn]at Hj⊢
       case panic=>exact(by cases Hj.1)
    ·rename_i hwj;simp only[hwj]at Hj;refine⟨fun _ _=>trivial,step _ undef w ?_ ?_ (by rw[<-yn a v undef h2];exact Hj.2)⟩
     ·rw[yS oi a oj.dst undef h3];exact hw
     ·intro w;rw[yK oi (fun cs b=>hsel i oi cs b hi) a oj.dst undef h3];exact hp w
theorem pI{E:Act->World->Prop}{fuel:Nat}{w:World}(hsel:Region.noSelect ops=true):∀(ps:List Nat) (listed:Array Bool) (a:Act),pO ops ps listed=true ->
  Pure P ops ps (fun a'=>wpAnyIn Fence.wide n P .any ops (Qn E) fuel (after ps listed) a' w) a->wpAnyIn Fence.wide n P .any ops (Qn E) (fuel+ps.length) listed a w
 |[],_,_,_,h=>h
 |p::ps,listed,a,hB,h=>by simp only[pO,qb]at hB;obtain⟨⟨hr,hf⟩,hB'⟩:=hB;obtain⟨o,v,ho,hw,hp,hK⟩:=h;have:=pI hsel ps (listed.setIfInBounds p true) (a.put o.dst v) hB' hK;exact wAI6 ho (yT hsel) (fuel+ps.length) listed a w (yy ho hf) (by simpa using hr) hw hp this
theorem pI2{E:Act->World->Prop}{l:List Oper}(ps:List Nat)(f:Nat){listed:Array Bool}{a:Act}{w:World}(hB:(Region.noSelect l.toArray&&pO l.toArray ps listed)=true)(h:Pure P l.toArray ps (fun a'=>wpAnyIn Fence.wide n P .any l.toArray (Qn E) f (after ps listed) a' w) a):wpAnyIn Fence.wide n P .any l.toArray (Qn E) (f+ps.length) listed a w:=by simp only[qb]at hB;exact pI hB.1 ps listed a hB.2 h
theorem oI{E:Act->World->Prop}{f i:Nat}{oi:Oper}{listed:Array Bool}{a:Act}{w:World}(v:Value)(hi:ops[i]?=some oi)(hw:Region.wanted oi (yielded ops a.tmps)=true)(hv:(execOp a.eval oi).run P w = .ok (.value v) w)(h:wpAnyIn Fence.wide n P .any ops (Qn E) f (listed.setIfInBounds i true) (a.put oi.dst v) w):wpOpIn Fence.wide n P ops (Qn E) i (wpAnyIn Fence.wide n P .any ops (Qn E) f (listed.setIfInBounds i true)) a w:=by unfold wpOpIn;rw[hi];simp only[hw,jH];refine⟨fun _ _=>trivial,?_⟩;rw[sAw,hv];exact h
theorem tI2{E:Act->World->Prop}{f:Nat}(i j:Nat){oi oj:Oper}{listed:Array Bool}{a:Act}{w:World}(vi vj:Value)(hr:Region.ready .any ops listed=[i,j])(hi:ops[i]?=some oi)(hj:ops[j]?=some oj)(hwi:Region.wanted oi (yielded ops a.tmps)=true)(hwj:Region.wanted oj (yielded ops a.tmps)=true)
  (hvi:(execOp a.eval oi).run P w = .ok (.value vi) w) (hvj:(execOp a.eval oj).run P w = .ok (.value vj) w) (h1:wpAnyIn Fence.wide n P .any ops (Qn E) f (listed.setIfInBounds i true) (a.put oi.dst vi) w) (h2:wpAnyIn Fence.wide n P .any ops (Qn E) f (listed.setIfInBounds j true) (a.put oj.dst vj) w):wpAnyIn Fence.wide n P .any ops (Qn E) (f+1) listed a w:=by
 refine⟨fun h=>(by rw[hr]at h;cases h),fun k hk=>?_⟩;rw[hr]at hk;simp only[qm,zG,jr]at hk;rcases hk with rfl|rfl
 ·exact oI vi hi hwi hvi h1
 ·exact oI vj hj hwj hvj h2
theorem sI{E:Act->World->Prop}{f:Nat}(i:Nat){oi:Oper}{listed:Array Bool}{a:Act}{w:World}(v:Value)(hr:Region.ready .any ops listed=[i])(hi:ops[i]?=some oi)(hw:Region.wanted oi (yielded ops a.tmps)=true)(hv:(execOp a.eval oi).run P w = .ok (.value v) w)(h:wpAnyIn Fence.wide n P .any ops (Qn E) f (listed.setIfInBounds i true) (a.put oi.dst v) w):wpAnyIn Fence.wide n P .any ops (Qn E) (f+1) listed a w:=by refine⟨fun h=>(by rw[hr]at h;cases h),fun k hk=>?_⟩;rw[hr]at hk;rw[zJ.1 hk];exact oI v hi hw hv h
theorem wAI5{Q:Exit->Act->World->Prop}:∀(ks:List Nat) (l:List Oper) (listed:Array Bool) (a:Act) (w:World),ks.map (fun k=>ops[k]?)=l.map some->seqL ops ks listed=true->wpListIn Fence.wide n P ops Q l a w->wpAnyIn Fence.wide n P .any ops Q ks.length listed a w
 |[],l,_,_,_,hl,hB,h=>by
   have:l=[]:=by cases l with
    |nil=>rfl
    |cons=>cases hl
   subst this;exact⟨by simpa[seqL]using hB,h⟩
 |k::ks,[],_,_,_,hl,_,_=>by cases hl
 |k::ks,o::l,listed,a,w,hl,hB,h=>by
   simp only[jN,qAf]at hl;simp only[seqL,qb,qn]at hB;refine⟨fun h1=>(by rw[hB.1]at h1;cases h1),fun i hi=>?_⟩;rw[hB.1]at hi;have Aa:i=k:=by simpa using hi
   subst Aa;have hw:wpOpIn Fence.wide n P ops Q i (wpListIn Fence.wide n P ops Q l) a w:=by unfold wpOpIn;simp only[hl.1];exact h
   exact wpOpIn_mono (fun a' w' h'=>wAI5 ks l _ a' w' hl.2 hB.2 h') hw
theorem sI2{E:Act->World->Prop}{l:List Oper}(ks:List Nat){listed:Array Bool}{a:Act}{w:World}(hB:seqL l.toArray ks listed=true)(hk:(ks.all fun k=>decide (k<l.length))=true)(h:wpListIn Fence.wide n P l.toArray (Qn E) (pick l ks) a w):wpAnyIn Fence.wide n P .any l.toArray (Qn E) ks.length listed a w:=
 wAI5 ks (pick l ks) listed a w (pm3 l ks (fun k hk'=>by simpa using qx.1 hk k hk')) hB h
theorem wrI{id:Nat}{Q:Exit->Act->World->Prop}{a:Act}{w:World}{l:List Oper}(ps:List Nat)(f:Nat)(hm:P.follows .mixedOrders=true)(hB:(Region.noSelect l.toArray&&pO l.toArray ps (Array.replicate l.length false)&&(f+ps.length==l.length))=true)
  (h:Pure P l.toArray ps (fun a'=>∀w',Below w.heap.size w w'->w'.heap=w.heap->wpAnyIn Fence.wide n P .any l.toArray (Qn (Q .normal)) f (after ps (Array.replicate l.length false)) a' w') a):(Code.region id l.toArray true).wpIn Fence.wide n P Q a w:=by
 simp only[qb,xM]at hB;obtain⟨⟨Aa,Ac⟩,Ab⟩:=hB;refine wpIn_region_any hm (wAI3 _ _ _ _ ?_);have H:=pI (P:=P) (n:=n) (E:=Q .normal) (fuel:=f) (w:={ w with drawn:=w.drawn+1 }) Aa ps (Array.replicate l.length false) a Ac (pm (fun a' h'=>h' _ (qJ _ _).drew rfl) ps a h);rw[Ab]at H;have e:l.toArray.size=l.length:=by simp
 rw[e];exact H
end
end Go.FlowO
namespace Go.Proofs.Q9
open Go.RowKit
theorem ra40(s:ByteArray)(w:World)(hs:s.size<=maxLen) :
  Calls Tryz.prog 79 #[.string s] w fun e w'=>e = .returned (.int .u32 (Tess.csum s.data.toList:Nat))/\w=w':=by
 unfold maxLen at hs;go_enter Tryz.func79,Tryz.ntmps79;go_wp2;go_loop [3,4] (fun n i=>∃k:Nat,k<=s.size/\i = .int .i64 k/\n = .int .u32 (Tess.crcs (s.data.toList.take k):Nat)) (fun _ i=>s.size-(intOf i).toNat)
 case atStart=>exact⟨0,qN _,rfl,rfl⟩
 case round=>
  obtain⟨k,hk,rfl,rfl⟩:=hrel;have hc:=Tess.cl3 (s.data.toList.take k);by_cases hlt:k<s.size
  ·have HS:=Hd (Tess.ct2 s k hlt);have hx:=Tess.xl2 _ _ hc (by have:=s[k].toNat_lt;omega:s[k].toNat<4294967296);have hb:=s[k].toNat_lt;have e1:=u32_xor_nat _ _ hc (by omega:s[k].toNat<4294967296);go_wp2;clear e1;generalize Tess.crcs (s.data.toList.take k) ^^^ s[k].toNat=n0 at *;go_loop [3,5] (fun n i=>∃j:Nat,j<=8/\i = .int .i64 j/\n = .int .u32 (Tess.cN2 j n0:Nat)) (fun _ i=>8-(intOf i).toNat)
   case atStart=>exact⟨0,by omega,rfl,rfl⟩
   case round=>
    obtain⟨j,hj,rfl,rfl⟩:=hrel;have Aa:=Tess.cNl j n0 hx;by_cases hj8:j<8
    ·have HJ:=Hd (Tess.cNs2 j n0);go_wp2
     all_goals
      go_round
      case rel=>exact⟨j+1,by omega,by go_num,by rw[HJ.out,Tess.cs3];first|(rw[qR (by simp_all;omega)];exact zM _ (xh _ Aa))|(rw[qH (by simp_all;omega)];rfl)⟩
      case measure=>simp[intOf];omega
    ·obtain rfl:j=8:=by omega
     go_wp2;go_round
     case rel=>exact⟨k+1,by omega,by go_num,by rw[HS.out]⟩
     case measure=>simp[intOf];omega
  ·rw[qh (by simp;omega)]at *;have e1:=xo2 _ hc;go_wp2;go_ret;exact⟨rfl,rfl⟩
def cT2:Array Value:=Array.ofFn (n:=256) fun j=>.int .u32 (Tess.cN2 8 j:Nat)
def ze:Array Value:=Array.replicate 256 (.int .u32 0)
theorem ze2(w:World):(zeroValue 219).run Tryz.prog w = .ok (.agg ze) w:=by kernel_rfl
theorem si2:(Tryz.prog.info? 219).map (·.size)=some 256:=by kernel_rfl
theorem cTo:cT2.all (·.oneCell')=true:=by rw[Array.all_eq_true_iff_forall_mem];intro v hv;simp only[cT2,Array.mem_ofFn]at hv;obtain⟨i,rfl⟩:=hv;rfl
theorem zs2:ze.size=256:=by simp[ze]
theorem sa15(w:World) :
  Calls Tryz.prog 168 #[] w fun e w'=>e = .returned (.agg cT2)/\Below w.heap.size w w':=by
 go_enter Tryz.func168,Tryz.ntmps168;go_wp2_with (refine wLa2 219 rfl (.agg ze) ze2 ze rfl ?_);have Ad:Below w.heap.size w ((w.alloc (.cells ze 219)).alloc (.cells ze 219)):=((qJ _ _).alloc (qC _) _).alloc (by simp) _;have h1:=heap_alloc2_new w (.cells ze 219) (.cells ze 219);have h2:=heap_alloc2_old w (.cells ze 219) (.cells ze 219)
 generalize (w.alloc (.cells ze 219)).alloc (.cells ze 219)=w0 at *
 go_loopw [4] (fun i wr=>∃(k:Nat) (cs:Array Value),k<=256/\i = .int .i64 k/\cs.size=256/\(∀j:Nat,j<k->cs[j]?=some (.int .u32 (Tess.cN2 8 j:Nat))) /\
  wr.heap[w.heap.size+1]?=some (.cells cs 219 (0,0))/\wr.heap[w.heap.size]?=some (.cells ze 219 (0,0))/\Below w.heap.size w wr) (fun i _=>256-(intOf i).toNat)
 case atStart=>exact⟨0,ze,by omega,rfl,by simp[ze],fun j hj=>by omega,h1,h2,Ad⟩
 case round=>
  obtain⟨k,cs,hk,rfl,Ab,Ae,Ag,Ah,hB⟩:=hrel;clear h1 h2 Ad;have HC:=Hd Ae;have HB:=Hd hB;have H1:=Hd Ag;have H0:=Hd Ah;have HZ:=Hd Ab;clear Ae hB Ag Ah;by_cases hlt:k<256
  ·obtain⟨c0,Af⟩:∃c0,wr.cell? ⟨w.heap.size+1,k,none⟩=some c0:=⟨cs[k]'(by omega),by rw[qT _ _ _ _ _ _ H1.out];simp⟩
   have Aj:wr.frozen? ⟨w.heap.size+1,k,none⟩=false:=zY _ _ _ _ _ H1.out;clear Ab;go_wp2;have Aa:k<4294967296:=by omega
   go_loop [3,9] (fun n i=>∃j:Nat,j<=8/\i = .int .i64 j/\n = .int .u32 (Tess.cN2 j k:Nat)) (fun _ i=>8-(intOf i).toNat)
   case atStart=>exact⟨0,by omega,rfl,rfl⟩
   case round=>
    obtain⟨j,hj,rfl,rfl⟩:=hrel;have Ai:=Tess.cNl j k Aa;by_cases hj8:j<8
    ·have HJ:=Hd (Tess.cNs2 j k);go_wp2;go_round
     case rel=>exact⟨j+1,by omega,by go_num,by rw[st5 _ Ai,HJ.out,Tess.cs3];split<;>rfl⟩
     case measure=>simp[intOf];omega
    ·obtain rfl:j=8:=by omega
     go_wp2;go_roundw
     case rel=>
      exact⟨k+1,cs.setIfInBounds k (.int .u32 (Tess.cN2 8 k:Nat)),by omega,by go_num,by simp[HZ.out],fun i hi=>by
        by_cases e:i=k
        ·subst e;simp[HZ.out,hlt]
        ·rw[Array.getElem?_setIfInBounds_ne (by omega)];exact HC.out i (by omega),qO _ _ _ _ _ _ H1.out,(qW _ _ _ _ (by simp)).trans H0.out,HB.out.setCell (by simp) _⟩
     case measure=>simp[intOf];omega
  ·obtain rfl:k=256:=by omega
   have Ac:cs=cT2:=by
    apply Array.ext
    ·simp[Ab,cT2]
    ·intro i h1 h2;have:=HC.out i (by omega);rw[yB h1]at this;simp[cT2];simpa using this
   subst Ac;go_wp2_with (first|(refine wpList_load_row rfl 219 _ rfl (w.heap.size+1) rfl _ _ _ _ H1.out Tryz.underlying219 rfl (by rw[si2,HZ.out]) ?_)|(refine wpList_store_row rfl 219 _ _ rfl w.heap.size _ rfl rfl _ _ H0.out (by rw[si2,HZ.out]) (by rw[zs2,HZ.out]) cTo ?_))
   refine jW (results_cell_row (by rfl) _ _ w.heap.size _ cT2 _ _ rfl (setRow_heap _ _ _ _ _ _ H0.out) Tryz.underlying219 rfl (by rw[si2,HZ.out])) rfl ⟨rfl,?_⟩;exact BsR HB.out (qC _) _
theorem cTg(j:Nat)(h:j<256):cT2[j]?=some (.int .u32 (Tess.cN2 8 j:Nat)):=by simp[cT2,h]
theorem cTs2:cT2.size=256:=by simp[cT2]
theorem sa16(s:ByteArray)(w:World)(hs:s.size<=maxLen) :
  Calls Tryz.prog 126 #[.string s] w fun e w'=>e = .returned (.int .u32 (Tess.csum s.data.toList:Nat))/\Below w.heap.size w w':=by
 unfold maxLen at hs;go_enter Tryz.func126,Tryz.ntmps126
 go_wp2_with (first
  |(go_at_call 168;refine(sa15 _).mono ?_;rintro e w1 ⟨rfl,Ab⟩)
  |(refine wLa2 219 rfl (.agg ze) ze2 ze rfl ?_)
  |(refine wpList_store_row rfl 219 _ _ rfl _ _ rfl rfl _ _ (jY _ _) (by rw[si2,cTs2]) (by rw[zs2,cTs2]) cTo ?_))
 have hB:Below w.heap.size w ((w1.alloc (.cells ze 219)).setRow w1.heap.size cT2):=BsR (Ab.alloc Ab.size _) Ab.size _;have Aa:=setRow_heap (w1.alloc (.cells ze 219)) w1.heap.size ze cT2 _ _ (jY _ _);generalize (w1.alloc (.cells ze 219)).setRow w1.heap.size cT2=w2 at *;generalize w1.heap.size=g at *;clear Ab w1
 go_loop [3,9] (fun n i=>∃k:Nat,k<=s.size/\i = .int .i64 k/\n = .int .u32 (Tess.crcs (s.data.toList.take k):Nat)) (fun _ i=>s.size-(intOf i).toNat)
 case atStart=>exact⟨0,qN _,rfl,rfl⟩
 case round=>
  obtain⟨k,hk,rfl,rfl⟩:=hrel;have hc:=Tess.cl3 (s.data.toList.take k);have HR:=Hd Aa;have HB:=Hd hB;clear Aa hB;by_cases hlt:k<s.size
  ·have HS:=Hd ((Tess.ct2 s k hlt).trans (Tess.ct3 _ _).symm);generalize hcr:Tess.crcs (s.data.toList.take k)=c at *;clear hcr;have hb:=s[k].toNat_lt;have hm:c%256 ^^^ s[k].toNat<256:=Nat.xor_lt_two_pow (n:=8) (by omega) (by omega);have e1:bits .xor .u8 ((c:Int)%256) (s[k].toNat:Int)=((c%256 ^^^ s[k].toNat:Nat):Int):=u8_xor_nat (c%256) s[k].toNat (by omega) (by omega)
   have Ac:w2.cell? ⟨g,c%256 ^^^ s[k].toNat,none⟩=some (.int .u32 (Tess.cN2 8 (c%256 ^^^ s[k].toNat):Nat)):=by rw[qT _ _ _ _ _ _ HR.out,cTg _ hm]
   have ht:=Tess.cNl 8 (c%256 ^^^ s[k].toNat) (by omega);have e2:bits .xor .u32 ((c:Int)/256) ((Tess.cN2 8 (c%256 ^^^ s[k].toNat):Nat):Int)=((c/256 ^^^ Tess.cN2 8 (c%256 ^^^ s[k].toNat):Nat):Int):=u32_xor_nat (c/256) (Tess.cN2 8 (c%256 ^^^ s[k].toNat)) (by omega) ht;go_wp2;go_round
   case rel=>exact⟨k+1,by omega,by go_num,by rw[HS.out]⟩
   case measure=>simp[intOf];omega
  ·rw[qh (by simp;omega)]at *;have e1:=xo2 _ hc;go_wp2;go_ret;exact⟨rfl,HB.out⟩
theorem ra4(s:ByteArray)(w:World)(hs:s.size<=maxLen)(h4:4<=s.size) :
  Calls Tryz.prog 78 #[.string s] w fun e w'=>e = .returned (.int .u32 (Tess.num4 (s.data.toList.take 4):Nat))/\∃n,w'=w.drewN n:=by
 unfold maxLen at hs;have h0:0<s.size:=by omega
 have h1:(1:Int)<(s.size:Int):=by omega
 have h2:(2:Int)<(s.size:Int):=by omega
 have h3:(3:Int)<(s.size:Int):=by omega
 have b0:=s[0].toNat_lt;have b1:=s[1].toNat_lt;have b2:=s[2].toNat_lt;have b3:=s[3].toNat_lt;go_enter Tryz.func78,Tryz.ntmps78;go_wp2;go_quiet (fail);go_wp2;go_ret;exact⟨by rw[or4 _ _ _ _ b0 b1 b2 b3,Tess.nt3 s h4];rfl,_,rfl⟩
theorem fna(s:ByteArray)(w:World)(hs:s.size<=maxLen)(h4:4<=s.size) :
  Calls Tryz.prog 169 #[.string s] w fun e w'=>e = .returned (.int .u32 (Tess.num4 (s.data.toList.take 4):Nat))/\w=w':=by
 unfold maxLen at hs;go_enter Tryz.func169,Tryz.ntmps169;go_wp2;go_loop [3,5] (fun n i=>∃k:Nat,k<=4/\i = .int .i64 k/\n = .int .u32 (Tess.num4 (s.data.toList.take k):Nat)) (fun _ i=>4-(intOf i).toNat)
 case atStart=>exact⟨0,qN _,rfl,rfl⟩
 case round=>
  obtain⟨k,hk,rfl,rfl⟩:=hrel;by_cases hlt:k<4
  ·have hc:Tess.num4 (s.data.toList.take k)<16777216:=Tess.nl6 _ (by simp;omega);have Aa:k<s.size:=by omega
   have HS:=Hd (Tess.nt2 s k Aa);have hb:=s[k].toNat_lt;generalize Tess.num4 (s.data.toList.take k)=c at *;have e1:bits .or .u32 ((c:Int)*256) (s[k].toNat:Int)=((c*256+s[k].toNat:Nat):Int):=o22 c _ hc hb;go_wp2;go_round
   case rel=>exact⟨k+1,by omega,by go_num,by rw[HS.out];go_num⟩
   case measure=>simp[intOf];omega
  ·obtain rfl:k=4:=by omega
   go_wp2;go_ret;exact⟨rfl,rfl⟩
theorem ra18(n:Nat)(w:World)(hn:n<4294967296) :
  Calls Tryz.prog 106 #[.int .u32 n] w fun e w'=>e = .returned (.string (Tess.be4 n))/\Below w.heap.size w w':=by
 go_enter Tryz.func106,Tryz.ntmps106;go_wp2_with (with_reducible refine ac2 86 9 ?_;refine wLb2 _ _ 5 _ rfl Tryz.underlying86 Tryz.underlying5 Tryz.underlying9 w.heap.size 0 4 4 rfl [(n/16777216%256:Nat),(n/65536%256:Nat),(n/256%256:Nat),(n%256:Nat)] rfl ?c1 ?_)
 case c1=>
  intro i hi;have:i=0∨i=1∨i=2∨i=3:=by omega
  rcases this with rfl|rfl|rfl|rfl<;>simp<;>omega
 go_ret;exact⟨by simp[strOfNums,Tess.be4];exact⟨rfl,rfl,rfl,rfl⟩,(qJ _ _).alloc (qC _) _⟩
theorem cfn(w:World)(x y z u:Value)(t:TypeId):∀j v,[x,y,z,u][j]?=some v->(w.alloc (.cells #[x,y,z,u] t)).cell? ((⟨w.heap.size,0,none⟩:Addr).add j)=some v:=by
 intro j v h
 have:j=0∨j=1∨j=2∨j=3:=by
  rcases jb j 4 with h'|h'
  ·omega
  ·simp[yL (show[x,y,z,u].length<=j by simpa using h')]at h
 rcases this with rfl|rfl|rfl|rfl<;>simp_all[Addr.add]
theorem iU:(Tryz.prog.info? 5).map (fun i=>(i.zero,i.size,i.bytes))=some (some (.int .u8 0),1,1):=by kernel_rfl
def nb4(n:Nat):List Value:=(Tess.be4 n).data.toList.map u8v
theorem ne4(n:Nat)(h:n<4294967296):nb4 n=[.int .u8 ((n:Int)/16777216),.int .u8 ((n:Int)/65536%256),.int .u8 ((n:Int)/256%256),.int .u8 ((n:Int)%256)]:=by
 simp only[nb4,Tess.be4,jN,qAt,u8v,zP];have:n/16777216<256:=by omega
 simp[jf this]
theorem fm3(l:List Nat):l.flatMap nb4=(l.flatMap fun n=>(Tess.be4 n).data.toList).map u8v:=by rw[List.map_flatMap];rfl
theorem fna2(b off:Nat)(l:List Nat)(w:World)(hl:∀j,j<l.length->w.cell? ⟨b,off+j,none⟩=some (.int .u32 ((l.getD j 0:Nat):Int)))(hlen:l.length<=1000)(hne:0<l.length)(hlt:∀x∈l,x<4294967296) :
  Calls Tryz.prog 125 #[.slice (some ⟨b,off,none⟩) l.length l.length] w fun e w'=>e = .returned (.string ⟨(l.flatMap fun n=>(Tess.be4 n).data.toList).toArray⟩)/\Below w.heap.size w w':=by
 go_enter Tryz.func125,Tryz.ntmps125;go_wp2;go_loopw [3,8] (fun v i wr=>∃k:Nat,k<=l.length/\i = .int .i64 k/\wr.ownsRow w.heap.size 5 1 v (4*k) ((l.take k).flatMap nb4)/\Below w.heap.size w wr) (fun _ i _=>l.length-(intOf i).toNat)
 case atStart=>exact⟨0,qN _,rfl,by simpa using qg w w.heap.size 5 1,qJ _ _⟩
 case round=>
  obtain⟨k,hk,rfl,Aa,hB⟩:=hrel;have Ad:b<w.heap.size:=qK w ⟨b,off+0,none⟩ (hl 0 hne);by_cases hkl:k<l.length
  ·obtain⟨x,hx⟩:=Xq (l.getD k 0)
   have Ag:x<4294967296:=hlt x (by rw[hx,getD_at _ hkl];exact qP _);have Af:wr.cell? ⟨b,off+k,none⟩=some (.int .u32 (x:Int)):=by rw[hB.cell (p:=⟨b,off+k,none⟩) Ad,hx];exact hl k hkl
   have HT:=Hd (show(l.take (k+1)).flatMap nb4=(l.take k).flatMap nb4++nb4 x from by rw[qQ hkl,yt,hx,getD_at _ hkl];simp)
   obtain⟨i0,hi,Ai,Aj,Ah⟩:=zF iU;have HL:=Hd hl;clear hl hx hlt;go_wp2_with (at_builtin;refine qq _ rfl _ _ 86 rfl w.heap.size 5 i0 (.int .u8 0) 1 1 Tryz.underlying86 hi Ai Aj Ah rfl (by decide) _ _ _ rfl (Aa.alloc _) ⟨wr.heap.size,0,none⟩ 4 4 (nb4 x) rfl (by rw[ne4 x Ag];rfl) ?c1 ?c2 ?c3 ?c4 ?c5 ?_)
   case c1=>rw[ne4 x Ag];exact cfn _ _ _ _ _ _
   case c2=>exact uo2 _
   case c3=>unfold maxLen;omega
   case c4=>omega
   case c5=>have:=hB.size;simp;omega
   intro v' w1 Ab Ac _
   have Ae:Below w.heap.size w w1:=by refine(hB.alloc hB.size _).grown Ac (by have:=hB.size;simp;omega) (fun k e=>?_);exact(Aa.lt k e).1
   rw[<-HT.out]at Ab;have H1:=Hd Ab;have H2:=Hd Ae;clear Ab Ae Ac Aa hB HT;go_wp2;go_roundw
   case rel=>exact⟨k+1,by omega,by go_num,H1.out,H2.out⟩
   case measure=>simp[intOf];omega
  ·obtain rfl:k=l.length:=by omega
   rw[qh (qC _)]at Aa;rw[fm3]at Aa;have HB:=Hd hB;have HO:=Hd Aa;clear Aa hB hl;go_wp2_with (with_reducible refine ac2 86 9 ?_;refine wLb _ _ 5 _ rfl Tryz.underlying86 Tryz.underlying5 Tryz.underlying9 _ _ _ rfl _ HO.out ?_);go_ret;exact⟨rfl,HB.out⟩
theorem mn3(s:ByteArray)(w:World)(hs:s.size<=maxLen)(h:60000<s.size) :
  Calls Tryz.prog 77 #[.string s] w fun e w'=>e = .returned (.tuple #[.string ByteArray.empty,.int .i64 30])/\w=w':=by
 unfold maxLen at hs;go_enter Tryz.func77,Tryz.ntmps77;go_wp2;go_ret2;exact⟨rfl,rfl⟩
theorem my2(s:ByteArray)(w:World)(hs:s.size<=60000) :
  Calls Tryz.prog 77 #[.string s] w fun e w'=>e = .returned (.tuple #[.string (Tess.mkf s),.int .i64 0])/\Below w.heap.size w w':=by
 have hc:=Tess.cl2 s.data.toList;go_enter Tryz.func77,Tryz.ntmps77;go_wp2_with (go_at_call 126;refine(sa16 s _ (by unfold maxLen;omega)).mono ?_;rintro e w1 ⟨rfl,Aa⟩);refine(fna2 _ 0 [s.size,Tess.csum s.data.toList] _ (fun j hj=>?c1) (by simp) (by simp) (fun x hx=>?c2)).mono ?_
 case c1=>
  have:j=0∨j=1:=by simp at hj;omega
  rcases this with rfl|rfl<;>simp
 case c2=>simp at hx;rcases hx with rfl|rfl<;>omega
 rintro e w2 ⟨rfl,Ab⟩;have HB:Below w.heap.size w w2:=(Aa.alloc Aa.size _).trans (Ab.mono (by have:=Aa.size;simp;omega));clear Aa Ab;have l1:∀n,(Tess.be4 n).data.toList.length=4:=fun _=>rfl;go_wp2;go_ret2;exact⟨by simp[Tess.mkf,<-ByteArray.mk_append_mk],HB⟩
theorem rn4(s:ByteArray)(w:World)(hs:s.size<=maxLen)(h:60000<s.size) :
  Calls Tryz.prog 53 #[.string s] w fun e w'=>e = .returned (.tuple #[.string ByteArray.empty,.int .i64 30])/\w=w':=by
 unfold maxLen at hs;go_enter Tryz.func53,Tryz.ntmps53;go_wp2;go_ret2;exact⟨rfl,rfl⟩
theorem ry(s:ByteArray)(w:World)(hs:s.size<=60000) :
  Calls Tryz.prog 53 #[.string s] w fun e w'=>e = .returned (.tuple #[.string (Tess.mkf s),.int .i64 0])/\Below w.heap.size w w':=by
 have hc:=Tess.cl2 s.data.toList;go_enter Tryz.func53,Tryz.ntmps53;go_wp2_with fail;refine(ra18 s.size _ (by omega)).mono ?_;rintro e w1 ⟨rfl,Aa⟩;go_wp2_with fail;refine(ra40 s _ (by unfold maxLen;omega)).mono ?_;rintro e w' ⟨rfl,rfl⟩;go_wp2_with fail;refine(ra18 _ _ hc).mono ?_;rintro e w2 ⟨rfl,Ab⟩;have HB:Below w.heap.size w w2:=Aa.trans (Ab.mono Aa.size);clear Aa Ab
 have l1:∀n,(Tess.be4 n).size=4:=fun _=>rfl;go_wp2;go_ret2;exact⟨by simp[Tess.mkf],HB⟩
end Go.Proofs.Q9
namespace Go.Proofs.Q9
open Go.RowKit Go.Sort
def RP(s:ByteArray)(w:World)(e:Ending)(w':World):Prop:=
 e = .returned (.tuple #[.string (Tess.rd s).1,.string (Tess.rd s).2.1,.int .i64 ((Tess.rd s).2.2:Nat)])/\Below w.heap.size w w'
theorem rs8(s:ByteArray)(w:World)(hs:s.size<=maxLen)(h:s.size<8) :
  Calls Tryz.prog 128 #[.string s] w (RP s w):=by
 unfold maxLen at hs;go_enter Tryz.func128,Tryz.ntmps128;go_wp2;refine wsf 0 rfl ?_;go_wp2;go_step3;refine Exit.tg2 (Exit.fg2 ?_);go_wp2;rw[zI];go_ret3;exact⟨by simp[Tess.rd,h],qJ _ _⟩
theorem rg3(s:ByteArray)(w:World)(hs:s.size<=maxLen)(h:8<=s.size)(n:Nat)(hn:Tess.num4 (s.data.toList.take 4)=n)(h1:60000<n) :
  Calls Tryz.prog 128 #[.string s] w (RP s w):=by
 unfold maxLen at hs;have HN:=Hd hn;have Aa:n<4294967296:=by rw[<-hn];exact Tess.nl3 _ (by simp;omega)
 clear hn;go_enter Tryz.func128,Tryz.ntmps128;go_wp2;refine wsf 0 rfl ?_;go_wp2_with (go_at_call 169;refine(fna s _ (by unfold maxLen;omega) (by omega)).mono ?_;rintro e w' ⟨rfl,rfl⟩;rw[HN.out]);go_step3;refine Exit.tg2 (Exit.fg2 ?_);go_wp2;rw[zI];go_ret3;have h8:¬s.size<8:=by omega
 exact⟨by simp[Tess.rd,HN.out,h8,h1],qJ _ _⟩
theorem rm6(s:ByteArray)(w:World)(hs:s.size<=maxLen)(h:8<=s.size)(n:Nat)(hn:Tess.num4 (s.data.toList.take 4)=n)(h1:n<=60000)(h2:s.size<8+n) :
  Calls Tryz.prog 128 #[.string s] w (RP s w):=by
 unfold maxLen at hs;have HN:=Hd hn;clear hn;go_enter Tryz.func128,Tryz.ntmps128;go_wp2;refine wsf 0 rfl ?_;go_wp2_with (go_at_call 169;refine(fna s _ (by unfold maxLen;omega) (by omega)).mono ?_;rintro e w' ⟨rfl,rfl⟩;rw[HN.out]);go_step3;refine Exit.tg2 (Exit.fg2 ?_);go_wp2;rw[zI];go_ret3;have h8:¬s.size<8:=by omega
 have Aa:¬60000<n:=by omega
 exact⟨by simp[Tess.rd,HN.out,h8,Aa,h2],qJ _ _⟩
theorem rs11(s:ByteArray)(w:World)(hs:s.size<=maxLen)(h:8<=s.size)(n:Nat)(hn:Tess.num4 (s.data.toList.take 4)=n)(h1:n<=60000)(h2:8+n<=s.size) :
  Calls Tryz.prog 128 #[.string s] w (RP s w):=by
 unfold maxLen at hs;have HN:=Hd hn;clear hn;have hf:(Tess.frm s 4).size<=s.size/\4<=(Tess.frm s 4).size:=by simp[Tess.frm];omega
 have hx:(s.extract 8 (8+n)).size<=s.size:=by simp;omega
 have c1:=fun d os=>xQ (d:=d) (os:=os) (sa16 (s.extract 8 (8+n)) (grow (redrawn w d) os) (by unfold maxLen;omega));have c2:=fun d os=>Calls.rs3 (d:=d) (os:=os) (fna (Tess.frm s 4) (grow (redrawn w d) os) (by unfold maxLen;omega) (by omega));unfold Tess.frm at c2;generalize hA:Tess.csum (s.extract 8 (8+n)).data.toList=A at c1;generalize hB:Tess.num4 ((s.extract 4 s.size).data.toList.take 4)=B at c2
 have HA:=Hd hA;have Ad:=Hd hB;clear hA hB;have C1:=Hd c1;have C2:=Hd c2;clear c1 c2;go_enter Tryz.func128,Tryz.ntmps128;go_wp2;refine wsf 0 rfl ?_;go_wp2_with (go_at_call 169;refine(fna s _ (by unfold maxLen;omega) (by omega)).mono ?_;rintro e w' ⟨rfl,rfl⟩;rw[HN.out]);refine yc (by kernel_rfl) (by kernel_rfl) ?_
 repeat(go_big_quiet_step (first|exact C1.out _ _|exact C2.out _ _))
 refine qAl ?_;intro _ Af;obtain⟨⟨dq,Ac⟩,Aa⟩:=Af;subst Aa;have HB:=Hd (xm w dq Ac);generalize grow (redrawn w dq) Ac=w1 at *;clear C1 C2;go_wp2
 ·go_step3;refine Exit.tg2 (Exit.fg2 ?_);go_wp2;rw[zI];go_ret3;have h8:¬s.size<8:=by omega
  have Ab:¬60000<n:=by omega
  have Ae:¬A=B:=by
   have hx:((A:Int) !=(B:Int))=true:=by assumption
   rw[zj]at hx;omega
  refine⟨?_,HB.out⟩;unfold Tess.rd Tess.frm;rw[HN.out,HA.out,Ad.out,qH h8,qH Ab,qH (by omega),qH Ae];rfl
 ·have he:A=B:=by
   have hx:((A:Int) !=(B:Int))=false:=by assumption
   rw[zg]at hx;omega
  have HE:=Hd he;clear he;go_quiet (fail);go_wp2;rw[Exit.fr2];go_ret3;have h8:¬s.size<8:=by omega
  have Ab:¬60000<n:=by omega
  refine⟨?_,zi HB.out _⟩;unfold Tess.rd Tess.frm;rw[HN.out,HA.out,Ad.out,qH h8,qH Ab,qH (by omega),qR HE.out];rfl
theorem ra37(s:ByteArray)(w:World)(hs:s.size<=maxLen):Calls Tryz.prog 128 #[.string s] w (RP s w):=by
 by_cases h:s.size<8
 ·exact rs8 s w hs h
 ·by_cases h1:60000<Tess.num4 (s.data.toList.take 4)
  ·exact rg3 s w hs (by omega) _ rfl h1
  ·by_cases h2:s.size<8+Tess.num4 (s.data.toList.take 4)
   ·exact rm6 s w hs (by omega) _ rfl (by omega) h2
   ·exact rs11 s w hs (by omega) _ rfl (by omega) (by omega)
theorem rs6(s:ByteArray)(w:World)(hs:s.size<=1000000)(h:s.size<8) :
  Calls Tryz.prog 30 #[.string s] w (RP s w):=by
 go_enter Tryz.func30,Tryz.ntmps30;go_wp2;go_ret3;exact⟨by simp[Tess.rd,h],qJ _ _⟩
theorem rg2(s:ByteArray)(w:World)(hs:s.size<=1000000)(h:8<=s.size)(n:Nat)(hn:Tess.num4 (s.data.toList.take 4)=n)(h1:60000<n) :
  Calls Tryz.prog 30 #[.string s] w (RP s w):=by
 have HN:=Hd hn;have Aa:n<4294967296:=by rw[<-hn];exact Tess.nl3 _ (by simp;omega)
 clear hn;go_enter Tryz.func30,Tryz.ntmps30;go_wp2_with (go_at_call 78;refine(ra4 s _ (by unfold maxLen;omega) (by omega)).mono ?_;rintro e w' ⟨rfl,⟨nd,rfl⟩⟩;rw[HN.out]);go_ret3;have h8:¬s.size<8:=by omega
 exact⟨by simp[Tess.rd,HN.out,h8,h1],zi (qJ _ _) _⟩
theorem rm4(s:ByteArray)(w:World)(hs:s.size<=1000000)(h:8<=s.size)(n:Nat)(hn:Tess.num4 (s.data.toList.take 4)=n)(h1:n<=60000)(h2:s.size<8+n) :
  Calls Tryz.prog 30 #[.string s] w (RP s w):=by
 have HN:=Hd hn;clear hn;go_enter Tryz.func30,Tryz.ntmps30;go_wp2_with (go_at_call 78;refine(ra4 s _ (by unfold maxLen;omega) (by omega)).mono ?_;rintro e w' ⟨rfl,⟨nd,rfl⟩⟩;rw[HN.out]);go_ret3;have h8:¬s.size<8:=by omega
 have Aa:¬60000<n:=by omega
 exact⟨by simp[Tess.rd,HN.out,h8,Aa,h2],zi (qJ _ _) _⟩
theorem rs10(s:ByteArray)(w:World)(hs:s.size<=1000000)(h:8<=s.size)(n:Nat)(hn:Tess.num4 (s.data.toList.take 4)=n)(h1:n<=60000)(h2:8+n<=s.size) :
  Calls Tryz.prog 30 #[.string s] w (RP s w):=by
 have HN:=Hd hn;clear hn;have hf:(s.extract 4 s.size).size<=s.size/\4<=(s.extract 4 s.size).size:=by simp;omega
 have hx:(s.extract 8 (8+n)).size<=s.size:=by simp;omega
 have c1:=fun nd d os=>Calls.rs3 (d:=d) (os:=os) (ra40 (s.extract 8 (8+n)) (grow (redrawn (w.drewN nd) d) os) (by unfold maxLen;omega));have c2:=fun nd d os=>xQ (d:=d) (os:=os) ((ra4 (s.extract 4 s.size) (grow (redrawn (w.drewN nd) d) os) (by unfold maxLen;omega) (by omega)).mono fun _ _ ⟨he,m,hm⟩=>⟨he,hm▸zi (qJ _ _) m⟩);generalize hA:Tess.csum (s.extract 8 (8+n)).data.toList=A at c1
 generalize hB:Tess.num4 ((s.extract 4 s.size).data.toList.take 4)=B at c2;have HA:=Hd hA;have Ad:=Hd hB;clear hA hB;have C1:=Hd c1;have C2:=Hd c2;clear c1 c2;go_enter Tryz.func30,Tryz.ntmps30;go_wp2_with (go_at_call 78;refine(ra4 s _ (by unfold maxLen;omega) (by omega)).mono ?_;rintro e w' ⟨rfl,⟨nd,rfl⟩⟩;rw[HN.out]);refine yc (by kernel_rfl) (by kernel_rfl) ?_
 repeat(go_big_quiet_step (first|exact C1.out _ _ _|exact C2.out _ _ _))
 refine qAl ?_;intro _ Af;obtain⟨⟨dq,Ac⟩,Aa⟩:=Af;subst Aa;have HB:=Hd (Go.RowKit.Below.trans (zi (qJ w.heap.size w) nd) (xm (w.drewN nd) dq Ac));generalize grow (redrawn (w.drewN nd) dq) Ac=w1 at *;clear C1 C2;go_wp2
 ·go_ret3;have h8:¬s.size<8:=by omega
  have Ab:¬60000<n:=by omega
  have Ae:¬A=B:=by
   have hx:((A:Int) !=(B:Int))=true:=by assumption
   rw[zj]at hx;omega
  refine⟨?_,HB.out⟩;unfold Tess.rd Tess.frm;rw[HN.out,HA.out,Ad.out,qH h8,qH Ab,qH (by omega),qH Ae];rfl
 ·have he:A=B:=by
   have hx:((A:Int) !=(B:Int))=false:=by assumption
   rw[zg]at hx;omega
  have HE:=Hd he;clear he;go_quiet (fail);go_wp2;go_ret3;have h8:¬s.size<8:=by omega
  have Ab:¬60000<n:=by omega
  refine⟨?_,zi HB.out _⟩;unfold Tess.rd Tess.frm;rw[HN.out,HA.out,Ad.out,qH h8,qH Ab,qH (by omega),qR HE.out];rfl
theorem ra19(s:ByteArray)(w:World)(hs:s.size<=1000000):Calls Tryz.prog 30 #[.string s] w (RP s w):=by
 by_cases h:s.size<8
 ·exact rs6 s w hs h
 ·by_cases h1:60000<Tess.num4 (s.data.toList.take 4)
  ·exact rg2 s w hs (by omega) _ rfl h1
  ·by_cases h2:s.size<8+Tess.num4 (s.data.toList.take 4)
   ·exact rm4 s w hs (by omega) _ rfl (by omega) h2
   ·exact rs10 s w hs (by omega) _ rfl (by omega) (by omega)
def t9:ByteArray:=⟨#[49,50,51,52,53,54,55,56,57]⟩
theorem fiS:(Tryz.prog.info? 9).map (fun i=>(i.zero,i.size,i.bytes))=some (some (.string ByteArray.empty),1,16):=by kernel_rfl
def SP3(s:ByteArray)(w:World)(e:Ending)(w':World):Prop:=
 ∃v,e = .returned (.tuple #[v,.int .i64 ((Tess.sF s.size [] s).2:Nat)])/\SlOf w' v ((Tess.sF s.size [] s).1.map .string)/\Below w.heap.size w w'
def strV(l:List ByteArray):List Value:=l.map .string
theorem sVs(l:List ByteArray)(x:ByteArray):strV l++[.string x]=strV (l++[x]):=by simp[strV]
theorem sn3{s:ByteArray}(h:s.size≠0):s.toList.isEmpty=false:=by
 rw[jn];have:s.data.size≠0:=h;cases hs:s.data.toList with
 |nil=>exfalso;apply this;rw[<-ju,hs];rfl
 |cons a l=>rfl
theorem sn2{s:ByteArray}(h:s.size=0):s=⟨#[]⟩:=by apply yF;exact Array.eq_empty_of_size_eq_zero h
def sL2:Value->Nat | .string x=>x.size|_=>0
theorem ra45(s:ByteArray)(w:World)(hs:s.size<=1000000):Calls Tryz.prog 12 #[.string s] w (SP3 s w):=by
 obtain⟨i0,hi,Aq,As,An⟩:=zF fiS;go_enter Tryz.func12,Tryz.ntmps12;go_wp2
 go_loopw [0,4] (fun c v wr=>∃(Aa:ByteArray) (out:List ByteArray) (f:Nat),c = .string Aa/\8*out.length+Aa.size<=s.size/\Aa.size<=f/\Tess.sF f out Aa=Tess.sF s.size [] s /\
  wr.ownsRow w.heap.size 9 1 v out.length (strV out)/\Below w.heap.size w wr) (fun c _ _=>sL2 c)
 case atStart=>exact⟨s,[],s.size,rfl,by simp,qC _,rfl,qg _ _ _ _,qJ _ _⟩
 case round=>
  obtain⟨Aa,out,f,rfl,Av,hf,Al,Ag,hB⟩:=hrel;have Aj:=Hd Al;have HB:=Hd hB;have HO:=Hd Ag;clear Al hB Ag;by_cases h0:Aa.size=0
  ·obtain rfl:=sn2 h0;have HZ:=Hd ((Tess.sFz f out _ h0).symm.trans Aj.out);go_wp2;go_ret2;exact⟨_,by rw[<-HZ.out];rfl,by rw[<-HZ.out];exact SlOf.owned HO.out,HB.out⟩
  ·have Aw:=sn3 h0;by_cases he:(Tess.rd Aa).2.2=0
   ·obtain⟨f',At,Ak⟩:=Tess.sFs2 f out Aa h0 hf he;obtain⟨Ax,Ay⟩:=Tess.rr2 Aa he;have Ah:=Hd (Ak.symm.trans Aj.out);have Ad:=ra19 Aa wr (by omega);unfold RP at Ad;rw[he]at Ad;generalize (Tess.rd Aa).1=b at *;generalize (Tess.rd Aa).2.1=rest at *;have HR:=Hd Ad;clear Ad Ak
    go_wp2_with (first
     |(go_at_call 30;refine HR.out.mono ?_;rintro e w2 ⟨rfl,Af⟩;have Ai:=Hd (ob2 HO.out Af);have Ae:=Bt HB.out Af)
     |(at_builtin;refine qq _ rfl _ _ 22 rfl w.heap.size 9 i0 (.string ByteArray.empty) 1 16 Tryz.underlying22 hi Aq As An rfl (by decide) _ _ _ rfl (Ai.out.alloc _) ⟨w2.heap.size,0,none⟩ 1 1 [.string b] rfl rfl ?c1 ?c2 ?c3 ?c4 ?c5 ?_))
    case c1=>exact zh _ _ _
    case c2=>simp[Value.oneCell']
    case c3=>unfold maxLen;omega
    case c4=>omega
    case c5=>have:=Ae.size;simp;omega
    intro v' w3 Ab Ac _;have Am:Below w.heap.size w w3:=(Ae.alloc Ae.size _).grown Ac (by have:=Ae.size;simp;omega) (fun j e=>(Ai.out.lt j e).1);rw[sVs]at Ab;have Ao:=Hd Ab;have Ap:=Hd Am;clear Ab Ac Am Ae Af Ai;go_wp2;go_roundw
    case rel=>exact⟨rest,out++[b],f',rfl,by simp;omega,At,Ah.out,by simpa using Ao.out,Ap.out⟩
    case measure=>simp[sL2];omega
   ·have Ah:=Hd ((Tess.sFe f out Aa h0 hf he).symm.trans Aj.out);have Ad:=ra19 Aa wr (by omega);unfold RP at Ad;have Ar:(((Tess.rd Aa).2.2:Nat):Int)≠0:=by omega
    have Au:((((Tess.rd Aa).2.2:Nat):Int) !=0)=true:=by rw[zj];exact Ar
    generalize (Tess.rd Aa).1=b at *;generalize (Tess.rd Aa).2.1=rest at *;generalize (Tess.rd Aa).2.2=en at *;have HR:=Hd Ad;clear Ad;go_wp2_with (go_at_call 30;refine HR.out.mono ?_;rintro e w2 ⟨rfl,Af⟩;have Ae:=Bt HB.out Af);go_ret2;exact⟨_,by rw[<-Ah.out];rfl,by rw[<-Ah.out];exact SlOf.nil _,Ae⟩
