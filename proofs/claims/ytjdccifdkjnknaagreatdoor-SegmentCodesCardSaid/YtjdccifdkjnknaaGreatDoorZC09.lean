/- Joined. -/
import Derived.Test.YtjdccifdkjnknaaGreatDoorZC07
import Derived.Test.YtjdccifdkjnknaaGreatDoorZC05
set_option maxRecDepth 100000
set_option maxHeartbeats 1000000
namespace Go.Proofs
open Go.Shelf Go.RowKit Go.Lib Go.Sort
theorem Tryz.slices_Sort_string(blk off cap:Nat)(ss:List (List UInt8))(w:World)(hH:Holds encStr w blk off ss.toArray)(hblk:blk<w.heap.size)(hsz:ss.length<4611686018427387904) :
  Calls Tryz.prog 158 #[.slice (some ⟨blk,off,none⟩) ss.length cap] w fun e w'=>
   e = .returned (.tuple #[])/\∃n os,w'=grow (putRow encStr (Sort.ahead w n) blk off (ss.mergeSort fun x y=>decide (x<=y)).toArray) os:=Any.slices_Sort_string Tryz.la11 blk off cap ss w hH hblk hsz
end Go.Proofs
namespace Go.Proofs.Q9
open Go.RowKit Go.Sort Go.Shelf
attribute [local go_sem] jK
theorem fa9(p:Option Addr)(w:World) :
  Calls Tryz.prog 80 #[.pointer p] w fun e w'=>e = .returned (.func (.func 127) #[] #[.pointer (some ⟨w.heap.size,0,none⟩)])/\w.alloc (.cells #[.pointer p] 121)=w':=by
 go_enter Tryz.func80,Tryz.ntmps80;go_wp2;go_ret;exact⟨rfl,rfl⟩
theorem fco{W:World}{B:Nat}{v:Value}{t:TypeId}(h:W.heap[B]?=some (.cells #[v] t (0,0))):W.cell? ⟨B,0,none⟩=some v/\W.frozen? ⟨B,0,none⟩=false:=by constructor<;>simp[World.cell?,World.frozen?,h]
theorem fhs{W:World}{B:Nat}{v:Value}{t:TypeId}(v':Value)(h:W.heap[B]?=some (.cells #[v] t (0,0))):(W.setCell ⟨B,0,none⟩ v').heap[B]?=some (.cells #[v'] t (0,0)):=by obtain⟨Aa,hk⟩:=qA.1 h;show(W.heap.modify B _)[B]?=_;rw[yB (by rw[Array.size_modify];exact Aa),Array.getElem_modify_self,hk];rfl
theorem fgB(W:World)(l:Nat)(o:Obj):W.grownBy (W.putObj l o) (some l):=
 ⟨rfl,rfl,rfl,by simp,fun k _ hk=>xH (fun e=>hk (by rw[e]))⟩
theorem oRn{W:World}{base:Nat}{e:TypeId}{size:Nat}{v:Value}{k:Nat}{xs:List Value}(h:W.ownsRow base e size v k xs){j:Nat}{o:Obj}(hj:W.heap[j]?=some o)(hno:∀cur,o ≠ .cells cur e (0,0)) :
  v.ownBlock=none∨v.ownBlock≠some j:=by
 rcases h.2 with⟨rfl,_⟩|⟨g,Ab,cur,rfl,_,Aa,_⟩
 ·exact .inl rfl
 ·refine .inr fun e'=>?_;have:g=j:=by simpa[Value.ownBlock]using e'
  subst this;rw[Aa]at hj;cases hj;exact hno cur rfl
theorem fhn{W:World}{B k:Nat}{u:Value}(h:k≠B):(W.setCell ⟨B,0,none⟩ u).heap[k]?=W.heap[k]?:=yE _ _ _ _ h
structure Sp(w:World)(rec:Loop)(cur:ByteArray)(out:List ByteArray)(v:Value)(e:Int)(wr:World):Prop where
 k0:wr.heap[w.heap.size]?=some (.cells #[v] 22 (0,0))
 k1:wr.heap[w.heap.size+1]?=some (.cells #[.int .i64 e] 29 (0,0))
 k2:wr.heap[w.heap.size+2]?=some (.cells #[.string cur] 125 (0,0))
 k3:wr.heap[w.heap.size+3]?=some (.cells #[.pointer (some ⟨w.heap.size+2,0,none⟩)] 121 (0,0))
 kD:wr.heap[w.heap.size+4]?=some (.deferred (some []))
 kL:wr.heap[w.heap.size+5]?=some (.loop rec)
 own:wr.ownsRow (w.heap.size+6) 9 1 v out.length (strV out)
 below:Below w.heap.size w wr
 size:w.heap.size+6<=wr.heap.size
section
variable {w W W':World} {rec rec':Loop} {cur cur':ByteArray} {out out':List ByteArray} {v v':Value} {e e':Int}
theorem Sp.under(h:Sp w rec cur out v e W)(hb:Below W.heap.size W W'):Sp w rec cur out v e W':=by
 have hs:=h.size
 exact⟨(hb.block _ (by omega)).trans h.k0,(hb.block _ (by omega)).trans h.k1,(hb.block _ (by omega)).trans h.k2,(hb.block _ (by omega)).trans h.k3,(hb.block _ (by omega)).trans h.kD,(hb.block _ (by omega)).trans h.kL,
  ob2 h.own hb,Bt h.below hb,qt hs hb.size⟩
theorem Sp.set2(h:Sp w rec cur out v e W)(cur':ByteArray):Sp w rec cur' out v e (W.setCell ⟨w.heap.size+2,0,none⟩ (.string cur')):=
 ⟨(fhn (by omega)).trans h.k0,(fhn (by omega)).trans h.k1,fhs _ h.k2,(fhn (by omega)).trans h.k3,(fhn (by omega)).trans h.kD,(fhn (by omega)).trans h.kL,
   jt h.own (by show _+2<_;omega) _,h.below.setCell (by show _<=_+2;omega) _,by simpa[World.setCell]using h.size⟩
theorem Sp.set1(h:Sp w rec cur out v e W)(e':Int):Sp w rec cur out v e' (W.setCell ⟨w.heap.size+1,0,none⟩ (.int .i64 e')):=
 ⟨(fhn (by omega)).trans h.k0,fhs _ h.k1,(fhn (by omega)).trans h.k2,(fhn (by omega)).trans h.k3,(fhn (by omega)).trans h.kD,(fhn (by omega)).trans h.kL,
   jt h.own (by show _+1<_;omega) _,h.below.setCell (by show _<=_+1;omega) _,by simpa[World.setCell]using h.size⟩
theorem Sp.but(h:Sp w rec cur out v e W)(hs:Rf.SB (w.heap.size+4+1) W W')(hl:W'.heap[w.heap.size+4+1]?=some (.loop rec')):Sp w rec' cur out v e W':=
 ⟨(hs.block _ (by omega)).trans h.k0,(hs.block _ (by omega)).trans h.k1,(hs.block _ (by omega)).trans h.k2,(hs.block _ (by omega)).trans h.k3,(hs.block _ (by omega)).trans h.kD,hl,
   hs.owns h.own h.kL rfl,h.below.trans (hs.below (by omega)),by rw[hs.size];exact h.size⟩
theorem Sp.grown(h:Sp w rec cur out v e W){o:Obj}(hg:(W.alloc o).grownBy W' v.ownBlock){k:Nat}(hk:k<w.heap.size+6):W'.heap[k]?=W.heap[k]?:=by have hs:=h.size;exact(hg.block k (by simp;omega) (fun e=>by have:=(h.own.lt k e.symm).1;omega)).trans (zu _ _ _ (by omega))
theorem Sp.append(h:Sp w rec cur out v e W){o:Obj}(hg:(W.alloc o).grownBy W' v.ownBlock)(hown:W'.ownsRow (w.heap.size+6) 9 1 v' out'.length (strV out')):Sp w rec cur out' v' e (W'.setCell ⟨w.heap.size,0,none⟩ v'):=by
 have hs:=h.size;have hb:Below w.heap.size w W':=(h.below.alloc h.below.size _).grown hg (by simp;omega) (fun k e=>by have:=(h.own.lt k e).1;omega)
 exact⟨fhs _ ((h.grown hg (by omega)).trans h.k0),(fhn (by omega)).trans ((h.grown hg (by omega)).trans h.k1),(fhn (by omega)).trans ((h.grown hg (by omega)).trans h.k2),(fhn (by omega)).trans ((h.grown hg (by omega)).trans h.k3),
  (fhn (by omega)).trans ((h.grown hg (by omega)).trans h.kD),(fhn (by omega)).trans ((h.grown hg (by omega)).trans h.kL),
  jt hown (by show w.heap.size<w.heap.size+6;omega) _,hb.setCell (qC _) _,by have:=hg.size;simp[World.setCell]at *;omega⟩
end
def cL2(k:Nat)(wr:World):Nat:=match wr.cell? ⟨k,0,none⟩with|some (.string c)=>c.size|_=>0
def SPO(s:ByteArray)(w:World)(e:Ending)(w':World):Prop:=
 ∃v,e = .returned (.tuple #[v,.int .i64 ((Tess.sF s.size [] s).2:Nat)])/\w'.ownsRow 0 9 1 v (Tess.sF s.size [] s).1.length ((Tess.sF s.size [] s).1.map .string)/\Below w.heap.size w w'
theorem so7(s:ByteArray)(w:World)(hs:s.size<=1000000):Calls Tryz.prog 32 #[.string s] w (SPO s w):=by
 obtain⟨i0,hi,A3,Be,Ba⟩:=zF fiS;refine(qZ (n:=5)).1 ?_;refine jL Tryz.func32 rfl trivial ?_ rfl;simp only[Tryz.ntmps32,qu,qU,zE,Nat.reduceAdd,Nat.reduceSub,qv,qw,zO,zC,qr,qk];gi_wp2;refine Rf.wIs ?_;gi_wp2;refine qAm ?_;gi_wp2_with (refine⟨trivial,?_⟩;gi_at_call 80;refine(qZ.2 (fa9 _ _)).mono ?_;rintro e w' ⟨rfl,rfl⟩)
 obtain⟨w0,Af⟩:=XQ ((((w.alloc (.cells #[.slice none 0 0] 22)).alloc (.cells #[.int .i64 0] 29)).alloc (.cells #[.string s] 125)).alloc (.cells #[.pointer (some ⟨w.heap.size+1+1,0,none⟩)] 121))
 have hA:w0.heap.size=w.heap.size+4:=by rw[<-Af];simp
 have A1:Below w.heap.size w w0:=by rw[<-Af];exact((((qJ _ _).alloc (qC _) _).alloc (by simp) _).alloc (by simp<;>omega) _).alloc (by simp<;>omega) _
 have h0:w0.heap[w.heap.size]?=some (.cells #[.slice none 0 0] 22 (0,0)):=by rw[<-Af];exact(zu _ _ _ (by simp<;>omega)).trans ((zu _ _ _ (by simp<;>omega)).trans ((zu _ _ _ (by simp)).trans (zS w _)))
 have h1:w0.heap[w.heap.size+1]?=some (.cells #[.int .i64 0] 29 (0,0)):=by rw[<-Af];refine(zu _ _ _ (by simp<;>omega)).trans ((zu _ _ _ (by simp)).trans ?_);have:=zS (w.alloc (.cells #[.slice none 0 0] 22)) (.cells #[.int .i64 0] 29);rwa [yH]at this
 have h2:w0.heap[w.heap.size+2]?=some (.cells #[.string s] 125 (0,0)):=by rw[<-Af];refine(zu _ _ _ (by simp)).trans ?_;have:=zS ((w.alloc (.cells #[.slice none 0 0] 22)).alloc (.cells #[.int .i64 0] 29)) (.cells #[.string s] 125);rwa [yH,yH]at this
 have h3:w0.heap[w.heap.size+3]?=some (.cells #[.pointer (some ⟨w.heap.size+2,0,none⟩)] 121 (0,0)):=by rw[<-Af];have:=zS (((w.alloc (.cells #[.slice none 0 0] 22)).alloc (.cells #[.int .i64 0] 29)).alloc (.cells #[.string s] 125)) (.cells #[.pointer (some ⟨w.heap.size+1+1,0,none⟩)] 121);rwa [yH,yH,yH]at this
 simp only[Af,jq,Nat.reduceAdd];clear Af;refine Rf.rw3 (gf:=127) (lb:=#[.pointer (some ⟨w.heap.size+3,0,none⟩)]) rfl (yd Tryz.func127 (by kernel_rfl) rfl) ?_;intro fn W1 hL hD Ak A5;rw[hA]at hL hD A5⊢;obtain⟨Ac,Aj,hL⟩:∃Ac:Loop,Ac=_/\W1.heap[w.heap.size+4+1]?=some (.loop Ac):=⟨_,rfl,hL⟩
 have An:=Hd Aj;have Av:Ac.state = .ready/\Ac.params.size=2/\Ac.pending=none:=by rw[Aj];exact⟨rfl,rfl,rfl⟩
 clear Aj;obtain⟨Av,Az,Bf⟩:=Av;have k0:=(Ak.block _ (by omega)).trans h0;have k1:=(Ak.block _ (by omega)).trans h1;have k2:=(Ak.block _ (by omega)).trans h2;have k3:=(Ak.block _ (by omega)).trans h3;have hI:Sp w Ac s [] (.slice none 0 0) 0 W1:=⟨k0,k1,k2,k3,hD,hL,qg _ _ _ _,Bt A1 Ak,by omega⟩
 clear A1 Ak h0 h1 h2 h3 k0 k1 k2 k3 hD hL;refine yg Tryz.func127 rfl trivial ?_ rfl;simp only[Tryz.ntmps127,qu,qU,zE,Nat.reduceAdd,Nat.reduceSub,qv,qw,zO,zC,qr,qk];gi_wp2;gi_loopw [3,4,5] (fun _ _ _ wr=>∃(Aa:ByteArray) (out:List ByteArray) (f:Nat) (v:Value),Sp w Ac Aa out v 0 wr/\8*out.length+Aa.size<=s.size/\Aa.size<=f/\Tess.sF f out Aa=Tess.sF s.size [] s) (fun _ _ _ wr=>cL2 (w.heap.size+2) wr)
 case atStart=>exact⟨s,[],s.size,_,hI,by simp,qC _,rfl⟩
 case round=>
  obtain⟨Aa,out,f,v,hS,A7,hf,A0⟩:=hrel;have Aw:=Hd A0;have HS:=Hd hS;clear A0 hS;obtain⟨c3,z3⟩:=fco HS.out.k3;obtain⟨c2,z2⟩:=fco HS.out.k2;by_cases hc0:Aa.size=0
  ·obtain rfl:=sn2 hc0;have HZ:=Hd ((Tess.sFz f out _ hc0).symm.trans Aw.out);gi_wp2;go_end0;refine⟨⟨_,rfl⟩,Ac,HS.out.kL,by rw[Av];decide,?_⟩;intro W4 Ah;rw[Bf];dsimp only;obtain⟨q0,y0⟩:=fco ((Ah.block w.heap.size (by omega)).trans HS.out.k0);obtain⟨q1,y1⟩:=fco ((Ah.block (w.heap.size+1) (by omega)).trans HS.out.k1);gi_wp2
   refine⟨by simp,.inl ⟨_,_,rfl,jD ((Ah.block (w.heap.size+4) (by omega)).trans HS.out.kD),?_⟩⟩;have A4:=(Ah.block (w.heap.size+4) (by omega)).trans HS.out.kD;refine⟨_,xg rfl _ _ _,v,by rw[<-HZ.out];rfl,?_,?_⟩
   ·rw[<-HZ.out];exact ol2 ((Ah.owns HS.out.own HS.out.kL rfl).kept (fgB _ _ _) (oRn (Ah.owns HS.out.own HS.out.kL rfl) A4 (fun Aa e=>by cases e))) (qN _)
   ·exact(HS.out.below.trans (Ah.below (by omega))).grown (fgB _ _ _) (by have:=HS.out.size;rw[Ah.size];omega) (fun k e=>by cases e;omega)
  ·have Bi:=sn3 hc0;have Bc:cL2 (w.heap.size+2) wr=Aa.size:=by unfold cL2;rw[c2]
   by_cases he:(Tess.rd Aa).2.2=0
   ·obtain⟨f',A9,Al⟩:=Tess.sFs2 f out Aa hc0 hf he;obtain⟨Bk,Bj⟩:=Tess.rr2 Aa he;have Aq:=Hd (Al.symm.trans Aw.out);have Ag:=ra37 Aa wr (by unfold maxLen;omega);unfold RP at Ag;rw[he]at Ag;generalize (Tess.rd Aa).1=b at *;generalize (Tess.rd Aa).2.1=rest at *;have HR:=Hd Ag;clear Ag Al
    gi_wp2_with (refine⟨trivial,?_⟩;gi_at_call 128;refine(qZ.2 HR.out).mono ?_;rintro e w2 ⟨rfl,Ad⟩;have Ax:=Hd Ad;have Bb:=HS.out.size;have As:=(Ad.cell (p:=⟨w.heap.size+3,0,none⟩) (by show w.heap.size+3<_;omega)).trans c3;have At:=(Ad.frozen (p:=⟨w.heap.size+3,0,none⟩) (by show w.heap.size+3<_;omega)).trans z3;have Ar:=(Ad.cell (p:=⟨w.heap.size+2,0,none⟩) (by show w.heap.size+2<_;omega)).trans c2;have Au:=(Ad.frozen (p:=⟨w.heap.size+2,0,none⟩) (by show w.heap.size+2<_;omega)).trans z2;have hy:=xJ (P:=Tryz.prog) (w:=w2.setCell ⟨w.heap.size+2,0,none⟩ (.string rest)) (l:=w.heap.size+4+1) (r:=Ac) (args:=#[.string b,.int .i64 0]) ((yE _ _ _ _ (by show _≠w.heap.size+2;omega)).trans ((Ad.block (w.heap.size+5) (by omega)).trans HS.out.kL)) (by rw[Az];rfl))
    have Am:=Hd ((HS.out.under Ax.out).set2 rest);clear Ar As Au At c2 c3 z2 z3;refine Rf.rw2 (r:=Ac) ?_;have Ay:=An.out;subst Ay;dsimp only;gi_wp2_with (rw[zK _ _ _ (fun c h=>by cases h)];go_simp;try go_bits);refine⟨Am.out.kL,fun W4 hs4 hl4=>?_⟩;have Ae:=Hd (Am.out.but hs4 hl4);obtain⟨c0,z0⟩:=fco Ae.out.k0;clear hs4 hl4 hy hL
    gi_wp2_with (first
     |(gi_at_builtin;refine wpListIn_append_own _ rfl _ _ 22 rfl (w.heap.size+6) 9 i0 (.string ByteArray.empty) 1 16 Tryz.underlying22 hi A3 Be Ba rfl (by decide) _ _ _ rfl (Ae.out.own.alloc _) ⟨W4.heap.size,0,none⟩ 1 1 [.string b] rfl rfl (zh _ _ _) (by simp[Value.oneCell']) (by unfold maxLen;omega) (by omega) (by have:=Ae.out.size;simp;omega) ?_;intro v' w3 Ab Ao _;obtain⟨A6,A2⟩:=fco ((Ae.out.grown Ao (by omega)).trans Ae.out.k0);obtain⟨gg,cp,rfl,_⟩:=oc2 Ab (by omega);go_frame)
     |(rw[zK _ _ _ (fun c h=>by cases h)];go_simp;try go_bits))
    refine⟨(Ae.out.append Ao (out':=out++[b]) (by simpa[strV]using Ab)).kL,fun W5 hs5 hl5=>?_⟩;have Ai:=Hd ((Ae.out.append Ao (out':=out++[b]) (by simpa[strV]using Ab)).but hs5 hl5);clear Ao Ab hs5 hl5 A6 A2;dsimp only;gi_wp2;go_roundw
    case rel=>exact⟨rest,out++[b],f',_,Ai.out,by simp;omega,A9,Aq.out⟩
    case measure=>
     obtain⟨c5,_⟩:=fco Ai.out.k2;rw[Bc];unfold cL2;rw[c5];show rest.size<_;omega
   ·have Aq:=Hd ((Tess.sFe f out Aa hc0 hf he).symm.trans Aw.out);have Ag:=ra37 Aa wr (by unfold maxLen;omega);unfold RP at Ag;have Bd:(((Tess.rd Aa).2.2:Nat):Int)≠0:=by omega
    have Bh:((((Tess.rd Aa).2.2:Nat):Int) !=0)=true:=by rw[zj];exact Bd
    generalize (Tess.rd Aa).1=b at *;generalize (Tess.rd Aa).2.1=rest at *;generalize (Tess.rd Aa).2.2=en at *;have HR:=Hd Ag;clear Ag
    gi_wp2_with (refine⟨trivial,?_⟩;gi_at_call 128;refine(qZ.2 HR.out).mono ?_;rintro e w2 ⟨rfl,Ad⟩;have Ax:=Hd Ad;have Bb:=HS.out.size;have As:=(Ad.cell (p:=⟨w.heap.size+3,0,none⟩) (by show w.heap.size+3<_;omega)).trans c3;have At:=(Ad.frozen (p:=⟨w.heap.size+3,0,none⟩) (by show w.heap.size+3<_;omega)).trans z3;have Ar:=(Ad.cell (p:=⟨w.heap.size+2,0,none⟩) (by show w.heap.size+2<_;omega)).trans c2;have Au:=(Ad.frozen (p:=⟨w.heap.size+2,0,none⟩) (by show w.heap.size+2<_;omega)).trans z2;have hy:=xJ (P:=Tryz.prog) (w:=w2.setCell ⟨w.heap.size+2,0,none⟩ (.string rest)) (l:=w.heap.size+4+1) (r:=Ac) (args:=#[.string b,.int .i64 (en:Nat)]) ((yE _ _ _ _ (by show _≠w.heap.size+2;omega)).trans ((Ad.block (w.heap.size+5) (by omega)).trans HS.out.kL)) (by rw[Az];rfl))
    have Am:=Hd ((HS.out.under Ax.out).set2 rest);clear Ar As Au At c2 c3 z2 z3;refine Rf.rw2 (r:=Ac) ?_;have Ay:=An.out;subst Ay;dsimp only;gi_wp2_with (rw[zK _ _ _ (fun c h=>by cases h)];go_simp;try go_bits);refine⟨Am.out.kL,fun W4 hs4 hl4=>?_⟩;have Ae:=Hd (Am.out.but hs4 hl4);obtain⟨c1,z1⟩:=fco Ae.out.k1;clear hs4 hl4 hy hL;gi_wp2_with (rw[zK _ _ _ (fun c h=>by cases h)];go_simp;try go_bits)
    refine⟨(Ae.out.set1 en).kL,fun W5 hs5 hl5=>?_⟩;have Ai:=Hd ((Ae.out.set1 en).but hs5 hl5);clear hs5 hl5;dsimp only;gi_wp2;refine jW (qBj (by rfl) _ _ _) rfl ?_;refine⟨⟨_,rfl⟩,_,Ai.out.kL,by simp,?_⟩;intro W6 Ap;dsimp only;have Bg:=(Ap.block (w.heap.size+4) (by omega)).trans Ai.out.kD;obtain⟨q1,y1⟩:=fco ((Ap.block (w.heap.size+1) (by omega)).trans Ai.out.k1);gi_wp2;refine xt.2 ?_;go_quiet (fail)
    gi_wp2;refine⟨by simp,.inl ⟨_,_,rfl,jD Bg,?_⟩⟩;refine⟨_,xg rfl _ _ _,.slice none 0 0,by rw[<-Aq.out];rfl,?_,?_⟩
    ·rw[<-Aq.out];exact qg _ _ _ _
    ·have A8:Below w.heap.size w (W6.drewN nq):=(Ai.out.below.trans (Ap.below (by omega))).trans ⟨rfl,rfl,rfl,qC _,fun _ _=>rfl⟩;exact A8.grown (fgB _ (w.heap.size+4) (.deferred none)) (by have:=Ai.out.size;show _<=W6.heap.size;rw[Ap.size];omega) (fun k e=>by cases e;omega)
