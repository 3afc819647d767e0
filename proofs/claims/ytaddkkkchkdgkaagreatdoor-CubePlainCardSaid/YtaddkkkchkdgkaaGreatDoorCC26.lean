/- What two groups come to: walked. -/
import Derived.Test.YtaddkkkchkdgkaaGreatDoorCC25
namespace Go.Proofs.YtaddkkkchkdgkaaGreatDoor
open Go.RowKit Go.Sort
open Tess (CK Pay)
def nO (G H:Option Nat) (z:Value) (v:Value) (W:World):Prop:=∃ h,v = .slice (some ⟨h,0,none⟩) 1 1∧h < W.heap.size∧G≠some h∧H≠some h∧W.cell? ⟨h,0,none⟩=some z
theorem nOm {G H:Option Nat} {k:Nat} {x y:Value} (z:Value):FlowR.Spec.mono (tw G H k x y) (.inr (nO G H z)):=by
 rintro v a b ⟨h,h1,h2,h3,h4,h5⟩ hr
 exact ⟨h,h1,Nat.lt_of_lt_of_le h2 hr.2.2.2.1,h3,h4,(tw_at hr h2 h3 h4).trans h5⟩
def app1 (G H:Option Nat) (N k:Nat) (e:TypeId) (xs:List Value) (v:Value) (W:World):Prop:=W.ownsRow N e 1 v (k + 1) xs∧∀ b,v.ownBlock=some b→G≠some b→H≠some b
def app2 (G H:Option Nat) (N k:Nat) (e:TypeId) (xs:List Value) (u:Value) (v:Value) (W:World):Prop:=W.ownsRow N e 1 v (k + 1) xs∧(∀ b,v.ownBlock=some b→H≠some b→G≠some b)∧∀ b,v.ownBlock=some b→u.ownBlock≠some b
section
variable {G H:Option Nat} {k N:Nat} {x y:Value} {e:TypeId} {xs:List Value}
theorem app1_mono (hxs:xs.length=k) (hne:∀ b,G=some b→H≠some b):FlowR.Spec.mono (tw G H k x y) (.inr (app1 G H N k e (xs ++ [x]))):=by
 rintro v a b ⟨h1,h2⟩ hr
 refine ⟨tw_owns1 h1 hxs hr (fun _ _ _=>rfl) (fun c hc hH => ?_),h2⟩
 by_cases hG:G=some c
 ·exact absurd hH (hne c hG)
 ·exact absurd hH (h2 c hc hG)
theorem app2_mono (hxs:xs.length=k) (hne:∀ b,G=some b→H≠some b) (u:Value):FlowR.Spec.mono (tw G H k x y) (.inr (app2 G H N k e (xs ++ [y]) u)):=by
 rintro v a b ⟨h1,h2,h3⟩ hr
 refine ⟨tw_owns1 h1 hxs hr (fun c hc hG => ?_) (fun _ _ _=>rfl),h2,h3⟩
 by_cases hH:H=some c
 ·exact absurd hH (hne c hG)
 ·exact absurd hG (h2 c hc hH)
end
theorem ss4 {W:World} {b o:Nat} {cs:Array Value} {t:TypeId} {v:Value} (h:W.heap[b]? = some (.cells cs t (0,0))) (hv:cs[o]? = some v):W.setCell ⟨b,o,none⟩ v=W:=by
 have e:(W.setCell ⟨b,o,none⟩ v).heap=W.heap:=by
  apply Array.ext_getElem?
  intro k
  simp only [World.setCell,Array.getElem?_modify]
  by_cases hk:b=k
  ·subst hk
   rw [if_pos rfl,h]
   simp only [Option.map_some,Option.isSome_none]
   congr 2
   apply Array.ext_getElem?
   intro j
   rw [if_neg (by simp),Array.getElem?_setIfInBounds]
   split
   ·rename_i hj
    subst hj
    split
    ·exact hv.symm
    ·rename_i hn;exact absurd (Array.getElem?_eq_some_iff.1 hv).1 hn
   ·rfl
  ·rw [if_neg hk]
 cases W
 simp only [World.setCell] at e ⊢
 rw [e]
theorem ok2 {W W':World} {N:Nat} {e:TypeId} {s:Nat} {v:Value} {n:Nat} {xs:List Value} (h:W.ownsRow N e s v n xs) (hk:∀ b,v.ownBlock=some b→W'.heap[b]? = W.heap[b]?):W'.ownsRow N e s v n xs:=by
 obtain ⟨h1,h2⟩:=h
 refine ⟨h1,?_⟩
 rcases h2 with h2 | ⟨g,Ab,Aa,rfl,hb,hg,r⟩
 ·exact .inl h2
 ·exact .inr ⟨g,Ab,Aa,rfl,hb,(hk g rfl).trans hg,r⟩
theorem on3 {W:World} {N N':Nat} {e e':TypeId} {s s':Nat} {v v':Value} {n n':Nat} {xs xs':List Value} (h:W.ownsRow N e s v n xs) (h':W.ownsRow N' e' s' v' n' xs') (hne:e≠e'):∀ b,v.ownBlock=some b→v'.ownBlock≠some b:=by
 intro b hb Ab
 rcases h.2 with ⟨rfl,_⟩ | ⟨g,Af,Ae,rfl,_,hg,_⟩
 ·cases hb
 ·rcases h'.2 with ⟨rfl,_⟩ | ⟨g',Ad,Ac,rfl,_,Aa,_⟩
  ·cases Ab
  ·obtain rfl:g=b:=by simpa [Value.ownBlock] using hb
   obtain rfl:g'=g:=by simpa [Value.ownBlock] using Ab
   rw [hg] at Aa
   simp only [Option.some.injEq,Obj.cells.injEq] at Aa
   exact hne Aa.2.1
theorem take_ints (l:List Int) (k:Nat) (h:k < l.length):(l.take k).flatMap intF ++ [.int .i64 l[k]]=(l.take (k + 1)).flatMap intF:=by
 rw [List.take_succ_eq_append_getElem h,List.flatMap_append];rfl
theorem take_wides (l:List Int) (k:Nat) (h:k < l.length):(l.take k).flatMap wF ++ [.int .i64 (wHi l[k]),.int .u64 (wLo l[k])]=(l.take (k + 1)).flatMap wF:=by
 rw [List.take_succ_eq_append_getElem h,List.flatMap_append];rfl
theorem fil2 (l:List Int):(l.flatMap intF).length=l.length:=by
 induction l with
 | nil=>rfl
 | cons a l ih=>rw [List.flatMap_cons,List.length_append,ih];simp [intF];omega
theorem run_min6 {P:Program} (n:Int) (w:World):(Builtin.min_ #[3,3,3,3,3,3] 3 #[.int .i64 n,.int .i64 n,.int .i64 n,.int .i64 n,.int .i64 n,.int .i64 n]).run P w = .ok (.int .i64 n) w:=by
 simp [Builtin.min_,Builtin.min2,go_sem]
structure Bo (w:World) (ca cb:Array Value) (s t n:Int) (vk vs vm vx:Value) (k:Nat) (zs zm zx:List Int) (W:World):Prop where
 k0:W.heap[w.heap.size]? = some (.cells ca 56 (0,0))
 k1:W.heap[w.heap.size + 1]? = some (.cells cb 56 (0,0))
 k2:W.heap[w.heap.size + 1 + 1]? = some (.cells #[.int .i64 0,.int .i64 0,.slice none 0 0,.int .i64 0,.slice none 0 0,.slice none 0 0,.slice none 0 0] 56 (0,0))
 k3:W.heap[w.heap.size + 1 + 1 + 1]? = some (.cells #[.int .i64 s,.int .i64 t,vk,.int .i64 n,vs,vm,vx] 56 (0,0))
 os:W.ownsRow (w.heap.size + 4) 60 2 vs k ((zs.take k).flatMap wF)
 om:W.ownsRow (w.heap.size + 4) 2 1 vm k ((zm.take k).flatMap intF)
 ox:W.ownsRow (w.heap.size + 4) 2 1 vx k ((zx.take k).flatMap intF)
 ne:∀ b,vm.ownBlock=some b→vx.ownBlock≠some b
 nil:k=0→vs = .slice none 0 0∧vm = .slice none 0 0∧vx = .slice none 0 0
 below:Below w.heap.size w W
set_option maxRecDepth 100000 in
set_option maxHeartbeats 4000000 in
theorem both_any (p q:Nat→Prop) (cs ds:List Value) (x y:Int×CK×Pay) (M:Nat) (w:World) (hx:GA2 p w cs x) (hy:GA2 q w ds y) (hxl:x.2.2.len M) (hyl:y.2.2.len M) (hM:M≤1000) (hn:I64 (x.2.2.n + y.2.2.n)) (hw:∀ j (h1:j < x.2.2.sums.length) (h2:j < y.2.2.sums.length),WOk (x.2.2.sums[j] + y.2.2.sums[j])) :
  Calls Tryz.prog 75 #[.agg cs.toArray,.agg ds.toArray] w fun e w' => ∃ cs',e = .returned (.agg cs'.toArray)∧GA2 (fun b=>p b∨w.heap.size + 4≤b) w' cs' (x.1,x.2.1,x.2.2.add y.2.2)∧Below w.heap.size w w':=by
 obtain ⟨vd,v4,v5,v6,rfl,hd,hp⟩:=hx
 obtain ⟨ud,u4,u5,u6,rfl,B3,hq⟩:=hy
 obtain ⟨s1,⟨t1,d1⟩,n1,xs,xm,xx⟩:=x
 obtain ⟨s2,⟨t2,d2⟩,n2,ys,ym,yx⟩:=y
 obtain ⟨l1,l2,l3⟩:=hxl
 obtain ⟨m1,m2,m3⟩:=hyl
 simp only at hd hp B3 hq l1 l2 l3 m1 m2 m3 hn hw ⊢
 have HD:=Hd hd
 have HP:=Hd hp
 have HQ:=Hd hq
 have HL:=Hd (And.intro l1 (And.intro l2 (And.intro l3 (And.intro m1 (And.intro m2 m3)))))
 have Da:=Hd hw
 have Ea:IntKind.i64.wrap (n1 + n2)=n1 + n2:=by rw [IntKind.wrap_i64];have:=hn.1;have:=hn.2;omega
 obtain ⟨dk,kc,rfl⟩:=hd.shape
 obtain ⟨a4,c4,rfl,_⟩:=hp.sums.sM l1
 obtain ⟨a5,c5,rfl,_⟩:=hp.mins.sM l2
 obtain ⟨a6,c6,rfl,_⟩:=hp.maxs.sM l3
 obtain ⟨ek,fc,rfl⟩:=B3.shape
 obtain ⟨b4,d4,rfl,_⟩:=hq.sums.sM m1
 obtain ⟨b5,d5,rfl,_⟩:=hq.mins.sM m2
 obtain ⟨b6,d6,rfl,_⟩:=hq.maxs.sM m3
 generalize hkl:(d1.map Tess.valOf).length=kl at *
 generalize (d2.map Tess.valOf).length=ul at *
 clear hd hp B3 hq l1 l2 l3 m1 m2 m3 hn hw
 obtain ⟨W0,Cw⟩:∃ W0,(((w.alloc (.cells #[.int .i64 s1,.int .i64 t1,.slice dk kl kc,.int .i64 n1,.slice a4 M c4,.slice a5 M c5,.slice a6 M c6] 56)).alloc (.cells #[.int .i64 s2,.int .i64 t2,.slice ek ul fc,.int .i64 n2,.slice b4 M d4,.slice b5 M d5,.slice b6 M d6] 56)).alloc (.cells #[.int .i64 0,.int .i64 0,.slice none 0 0,.int .i64 0,.slice none 0 0,.slice none 0 0,.slice none 0 0] 56)).alloc (.cells #[.int .i64 s1,.int .i64 t1,.slice dk kl kc,.int .i64 (n1 + n2),.slice none 0 0,.slice none 0 0,.slice none 0 0] 56)=W0:=⟨_,rfl⟩
 obtain ⟨h0,h1,h2,h3,hS,hB⟩:=laid4 w (.cells #[.int .i64 s1,.int .i64 t1,.slice dk kl kc,.int .i64 n1,.slice a4 M c4,.slice a5 M c5,.slice a6 M c6] 56) (.cells #[.int .i64 s2,.int .i64 t2,.slice ek ul fc,.int .i64 n2,.slice b4 M d4,.slice b5 M d5,.slice b6 M d6] 56) (.cells #[.int .i64 0,.int .i64 0,.slice none 0 0,.int .i64 0,.slice none 0 0,.slice none 0 0,.slice none 0 0] 56) (.cells #[.int .i64 s1,.int .i64 t1,.slice dk kl kc,.int .i64 (n1 + n2),.slice none 0 0,.slice none 0 0,.slice none 0 0] 56)
 rw [Cw] at h0 h1 h2 h3 hS hB
 rw [show w.heap.size + 2=w.heap.size + 1 + 1 by omega] at h2
 rw [show w.heap.size + 3=w.heap.size + 1 + 1 + 1 by omega] at h3
 have Dz:RowKit.Hid (Bo w #[.int .i64 s1,.int .i64 t1,.slice dk kl kc,.int .i64 n1,.slice a4 M c4,.slice a5 M c5,.slice a6 M c6] #[.int .i64 s2,.int .i64 t2,.slice ek ul fc,.int .i64 n2,.slice b4 M d4,.slice b5 M d5,.slice b6 M d6] s1 t1 (n1 + n2) (.slice dk kl kc) (.slice none 0 0) (.slice none 0 0) (.slice none 0 0) 0 (List.zipWith (· + ·) xs ys) (List.zipWith min xm ym) (List.zipWith max xx yx) W0):=Hd ⟨h0,h1,h2,h3,World.ownsRow_nil _ _ _ _,World.ownsRow_nil _ _ _ _,World.ownsRow_nil _ _ _ _,(fun b e=>by cases e),fun _=>⟨rfl,rfl,rfl⟩,hB⟩
 obtain ⟨⟨x0,x1,x2,x3,x4,x5,x6⟩,_⟩:=can7 h0
 obtain ⟨⟨y0,y1,y2,y3,y4,y5,y6⟩,_⟩:=can7 h1
 obtain ⟨i0,hi,Dm,C7,Dr⟩:=info_parts infoWide
 obtain ⟨j0,hj,B9,Cu,Ci⟩:=info_parts infoI64
 have Ee:M≤9223372036854775807:=by omega
 have g4:=ss4 (o:=4) (v:=.slice none 0 0) h3 rfl
 have g5:=ss4 (o:=5) (v:=.slice none 0 0) h3 rfl
 have g6:=ss4 (o:=6) (v:=.slice none 0 0) h3 rfl
 obtain ⟨⟨z0,z1,z2,z3,z4,z5,z6⟩,f0,f1,f2,f3,f4,f5,f6⟩:=can7 h3
 clear h0 h1 h2 h3 hS hB
 have Bl:=@run_min6 Tryz.prog (M:Int)
 go_enter Tryz.func75,Tryz.ntmps75
 go_wp2_with (fail)
 clear Cw x0 x1 x2 x3 x4 x5 x6 y0 y1 y2 y3 y4 y5 y6 z0 z1 z2 z3 z4 z5 z6 f0 f1 f2 f3 f4 f5 f6 g4 g5 g6 Bl
 go_loopw [38] (fun i wr => ∃ (k:Nat) (vs vm vx:Value),k≤M∧i = .int .i64 k∧Bo w #[.int .i64 s1,.int .i64 t1,.slice dk kl kc,.int .i64 n1,.slice a4 M c4,.slice a5 M c5,.slice a6 M c6] #[.int .i64 s2,.int .i64 t2,.slice ek ul fc,.int .i64 n2,.slice b4 M d4,.slice b5 M d5,.slice b6 M d6] s1 t1 (n1 + n2) (.slice dk kl kc) vs vm vx k (List.zipWith (· + ·) xs ys) (List.zipWith min xm ym) (List.zipWith max xx yx) wr) (fun i _=>M - (intOf i).toNat)
 case atStart=>exact ⟨0,_,_,_,Nat.zero_le _,rfl,Dz.out⟩
 case round=>
  obtain ⟨k,vs,vm,vx,hk,rfl,Cd⟩:=hrel
  by_cases hlt:k < M
  ·have C8:(k:Int) < (M:Int):=by omega
   obtain ⟨k0,k1,k2,k3,os,om,ox,ne,nil,below⟩:=Cd
   have hl:=HL.out
   obtain ⟨B4,O4,rfl,Bp,B8,Cf⟩:=HP.out.sums.num2 (show k < xs.length by omega)
   obtain ⟨B5,O5,rfl,Bb,E5⟩:=HP.out.mins.num1 (show k < xm.length by omega)
   obtain ⟨B6,O6,rfl,Az,E6⟩:=HP.out.maxs.num1 (show k < xx.length by omega)
   obtain ⟨C4,P4,rfl,Bn,Cs,Ce⟩:=HQ.out.sums.num2 (show k < ys.length by omega)
   obtain ⟨C5,P5,rfl,Ba,F5⟩:=HQ.out.mins.num1 (show k < ym.length by omega)
   obtain ⟨C6,P6,rfl,A8,F6⟩:=HQ.out.maxs.num1 (show k < yx.length by omega)
   have A1:=Hd (fun W=>wAa xs[k] ys[k] (Da.out k (by omega) (by omega)) W)
   have Au:k < (List.zipWith (· + ·) xs ys).length:=by rw [List.length_zipWith];omega
   have Ar:k < (List.zipWith min xm ym).length:=by rw [List.length_zipWith];omega
   have As:k < (List.zipWith max xx yx).length:=by rw [List.length_zipWith];omega
   have TS:=take_wides _ k Au
   have TM:=take_ints _ k Ar
   have TX:=take_ints _ k As
   have Eh:k < xs.length:=by omega
   have D8:k < ys.length:=by omega
   have Ec:k < xm.length:=by omega
   have Ed:k < ym.length:=by omega
   have Eb:k < xx.length:=by omega
   have Ef:k < yx.length:=by omega
   rw [show (List.zipWith (· + ·) xs ys)[k]=xs[k] + ys[k] by simp] at TS
   rw [show (List.zipWith min xm ym)[k]=min xm[k] ym[k] by simp] at TM
   rw [show (List.zipWith max xx yx)[k]=max xx[k] yx[k] by simp] at TX
   have LM:((List.zipWith min xm ym).take k).length=k:=by rw [List.length_take];omega
   have LX:((List.zipWith max xx yx).take k).length=k:=by rw [List.length_take];omega
   have Dq:=Hd (show (((List.zipWith min xm ym).take k).flatMap intF).length=k by rw [fil2];exact LM)
   have Dw:=Hd (show (((List.zipWith max xx yx).take k).flatMap intF).length=k by rw [fil2];exact LX)
   have Dg:=Hd TS
   have C1:=Hd TM
   have Ds:=Hd TX
   clear TS TM TX LM LX Au Ar As
   generalize xs[k]=z1 at *
   generalize ys[k]=z2 at *
   generalize xm[k]=z3 at *
   generalize ym[k]=z4 at *
   generalize xx[k]=z5 at *
   generalize yx[k]=z6 at *
   have Dv:=(below.cell (p:=⟨B4,O4 + k * 2,none⟩) Bp).trans B8
   have Db:=(below.cell (p:=⟨B4,O4 + k * 2 + 1,none⟩) Bp).trans Cf
   have C3:=(below.cell (p:=⟨C4,P4 + k * 2,none⟩) Bn).trans Cs
   have Dk:=(below.cell (p:=⟨C4,P4 + k * 2 + 1,none⟩) Bn).trans Ce
   have Bv:=below.size
   have B1:B4 < wr.heap.size:=by omega
   have Bq:C4 < wr.heap.size:=by omega
   have Df:w.heap.size + 1 + 1 + 1 < wr.heap.size:=(Array.getElem?_eq_some_iff.1 k3).1
   have D5:w.heap.size < wr.heap.size:=by omega
   have D2:w.heap.size + 1 < wr.heap.size:=by omega
   have K0:=Hd k0
   have K1:=Hd k1
   have K2:=Hd k2
   have K3:=Hd k3
   have OS:=Hd os
   have OM:=Hd om
   have OX:=Hd ox
   have NE:=Hd ne
   have BE:=Hd below
   have C9:=Hd (And.intro E5 (And.intro E6 (And.intro F5 F6)))
   have D0:=Hd (And.intro Bb (And.intro Az (And.intro Ba A8)))
   obtain ⟨⟨x0,x1,x2,x3,x4,x5,x6⟩,_⟩:=can7 k0
   obtain ⟨⟨y0,y1,y2,y3,y4,y5,y6⟩,_⟩:=can7 k1
   obtain ⟨⟨w0,w1,w2,w3,w4,Bs,By⟩,_⟩:=can7 k3
   clear k0 k1 k2 k3 os om ox ne nil below B8 Cf Cs Ce E5 E6 F5 F6 Bp Bb Az Bn Ba A8 hl Bv
   go_wp2_with (fail)
   refine Flow.wrf 14 (Flow.sp3 [.inl ?_,.inl ?_,.inl ?_,.inl ?_,.inl ?_,.inl ?_,.inl ?_,.inl ?_,.inl ?_,.inl ?_,.inl ?_,.inl ?_,.inl ?_,.inr (nT (.int .i64 (wHi (z1 + z2))) (.int .u64 (wLo (z1 + z2))))]) (by kernel_rfl) (by kernel_rfl) ?_ ?_
   rotate_left 13
   ·refine Flow.sm2 ?_
    repeat (first | exact Flow.ln2 | refine Flow.li2 ?_ | refine Flow.li3 (nTm _ _) ?_)
   all_goals try simp only [List.take_succ_cons,List.take_zero,List.drop_succ_cons,List.drop_zero]
   iterate 12 (refine Flow.tvK rfl (fun K hK=>⟨fun w hw hG => ?_,?_⟩);(have Eg:=Flow.bc4 hw;clear hG hw;unfold Flow.Runs Flow.yields;go_simp;try rfl);go_simp;refine hK _ ?_;clear hK K)
   (refine Flow.tvK rfl (fun K hK=>⟨fun w hw hG => ?_,?_⟩);(clear hG hw;unfold Flow.Runs Flow.yields;go_simp;refine (A1.out _).mono ?_;rintro e w5 ⟨rfl,Cr⟩;first | exact ⟨_,rfl,Cr,rfl⟩ | (refine ⟨?_,Cr⟩;rfl));go_simp;refine hK _ ?_;clear hK K)
   (refine Flow.tvK2 rfl (fun K hK=>⟨fun w hw hG => ?_,?_⟩);(clear hG hw;unfold Flow.Runs Flow.yields;go_simp;exact ⟨(la2 _ _).2.2,nTm2 _ _ _ _⟩);intro vy;go_simp;refine hK _ _ ?_;clear hK K)
   refine Flow.tn2 fun w5 hw5 hG => ?_
   obtain ⟨gn,rfl,Dn,Cl,Ct⟩:=(show nT (.int .i64 (wHi (z1 + z2))) (.int .u64 (wLo (z1 + z2))) vy w5 by simpa [Flow.upd] using hG 13)
   clear hG x0 x1 x2 x3 x4 x5 x6 y0 y1 y2 y3 y4 y5 y6 w0 w1 w2 w3 w4 Bs By Dv Db C3 Dk
   have Af:=Hd (ob2 OS.out hw5)
   have HY:=Hd (And.intro Cl Ct)
   have An:=Hd hw5
   have Cc:=Hd (show w.heap.size + 4≤w5.heap.size by have:=hw5.size;omega)
   have Dd:=Hd (show w.heap.size + 4≤wr.heap.size by omega)
   clear hw5 Cl Ct A1 B1 Bq D5 D2 Df
   go_simp
   go_wp2_with (at_builtin;refine wpList_append_own_at _ rfl _ _ 53 rfl (w.heap.size + 4) 60 i0 (.agg #[.int .i64 0,.int .u64 0]) 2 16 Tryz.underlying53 hi Dm C7 Dr rfl (by decide) _ k _ rfl Af.out ⟨gn,0,none⟩ 1 1 [.int .i64 (wHi (z1 + z2)),.int .u64 (wLo (z1 + z2))] rfl rfl ?_ ?_ ?_ ?_ ?_ ?_)
   ·intro j u hj
    rcases j with _ | _ | j
    ·simp at hj;subst hj;simpa [Addr.add] using HY.out.1
    ·simp at hj;subst hj;simpa [Addr.add] using HY.out.2
    ·simp at hj
   ·exact wFo (z1 + z2)
   ·unfold maxLen;omega
   ·omega
   ·exact Cc.out
   intro v6 w6 Ah Aa _ _
   obtain ⟨gg,cp,rfl,_⟩:=oca Ah (by omega)
   have Dl:=Dd.out
   have Dx:=Cc.out
   have Co:∀ b,b < w.heap.size + 4→some b≠vs.ownBlock:=fun b hb e=>by have:=(Af.out.lt b e.symm).1;omega
   have Ac:∀ b,b < w.heap.size + 4→w6.heap[b]? = wr.heap[b]? := fun b hb=>(Aa.block b (by omega) (Co b hb)).trans (An.out.block b (by omega))
   have A7:=ok2 (ob2 OM.out An.out) fun b hb=>Aa.block b (((ob2 OM.out An.out).lt b hb).2) (fun e=>on3 Af.out (ob2 OM.out An.out) (by decide) b e.symm hb)
   have A9:=ok2 (ob2 OX.out An.out) fun b hb=>Aa.block b (((ob2 OX.out An.out).lt b hb).2) (fun e=>on3 Af.out (ob2 OX.out An.out) (by decide) b e.symm hb)
   have Ca:Below w.heap.size w w6:=(Bt BE.out An.out).grown Aa (by omega) (fun j e=>by have:=(Af.out.lt j e).1;omega)
   have Ap:=(Ac (w.heap.size + 1 + 1 + 1) (by omega)).trans K3.out
   obtain ⟨⟨w0,w1,w2,w3,w4,Bs,By⟩,f0,f1,f2,f3,f4,f5,f6⟩:=can7 Ap
   obtain ⟨W7,At⟩:∃ W7,w6.setCell ⟨w.heap.size + 1 + 1 + 1,4,none⟩ (.slice (some ⟨gg,0,none⟩) (k + 1) cp)=W7:=⟨_,rfl⟩
   have Aq:W7.heap[w.heap.size + 1 + 1 + 1]? = some (.cells #[.int .i64 s1,.int .i64 t1,.slice dk kl kc,.int .i64 (n1 + n2),.slice (some ⟨gg,0,none⟩) (k + 1) cp,vm,vx] 56 (0,0)):=by
    rw [← At];exact heap_setCell_same w6 (w.heap.size + 1 + 1 + 1) 4 _ _ (.slice (some ⟨gg,0,none⟩) (k + 1) cp) Ap
   have Ab:∀ b,b≠w.heap.size + 1 + 1 + 1→W7.heap[b]? = w6.heap[b]? := fun b hb=>by rw [← At];exact heap_setCell_other _ _ _ _ hb
   have Aw:=(Ab w.heap.size (by omega)).trans ((Ac _ (by omega)).trans K0.out)
   have Ax:=(Ab (w.heap.size + 1) (by omega)).trans ((Ac _ (by omega)).trans K1.out)
   have Bc:=(Ab (w.heap.size + 1 + 1) (by omega)).trans ((Ac _ (by omega)).trans K2.out)
   have Ak:W7.ownsRow (w.heap.size + 4) 60 2 (.slice (some ⟨gg,0,none⟩) (k + 1) cp) (k + 1) (((List.zipWith (· + ·) xs ys).take (k + 1)).flatMap wF):=by rw [← Dg.out,← At];exact ownsRow_setCell_below Ah (by show w.heap.size + 1 + 1 + 1 < _;omega) _
   have Am:W7.ownsRow (w.heap.size + 4) 2 1 vm k (((List.zipWith min xm ym).take k).flatMap intF):=by rw [← At];exact ownsRow_setCell_below A7 (by show w.heap.size + 1 + 1 + 1 < _;omega) _
   have Al:W7.ownsRow (w.heap.size + 4) 2 1 vx k (((List.zipWith max xx yx).take k).flatMap intF):=by rw [← At];exact ownsRow_setCell_below A9 (by show w.heap.size + 1 + 1 + 1 < _;omega) _
   have Av:Below w.heap.size w W7:=by rw [← At];exact Ca.setCell (by show _≤w.heap.size + 1 + 1 + 1;omega) _
   have Ay:w.heap.size + 4≤W7.heap.size:=by have:=(Array.getElem?_eq_some_iff.1 Aq).1;omega
   obtain ⟨_,_,_,_,_,Cg,Ck⟩:=(can7 Aw).1
   obtain ⟨_,_,_,_,_,Cm,C0⟩:=(can7 Ax).1
   obtain ⟨_,_,_,_,_,B7,Cx⟩:=(can7 Aq).1
   obtain ⟨Bb,Az,Ba,A8⟩:=D0.out
   obtain ⟨E5,E6,F5,F6⟩:=C9.out
   have gM:∀ b,vm.ownBlock=some b→w.heap.size + 4≤b∧b < W7.heap.size:=fun b hb=>Am.lt b hb
   have gX:∀ b,vx.ownBlock=some b→w.heap.size + 4≤b∧b < W7.heap.size:=fun b hb=>Al.lt b hb
   have HV:=Hd (show ∀ V,(tw vm.ownBlock vx.ownBlock k (.int .i64 (min z3 z4)) (.int .i64 (max z5 z6))).r W7 V→V.cell? ⟨w.heap.size + 1 + 1 + 1,5,none⟩=some vm∧V.cell? ⟨w.heap.size + 1 + 1 + 1,6,none⟩=some vx∧V.cell? ⟨w.heap.size,5,none⟩=some (.slice (some ⟨B5,O5,none⟩) M c5)∧V.cell? ⟨w.heap.size,6,none⟩=some (.slice (some ⟨B6,O6,none⟩) M c6)∧V.cell? ⟨w.heap.size + 1,5,none⟩=some (.slice (some ⟨C5,P5,none⟩) M d5)∧V.cell? ⟨w.heap.size + 1,6,none⟩=some (.slice (some ⟨C6,P6,none⟩) M d6)∧V.cell? ⟨B5,O5 + k,none⟩=some (.int .i64 z3)∧V.cell? ⟨B6,O6 + k,none⟩=some (.int .i64 z5)∧V.cell? ⟨C5,P5 + k,none⟩=some (.int .i64 z4)∧V.cell? ⟨C6,P6 + k,none⟩=some (.int .i64 z6) from fun V hr=>by
    have Ai:∀ b o,b < w.heap.size + 4→V.cell? ⟨b,o,none⟩=W7.cell? ⟨b,o,none⟩:=fun b o hb=>tw_at hr (by omega) (fun e=>by have:=gM b e;omega) (fun e=>by have:=gX b e;omega)
    refine ⟨(Ai _ _ (by omega)).trans B7,(Ai _ _ (by omega)).trans Cx,(Ai _ _ (by omega)).trans Cg,(Ai _ _ (by omega)).trans Ck,(Ai _ _ (by omega)).trans Cm,(Ai _ _ (by omega)).trans C0,?_,?_,?_,?_⟩
    ·exact (Ai _ _ (by omega)).trans ((Av.cell (p:=⟨B5,O5 + k,none⟩) Bb).trans E5)
    ·exact (Ai _ _ (by omega)).trans ((Av.cell (p:=⟨B6,O6 + k,none⟩) Az).trans E6)
    ·exact (Ai _ _ (by omega)).trans ((Av.cell (p:=⟨C5,P5 + k,none⟩) Ba).trans F5)
    ·exact (Ai _ _ (by omega)).trans ((Av.cell (p:=⟨C6,P6 + k,none⟩) A8).trans F6))
   have Bk:=Hd (show ∀ V,(tw vm.ownBlock vx.ownBlock k (.int .i64 (min z3 z4)) (.int .i64 (max z5 z6))).r W7 V→∀ u,nO vm.ownBlock vx.ownBlock (.int .i64 (min z3 z4)) u V→∃ v' V2,(Builtin.append_ #[54,54] 54 #[vm,u]).run Tryz.prog V = .ok v' V2∧(tw vm.ownBlock vx.ownBlock k (.int .i64 (min z3 z4)) (.int .i64 (max z5 z6))).r V V2∧app1 vm.ownBlock vx.ownBlock (w.heap.size + 4) k 2 (((List.zipWith min xm ym).take k).flatMap intF ++ [.int .i64 (min z3 z4)]) v' V2 from fun V hr u hu=>by
    obtain ⟨h,rfl,_,_,_,hc⟩:=hu
    obtain ⟨v',V2,Ae,h2,h5,⟨q1,q2,q3,q4⟩,h6⟩:=app_own (ty:=54) (z:=.int .i64 (min z3 z4)) Tryz.underlying54 hj B9 Cu Ci rfl (tw_owns Am hr) h hc rfl (by unfold maxLen;omega) (by omega) (by have:=hr.2.2.2.1;omega)
    refine ⟨v',V2,Ae,⟨q1,q2,q3,q4,fun b hb=>(h6 b hb).imp id fun ⟨e1,e2⟩ => .inl ⟨e1,e2⟩⟩,h2,fun b hb hG hH => ?_⟩
    rcases h5 with e | e
    ·rw [e] at hb;exact hG hb
    ·rw [e] at hb
     have e1:=Option.some.inj hb
     have:=gX b hH
     have:=hr.2.2.2.1
     omega)
   have B0:=Hd (show ∀ V,(tw vm.ownBlock vx.ownBlock k (.int .i64 (min z3 z4)) (.int .i64 (max z5 z6))).r W7 V→∀ u,nO vm.ownBlock vx.ownBlock (.int .i64 (max z5 z6)) u V→∀ Ao,app1 vm.ownBlock vx.ownBlock (w.heap.size + 4) k 2 (((List.zipWith min xm ym).take k).flatMap intF ++ [.int .i64 (min z3 z4)]) Ao V→∃ v' V2,(Builtin.append_ #[54,54] 54 #[vx,u]).run Tryz.prog V = .ok v' V2∧(tw vm.ownBlock vx.ownBlock k (.int .i64 (min z3 z4)) (.int .i64 (max z5 z6))).r V V2∧app2 vm.ownBlock vx.ownBlock (w.heap.size + 4) k 2 (((List.zipWith max xx yx).take k).flatMap intF ++ [.int .i64 (max z5 z6)]) Ao v' V2 from fun V hr u hu Ao Aj=>by
    obtain ⟨h,rfl,_,_,_,hc⟩:=hu
    obtain ⟨v',V2,Ae,h2,h5,⟨q1,q2,q3,q4⟩,h6⟩:=app_own (ty:=54) (z:=.int .i64 (max z5 z6)) Tryz.underlying54 hj B9 Cu Ci rfl (tw_owns Al hr) h hc rfl (by unfold maxLen;omega) (by omega) (by have:=hr.2.2.2.1;omega)
    refine ⟨v',V2,Ae,⟨q1,q2,q3,q4,fun b hb=>(h6 b hb).imp id fun ⟨e1,e2⟩ => .inr ⟨e1,e2⟩⟩,h2,fun b hb hH hG => ?_,fun b hb hv14 => ?_⟩
    ·rcases h5 with e | e
     ·rw [e] at hb;exact hH hb
     ·rw [e] at hb
      have e1:=Option.some.inj hb
      have:=gM b hG
      have:=hr.2.2.2.1
      omega
    ·rcases h5 with e | e
     ·rw [e] at hb
      by_cases hG:vm.ownBlock=some b
      ·exact NE.out b hG hb
      ·exact Aj.2 b hv14 hG hb
     ·rw [e] at hb
      have e1:=Option.some.inj hb
      have:=(Aj.1.lt b hv14).2
      omega)
   have Dj:=Hd (And.intro Aw (And.intro Ax (And.intro Bc Aq)))
   have A0:=Hd Ak
   have Dc:=Hd Av
   have D4:=Hd Ay
   have Br:=Hd gM
   have Bm:=Hd gX
   have A2:=Hd (show ∀ b,(Value.slice (some ⟨gg,0,none⟩) (k + 1) cp).ownBlock=some b→vm.ownBlock≠some b∧vx.ownBlock≠some b from fun b hb=>⟨on3 Ak Am (by decide) b hb,on3 Ak Al (by decide) b hb⟩)
   clear Ah Aa Co Ac A7 A9 Ca Ap Aq Ab Aw Ax Bc Ak Am Al Av Ay Cg Ck Cm C0 B7 Cx Bb Az Ba A8 E5 E6 F5 F6 gM gX Dl Dx Af HY Dn
   go_wp2_with (fail)
   clear At w0 w1 w2 w3 w4 Bs By f0 f1 f2 f3 f4 f5 f6
   have A4:RowKit.Hid (∀ b,vm.ownBlock=some b→vx.ownBlock≠some b):=NE
   refine FlowR.wrf3 (R:=tw vm.ownBlock vx.ownBlock k (.int .i64 (min z3 z4)) (.int .i64 (max z5 z6))) 31 (FlowR.sp3 29 (fun u => .inr (app2 vm.ownBlock vx.ownBlock (w.heap.size + 4) k 2 (((List.zipWith max xx yx).take k).flatMap intF ++ [.int .i64 (max z5 z6)]) u)) (.inl ?_ :: .inl ?_ :: .inl ?_ :: .inl ?_ :: .inl ?_ :: .inl ?_ :: .inl ?_ :: .inl ?_ :: .inl ?_ :: .inl ?_ :: .inl ?_ :: .inl ?_ :: .inl ?_ :: .inr (nO vm.ownBlock vx.ownBlock (.int .i64 (min z3 z4))) :: .inr (app1 vm.ownBlock vx.ownBlock (w.heap.size + 4) k 2 (((List.zipWith min xm ym).take k).flatMap intF ++ [.int .i64 (min z3 z4)])) :: .inl ?_ :: .inl ?_ :: .inl ?_ :: .inl ?_ :: .inl ?_ :: .inl ?_ :: .inl ?_ :: .inl ?_ :: .inl ?_ :: .inl ?_ :: .inl ?_ :: .inl ?_ :: .inl ?_ :: .inr (nO vm.ownBlock vx.ownBlock (.int .i64 (max z5 z6))) :: .inl undef :: .inl ?_ :: [])) (fun _=>71) (FlowR.specs_okU (by kernel_rfl)) (by kernel_rfl) (by kernel_rfl) ?_ ?_
   rotate_left 27
   ·refine FlowR.sm2 (fun u=>app2_mono Dw.out A4.out u) ?_
    repeat (first | exact FlowR.ln2 | refine FlowR.li2 ?_ | refine FlowR.li3 (nOm _) ?_ | refine FlowR.li3 (app1_mono Dq.out A4.out) ?_)
   all_goals try simp only [List.take_succ_cons,List.take_zero,List.drop_succ_cons,List.drop_zero]
   iterate 13 (refine FlowR.tvK rfl (fun K hK=>⟨fun V hw hG => ?_,?_⟩);(obtain ⟨t1,t2,t3,t4,t5,t6,t7,t8,t9,Cz⟩:=HV.out V hw;clear hG hw;unfold FlowR.Runs FlowR.yields;go_simp;try rfl);go_simp;refine hK _ ?_;clear hK K)
   (refine FlowR.tvK2 rfl (fun K hK=>⟨fun V hw hG => ?_,?_⟩);(have De:=hw.2.2.2.1;have Bx:vm.ownBlock≠some V.heap.size:=fun e=>(by have:=(Br.out _ e).2;omega);have Bw:vx.ownBlock≠some V.heap.size:=fun e=>(by have:=(Bm.out _ e).2;omega);clear hG hw;unfold FlowR.Runs FlowR.yields;go_simp;exact ⟨tw_alloc _,(⟨V.heap.size,rfl,by simp,Bx,Bw,cell_of_row _ _ 0 _ _ _ (heap_alloc_new V _)⟩:nO vm.ownBlock vx.ownBlock (.int .i64 (min z3 z4)) (.slice (some ⟨V.heap.size,0,none⟩) 1 1) (V.alloc _))⟩);intro Ch;go_simp;refine hK _ _ ?_;clear hK K)
   (refine FlowR.tvK2 rfl (fun K hK=>⟨fun V hw hG => ?_,?_⟩);(have Bd:=(show nO vm.ownBlock vx.ownBlock (.int .i64 (min z3 z4)) Ch V by simpa [FlowR.upd] using hG 13 (by kernel_rfl));obtain ⟨v',V2,Ae,Bz,Bu⟩:=Bk.out V hw Ch Bd;clear hG hw Bd;exact ra2 (t:=54) (.tmp 58) (.tmp 70) rfl rfl rfl rfl Ae Bz Bu);intro Ao;go_simp;refine hK _ _ ?_;clear hK K)
   iterate 13 (refine FlowR.tvK rfl (fun K hK=>⟨fun V hw hG => ?_,?_⟩);(obtain ⟨t1,t2,t3,t4,t5,t6,t7,t8,t9,Cz⟩:=HV.out V hw;clear hG hw;unfold FlowR.Runs FlowR.yields;go_simp;try rfl);go_simp;refine hK _ ?_;clear hK K)
   (refine FlowR.tvK2 rfl (fun K hK=>⟨fun V hw hG => ?_,?_⟩);(have De:=hw.2.2.2.1;have Bx:vm.ownBlock≠some V.heap.size:=fun e=>(by have:=(Br.out _ e).2;omega);have Bw:vx.ownBlock≠some V.heap.size:=fun e=>(by have:=(Bm.out _ e).2;omega);clear hG hw;unfold FlowR.Runs FlowR.yields;go_simp;exact ⟨tw_alloc _,(⟨V.heap.size,rfl,by simp,Bx,Bw,cell_of_row _ _ 0 _ _ _ (heap_alloc_new V _)⟩:nO vm.ownBlock vx.ownBlock (.int .i64 (max z5 z6)) (.slice (some ⟨V.heap.size,0,none⟩) 1 1) (V.alloc _))⟩);intro Cv;go_simp;refine hK _ _ ?_;clear hK K)
   (refine FlowR.tvK2 rfl (fun K hK=>⟨fun V hw hG => ?_,?_⟩);(have Bd:=(show nO vm.ownBlock vx.ownBlock (.int .i64 (max z5 z6)) Cv V by simpa [FlowR.upd] using hG 28 (by kernel_rfl));have Aj:=(show app1 vm.ownBlock vx.ownBlock (w.heap.size + 4) k 2 (((List.zipWith min xm ym).take k).flatMap intF ++ [.int .i64 (min z3 z4)]) Ao V by simpa [FlowR.upd] using hG 14 (by kernel_rfl));obtain ⟨v',V2,Ae,Bz,Bu⟩:=B0.out V hw Cv Bd Ao Aj;clear hG hw Bd Aj;exact ra2 (t:=54) (.tmp 73) (.tmp 85) rfl rfl rfl rfl Ae Bz Bu);intro C2;go_simp;refine hK _ _ ?_;clear hK K)
   iterate 1 (refine FlowR.tvK rfl (fun K hK=>⟨fun V hw hG => ?_,?_⟩);(obtain ⟨t1,t2,t3,t4,t5,t6,t7,t8,t9,Cz⟩:=HV.out V hw;clear hG hw;unfold FlowR.Runs FlowR.yields;go_simp;try rfl);go_simp;refine hK _ ?_;clear hK K)
   refine FlowR.tn2 fun w8 hw8 hG => ?_
   obtain ⟨Aj,Bj⟩:=(show app1 vm.ownBlock vx.ownBlock (w.heap.size + 4) k 2 (((List.zipWith min xm ym).take k).flatMap intF ++ [.int .i64 (min z3 z4)]) Ao w8 by simpa [FlowR.upd] using hG 14)
   obtain ⟨Bh,_,A5⟩:=(show app2 vm.ownBlock vx.ownBlock (w.heap.size + 4) k 2 (((List.zipWith max xx yx).take k).flatMap intF ++ [.int .i64 (max z5 z6)]) Ao C2 w8 by simpa [FlowR.upd] using hG 29)
   clear hG
   rw [C1.out] at Aj
   rw [Ds.out] at Bh
   obtain ⟨gm,cm,rfl,Ei,_⟩:=oca Aj (by omega)
   obtain ⟨gx,cx,rfl,D9,_⟩:=oca Bh (by omega)
   have gM:=Br.out
   have gX:=Bm.out
   have Dh:=D4.out
   have A6:∀ b,b < w.heap.size + 4→w8.heap[b]? = W7.heap[b]? := fun b hb=>tb2 hw8 (by omega) (fun e=>by have:=gM b e;omega) (fun e=>by have:=gX b e;omega)
   obtain ⟨Aw,Ax,Bc,Aq⟩:=Dj.out
   have Cj:=(A6 w.heap.size (by omega)).trans Aw
   have Cy:=(A6 (w.heap.size + 1) (by omega)).trans Ax
   have Cb:=(A6 (w.heap.size + 1 + 1) (by omega)).trans Bc
   have B2:=(A6 (w.heap.size + 1 + 1 + 1) (by omega)).trans Aq
   have A3:=ok2 A0.out (W':=w8) fun b hb=>tb2 hw8 (A0.out.lt b hb).2 (A2.out b hb).1 (A2.out b hb).2
   have Cp:Below w.heap.size w w8:=Dc.out.trans (tw_below hw8 (by omega) (fun b e=>by have:=gM b e;omega) (fun b e=>by have:=gX b e;omega))
   obtain ⟨⟨o0,o1,o2,o3,o4,o5,o6⟩,f0,f1,f2,f3,f4,f5,f6⟩:=can7 B2
   have Cn:=heap_setCell_same w8 (w.heap.size + 1 + 1 + 1) 5 _ _ (.slice (some ⟨gm,0,none⟩) (k + 1) cm) B2
   have Cq:=heap_setCell_same _ (w.heap.size + 1 + 1 + 1) 6 _ _ (.slice (some ⟨gx,0,none⟩) (k + 1) cx) Cn
   have Ab:∀ b,b≠w.heap.size + 1 + 1 + 1→((w8.setCell ⟨w.heap.size + 1 + 1 + 1,5,none⟩ (.slice (some ⟨gm,0,none⟩) (k + 1) cm)).setCell ⟨w.heap.size + 1 + 1 + 1,6,none⟩ (.slice (some ⟨gx,0,none⟩) (k + 1) cx)).heap[b]? = w8.heap[b]? := fun b hb=>by rw [heap_setCell_other _ _ _ _ hb,heap_setCell_other _ _ _ _ hb]
   have Ad:w.heap.size + 1 + 1 + 1 < w.heap.size + 4:=by omega
   have D3:RowKit.Hid (Bo w _ _ s1 t1 (n1 + n2) (.slice dk kl kc) (.slice (some ⟨gg,0,none⟩) (k + 1) cp) (.slice (some ⟨gm,0,none⟩) (k + 1) cm) (.slice (some ⟨gx,0,none⟩) (k + 1) cx) (k + 1) (List.zipWith (· + ·) xs ys) (List.zipWith min xm ym) (List.zipWith max xx yx) ((w8.setCell ⟨w.heap.size + 1 + 1 + 1,5,none⟩ (.slice (some ⟨gm,0,none⟩) (k + 1) cm)).setCell ⟨w.heap.size + 1 + 1 + 1,6,none⟩ (.slice (some ⟨gx,0,none⟩) (k + 1) cx))):=Hd {
    k0:=(Ab _ (by omega)).trans Cj
    k1:=(Ab _ (by omega)).trans Cy
    k2:=(Ab _ (by omega)).trans Cb
    k3:=Cq
    os:=ownsRow_setCell_below (ownsRow_setCell_below A3 Ad _) Ad _
    om:=ownsRow_setCell_below (ownsRow_setCell_below Aj Ad _) Ad _
    ox:=ownsRow_setCell_below (ownsRow_setCell_below Bh Ad _) Ad _
    ne:=fun b h1 h2=>A5 b h2 h1
    nil:=fun h=>by omega
    below:=(Cp.setCell (by show _≤w.heap.size + 1 + 1 + 1;omega) _).setCell (by show _≤w.heap.size + 1 + 1 + 1;omega) _ }
   clear Aj Bj Bh A5 gM gX Dh A6 Aw Ax Bc Aq Cj Cy Cb B2 A3 Cp Cn Cq Ab Ad hw8 o0 o1 o2 o3 o4
   go_simp
   go_wp2_with (fail)
   go_roundw
   case rel=>exact ⟨k + 1,_,_,_,by omega,by go_num,D3.out⟩
   case measure=>simp [intOf];omega
  ·have C8:¬ (k:Int) < (M:Int):=by omega
   obtain rfl:k=M:=by omega
   obtain ⟨k0,k1,k2,k3,os,om,ox,ne,nil,below⟩:=Cd
   have hl:=HL.out
   have Au:(List.zipWith (· + ·) xs ys).length=k:=by rw [List.length_zipWith];omega
   have Ar:(List.zipWith min xm ym).length=k:=by rw [List.length_zipWith];omega
   have As:(List.zipWith max xx yx).length=k:=by rw [List.length_zipWith];omega
   rw [List.take_of_length_le (by omega)] at os om ox
   have Bi:=ro2 (f:=wF) (fun _ _=>rfl) (by rw [Au];exact os) (by unfold maxLen;omega) (fun h=>(nil (by rw [← Au,h];rfl)).1)
   have Bg:=ro2 (f:=intF) (fun _ _=>rfl) (by rw [Ar];exact om) (by unfold maxLen;omega) (fun h=>(nil (by rw [← Ar,h];rfl)).2.1)
   have Be:=ro2 (f:=intF) (fun _ _=>rfl) (by rw [As];exact ox) (by unfold maxLen;omega) (fun h=>(nil (by rw [← As,h];rfl)).2.2)
   obtain ⟨q4,r4,rfl⟩:=Bi.shape
   obtain ⟨q5,r5,rfl⟩:=Bg.shape
   obtain ⟨q6,r6,rfl⟩:=Be.shape
   rw [Au] at Bi k3
   rw [Ar] at Bg k3
   rw [As] at Be k3
   have Bv:=(Array.getElem?_eq_some_iff.1 k3).1
   obtain ⟨⟨o0,o1,o2,o3,o4,o5,o6⟩,_⟩:=can7 k3
   obtain ⟨_,f0,f1,f2,f3,f4,f5,f6⟩:=can7 k2
   obtain ⟨W9,D7,e9,eo,es,eB⟩:=box7 (.int .i64 s1) (.int .i64 t1) (.slice dk kl kc) (.int .i64 (n1 + n2)) (.slice q4 k r4) (.slice q5 k r5) (.slice q6 k r6) k2 below (show w.heap.size≤w.heap.size + 1 + 1 by omega)
   obtain ⟨⟨Dt,Dy,Do,D1,Du,Di,D6⟩,_⟩:=can7 e9
   have Bf:Ag (fun b=>w.heap.size + 4≤b) wr W9:=⟨by rw [es];exact Nat.le_refl _,fun b _ hb=>eo b (by omega)⟩
   have HG:=Hd (show GA2 (fun b=>p b∨w.heap.size + 4≤b) W9 [.int .i64 s1,.int .i64 t1,.slice dk kl kc,.int .i64 (n1 + n2),.slice q4 k r4,.slice q5 k r5,.slice q6 k r6] (s1,(t1,d1),(⟨n1,xs,xm,xx⟩:Pay).add ⟨n2,ys,ym,yx⟩) from ⟨_,_,_,_,rfl,(HD.out.ag (Ag.new p eB)).weak fun b hb => .inl hb,(Bi.ag Bf).weak fun b hb => .inr hb,(Bg.ag Bf).weak fun b hb => .inr hb,(Be.ag Bf).weak fun b hb => .inr hb⟩)
   have Dp:=Hd eB
   clear k0 k1 k2 k3 os om ox ne nil below Bi Bg Be Au Ar As Bf e9 eo es eB hl Bv
   go_wp2_with (fail)
   refine bodyPost_ret (v:=.agg #[.int .i64 s1,.int .i64 t1,.slice dk kl kc,.int .i64 (n1 + n2),.slice q4 k r4,.slice q5 k r5,.slice q6 k r6]) (by simp [results,Tryz.results75,go_sem,Dt,Dy,Do,D1,Du,Di,D6]) rfl ⟨[_,_,_,_,_,_,_],rfl,HG.out,Dp.out⟩
end Go.Proofs.YtaddkkkchkdgkaaGreatDoor
