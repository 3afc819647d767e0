/- What two groups come to: walked. -/
import Derived.Test.YtaddkkkchkdgkaaGreatDoorWC26
namespace Go.Proofs.YtaddkkkchkdgkaaGreatDoor
open Go.RowKit Go.Sort
open Tess (CK Pay)
def newOne (G H:Option Nat) (z:Value) (v:Value) (W:World):Prop:=∃ h,v = .slice (some ⟨h,0,none⟩) 1 1∧h < W.heap.size∧G≠some h∧H≠some h∧W.cell? ⟨h,0,none⟩=some z
theorem newOne_mono {G H:Option Nat} {k:Nat} {x y:Value} (z:Value):FlowR.Spec.mono (tw G H k x y) (.inr (newOne G H z)):=by
 rintro v a b ⟨h,h1,h2,h3,h4,h5⟩ hr
 exact ⟨h,h1,Nat.lt_of_lt_of_le h2 hr.2.2.2.1,h3,h4,(tw_at hr h2 h3 h4).trans h5⟩
def app1 (G H:Option Nat) (N k:Nat) (e:TypeId) (xs:List Value) (v:Value) (W:World):Prop:=W.ownsRow N e 1 v (k + 1) xs∧∀ b,v.ownBlock=some b→G≠some b→H≠some b
def app2 (G H:Option Nat) (N k:Nat) (e:TypeId) (xs:List Value) (u:Value) (v:Value) (W:World):Prop:=W.ownsRow N e 1 v (k + 1) xs∧(∀ b,v.ownBlock=some b→H≠some b→G≠some b)∧∀ b,v.ownBlock=some b→u.ownBlock≠some b
section
variable {G H:Option Nat} {k N:Nat} {x y:Value} {e:TypeId} {xs:List Value}
theorem app1_mono (hxs:xs.length=k) (hne:∀ b,G=some b→H≠some b):FlowR.Spec.mono (tw G H k x y) (.inr (app1 G H N k e (xs ++ [x]))):=by
 rintro v a b ⟨h1,h2⟩ hr
 refine ⟨tw_owns1 h1 hxs hr (fun _ _ _=>rfl) (fun c hc hH => ?_),h2⟩
 by_cases hG:G=some c
 ·exact absurd hH (hne c hG)
 ·exact absurd hH (h2 c hc hG)
theorem app2_mono (hxs:xs.length=k) (hne:∀ b,G=some b→H≠some b) (u:Value):FlowR.Spec.mono (tw G H k x y) (.inr (app2 G H N k e (xs ++ [y]) u)):=by
 rintro v a b ⟨h1,h2,h3⟩ hr
 refine ⟨tw_owns1 h1 hxs hr (fun c hc hG => ?_) (fun _ _ _=>rfl),h2,h3⟩
 by_cases hH:H=some c
 ·exact absurd hH (hne c hG)
 ·exact absurd hG (h2 c hc hH)
end
theorem setc_same {W:World} {b o:Nat} {cs:Array Value} {t:TypeId} {v:Value} (h:W.heap[b]? = some (.cells cs t (0,0))) (hv:cs[o]? = some v):W.setCell ⟨b,o,none⟩ v=W:=by
 have e:(W.setCell ⟨b,o,none⟩ v).heap=W.heap:=by
  apply Array.ext_getElem?
  intro k
  simp only [World.setCell,Array.getElem?_modify]
  by_cases hk:b=k
  ·subst hk
   rw [if_pos rfl,h]
   simp only [Option.map_some,Option.isSome_none]
   congr 2
   apply Array.ext_getElem?
   intro j
   rw [if_neg (by simp),Array.getElem?_setIfInBounds]
   split
   ·rename_i hj
    subst hj
    split
    ·exact hv.symm
    ·rename_i hn;exact absurd (Array.getElem?_eq_some_iff.1 hv).1 hn
   ·rfl
  ·rw [if_neg hk]
 cases W
 simp only [World.setCell] at e ⊢
 rw [e]
theorem owns_keep {W W':World} {N:Nat} {e:TypeId} {s:Nat} {v:Value} {n:Nat} {xs:List Value} (h:W.ownsRow N e s v n xs) (hk:∀ b,v.ownBlock=some b→W'.heap[b]? = W.heap[b]?):W'.ownsRow N e s v n xs:=by
 obtain ⟨h1,h2⟩:=h
 refine ⟨h1,?_⟩
 rcases h2 with h2 | ⟨g,cap,cur,rfl,hb,hg,r⟩
 ·exact .inl h2
 ·exact .inr ⟨g,cap,cur,rfl,hb,(hk g rfl).trans hg,r⟩
theorem owns_ne {W:World} {N N':Nat} {e e':TypeId} {s s':Nat} {v v':Value} {n n':Nat} {xs xs':List Value} (h:W.ownsRow N e s v n xs) (h':W.ownsRow N' e' s' v' n' xs') (hne:e≠e'):∀ b,v.ownBlock=some b→v'.ownBlock≠some b:=by
 intro b hb hb'
 rcases h.2 with ⟨rfl,_⟩ | ⟨g,cap,cur,rfl,_,hg,_⟩
 ·cases hb
 ·rcases h'.2 with ⟨rfl,_⟩ | ⟨g',cap',cur',rfl,_,hg',_⟩
  ·cases hb'
  ·obtain rfl:g=b:=by simpa [Value.ownBlock] using hb
   obtain rfl:g'=g:=by simpa [Value.ownBlock] using hb'
   rw [hg] at hg'
   simp only [Option.some.injEq,Obj.cells.injEq] at hg'
   exact hne hg'.2.1
theorem take_ints (l:List Int) (k:Nat) (h:k < l.length):(l.take k).flatMap intF ++ [.int .i64 l[k]]=(l.take (k + 1)).flatMap intF:=by
 rw [List.take_succ_eq_append_getElem h,List.flatMap_append];rfl
theorem take_wides (l:List Int) (k:Nat) (h:k < l.length):(l.take k).flatMap wideF ++ [.int .i64 (wHi l[k]),.int .u64 (wLo l[k])]=(l.take (k + 1)).flatMap wideF:=by
 rw [List.take_succ_eq_append_getElem h,List.flatMap_append];rfl
theorem flat_ints_len (l:List Int):(l.flatMap intF).length=l.length:=by
 induction l with
 | nil=>rfl
 | cons a l ih=>rw [List.flatMap_cons,List.length_append,ih];simp [intF];omega
theorem run_min6 {P:Program} (n:Int) (w:World):(Builtin.min_ #[3,3,3,3,3,3] 3 #[.int .i64 n,.int .i64 n,.int .i64 n,.int .i64 n,.int .i64 n,.int .i64 n]).run P w = .ok (.int .i64 n) w:=by
 simp [Builtin.min_,Builtin.min2,go_sem]
structure Bo (w:World) (ca cb:Array Value) (s t n:Int) (vk vs vm vx:Value) (k:Nat) (zs zm zx:List Int) (W:World):Prop where
 k0:W.heap[w.heap.size]? = some (.cells ca 56 (0,0))
 k1:W.heap[w.heap.size + 1]? = some (.cells cb 56 (0,0))
 k2:W.heap[w.heap.size + 1 + 1]? = some (.cells #[.int .i64 0,.int .i64 0,.slice none 0 0,.int .i64 0,.slice none 0 0,.slice none 0 0,.slice none 0 0] 56 (0,0))
 k3:W.heap[w.heap.size + 1 + 1 + 1]? = some (.cells #[.int .i64 s,.int .i64 t,vk,.int .i64 n,vs,vm,vx] 56 (0,0))
 os:W.ownsRow (w.heap.size + 4) 60 2 vs k ((zs.take k).flatMap wideF)
 om:W.ownsRow (w.heap.size + 4) 2 1 vm k ((zm.take k).flatMap intF)
 ox:W.ownsRow (w.heap.size + 4) 2 1 vx k ((zx.take k).flatMap intF)
 ne:∀ b,vm.ownBlock=some b→vx.ownBlock≠some b
 nil:k=0→vs = .slice none 0 0∧vm = .slice none 0 0∧vx = .slice none 0 0
 below:Below w.heap.size w W
set_option maxRecDepth 100000 in
set_option maxHeartbeats 4000000 in
theorem both_any (p q:Nat→Prop) (cs ds:List Value) (x y:Int×CK×Pay) (M:Nat) (w:World) (hx:GrpAt p w cs x) (hy:GrpAt q w ds y) (hxl:x.2.2.len M) (hyl:y.2.2.len M) (hM:M≤1000) (hn:I64 (x.2.2.n + y.2.2.n)) (hw:∀ j (h1:j < x.2.2.sums.length) (h2:j < y.2.2.sums.length),WOk (x.2.2.sums[j] + y.2.2.sums[j])) :
  Calls Tryz.prog 75 #[.agg cs.toArray,.agg ds.toArray] w fun e w' => ∃ cs',e = .returned (.agg cs'.toArray)∧GrpAt (fun b=>p b∨w.heap.size + 4≤b) w' cs' (x.1,x.2.1,x.2.2.add y.2.2)∧Below w.heap.size w w':=by
 obtain ⟨vd,v4,v5,v6,rfl,hd,hp⟩:=hx
 obtain ⟨ud,u4,u5,u6,rfl,hud,hq⟩:=hy
 obtain ⟨s1,⟨t1,d1⟩,n1,xs,xm,xx⟩:=x
 obtain ⟨s2,⟨t2,d2⟩,n2,ys,ym,yx⟩:=y
 obtain ⟨l1,l2,l3⟩:=hxl
 obtain ⟨m1,m2,m3⟩:=hyl
 simp only at hd hp hud hq l1 l2 l3 m1 m2 m3 hn hw ⊢
 have HD:=Lib.hid hd
 have HP:=Lib.hid hp
 have HQ:=Lib.hid hq
 have HL:=Lib.hid (And.intro l1 (And.intro l2 (And.intro l3 (And.intro m1 (And.intro m2 m3)))))
 have HWO:=Lib.hid hw
 have hnw:IntKind.i64.wrap (n1 + n2)=n1 + n2:=by rw [IntKind.wrap_i64];have:=hn.1;have:=hn.2;omega
 obtain ⟨dk,kc,rfl⟩:=hd.shape
 obtain ⟨a4,c4,rfl,_⟩:=hp.sums.shapeM l1
 obtain ⟨a5,c5,rfl,_⟩:=hp.mins.shapeM l2
 obtain ⟨a6,c6,rfl,_⟩:=hp.maxs.shapeM l3
 obtain ⟨ek,fc,rfl⟩:=hud.shape
 obtain ⟨b4,d4,rfl,_⟩:=hq.sums.shapeM m1
 obtain ⟨b5,d5,rfl,_⟩:=hq.mins.shapeM m2
 obtain ⟨b6,d6,rfl,_⟩:=hq.maxs.shapeM m3
 generalize hkl:(d1.map Tess.valOf).length=kl at *
 generalize (d2.map Tess.valOf).length=ul at *
 clear hd hp hud hq l1 l2 l3 m1 m2 m3 hn hw
 obtain ⟨W0,hW0⟩:∃ W0,(((w.alloc (.cells #[.int .i64 s1,.int .i64 t1,.slice dk kl kc,.int .i64 n1,.slice a4 M c4,.slice a5 M c5,.slice a6 M c6] 56)).alloc (.cells #[.int .i64 s2,.int .i64 t2,.slice ek ul fc,.int .i64 n2,.slice b4 M d4,.slice b5 M d5,.slice b6 M d6] 56)).alloc (.cells #[.int .i64 0,.int .i64 0,.slice none 0 0,.int .i64 0,.slice none 0 0,.slice none 0 0,.slice none 0 0] 56)).alloc (.cells #[.int .i64 s1,.int .i64 t1,.slice dk kl kc,.int .i64 (n1 + n2),.slice none 0 0,.slice none 0 0,.slice none 0 0] 56)=W0:=⟨_,rfl⟩
 obtain ⟨h0,h1,h2,h3,hS,hB⟩:=laid4 w (.cells #[.int .i64 s1,.int .i64 t1,.slice dk kl kc,.int .i64 n1,.slice a4 M c4,.slice a5 M c5,.slice a6 M c6] 56) (.cells #[.int .i64 s2,.int .i64 t2,.slice ek ul fc,.int .i64 n2,.slice b4 M d4,.slice b5 M d5,.slice b6 M d6] 56) (.cells #[.int .i64 0,.int .i64 0,.slice none 0 0,.int .i64 0,.slice none 0 0,.slice none 0 0,.slice none 0 0] 56) (.cells #[.int .i64 s1,.int .i64 t1,.slice dk kl kc,.int .i64 (n1 + n2),.slice none 0 0,.slice none 0 0,.slice none 0 0] 56)
 rw [hW0] at h0 h1 h2 h3 hS hB
 rw [show w.heap.size + 2=w.heap.size + 1 + 1 by omega] at h2
 rw [show w.heap.size + 3=w.heap.size + 1 + 1 + 1 by omega] at h3
 have HBo:RowKit.Hid (Bo w #[.int .i64 s1,.int .i64 t1,.slice dk kl kc,.int .i64 n1,.slice a4 M c4,.slice a5 M c5,.slice a6 M c6] #[.int .i64 s2,.int .i64 t2,.slice ek ul fc,.int .i64 n2,.slice b4 M d4,.slice b5 M d5,.slice b6 M d6] s1 t1 (n1 + n2) (.slice dk kl kc) (.slice none 0 0) (.slice none 0 0) (.slice none 0 0) 0 (List.zipWith (· + ·) xs ys) (List.zipWith min xm ym) (List.zipWith max xx yx) W0):=Lib.hid ⟨h0,h1,h2,h3,World.ownsRow_nil _ _ _ _,World.ownsRow_nil _ _ _ _,World.ownsRow_nil _ _ _ _,(fun b e=>by cases e),fun _=>⟨rfl,rfl,rfl⟩,hB⟩
 obtain ⟨⟨x0,x1,x2,x3,x4,x5,x6⟩,_⟩:=can7 h0
 obtain ⟨⟨y0,y1,y2,y3,y4,y5,y6⟩,_⟩:=can7 h1
 obtain ⟨i0,hi,hz0,hz1,hz2⟩:=info_parts infoWide
 obtain ⟨j0,hj,hw0,hw1,hw2⟩:=info_parts infoI64
 have hM9:M≤9223372036854775807:=by omega
 have g4:=setc_same (o:=4) (v:=.slice none 0 0) h3 rfl
 have g5:=setc_same (o:=5) (v:=.slice none 0 0) h3 rfl
 have g6:=setc_same (o:=6) (v:=.slice none 0 0) h3 rfl
 obtain ⟨⟨z0,z1,z2,z3,z4,z5,z6⟩,f0,f1,f2,f3,f4,f5,f6⟩:=can7 h3
 clear h0 h1 h2 h3 hS hB
 have HMIN:=@run_min6 Tryz.prog (M:Int)
 go_enter Tryz.func75,Tryz.ntmps75
 go_wp2_with (fail)
 clear hW0 x0 x1 x2 x3 x4 x5 x6 y0 y1 y2 y3 y4 y5 y6 z0 z1 z2 z3 z4 z5 z6 f0 f1 f2 f3 f4 f5 f6 g4 g5 g6 HMIN
 go_loopw [38] (fun i wr => ∃ (k:Nat) (vs vm vx:Value),k≤M∧i = .int .i64 k∧Bo w #[.int .i64 s1,.int .i64 t1,.slice dk kl kc,.int .i64 n1,.slice a4 M c4,.slice a5 M c5,.slice a6 M c6] #[.int .i64 s2,.int .i64 t2,.slice ek ul fc,.int .i64 n2,.slice b4 M d4,.slice b5 M d5,.slice b6 M d6] s1 t1 (n1 + n2) (.slice dk kl kc) vs vm vx k (List.zipWith (· + ·) xs ys) (List.zipWith min xm ym) (List.zipWith max xx yx) wr) (fun i _=>M - (intOf i).toNat)
 case atStart=>exact ⟨0,_,_,_,Nat.zero_le _,rfl,HBo.out⟩
 case round=>
  obtain ⟨k,vs,vm,vx,hk,rfl,hbo⟩:=hrel
  by_cases hlt:k < M
  ·have hki:(k:Int) < (M:Int):=by omega
   obtain ⟨k0,k1,k2,k3,os,om,ox,ne,nil,below⟩:=hbo
   have hl:=HL.out
   obtain ⟨B4,O4,rfl,hB4,E40,E41⟩:=HP.out.sums.num2 (show k < xs.length by omega)
   obtain ⟨B5,O5,rfl,hB5,E5⟩:=HP.out.mins.num1 (show k < xm.length by omega)
   obtain ⟨B6,O6,rfl,hB6,E6⟩:=HP.out.maxs.num1 (show k < xx.length by omega)
   obtain ⟨C4,P4,rfl,hC4,F40,F41⟩:=HQ.out.sums.num2 (show k < ys.length by omega)
   obtain ⟨C5,P5,rfl,hC5,F5⟩:=HQ.out.mins.num1 (show k < ym.length by omega)
   obtain ⟨C6,P6,rfl,hC6,F6⟩:=HQ.out.maxs.num1 (show k < yx.length by omega)
   have HADD:=Lib.hid (fun W=>wAdd_any xs[k] ys[k] (HWO.out k (by omega) (by omega)) W)
   have hzs:k < (List.zipWith (· + ·) xs ys).length:=by rw [List.length_zipWith];omega
   have hzm:k < (List.zipWith min xm ym).length:=by rw [List.length_zipWith];omega
   have hzx:k < (List.zipWith max xx yx).length:=by rw [List.length_zipWith];omega
   have TS:=take_wides _ k hzs
   have TM:=take_ints _ k hzm
   have TX:=take_ints _ k hzx
   have hk1:k < xs.length:=by omega
   have hk2:k < ys.length:=by omega
   have hk3:k < xm.length:=by omega
   have hk4:k < ym.length:=by omega
   have hk5:k < xx.length:=by omega
   have hk6:k < yx.length:=by omega
   rw [show (List.zipWith (· + ·) xs ys)[k]=xs[k] + ys[k] by simp] at TS
   rw [show (List.zipWith min xm ym)[k]=min xm[k] ym[k] by simp] at TM
   rw [show (List.zipWith max xx yx)[k]=max xx[k] yx[k] by simp] at TX
   have LM:((List.zipWith min xm ym).take k).length=k:=by rw [List.length_take];omega
   have LX:((List.zipWith max xx yx).take k).length=k:=by rw [List.length_take];omega
   have HFM:=Lib.hid (show (((List.zipWith min xm ym).take k).flatMap intF).length=k by rw [flat_ints_len];exact LM)
   have HFX:=Lib.hid (show (((List.zipWith max xx yx).take k).flatMap intF).length=k by rw [flat_ints_len];exact LX)
   have HTS:=Lib.hid TS
   have HTM:=Lib.hid TM
   have HTX:=Lib.hid TX
   clear TS TM TX LM LX hzs hzm hzx
   generalize xs[k]=z1 at *
   generalize ys[k]=z2 at *
   generalize xm[k]=z3 at *
   generalize ym[k]=z4 at *
   generalize xx[k]=z5 at *
   generalize yx[k]=z6 at *
   have e40:=(below.cell (p:=⟨B4,O4 + k * 2,none⟩) hB4).trans E40
   have e41:=(below.cell (p:=⟨B4,O4 + k * 2 + 1,none⟩) hB4).trans E41
   have f40:=(below.cell (p:=⟨C4,P4 + k * 2,none⟩) hC4).trans F40
   have f41:=(below.cell (p:=⟨C4,P4 + k * 2 + 1,none⟩) hC4).trans F41
   have hsz:=below.size
   have hlB4:B4 < wr.heap.size:=by omega
   have hlC4:C4 < wr.heap.size:=by omega
   have hn3:w.heap.size + 1 + 1 + 1 < wr.heap.size:=(Array.getElem?_eq_some_iff.1 k3).1
   have hn0:w.heap.size < wr.heap.size:=by omega
   have hn1:w.heap.size + 1 < wr.heap.size:=by omega
   have K0:=Lib.hid k0
   have K1:=Lib.hid k1
   have K2:=Lib.hid k2
   have K3:=Lib.hid k3
   have OS:=Lib.hid os
   have OM:=Lib.hid om
   have OX:=Lib.hid ox
   have NE:=Lib.hid ne
   have BE:=Lib.hid below
   have E56:=Lib.hid (And.intro E5 (And.intro E6 (And.intro F5 F6)))
   have HLT:=Lib.hid (And.intro hB5 (And.intro hB6 (And.intro hC5 hC6)))
   obtain ⟨⟨x0,x1,x2,x3,x4,x5,x6⟩,_⟩:=can7 k0
   obtain ⟨⟨y0,y1,y2,y3,y4,y5,y6⟩,_⟩:=can7 k1
   obtain ⟨⟨w0,w1,w2,w3,w4,w5',w6'⟩,_⟩:=can7 k3
   clear k0 k1 k2 k3 os om ox ne nil below E40 E41 F40 F41 E5 E6 F5 F6 hB4 hB5 hB6 hC4 hC5 hC6 hl hsz
   go_wp2_with (fail)
   refine Flow.wp_region_flow_tail 14 (Flow.specs [.inl ?_,.inl ?_,.inl ?_,.inl ?_,.inl ?_,.inl ?_,.inl ?_,.inl ?_,.inl ?_,.inl ?_,.inl ?_,.inl ?_,.inl ?_,.inr (newTwo (.int .i64 (wHi (z1 + z2))) (.int .u64 (wLo (z1 + z2))))]) (by kernel_rfl) (by kernel_rfl) ?_ ?_
   rotate_left 13
   ·refine Flow.specs_mono ?_
    repeat (first | exact Flow.lmono_nil | refine Flow.lmono_inl ?_ | refine Flow.lmono_inr (newTwo_mono _ _) ?_)
   all_goals try simp only [List.take_succ_cons,List.take_zero,List.drop_succ_cons,List.drop_zero]
   iterate 12 (refine Flow.tree_valK rfl (fun K hK=>⟨fun w hw hG => ?_,?_⟩);(have hcl:=Flow.bcell hw;clear hG hw;unfold Flow.Runs Flow.yields;go_simp;try rfl);go_simp;refine hK _ ?_;clear hK K)
   (refine Flow.tree_valK rfl (fun K hK=>⟨fun w hw hG => ?_,?_⟩);(clear hG hw;unfold Flow.Runs Flow.yields;go_simp;refine (HADD.out _).mono ?_;rintro e w5 ⟨rfl,hb5⟩;first | exact ⟨_,rfl,hb5,rfl⟩ | (refine ⟨?_,hb5⟩;rfl));go_simp;refine hK _ ?_;clear hK K)
   (refine Flow.tree_varK rfl (fun K hK=>⟨fun w hw hG => ?_,?_⟩);(clear hG hw;unfold Flow.Runs Flow.yields;go_simp;exact ⟨(laid1 _ _).2.2,newTwo_mk _ _ _ _⟩);intro vy;go_simp;refine hK _ _ ?_;clear hK K)
   refine Flow.tree_nil fun w5 hw5 hG => ?_
   obtain ⟨gn,rfl,hgn,hy0,hy1⟩:=(show newTwo (.int .i64 (wHi (z1 + z2))) (.int .u64 (wLo (z1 + z2))) vy w5 by simpa [Flow.upd] using hG 13)
   clear hG x0 x1 x2 x3 x4 x5 x6 y0 y1 y2 y3 y4 y5 y6 w0 w1 w2 w3 w4 w5' w6' e40 e41 f40 f41
   have HOS5:=Lib.hid (owns_below OS.out hw5)
   have HY:=Lib.hid (And.intro hy0 hy1)
   have HB5:=Lib.hid hw5
   have HS5:=Lib.hid (show w.heap.size + 4≤w5.heap.size by have:=hw5.size;omega)
   have HWN:=Lib.hid (show w.heap.size + 4≤wr.heap.size by omega)
   clear hw5 hy0 hy1 HADD hlB4 hlC4 hn0 hn1 hn3
   go_simp
   go_wp2_with (at_builtin;refine wpList_append_own_at _ rfl _ _ 53 rfl (w.heap.size + 4) 60 i0 (.agg #[.int .i64 0,.int .u64 0]) 2 16 Tryz.underlying53 hi hz0 hz1 hz2 rfl (by decide) _ k _ rfl HOS5.out ⟨gn,0,none⟩ 1 1 [.int .i64 (wHi (z1 + z2)),.int .u64 (wLo (z1 + z2))] rfl rfl ?_ ?_ ?_ ?_ ?_ ?_)
   ·intro j u hj
    rcases j with _ | _ | j
    ·simp at hj;subst hj;simpa [Addr.add] using HY.out.1
    ·simp at hj;subst hj;simpa [Addr.add] using HY.out.2
    ·simp at hj
   ·exact wideF_one (z1 + z2)
   ·unfold maxLen;omega
   ·omega
   ·exact HS5.out
   intro v6 w6 hown6 hgrow6 _ _
   obtain ⟨gg,cp,rfl,_⟩:=owns_cell_any hown6 (by omega)
   have hwn:=HWN.out
   have hs5:=HS5.out
   have hne:∀ b,b < w.heap.size + 4→some b≠vs.ownBlock:=fun b hb e=>by have:=(HOS5.out.lt b e.symm).1;omega
   have hkeep:∀ b,b < w.heap.size + 4→w6.heap[b]? = wr.heap[b]? := fun b hb=>(hgrow6.block b (by omega) (hne b hb)).trans (HB5.out.block b (by omega))
   have hom6:=owns_keep (owns_below OM.out HB5.out) fun b hb=>hgrow6.block b (((owns_below OM.out HB5.out).lt b hb).2) (fun e=>owns_ne HOS5.out (owns_below OM.out HB5.out) (by decide) b e.symm hb)
   have hox6:=owns_keep (owns_below OX.out HB5.out) fun b hb=>hgrow6.block b (((owns_below OX.out HB5.out).lt b hb).2) (fun e=>owns_ne HOS5.out (owns_below OX.out HB5.out) (by decide) b e.symm hb)
   have hb6:Below w.heap.size w w6:=(Bt BE.out HB5.out).grown hgrow6 (by omega) (fun j e=>by have:=(HOS5.out.lt j e).1;omega)
   have hk36:=(hkeep (w.heap.size + 1 + 1 + 1) (by omega)).trans K3.out
   obtain ⟨⟨w0,w1,w2,w3,w4,w5',w6'⟩,f0,f1,f2,f3,f4,f5,f6⟩:=can7 hk36
   obtain ⟨W7,hW7⟩:∃ W7,w6.setCell ⟨w.heap.size + 1 + 1 + 1,4,none⟩ (.slice (some ⟨gg,0,none⟩) (k + 1) cp)=W7:=⟨_,rfl⟩
   have k37:W7.heap[w.heap.size + 1 + 1 + 1]? = some (.cells #[.int .i64 s1,.int .i64 t1,.slice dk kl kc,.int .i64 (n1 + n2),.slice (some ⟨gg,0,none⟩) (k + 1) cp,vm,vx] 56 (0,0)):=by
    rw [← hW7];exact heap_setCell_same w6 (w.heap.size + 1 + 1 + 1) 4 _ _ (.slice (some ⟨gg,0,none⟩) (k + 1) cp) hk36
   have hoth:∀ b,b≠w.heap.size + 1 + 1 + 1→W7.heap[b]? = w6.heap[b]? := fun b hb=>by rw [← hW7];exact heap_setCell_other _ _ _ _ hb
   have k07:=(hoth w.heap.size (by omega)).trans ((hkeep _ (by omega)).trans K0.out)
   have k17:=(hoth (w.heap.size + 1) (by omega)).trans ((hkeep _ (by omega)).trans K1.out)
   have k27:=(hoth (w.heap.size + 1 + 1) (by omega)).trans ((hkeep _ (by omega)).trans K2.out)
   have hos7:W7.ownsRow (w.heap.size + 4) 60 2 (.slice (some ⟨gg,0,none⟩) (k + 1) cp) (k + 1) (((List.zipWith (· + ·) xs ys).take (k + 1)).flatMap wideF):=by rw [← HTS.out,← hW7];exact ownsRow_setCell_below hown6 (by show w.heap.size + 1 + 1 + 1 < _;omega) _
   have hom7:W7.ownsRow (w.heap.size + 4) 2 1 vm k (((List.zipWith min xm ym).take k).flatMap intF):=by rw [← hW7];exact ownsRow_setCell_below hom6 (by show w.heap.size + 1 + 1 + 1 < _;omega) _
   have hox7:W7.ownsRow (w.heap.size + 4) 2 1 vx k (((List.zipWith max xx yx).take k).flatMap intF):=by rw [← hW7];exact ownsRow_setCell_below hox6 (by show w.heap.size + 1 + 1 + 1 < _;omega) _
   have hb7:Below w.heap.size w W7:=by rw [← hW7];exact hb6.setCell (by show _≤w.heap.size + 1 + 1 + 1;omega) _
   have hsz7:w.heap.size + 4≤W7.heap.size:=by have:=(Array.getElem?_eq_some_iff.1 k37).1;omega
   obtain ⟨_,_,_,_,_,a5',a6'⟩:=(can7 k07).1
   obtain ⟨_,_,_,_,_,b5',b6'⟩:=(can7 k17).1
   obtain ⟨_,_,_,_,_,o5',o6'⟩:=(can7 k37).1
   obtain ⟨hB5,hB6,hC5,hC6⟩:=HLT.out
   obtain ⟨E5,E6,F5,F6⟩:=E56.out
   have gM:∀ b,vm.ownBlock=some b→w.heap.size + 4≤b∧b < W7.heap.size:=fun b hb=>hom7.lt b hb
   have gX:∀ b,vx.ownBlock=some b→w.heap.size + 4≤b∧b < W7.heap.size:=fun b hb=>hox7.lt b hb
   have HV:=Lib.hid (show ∀ V,(tw vm.ownBlock vx.ownBlock k (.int .i64 (min z3 z4)) (.int .i64 (max z5 z6))).r W7 V→V.cell? ⟨w.heap.size + 1 + 1 + 1,5,none⟩=some vm∧V.cell? ⟨w.heap.size + 1 + 1 + 1,6,none⟩=some vx∧V.cell? ⟨w.heap.size,5,none⟩=some (.slice (some ⟨B5,O5,none⟩) M c5)∧V.cell? ⟨w.heap.size,6,none⟩=some (.slice (some ⟨B6,O6,none⟩) M c6)∧V.cell? ⟨w.heap.size + 1,5,none⟩=some (.slice (some ⟨C5,P5,none⟩) M d5)∧V.cell? ⟨w.heap.size + 1,6,none⟩=some (.slice (some ⟨C6,P6,none⟩) M d6)∧V.cell? ⟨B5,O5 + k,none⟩=some (.int .i64 z3)∧V.cell? ⟨B6,O6 + k,none⟩=some (.int .i64 z5)∧V.cell? ⟨C5,P5 + k,none⟩=some (.int .i64 z4)∧V.cell? ⟨C6,P6 + k,none⟩=some (.int .i64 z6) from fun V hr=>by
    have key:∀ b o,b < w.heap.size + 4→V.cell? ⟨b,o,none⟩=W7.cell? ⟨b,o,none⟩:=fun b o hb=>tw_at hr (by omega) (fun e=>by have:=gM b e;omega) (fun e=>by have:=gX b e;omega)
    refine ⟨(key _ _ (by omega)).trans o5',(key _ _ (by omega)).trans o6',(key _ _ (by omega)).trans a5',(key _ _ (by omega)).trans a6',(key _ _ (by omega)).trans b5',(key _ _ (by omega)).trans b6',?_,?_,?_,?_⟩
    ·exact (key _ _ (by omega)).trans ((hb7.cell (p:=⟨B5,O5 + k,none⟩) hB5).trans E5)
    ·exact (key _ _ (by omega)).trans ((hb7.cell (p:=⟨B6,O6 + k,none⟩) hB6).trans E6)
    ·exact (key _ _ (by omega)).trans ((hb7.cell (p:=⟨C5,P5 + k,none⟩) hC5).trans F5)
    ·exact (key _ _ (by omega)).trans ((hb7.cell (p:=⟨C6,P6 + k,none⟩) hC6).trans F6))
   have HAP1:=Lib.hid (show ∀ V,(tw vm.ownBlock vx.ownBlock k (.int .i64 (min z3 z4)) (.int .i64 (max z5 z6))).r W7 V→∀ u,newOne vm.ownBlock vx.ownBlock (.int .i64 (min z3 z4)) u V→∃ v' V2,(Builtin.append_ #[54,54] 54 #[vm,u]).run Tryz.prog V = .ok v' V2∧(tw vm.ownBlock vx.ownBlock k (.int .i64 (min z3 z4)) (.int .i64 (max z5 z6))).r V V2∧app1 vm.ownBlock vx.ownBlock (w.heap.size + 4) k 2 (((List.zipWith min xm ym).take k).flatMap intF ++ [.int .i64 (min z3 z4)]) v' V2 from fun V hr u hu=>by
    obtain ⟨h,rfl,_,_,_,hc⟩:=hu
    obtain ⟨v',V2,hrun,h2,h5,⟨q1,q2,q3,q4⟩,h6⟩:=app_own (ty:=54) (z:=.int .i64 (min z3 z4)) Tryz.underlying54 hj hw0 hw1 hw2 rfl (tw_owns hom7 hr) h hc rfl (by unfold maxLen;omega) (by omega) (by have:=hr.2.2.2.1;omega)
    refine ⟨v',V2,hrun,⟨q1,q2,q3,q4,fun b hb=>(h6 b hb).imp id fun ⟨e1,e2⟩ => .inl ⟨e1,e2⟩⟩,h2,fun b hb hG hH => ?_⟩
    rcases h5 with e | e
    ·rw [e] at hb;exact hG hb
    ·rw [e] at hb
     have e1:=Option.some.inj hb
     have:=gX b hH
     have:=hr.2.2.2.1
     omega)
   have HAP2:=Lib.hid (show ∀ V,(tw vm.ownBlock vx.ownBlock k (.int .i64 (min z3 z4)) (.int .i64 (max z5 z6))).r W7 V→∀ u,newOne vm.ownBlock vx.ownBlock (.int .i64 (max z5 z6)) u V→∀ v14,app1 vm.ownBlock vx.ownBlock (w.heap.size + 4) k 2 (((List.zipWith min xm ym).take k).flatMap intF ++ [.int .i64 (min z3 z4)]) v14 V→∃ v' V2,(Builtin.append_ #[54,54] 54 #[vx,u]).run Tryz.prog V = .ok v' V2∧(tw vm.ownBlock vx.ownBlock k (.int .i64 (min z3 z4)) (.int .i64 (max z5 z6))).r V V2∧app2 vm.ownBlock vx.ownBlock (w.heap.size + 4) k 2 (((List.zipWith max xx yx).take k).flatMap intF ++ [.int .i64 (max z5 z6)]) v14 v' V2 from fun V hr u hu v14 h14=>by
    obtain ⟨h,rfl,_,_,_,hc⟩:=hu
    obtain ⟨v',V2,hrun,h2,h5,⟨q1,q2,q3,q4⟩,h6⟩:=app_own (ty:=54) (z:=.int .i64 (max z5 z6)) Tryz.underlying54 hj hw0 hw1 hw2 rfl (tw_owns hox7 hr) h hc rfl (by unfold maxLen;omega) (by omega) (by have:=hr.2.2.2.1;omega)
    refine ⟨v',V2,hrun,⟨q1,q2,q3,q4,fun b hb=>(h6 b hb).imp id fun ⟨e1,e2⟩ => .inr ⟨e1,e2⟩⟩,h2,fun b hb hH hG => ?_,fun b hb hv14 => ?_⟩
    ·rcases h5 with e | e
     ·rw [e] at hb;exact hH hb
     ·rw [e] at hb
      have e1:=Option.some.inj hb
      have:=gM b hG
      have:=hr.2.2.2.1
      omega
    ·rcases h5 with e | e
     ·rw [e] at hb
      by_cases hG:vm.ownBlock=some b
      ·exact NE.out b hG hb
      ·exact h14.2 b hv14 hG hb
     ·rw [e] at hb
      have e1:=Option.some.inj hb
      have:=(h14.1.lt b hv14).2
      omega)
   have HK7:=Lib.hid (And.intro k07 (And.intro k17 (And.intro k27 k37)))
   have HOS7:=Lib.hid hos7
   have HB7:=Lib.hid hb7
   have HS7:=Lib.hid hsz7
   have HGM:=Lib.hid gM
   have HGX:=Lib.hid gX
   have HNE6:=Lib.hid (show ∀ b,(Value.slice (some ⟨gg,0,none⟩) (k + 1) cp).ownBlock=some b→vm.ownBlock≠some b∧vx.ownBlock≠some b from fun b hb=>⟨owns_ne hos7 hom7 (by decide) b hb,owns_ne hos7 hox7 (by decide) b hb⟩)
   clear hown6 hgrow6 hne hkeep hom6 hox6 hb6 hk36 k37 hoth k07 k17 k27 hos7 hom7 hox7 hb7 hsz7 a5' a6' b5' b6' o5' o6' hB5 hB6 hC5 hC6 E5 E6 F5 F6 gM gX hwn hs5 HOS5 HY hgn
   go_wp2_with (fail)
   clear hW7 w0 w1 w2 w3 w4 w5' w6' f0 f1 f2 f3 f4 f5 f6
   have HNEV:RowKit.Hid (∀ b,vm.ownBlock=some b→vx.ownBlock≠some b):=NE
   refine FlowR.wp_region_flow_tailU (R:=tw vm.ownBlock vx.ownBlock k (.int .i64 (min z3 z4)) (.int .i64 (max z5 z6))) 31 (FlowR.specs 29 (fun u => .inr (app2 vm.ownBlock vx.ownBlock (w.heap.size + 4) k 2 (((List.zipWith max xx yx).take k).flatMap intF ++ [.int .i64 (max z5 z6)]) u)) (.inl ?_ :: .inl ?_ :: .inl ?_ :: .inl ?_ :: .inl ?_ :: .inl ?_ :: .inl ?_ :: .inl ?_ :: .inl ?_ :: .inl ?_ :: .inl ?_ :: .inl ?_ :: .inl ?_ :: .inr (newOne vm.ownBlock vx.ownBlock (.int .i64 (min z3 z4))) :: .inr (app1 vm.ownBlock vx.ownBlock (w.heap.size + 4) k 2 (((List.zipWith min xm ym).take k).flatMap intF ++ [.int .i64 (min z3 z4)])) :: .inl ?_ :: .inl ?_ :: .inl ?_ :: .inl ?_ :: .inl ?_ :: .inl ?_ :: .inl ?_ :: .inl ?_ :: .inl ?_ :: .inl ?_ :: .inl ?_ :: .inl ?_ :: .inl ?_ :: .inr (newOne vm.ownBlock vx.ownBlock (.int .i64 (max z5 z6))) :: .inl undef :: .inl ?_ :: [])) (fun _=>71) (FlowR.specs_okU (by kernel_rfl)) (by kernel_rfl) (by kernel_rfl) ?_ ?_
   rotate_left 27
   ·refine FlowR.specs_mono (fun u=>app2_mono HFX.out HNEV.out u) ?_
    repeat (first | exact FlowR.lmono_nil | refine FlowR.lmono_inl ?_ | refine FlowR.lmono_inr (newOne_mono _) ?_ | refine FlowR.lmono_inr (app1_mono HFM.out HNEV.out) ?_)
   all_goals try simp only [List.take_succ_cons,List.take_zero,List.drop_succ_cons,List.drop_zero]
   iterate 13 (refine FlowR.tree_valK rfl (fun K hK=>⟨fun V hw hG => ?_,?_⟩);(obtain ⟨t1,t2,t3,t4,t5,t6,t7,t8,t9,t10⟩:=HV.out V hw;clear hG hw;unfold FlowR.Runs FlowR.yields;go_simp;try rfl);go_simp;refine hK _ ?_;clear hK K)
   (refine FlowR.tree_varK rfl (fun K hK=>⟨fun V hw hG => ?_,?_⟩);(have hVs:=hw.2.2.2.1;have hg1:vm.ownBlock≠some V.heap.size:=fun e=>(by have:=(HGM.out _ e).2;omega);have hg2:vx.ownBlock≠some V.heap.size:=fun e=>(by have:=(HGX.out _ e).2;omega);clear hG hw;unfold FlowR.Runs FlowR.yields;go_simp;exact ⟨tw_alloc _,(⟨V.heap.size,rfl,by simp,hg1,hg2,cell_of_row _ _ 0 _ _ _ (heap_alloc_new V _)⟩:newOne vm.ownBlock vx.ownBlock (.int .i64 (min z3 z4)) (.slice (some ⟨V.heap.size,0,none⟩) 1 1) (V.alloc _))⟩);intro vn1;go_simp;refine hK _ _ ?_;clear hK K)
   (refine FlowR.tree_varK rfl (fun K hK=>⟨fun V hw hG => ?_,?_⟩);(have hno:=(show newOne vm.ownBlock vx.ownBlock (.int .i64 (min z3 z4)) vn1 V by simpa [FlowR.upd] using hG 13 (by kernel_rfl));obtain ⟨v',V2,hrun,hR2,hT2⟩:=HAP1.out V hw vn1 hno;clear hG hw hno;exact runs_append (t:=54) (.tmp 58) (.tmp 70) rfl rfl rfl rfl hrun hR2 hT2);intro v14;go_simp;refine hK _ _ ?_;clear hK K)
   iterate 13 (refine FlowR.tree_valK rfl (fun K hK=>⟨fun V hw hG => ?_,?_⟩);(obtain ⟨t1,t2,t3,t4,t5,t6,t7,t8,t9,t10⟩:=HV.out V hw;clear hG hw;unfold FlowR.Runs FlowR.yields;go_simp;try rfl);go_simp;refine hK _ ?_;clear hK K)
   (refine FlowR.tree_varK rfl (fun K hK=>⟨fun V hw hG => ?_,?_⟩);(have hVs:=hw.2.2.2.1;have hg1:vm.ownBlock≠some V.heap.size:=fun e=>(by have:=(HGM.out _ e).2;omega);have hg2:vx.ownBlock≠some V.heap.size:=fun e=>(by have:=(HGX.out _ e).2;omega);clear hG hw;unfold FlowR.Runs FlowR.yields;go_simp;exact ⟨tw_alloc _,(⟨V.heap.size,rfl,by simp,hg1,hg2,cell_of_row _ _ 0 _ _ _ (heap_alloc_new V _)⟩:newOne vm.ownBlock vx.ownBlock (.int .i64 (max z5 z6)) (.slice (some ⟨V.heap.size,0,none⟩) 1 1) (V.alloc _))⟩);intro vn2;go_simp;refine hK _ _ ?_;clear hK K)
   (refine FlowR.tree_varK rfl (fun K hK=>⟨fun V hw hG => ?_,?_⟩);(have hno:=(show newOne vm.ownBlock vx.ownBlock (.int .i64 (max z5 z6)) vn2 V by simpa [FlowR.upd] using hG 28 (by kernel_rfl));have h14:=(show app1 vm.ownBlock vx.ownBlock (w.heap.size + 4) k 2 (((List.zipWith min xm ym).take k).flatMap intF ++ [.int .i64 (min z3 z4)]) v14 V by simpa [FlowR.upd] using hG 14 (by kernel_rfl));obtain ⟨v',V2,hrun,hR2,hT2⟩:=HAP2.out V hw vn2 hno v14 h14;clear hG hw hno h14;exact runs_append (t:=54) (.tmp 73) (.tmp 85) rfl rfl rfl rfl hrun hR2 hT2);intro v29;go_simp;refine hK _ _ ?_;clear hK K)
   iterate 1 (refine FlowR.tree_valK rfl (fun K hK=>⟨fun V hw hG => ?_,?_⟩);(obtain ⟨t1,t2,t3,t4,t5,t6,t7,t8,t9,t10⟩:=HV.out V hw;clear hG hw;unfold FlowR.Runs FlowR.yields;go_simp;try rfl);go_simp;refine hK _ ?_;clear hK K)
   refine FlowR.tree_nil fun w8 hw8 hG => ?_
   obtain ⟨h14,h14b⟩:=(show app1 vm.ownBlock vx.ownBlock (w.heap.size + 4) k 2 (((List.zipWith min xm ym).take k).flatMap intF ++ [.int .i64 (min z3 z4)]) v14 w8 by simpa [FlowR.upd] using hG 14)
   obtain ⟨h29,_,h29b⟩:=(show app2 vm.ownBlock vx.ownBlock (w.heap.size + 4) k 2 (((List.zipWith max xx yx).take k).flatMap intF ++ [.int .i64 (max z5 z6)]) v14 v29 w8 by simpa [FlowR.upd] using hG 29)
   clear hG
   rw [HTM.out] at h14
   rw [HTX.out] at h29
   obtain ⟨gm,cm,rfl,hgm,_⟩:=owns_cell_any h14 (by omega)
   obtain ⟨gx,cx,rfl,hgx,_⟩:=owns_cell_any h29 (by omega)
   have gM:=HGM.out
   have gX:=HGX.out
   have hs7:=HS7.out
   have hkb:∀ b,b < w.heap.size + 4→w8.heap[b]? = W7.heap[b]? := fun b hb=>tw_block hw8 (by omega) (fun e=>by have:=gM b e;omega) (fun e=>by have:=gX b e;omega)
   obtain ⟨k07,k17,k27,k37⟩:=HK7.out
   have k08:=(hkb w.heap.size (by omega)).trans k07
   have k18:=(hkb (w.heap.size + 1) (by omega)).trans k17
   have k28:=(hkb (w.heap.size + 1 + 1) (by omega)).trans k27
   have k38:=(hkb (w.heap.size + 1 + 1 + 1) (by omega)).trans k37
   have hos8:=owns_keep HOS7.out (W':=w8) fun b hb=>tw_block hw8 (HOS7.out.lt b hb).2 (HNE6.out b hb).1 (HNE6.out b hb).2
   have hb8:Below w.heap.size w w8:=HB7.out.trans (tw_below hw8 (by omega) (fun b e=>by have:=gM b e;omega) (fun b e=>by have:=gX b e;omega))
   obtain ⟨⟨o0,o1,o2,o3,o4,o5,o6⟩,f0,f1,f2,f3,f4,f5,f6⟩:=can7 k38
   have k3a:=heap_setCell_same w8 (w.heap.size + 1 + 1 + 1) 5 _ _ (.slice (some ⟨gm,0,none⟩) (k + 1) cm) k38
   have k3b:=heap_setCell_same _ (w.heap.size + 1 + 1 + 1) 6 _ _ (.slice (some ⟨gx,0,none⟩) (k + 1) cx) k3a
   have hoth:∀ b,b≠w.heap.size + 1 + 1 + 1→((w8.setCell ⟨w.heap.size + 1 + 1 + 1,5,none⟩ (.slice (some ⟨gm,0,none⟩) (k + 1) cm)).setCell ⟨w.heap.size + 1 + 1 + 1,6,none⟩ (.slice (some ⟨gx,0,none⟩) (k + 1) cx)).heap[b]? = w8.heap[b]? := fun b hb=>by rw [heap_setCell_other _ _ _ _ hb,heap_setCell_other _ _ _ _ hb]
   have hlt3:w.heap.size + 1 + 1 + 1 < w.heap.size + 4:=by omega
   have HBN:RowKit.Hid (Bo w _ _ s1 t1 (n1 + n2) (.slice dk kl kc) (.slice (some ⟨gg,0,none⟩) (k + 1) cp) (.slice (some ⟨gm,0,none⟩) (k + 1) cm) (.slice (some ⟨gx,0,none⟩) (k + 1) cx) (k + 1) (List.zipWith (· + ·) xs ys) (List.zipWith min xm ym) (List.zipWith max xx yx) ((w8.setCell ⟨w.heap.size + 1 + 1 + 1,5,none⟩ (.slice (some ⟨gm,0,none⟩) (k + 1) cm)).setCell ⟨w.heap.size + 1 + 1 + 1,6,none⟩ (.slice (some ⟨gx,0,none⟩) (k + 1) cx))):=Lib.hid {
    k0:=(hoth _ (by omega)).trans k08
    k1:=(hoth _ (by omega)).trans k18
    k2:=(hoth _ (by omega)).trans k28
    k3:=k3b
    os:=ownsRow_setCell_below (ownsRow_setCell_below hos8 hlt3 _) hlt3 _
    om:=ownsRow_setCell_below (ownsRow_setCell_below h14 hlt3 _) hlt3 _
    ox:=ownsRow_setCell_below (ownsRow_setCell_below h29 hlt3 _) hlt3 _
    ne:=fun b h1 h2=>h29b b h2 h1
    nil:=fun h=>by omega
    below:=(hb8.setCell (by show _≤w.heap.size + 1 + 1 + 1;omega) _).setCell (by show _≤w.heap.size + 1 + 1 + 1;omega) _ }
   clear h14 h14b h29 h29b gM gX hs7 hkb k07 k17 k27 k37 k08 k18 k28 k38 hos8 hb8 k3a k3b hoth hlt3 hw8 o0 o1 o2 o3 o4
   go_simp
   go_wp2_with (fail)
   go_roundw
   case rel=>exact ⟨k + 1,_,_,_,by omega,by go_num,HBN.out⟩
   case measure=>simp [intOf];omega
  ·have hki:¬ (k:Int) < (M:Int):=by omega
   obtain rfl:k=M:=by omega
   obtain ⟨k0,k1,k2,k3,os,om,ox,ne,nil,below⟩:=hbo
   have hl:=HL.out
   have hzs:(List.zipWith (· + ·) xs ys).length=k:=by rw [List.length_zipWith];omega
   have hzm:(List.zipWith min xm ym).length=k:=by rw [List.length_zipWith];omega
   have hzx:(List.zipWith max xx yx).length=k:=by rw [List.length_zipWith];omega
   rw [List.take_of_length_le (by omega)] at os om ox
   have hrs:=rows_owned (f:=wideF) (fun _ _=>rfl) (by rw [hzs];exact os) (by unfold maxLen;omega) (fun h=>(nil (by rw [← hzs,h];rfl)).1)
   have hrm:=rows_owned (f:=intF) (fun _ _=>rfl) (by rw [hzm];exact om) (by unfold maxLen;omega) (fun h=>(nil (by rw [← hzm,h];rfl)).2.1)
   have hrx:=rows_owned (f:=intF) (fun _ _=>rfl) (by rw [hzx];exact ox) (by unfold maxLen;omega) (fun h=>(nil (by rw [← hzx,h];rfl)).2.2)
   obtain ⟨q4,r4,rfl⟩:=hrs.shape
   obtain ⟨q5,r5,rfl⟩:=hrm.shape
   obtain ⟨q6,r6,rfl⟩:=hrx.shape
   rw [hzs] at hrs k3
   rw [hzm] at hrm k3
   rw [hzx] at hrx k3
   have hsz:=(Array.getElem?_eq_some_iff.1 k3).1
   obtain ⟨⟨o0,o1,o2,o3,o4,o5,o6⟩,_⟩:=can7 k3
   obtain ⟨_,f0,f1,f2,f3,f4,f5,f6⟩:=can7 k2
   obtain ⟨W9,hW9,e9,eo,es,eB⟩:=box7 (.int .i64 s1) (.int .i64 t1) (.slice dk kl kc) (.int .i64 (n1 + n2)) (.slice q4 k r4) (.slice q5 k r5) (.slice q6 k r6) k2 below (show w.heap.size≤w.heap.size + 1 + 1 by omega)
   obtain ⟨⟨i0',i1',i2',i3',i4',i5',i6'⟩,_⟩:=can7 e9
   have hAg:Ag (fun b=>w.heap.size + 4≤b) wr W9:=⟨by rw [es];exact Nat.le_refl _,fun b _ hb=>eo b (by omega)⟩
   have HG:=Lib.hid (show GrpAt (fun b=>p b∨w.heap.size + 4≤b) W9 [.int .i64 s1,.int .i64 t1,.slice dk kl kc,.int .i64 (n1 + n2),.slice q4 k r4,.slice q5 k r5,.slice q6 k r6] (s1,(t1,d1),(⟨n1,xs,xm,xx⟩:Pay).add ⟨n2,ys,ym,yx⟩) from ⟨_,_,_,_,rfl,(HD.out.ag (Ag.new p eB)).weak fun b hb => .inl hb,(hrs.ag hAg).weak fun b hb => .inr hb,(hrm.ag hAg).weak fun b hb => .inr hb,(hrx.ag hAg).weak fun b hb => .inr hb⟩)
   have HEB:=Lib.hid eB
   clear k0 k1 k2 k3 os om ox ne nil below hrs hrm hrx hzs hzm hzx hAg e9 eo es eB hl hsz
   go_wp2_with (fail)
   refine bodyPost_ret (v:=.agg #[.int .i64 s1,.int .i64 t1,.slice dk kl kc,.int .i64 (n1 + n2),.slice q4 k r4,.slice q5 k r5,.slice q6 k r6]) (by simp [results,Tryz.results75,go_sem,i0',i1',i2',i3',i4',i5',i6']) rfl ⟨[_,_,_,_,_,_,_],rfl,HG.out,HEB.out⟩
end Go.Proofs.YtaddkkkchkdgkaaGreatDoor
