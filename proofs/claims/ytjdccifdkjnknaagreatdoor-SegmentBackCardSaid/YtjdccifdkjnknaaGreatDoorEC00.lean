/- Joined by mergeK2.py: UP, U29p, U29, U30p, U30, U30W -/
import Derived.Test.YtjdccifdkjnknaaGreatDoorAC14
import Derived.Test.YtjdccifdkjnknaaGreatDoorAC33
import Derived.Test.YtjdccifdkjnknaaGreatDoorAD37
namespace Tess
open Go Kl Go.RowKit Go.Proofs.YtjdccifdkjnknaaGreatDoor
theorem put_inj {n m:Nat} (hn:n < 18446744073709551616) (hm:m < 18446744073709551616) {r t:List UInt8} (h:putL n ++ r=putL m ++ t):n=m∧r=t:=by
 have e1:=gWp n hn r
 have e2:=gWp m hm t
 rw [h] at e1
 rw [e1] at e2
 simp only [Prod.mk.injEq,and_true] at e2
 exact ⟨e2.1,by have:=congrArg (fun b:ByteArray=>b.data.toList) e2.2;simpa [ml3] using this⟩
theorem names_inj:∀ (l m:List ByteArray),l.length=m.length→(∀ x ∈ l,x.size≤100)→(∀ x ∈ m,x.size≤100)→l.flatMap nB2=m.flatMap nB2→l=m
 | [],[],_,_,_,_=>rfl
 | x :: l,y :: m,hl,h1,h2,h=>by
   rw [List.flatMap_cons,List.flatMap_cons] at h
   unfold nB2 at h
   rw [List.append_assoc,List.append_assoc] at h
   have hx:=h1 x (by simp)
   have hy:=h2 y (by simp)
   obtain ⟨e1,e2⟩:=put_inj (by omega) (by omega) h
   have e3:x.data.toList=y.data.toList:=by
    have:=congrArg (List.take x.size) e2
    rw [List.take_left' (show x.data.toList.length=x.size from Array.length_toList),List.take_left' (by rw [e1];exact Array.length_toList)] at this
    exact this
   rw [e3] at e2
   have e4:=List.append_cancel_left e2
   have e5:x=y:=me2 e3
   rw [e5,names_inj l m (by simpa using hl) (fun z hz=>h1 z (by simp [hz])) (fun z hz=>h2 z (by simp [hz])) e4]
theorem head_inj {s t:Sch} (hs:sO s=true) (ht:sO t=true) (h:hB13 s=hB13 t):s=t:=by
 obtain ⟨a1,a2,a3,a4,a5⟩:=sf2 hs
 obtain ⟨b1,b2,b3,b4,b5⟩:=sf2 ht
 unfold hB13 at h
 obtain ⟨e1,h⟩:=put_inj (by omega) (by omega) h
 obtain ⟨e2,h⟩:=put_inj (by omega) (by omega) h
 obtain ⟨e3,h⟩:=put_inj (by omega) (by omega) h
 have e:=names_inj _ _ (by rw [List.length_append,List.length_append,e1,e2]) (fun x hx=>by have:=a5 x hx;omega) (fun x hx=>by have:=b5 x hx;omega) h
 obtain ⟨sd,sm,sg⟩:=s
 obtain ⟨td,tm,tg⟩:=t
 simp only at e e1 e3 a3 b3
 obtain ⟨e4,e5⟩:=List.append_inj e e1
 subst e4 e5
 congr 1
 omega
end Tess
namespace Tess
open Go Kl Go.RowKit Go.Proofs.YtjdccifdkjnknaaGreatDoor
theorem decP_ok {s:Sch} {b:ByteArray} (h:(decP s b).2=0):encP s (decP s b).1=(b,0):=by
 unfold decP at *
 split at h
 ·cases h
 ·rename_i h1
  split at h
  ·rename_i h2;exact absurd h h2
  ·rename_i h2
   rw [if_neg h1,if_neg h2]
   split at h
   ·cases h
   ·rename_i C hC
    split at h
    ·rename_i h3
     rw [if_pos h3]
     exact h3
    ·cases h
theorem decP_bad {s:Sch} {b:ByteArray} (h:(decP s b).2≠0):(decP s b).1=[]:=by
 unfold decP at *
 split
 ·rfl
 ·split
  ·rfl
  ·split
   ·rfl
   ·rename_i h1 h2 _ C hC
    split
    ·rename_i h3
     exfalso
     apply h
     rw [if_neg h1,if_neg h2,hC]
     simp only
     rw [if_pos h3]
    ·rfl
theorem mk_inj {l m:List UInt8} (h:mk l=mk m):l=m:=by
 have:=congrArg (fun b:ByteArray=>b.data.toList) h
 simpa [ml3] using this
theorem dec_other {s t:Sch} {C:List (CK×Pay)} (h:(encP s C).2=0) (ht:sO t=true):((decP t (encP s C).1).2=0↔hB13 s=hB13 t)∧((decP t (encP s C).1).2=0∨(decP t (encP s C).1).2=130):=by
 obtain ⟨h1,h2,h3,h4⟩:=encP_ok h
 have h5:=se2 h3
 refine ⟨⟨fun hd => ?_,fun he => ?_⟩,?_⟩
 ·have e:=decP_ok hd
  obtain ⟨g1,g2,g3,g4⟩:=encP_ok (s:=t) (C:=(decP t (encP s C).1).1) (by rw [e])
  rw [g4,h4] at e
  have e2:encS t (decP t (encS s C,0).1).1=encS s C:=(Prod.mk.inj e).1
  rw [h4] at g3
  have h6:=se2 g3
  rw [e2,h5] at h6
  have h7:=(Prod.mk.inj h6).1
  unfold pS2 at h7
  rw [List.map_cons,List.map_cons] at h7
  exact mk_inj (List.cons.inj h7).1
 ·have:=head_inj h1 ht he
  subst this
  rw [dec_encP h]
 ·unfold decP
  rw [h4]
  simp only [ht,h5]
  rw [if_neg (by simp),if_neg (by simp)]
  split
  ·exact .inr rfl
  ·split
   ·exact .inl rfl
   ·exact .inr rfl
end Tess
namespace Tess
open Go Kl Go.RowKit Go.Proofs.YtjdccifdkjnknaaGreatDoor
theorem encR_right {s:Sch} {C:List RCel} (hr:RRng C) (h:rB2 s C=true):encR s C=encP s (C.map RCel.cel):=by
 have h2:=(rBc h hr).1
 unfold encR encP
 rw [h2.sch,h,cBi.2 h2,jPp]
 simp
end Tess
namespace Go.Proofs.YtjdccifdkjnknaaGreatDoor
open Go.RowKit Go.Sort
section
variable {f:Nat→Option (Obj×Obj)} {w w':World}
theorem turns_below {N:Nat} (hr:(turns f).r w w') (hN:N≤w.heap.size) (hf:∀ k,k < N→f k=none):Below N w w':=
 ⟨hr.1,hr.2.1,hr.2.2.1,hr.2.2.2.1,fun k hk=>tb2 hr (by omega) (hf k hk)⟩
end
end Go.Proofs.YtjdccifdkjnknaaGreatDoor
namespace Go.Proofs.YtjdccifdkjnknaaGreatDoor
open Go.RowKit Go.Sort
open Tess (CK Pay RCel)
theorem rows_min {α:Type} {k:Nat} {f:α→List Value} {p:Nat→Prop} {w:World} {a:Option Addr} {n c:Nat} {l:List α} (h:RA k f p w (.slice a n c) l) (m:Nat):RA k f p w (.slice a (min n m) c) (l.take m):=by
 obtain ⟨a',Ab,hv,h1,h2,h3,h4⟩:=h
 cases hv
 refine ⟨a,c,by rw [List.length_take,Nat.min_comm],by rw [List.length_take];omega,by rw [List.length_take];omega,h3,fun hl => ?_⟩
 rw [List.length_take] at hl
 obtain ⟨b,Aa,ha,hb,hp,hc⟩:=h4 (by omega)
 refine ⟨b,Aa,ha,hb,hp,fun j hj i hi => ?_⟩
 rw [List.length_take] at hj
 rw [hc j (by omega) i hi,List.getElem_take]
theorem rcel_nest:Nest 6 RA2 where
 ag h hg:=h.ag hg
 weak h hpq:=let ⟨_,_,_,_,e,h1,h2,h3,h4⟩:=h;⟨_,_,_,_,e,h1.weak hpq,h2.weak hpq,h3.weak hpq,h4.weak hpq⟩
 lt h:=let ⟨_,_,_,_,e,h1,h2,h3,h4⟩:=h;⟨_,_,_,_,e,h1.lt,h2.lt,h3.lt,h4.lt⟩
 len h:=by obtain ⟨_,_,_,_,rfl,_⟩:=h;rfl
 one h u hu:=by
  obtain ⟨vd,vs,vm,vx,rfl,h1,h2,h3,h4⟩:=h
  obtain ⟨_,_,rfl⟩:=h1.shape
  obtain ⟨_,_,rfl⟩:=h2.shape
  obtain ⟨_,_,rfl⟩:=h3.shape
  obtain ⟨_,_,rfl⟩:=h4.shape
  simp only [List.mem_cons,List.not_mem_nil,or_false] at hu
  rcases hu with rfl | rfl | rfl | rfl | rfl | rfl <;> rfl
def cutCel (x:RCel):RCel:=⟨x.t,cV2 x.l,x.n,x.sums.take 10,x.mins.take 10,x.maxs.take 10⟩
theorem turns_ag {B:Nat} {w w':World} (h:(turns fun _=>Option.none).r w w'):Ag (fun b=>B≤b) w w':=⟨h.2.2.2.1,fun _ hb _=>tb2 h hb rfl⟩
theorem turns_bel {w w':World} (h:(turns fun _=>Option.none).r w w'):Below w.heap.size w w':=turns_below h (Nat.le_refl _) fun _ _=>rfl
theorem bel_turns {w w':World} (h:Below w.heap.size w w'):(turns fun _=>Option.none).r w w':=⟨h.os,h.tape,h.output,h.size,fun k hk => .inl (h.block k hk)⟩
set_option maxRecDepth 100000 in
set_option maxHeartbeats 4000000 in
theorem few12_any (p:Nat→Prop) (v:Value) (l:List RCel) (w:World) (hv:LA 6 (RA2 p) p w v l) :
  Calls Tryz.prog 13 #[v] w fun e w' => ∃ v',e = .returned v'∧LA 6 (RA2 fun b=>p b∨w.heap.size≤b) (fun b=>p b∨w.heap.size≤b) w' v' ((l.take 50).map cutCel)∧Below w.heap.size w w':=by
 obtain ⟨a,B5,rfl,_,hl,_,hc⟩:=LA.open hv
 have hl:l.length≤9223372036854775807:=by unfold maxLen at hl;omega
 have HC:=Hd hc
 clear hc
 obtain ⟨i0,hi,Bl,Bj,Bp⟩:=info_parts iC
 go_enter Tryz.func13,Tryz.ntmps13
 go_wp2
 go_loopw [3,4] (fun v i wr => ∃ (k:Nat) (us:List (List Value)),k≤l.length∧k≤50∧i = .int .i64 k∧us.length=k∧OwnL w.heap.size 6 56 RA2 (fun b=>p b∨w.heap.size≤b) wr v us ((l.take k).map cutCel)∧(k=0→v = .slice none 0 0)∧Below w.heap.size w wr) (fun _ i _=>50 - (intOf i).toNat)
 case atStart=>exact ⟨0,[],Nat.zero_le _,Nat.zero_le _,rfl,rfl,OwnL.nil _,fun _=>rfl,Below.refl _ _⟩
 case round=>
  obtain ⟨k,us,hk,B0,rfl,A3,Aj,Ak,hB⟩:=hrel
  have HN:=Hd Ak
  have HU:=Hd A3
  have HO:=Hd Aj
  have HB:=Hd hB
  clear Ak A3 Aj
  by_cases hlt:k < l.length∧k < 50
  ·obtain ⟨h1,h2⟩:=hlt
   obtain ⟨b,A9,rfl,hb,_,cs,_,hR,Ad⟩:=HC.out k h1
   have HE:=Hd (show (l.take k).map cutCel ++ [cutCel l[k]]=(l.take (k + 1)).map cutCel by rw [List.take_succ_eq_append_getElem h1,List.map_append];rfl)
   generalize l[k]=x at *
   have hR:=rcel_nest.lt hR
   obtain ⟨vd,vs,vm,vx,rfl,hd,Aq,Ao,An⟩:=hR
   have Bd:=Hd (fun W (hW:Below wr.heap.size wr W)=>vals_any _ vd x.l W (hd.ag (Ag.new _ (Bt hB hW))))
   obtain ⟨ad,nd,cd,rfl⟩:∃ a n c,vd = .slice a n c:=by obtain ⟨_,_,rfl⟩:=hd.shape;exact ⟨_,_,_,rfl⟩
   obtain ⟨a3,n3,c3,rfl,Bb⟩:∃ a n c,vs = .slice a n c∧n≤c:=by obtain ⟨_,_,rfl,_,h,_⟩:=Aq;exact ⟨_,_,_,rfl,h⟩
   obtain ⟨a4,n4,c4,rfl,Bn⟩:∃ a n c,vm = .slice a n c∧n≤c:=by obtain ⟨_,_,rfl,_,h,_⟩:=Ao;exact ⟨_,_,_,rfl,h⟩
   obtain ⟨a5,n5,c5,rfl,Bf⟩:∃ a n c,vx = .slice a n c∧n≤c:=by obtain ⟨_,_,rfl,_,h,_⟩:=An;exact ⟨_,_,_,rfl,h⟩
   have Ay:=Hd (rows_min Aq 10)
   have Ax:=Hd (rows_min Ao 10)
   have A5:=Hd (rows_min An 10)
   have A0:n3≤maxLen∧n4≤maxLen∧n5≤maxLen:=by
    obtain ⟨_,_,e,h,_⟩:=Aq
    obtain ⟨_,_,e',h',_⟩:=Ao
    obtain ⟨_,_,Bh,Ba,_⟩:=An
    cases e;cases e';cases Bh
    exact ⟨h,h',Ba⟩
   obtain ⟨m3,Az⟩:∃ m,m=min n3 10:=⟨_,rfl⟩
   obtain ⟨m4,A2⟩:∃ m,m=min n4 10:=⟨_,rfl⟩
   obtain ⟨m5,Av⟩:∃ m,m=min n5 10:=⟨_,rfl⟩
   rw [← Az] at Ay
   rw [← A2] at Ax
   rw [← Av] at A5
   have A7:min (n3:Int) 10=(m3:Int):=by omega
   have Bq:min (n4:Int) 10=(m4:Int):=by omega
   have Be:min (n5:Int) 10=(m5:Int):=by omega
   have Bo:(m3:Int)≤(c3:Int):=by omega
   have Br:(m4:Int)≤(c4:Int):=by omega
   have Bu:(m5:Int)≤(c5:Int):=by omega
   unfold maxLen at A0
   obtain ⟨Bw,B4,Bz⟩:=A0
   have kc:=fun o (ho:o < 6)=>(HB.out.cell (p:=⟨b,A9 + k * 6 + o,none⟩) hb).trans (Ad o ho)
   have e0:=kc 0 (by omega)
   have e1:=kc 1 (by omega)
   have e2:=kc 2 (by omega)
   have e3:=kc 3 (by omega)
   have e4:=kc 4 (by omega)
   have e5:=kc 5 (by omega)
   simp only [Nat.add_zero,List.getElem?_cons_zero,List.getElem?_cons_succ] at e0 e1 e2 e3 e4 e5
   have By:(k:Int) < (l.length:Int):=by omega
   have B3:(k:Int) < 50:=by omega
   have B2:b < wr.heap.size:=Nat.lt_of_lt_of_le hb HB.out.size
   obtain ⟨W1,Aw⟩:∃ W1,wr.alloc (.cells #[.int .i64 x.t,.slice ad nd cd,.int .i64 x.n,.slice a3 n3 c3,.slice a4 n4 c4,.slice a5 n5 c5] 56)=W1:=⟨_,rfl⟩
   obtain ⟨k1,kS,kB⟩:=la2 wr (.cells #[.int .i64 x.t,.slice ad nd cd,.int .i64 x.n,.slice a3 n3 c3,.slice a4 n4 c4,.slice a5 n5 c5] 56)
   rw [Aw] at k1 kS kB
   have A6:=Hd k1
   have Ap:=Hd kB
   have As:wr.heap.size < W1.heap.size:=by omega
   clear kc Ad Az A2 Av Bb Bn Bf hd Aq Ao An hB k1 kS kB
   go_wp2_with (fail)
   clear Aw
   have A1:=Hd (fun V (hV:(turns fun _=>Option.none).r W1 V)=>(can6 ((tb2 hV As rfl).trans A6.out)).1)
   refine FlowE.wp_region (R:=turns fun _=>Option.none) 29 29 0 (FlowR.sp3 44 (fun _ => .inl undef) (.inl ?_ :: .inl ?_ :: .inl ?_ :: .inl ?_ :: .inl ?_ :: .inr (fun u W=>VA (fun b=>W1.heap.size≤b) W u (cV2 x.l)) :: .inl ?_ :: .inl ?_ :: .inl ?_ :: .inl ?_ :: .inl ?_ :: .inl ?_ :: .inl ?_ :: .inl ?_ :: .inl ?_ :: .inl ?_ :: .inl ?_ :: .inl ?_ :: .inl ?_ :: .inl ?_ :: .inl ?_ :: .inl ?_ :: .inl ?_ :: .inl ?_ :: .inl ?_ :: .inl ?_ :: .inl ?_ :: .inl ?_ :: .inl ?_ :: [])) (fun _=>0) (FlowR.specs_okU (by kernel_rfl)) (by kernel_rfl) (by kernel_rfl) ?_ rfl (by kernel_rfl) (by omega) (by first | (simp only [Region.wanted];done) | (simp [Region.wanted,yielded];done)) (fun w=>by go_simp;try rfl) ?_
   rotate_left 28
   ·refine FlowR.sm2 (fun x=>FlowR.mi _) ?_
    repeat (first | exact FlowR.ln2 | refine FlowR.li2 ?_ | refine FlowR.li3 (fun u A B h hr=>h.ag (turns_ag hr)) ?_)
   all_goals try simp only [FlowE.addE,List.modify_succ_cons,List.modify_zero_cons]
   all_goals try simp only [List.take_succ_cons,List.take_zero,List.drop_succ_cons,List.drop_zero]
   iterate 5 (refine FlowR.tvK rfl (fun K hK=>⟨fun V hw hG => ?_,?_⟩);(obtain ⟨t0,t1,t2,t3,t4,t5⟩:=A1.out V hw;clear hG hw;unfold FlowR.Runs FlowR.yields;go_simp;try rfl);go_simp;refine hK _ ?_;clear hK K)
   (refine FlowR.tvK2 rfl (fun K hK=>⟨fun V hw hG => ?_,?_⟩);(have HW:=Hd (turns_bel hw);clear hG hw;unfold FlowR.Runs FlowR.yields;go_simp;refine (Bd.out _ (Bt Ap.out HW.out)).mono ?_;rintro e w3 ⟨u,rfl,Bv,Bm⟩;exact ⟨u,rfl,bel_turns Bm,Bv.weak fun b hb=>Nat.le_trans HW.out.size hb⟩);intro vz;go_simp;refine hK _ _ ?_;clear hK K)
   iterate 23 (refine FlowR.tvK rfl (fun K hK=>⟨fun V hw hG => ?_,?_⟩);(obtain ⟨t0,t1,t2,t3,t4,t5⟩:=A1.out V hw;clear hG hw;unfold FlowR.Runs FlowR.yields;go_simp;try rfl);go_simp;refine hK _ ?_;clear hK K)
   refine FlowR.tn2 fun w2 hw2 hG => ?_
   have Am:=(show VA (fun b=>W1.heap.size≤b) w2 vz (cV2 x.l) by simpa [FlowR.upd] using hG 5)
   clear hG
   have At:=turns_bel hw2
   obtain ⟨z0,z1,rfl⟩:=Am.shape
   obtain ⟨nz,Au⟩:∃ nz,nz=(cV2 x.l).length:=⟨_,rfl⟩
   rw [← Au] at Am ⊢
   obtain ⟨W3,Bi⟩:∃ W3,w2.alloc (.cells #[.int .i64 x.t,.slice z0 nz z1,.int .i64 x.n,.slice a3 m3 c3,.slice a4 m4 c4,.slice a5 m5 c5] 56)=W3:=⟨_,rfl⟩
   obtain ⟨k1,kS,kB⟩:=la2 w2 (.cells #[.int .i64 x.t,.slice z0 nz z1,.int .i64 x.n,.slice a3 m3 c3,.slice a4 m4 c4,.slice a5 m5 c5] 56)
   rw [Bi] at k1 kS kB
   have Ai:=Bt At kB
   have Ae:=Bt Ap.out Ai
   have Bc:=Hd k1
   have Ar:=Hd (HO.out.below rcel_nest Ae)
   have Af:=Hd (Bt HB.out Ae)
   have Bx:=Af.out
   have HX:=Hd (show RA2 (fun b=>(p b∨w.heap.size≤b)∧u3.ownBlock≠some b) W3 [.int .i64 x.t,.slice z0 nz z1,.int .i64 x.n,.slice a3 m3 c3,.slice a4 m4 c4,.slice a5 m5 c5] (cutCel x) from by
    have Ah:∀ b,(p b∧b < w.heap.size)→(p b∨w.heap.size≤b)∧u3.ownBlock≠some b:=fun b hb=>⟨.inl hb.1,fun e=>by have:=(HO.out.own.lt b e).1;omega⟩
    refine ⟨_,_,_,_,rfl,(Am.ag (Ag.new _ kB)).weak fun b hb=>⟨.inr (by have:=Ap.out.size;have:=HB.out.size;omega),fun e=>by have:=(HO.out.own.lt b e).2;have:=Ap.out.size;omega⟩,(Ay.out.ag (Ag.new _ Af.out)).weak Ah,(Ax.out.ag (Ag.new _ Af.out)).weak Ah,(A5.out.ag (Ag.new _ Af.out)).weak Ah⟩)
   have Bg:W1.heap.size≤w2.heap.size:=At.size
   clear Am At kB Ai Ae hw2 k1 kS Au e0 e1 e2 e3 e4 e5
   go_wp2_with (at_builtin;refine wpList_append_own_at _ rfl _ _ 28 rfl w.heap.size 56 i0 (.agg #[.int .i64 0,.slice none 0 0,.int .i64 0,.slice none 0 0,.slice none 0 0,.slice none 0 0]) 6 112 Tryz.underlying28 hi Bl Bj Bp rfl (by decide) _ _ _ rfl Ar.out.own ⟨w2.heap.size,0,none⟩ 1 1 [.int .i64 x.t,.slice z0 nz z1,.int .i64 x.n,.slice a3 m3 c3,.slice a4 m4 c4,.slice a5 m5 c5] rfl rfl ?_ (rcel_nest.one HX.out) ?_ ?_ ?_ ?_)
   ·intro j u hj
    rw [addr_add,cell_of_row _ _ _ _ _ _ Bc.out,Nat.zero_add];simpa using hj
   ·have:=HU.out;unfold maxLen;omega
   ·have:=HU.out;omega
   ·exact Af.out.size
   intro v' w4 Ac Aa Al Ab
   have Bs:=Hd (Ar.out.more rcel_nest HX.out Ac Aa Ab)
   have A8:=Hd (Af.out.grown Aa Af.out.size (fun j e=>(Ar.out.own.lt j e).1))
   clear Ac Aa Al Ab
   go_wp2_with (fail)
   refine ⟨rfl,?_⟩
   go_wp2_with (fail)
   go_roundw
   case rel=>exact ⟨k + 1,us ++ [[.int .i64 x.t,.slice z0 nz z1,.int .i64 x.n,.slice a3 m3 c3,.slice a4 m4 c4,.slice a5 m5 c5]],by omega,by omega,by go_num,by simp [HU.out],by rw [← HE.out];exact Bs.out,fun h=>by omega,A8.out⟩
   case measure=>simp [intOf];omega
  ·have he:(l.take k).map cutCel=(l.take 50).map cutCel:=by
    by_cases e:k=50
    ·rw [e]
    ·rw [List.take_of_length_le (by omega),List.take_of_length_le (by omega)]
   rw [he] at HO
   have A4:((l.take 50).map cutCel).length=k:=by rw [← he];simp;omega
   have HL:=Hd (HO.out.listed (q:=fun b=>p b∨w.heap.size≤b) rcel_nest (fun _ h=>h) (fun _ h => .inr h) (by unfold maxLen;omega) (fun h=>HN.out (by rw [← A4,h];rfl)))
   clear hB he A4
   rcases (show (¬ (k:Int) < (l.length:Int))∨((k:Int) < (l.length:Int)∧¬ (k:Int) < 50) by omega) with Bk | ⟨B1,Bk⟩
   all_goals
    clear hlt
    go_wp2
    go_ret
    exact ⟨u3,rfl,(by have h:=HL.out;rw [List.map_take] at h;exact h),HB.out⟩
end Go.Proofs.YtjdccifdkjnknaaGreatDoor
namespace Go.Proofs.YtjdccifdkjnknaaGreatDoor
open Go.RowKit Go.ChangeShapes Go.WideShapes Go.Deep Go.Joins
open Tess (RCel)
instance:Inhabited RCel:=⟨⟨0,[],0,[],[],[]⟩⟩
section
variable {w:World} {H:Type} {enc:TypeId×Value→H} {held:Bool}
theorem rowsAt_of_trod {α:Type} [Inhabited α] (k:Nat) (hk0:0 < k) (f:α→List Value) (Q:α→Prop) {t e:TypeId} (ht:Tryz.prog.underlying t=some (.slice e)) (hc:Tryz.prog.cellsOf e=k)
  (hd:∀ n cs y,cs.length=k→DataW.trod enc Tryz.prog w 0 (fun _=>true) held n e cs=some y→∃ z,cs=f z∧Q z) {fuel:Nat} {v:Value} {x:DataW H×List MemPlace} (h:DataW.trod enc Tryz.prog w 0 (fun _=>true) held fuel t [v]=some x) :
  ∃ zs:List α,RA k f (fun _=>True) w v zs∧∀ z ∈ zs,Q z:=by
 obtain ⟨zs,⟨a,Ac,hv,h1,h2,h3,h4⟩,hq⟩:=lAo k hk0 (fun _ cs z=>cs=f z) Q ht hc hd h
 refine ⟨zs,⟨a,Ac,hv,h1,h2,h3,fun hp => ?_⟩,hq⟩
 obtain ⟨b,Ab,ha,hb,hp,Aa⟩:=h4 hp
 refine ⟨b,Ab,ha,hb,hp,fun j hj i hi => ?_⟩
 obtain ⟨cs,e1,e2,e3⟩:=Aa j hj
 rw [e3 i hi,e2]
theorem uint_cell {fuel:Nat} {v:Value} {x:DataW H×List MemPlace} (h:DataW.trod enc Tryz.prog w 0 (fun _=>true) held fuel 92 [v]=some x):∃ z,v = .int .u64 z∧0≤z∧z≤18446744073709551615:=by
 obtain ⟨z,hz,_,hw⟩:=DataW.trod_int Tryz.underlying92 h
 simp only [Lit.wf,Bool.and_eq_true,decide_eq_true_eq] at hw
 exact ⟨z,by simpa using hz,hw.1,hw.2⟩
theorem ints1_of_trod {fuel:Nat} {v:Value} {x:DataW H×List MemPlace} (h:DataW.trod enc Tryz.prog w 0 (fun _=>true) held fuel 49 [v]=some x) :
  ∃ zs:List Int,RA 1 intF (fun _=>True) w v zs∧∀ z ∈ zs,-9223372036854775808≤z∧z≤9223372036854775807:=
 rowsAt_of_trod 1 (by decide) intF _ Tryz.underlying49 (by kernel_rfl) (fun n cs y hl hy=>by
  match cs,hl with
  | [c],_=>
    obtain ⟨z,rfl,hz⟩:=ic hy
    exact ⟨z,rfl,hz⟩) h
set_option maxRecDepth 100000 in
theorem wides_of_trod {fuel:Nat} {v:Value} {x:DataW H×List MemPlace} (h:DataW.trod enc Tryz.prog w 0 (fun _=>true) held fuel 54 [v]=some x):∃ zs:List Int,RA 2 wF (fun _=>True) w v zs:=by
 obtain ⟨zs,hz,_⟩:=rowsAt_of_trod (α:=Int) 2 (by decide) wF (fun _=>True) Tryz.underlying54 (by kernel_rfl) (fun n cs y hl hy=>by
  have Aa:Tryz.prog.cellsOf 100=2:=by kernel_rfl
  obtain ⟨y0,y1,n',_,Ab,t0,t1⟩:=trod_struct2 Tryz.underlying100 hy
  match cs,hl with
  | [c0,c1],_=>
    have k0:Tryz.prog.cellsOf 2=1:=by kernel_rfl
    have k1:Tryz.prog.cellsOf 92=1:=by kernel_rfl
    obtain ⟨hi,rfl,h1,h2⟩:=ic (by simpa [k0] using t0)
    obtain ⟨lo,rfl,h3,h4⟩:=uint_cell (by simpa [k0,k1] using t1)
    refine ⟨hi * 18446744073709551616 + lo,?_,trivial⟩
    have e1:wHi (hi * 18446744073709551616 + lo)=hi:=by unfold wHi;omega
    have e2:wLo (hi * 18446744073709551616 + lo)=lo:=by unfold wLo;omega
    simp [wF,e1,e2]) h
 exact ⟨zs,hz⟩
set_option maxRecDepth 100000 in
theorem rcel_of_trod {n:Nat} {cs:List Value} {y:DataW H×List MemPlace} (hl:cs.length=6) (h:DataW.trod enc Tryz.prog w 0 (fun _=>true) held n 56 cs=some y) :
  ∃ r:RCel,RA2 (fun _=>True) w cs r∧(∀ z ∈ r.mins,-9223372036854775808≤z∧z≤9223372036854775807)∧∀ z ∈ r.maxs,-9223372036854775808≤z∧z≤9223372036854775807:=by
 have k0:Tryz.prog.cellsOf 2=1:=by kernel_rfl
 have k1:Tryz.prog.cellsOf 48=1:=by kernel_rfl
 have k2:Tryz.prog.cellsOf 49=1:=by kernel_rfl
 have k3:Tryz.prog.cellsOf 54=1:=by kernel_rfl
 obtain ⟨xs,n',rfl,_,_,Aa,hf⟩:=DataW.trod_struct Tryz.underlying56 h
 match cs,hl,xs,(show xs.length=6 from Aa) with
 | [c0,c1,c2,c3,c4,c5],_,[y0,y1,y2,y3,y4,y5],_=>
   have h0:DataW.trod enc Tryz.prog w 0 (fun _=>true) held n' 2 [c0]=some y0:=by simpa [k0] using hf 0 _ rfl
   have h1:DataW.trod enc Tryz.prog w 0 (fun _=>true) held n' 48 [c1]=some y1:=by simpa [k0,k1] using hf 1 _ rfl
   have h2:DataW.trod enc Tryz.prog w 0 (fun _=>true) held n' 2 [c2]=some y2:=by simpa [k0,k1] using hf 2 _ rfl
   have h3:DataW.trod enc Tryz.prog w 0 (fun _=>true) held n' 54 [c3]=some y3:=by simpa [k0,k1,k3] using hf 3 _ rfl
   have h4:DataW.trod enc Tryz.prog w 0 (fun _=>true) held n' 49 [c4]=some y4:=by simpa [k0,k1,k2,k3] using hf 4 _ rfl
   have h5:DataW.trod enc Tryz.prog w 0 (fun _=>true) held n' 49 [c5]=some y5:=by simpa [k0,k1,k2,k3] using hf 5 _ rfl
   obtain ⟨t,rfl,_⟩:=ic h0
   obtain ⟨l,hl⟩:=vot h1
   obtain ⟨m,rfl,_⟩:=ic h2
   obtain ⟨ss,hs⟩:=wides_of_trod h3
   obtain ⟨ms,hm,g1⟩:=ints1_of_trod h4
   obtain ⟨xs,hx,g2⟩:=ints1_of_trod h5
   exact ⟨⟨t,l,m,ss,ms,xs⟩,⟨c1,c3,c4,c5,rfl,hl,hs,hm,hx⟩,g1,g2⟩
set_option maxRecDepth 100000 in
theorem open_cells {r:Reach} {b0:Nat} {v:Value} {d:DataW H} {ps:List MemPlace} (hval:Value.okWide Tryz.prog w r b0 28 v) (hd:DataW.Trod enc Tryz.prog w 0 (fun _=>true) held 28 v d ps) :
  ∃ l:List RCel,LA 6 (RA2 fun _=>True) (fun _=>True) w v l∧Tess.RRng l:=by
 obtain ⟨a0,Ab,Aa,rfl⟩:=okWide_slice Tryz.underlying28 hval
 obtain ⟨Ac,hf⟩:=hd
 exact lAo 6 (by decide) (RA2 fun _=>True) _ Tryz.underlying28 (by kernel_rfl) (fun n cs y hl hy=>rcel_of_trod hl hy) (by simpa [Value.cells] using hf)
end
end Go.Proofs.YtjdccifdkjnknaaGreatDoor
namespace Tess
open Go Kl Go.RowKit Go.Proofs.YtjdccifdkjnknaaGreatDoor
theorem schemas_law {s t:Sch} {C:List RCel} (hr:RRng C) (hl:C.length≤50) :
  (encR s C).1.size≤1000000∧((sO s=false∧(encR s C).2=100)∨(sO s=true∧(encR s C).2=120)∨(sO s=true∧(encR s C).2=0∧(sO t=true →
   ((decP t (encR s C).1).2=0∧hB13 s=hB13 t)∨((decP t (encR s C).1).2=130∧(decP t (encR s C).1).1=[]∧hB13 s≠hB13 t)))):=by
 cases h1:sO s
 ·have e:encR s C=(mk [],100):=by unfold encR;rw [if_pos h1]
  rw [e]
  exact ⟨by simp [ms2],.inl ⟨rfl,rfl⟩⟩
 ·cases h2:rB2 s C
  ·have e:encR s C=(mk [],120):=by unfold encR;rw [if_neg (by simp [h1]),if_pos h2]
   rw [e]
   exact ⟨by simp [ms2],.inr (.inl ⟨rfl,rfl⟩)⟩
  ·have hc:=(rBc h2 hr).1
   have Aa:(C.map RCel.cel).length≤50:=by rw [List.length_map];exact hl
   have h0:(encP s (C.map RCel.cel)).2=0:=by rw [efo hc Aa]
   rw [encR_right hr h2]
   refine ⟨gs3 hc Aa,.inr (.inr ⟨rfl,h0,fun ht => ?_⟩)⟩
   obtain ⟨h3,h4⟩:=dec_other h0 ht
   rcases h4 with h4 | h4
   ·exact .inl ⟨h4,h3.1 h4⟩
   ·exact .inr ⟨h4,decP_bad (by rw [h4];decide),fun hh=>by have:=h3.2 hh;omega⟩
end Tess
namespace Go.Proofs.YtjdccifdkjnknaaGreatDoor
open Go.RowKit Go.Sort
open Tess (CK Pay CO RCel)
theorem cutCel_rng {C:List RCel} (h:Tess.RRng C):Tess.RRng ((C.take 50).map cutCel):=fun x hx=>by
 obtain ⟨y,hy,rfl⟩:=List.mem_map.1 hx
 have:=h y (List.mem_of_mem_take hy)
 exact ⟨fun z hz=>this.1 z (List.mem_of_mem_take hz),fun z hz=>this.2 z (List.mem_of_mem_take hz)⟩
theorem Nest.ltL {α:Type} {k:Nat} {R:(Nat→Prop)→World→List Value→α→Prop} (N:Nest k R) {p:Nat→Prop} {w:World} {v:Value} {l:List α} (h:LA k (R p) p w v l):LA k (R fun b=>p b∧b < w.heap.size) (fun b=>p b∧b < w.heap.size) w v l:=by
 obtain ⟨a,c,hv,h1,h2,h3,h4⟩:=h
 refine ⟨a,c,hv,h1,h2,h3,fun hl => ?_⟩
 obtain ⟨b,Aa,ha,hb,hp,hc⟩:=h4 hl
 exact ⟨b,Aa,ha,hb,⟨hp,hb⟩,fun j hj=>let ⟨cs,h5,h6,h7⟩:=hc j hj;⟨cs,h5,N.lt h6,h7⟩⟩
end Go.Proofs.YtjdccifdkjnknaaGreatDoor
namespace Tess
open Go Kl Go.RowKit Go.Proofs.YtjdccifdkjnknaaGreatDoor
theorem back_law {s:Sch} {C:List RCel} (hr:RRng C) (hl:C.length≤50) :
  (encR s C).1.size≤1000000∧(((encR s C).2=100∨(encR s C).2=120)∨((encR s C).2=0∧decP s (encR s C).1=(C.map RCel.cel,0)∧∀ x ∈ C,x.l.all vO=true)):=by
 obtain ⟨h0,h1⟩:=schemas_law (s:=s) (t:=s) hr hl
 refine ⟨h0,?_⟩
 rcases h1 with ⟨_,h⟩ | ⟨_,h⟩ | ⟨hs,h,_⟩
 ·exact .inl (.inl h)
 ·exact .inl (.inr h)
 ·have h2:rB2 s C=true:=by
   cases h2:rB2 s C
   ·exfalso
    unfold encR at h
    rw [if_neg (by simp [hs]),if_pos h2] at h
    cases h
   ·rfl
  refine .inr ⟨h,?_,(rBc h2 hr).2⟩
  rw [encR_right hr h2] at h ⊢
  exact dec_encP h
theorem back_two {s:Sch} {b:ByteArray} {D:List (CK×Pay)} {z:Nat} (h:(D,z)=decP s b) :
  RRng (D.map toR)∧((z=0∧encP s D=(b,0)∧rB2 s (D.map toR)=true)∨(z≠0∧D=[])):=by
 by_cases hz:z=0
 ·subst hz
  have h2:(decP s b).2=0:=by rw [← h]
  have h3:=decP_ok h2
  rw [← h] at h3
  have Aa:=(encP_ok (s:=s) (C:=D) (by rw [h3])).2.1
  have hr:=rng_ok Aa
  exact ⟨hr,.inl ⟨rfl,h3,by rw [right_toR hr];exact cBi.2 Aa⟩⟩
 ·have h2:(decP s b).1=[]:=decP_bad (by rw [← h];exact hz)
  rw [← h] at h2
  have h2:D=[]:=h2
  subst h2
  exact ⟨(fun _ h=>by cases h),.inr ⟨hz,rfl⟩⟩
end Tess
namespace Go.Proofs.YtjdccifdkjnknaaGreatDoor
open Go.RowKit Go.Sort
open Tess (CK Pay CO RCel)
def cut13 (b:ByteArray):ByteArray:=b.extract 0 (min (b.size:Int) 6000).toNat
theorem cut13_size (b:ByteArray):(cut13 b).size≤6000:=by unfold cut13;simp;omega
theorem cut13_any (b:ByteArray) (w:World):Calls Tryz.prog 16 #[.string b] w fun e w'=>e = .returned (.string (cut13 b))∧Below w.heap.size w w':=by
 go_enter Tryz.func16,Tryz.ntmps16
 go_wp2
 go_ret
 exact ⟨rfl,Below.refl _ _⟩
theorem cels_ofR {p:Nat→Prop} {W:World} {v:Value} {C:List RCel} (h:LA 6 (RA2 p) p W v C) (hv:∀ x ∈ C,x.l.all Tess.vO=true):CA2 p W v (C.map RCel.cel):=LA.maps RCel.cel h fun _ x hx h=>h.cel (hv x hx)
set_option maxRecDepth 100000 in
set_option maxHeartbeats 8000000 in
theorem SegmentBack_any (a0 a1 a2:Addr) {vs vr:Value} {C0:List RCel} {s0:Tess.Sch} (b:ByteArray) (w:World) (hv:DV2 a0 a1 w) (hsv:SV a2 w) (hs:SA (fun _=>True) w vs s0) (hr:LA 6 (RA2 fun _=>True) (fun _=>True) w vr C0) (hrng:Tess.RRng C0) :
  Calls Tryz.prog 4 #[vs,vr,.string b] w fun e w'=>e = .returned (.bool true)∧Below w.heap.size w w':=by
 have Bs:=Hd (rcel_nest.ltL hr)
 clear hr
 obtain ⟨vd,vm,rfl,hd,hm,A8,Aq⟩:=hs.ltK
 have HS:=Hd (show SA (fun b=>True∧b < w.heap.size) w (.agg #[vd,vm,.int .i64 s0.grain]) s0 from ⟨vd,vm,rfl,hd,hm,A8,Aq⟩)
 obtain ⟨ad,At,rfl,_⟩:=sl3 hd
 obtain ⟨am,As,rfl,_⟩:=sl3 hm
 clear hd hm A8 Aq hs
 have HV:=Hd hv
 have Bi:=Hd hsv
 clear hv hsv
 obtain ⟨W0,Ce⟩:∃ W0,w.alloc (.cells #[.slice ad s0.dims.length At,.slice am s0.mets.length As,.int .i64 s0.grain] 24)=W0:=⟨_,rfl⟩
 obtain ⟨k0,kS,kB⟩:=la2 w (.cells #[.slice ad s0.dims.length At,.slice am s0.mets.length As,.int .i64 s0.grain] 24)
 rw [Ce] at k0 kS kB
 have K0:=Hd k0
 have B0:=Hd kB
 clear k0 kS kB
 have By:=cutCel_rng hrng
 have Bj:((C0.take 50).map cutCel).length≤50:=by rw [List.length_map,List.length_take];omega
 obtain ⟨L,hL⟩:∃ L,(C0.take 50).map cutCel=L:=⟨_,rfl⟩
 rw [hL] at By Bj
 have HL:=Hd hL
 have Bf:=Hd By
 have Bq:=Hd Bj
 clear hL By Bj hrng
 go_enter Tryz.func4,Tryz.ntmps4
 go_wp2_with (fail)
 go_at_call 7
 refine (sa9 a0 a1 a2 W0 (HV.out.below B0.out) (Bi.out.below B0.out)).mono ?_
 rintro e W1 ⟨rfl,Bx⟩
 have B1:=Hd (Bt B0.out Bx)
 have k1:=(Bx.block _ (Array.getElem?_eq_some_iff.1 K0.out).1).trans K0.out
 have Az:=(Array.getElem?_eq_some_iff.1 k1).1
 clear Bx Ce
 obtain ⟨⟨x0,x1,x2⟩,x3,x4,x5⟩:=can3 k1
 go_wp2_with (fail)
 go_at_call 8
 refine (cutSch_any _ s0 W1 _ (HS.out.ag (Ag.new _ B1.out))).mono ?_
 rintro e W2 ⟨Cz,rfl,Bd,Bo⟩
 have B2:=Hd (Bt B1.out Bo)
 have k2:=(Bo.block _ Az).trans k1
 have Bd:=Bd.weak (q:=Nb w.heap.size) (fun b hb e=>by have e:b=w.heap.size:=e;omega)
 obtain ⟨s,Cd⟩:∃ s,cutSch s0=s:=⟨_,rfl⟩
 rw [Cd] at Bd
 clear Cd
 obtain ⟨Ck,Cb,rfl,hd,hm,A8,Aq⟩:=Bd
 have Cc:=Hd (show SA (Nb w.heap.size) W2 (.agg #[Ck,Cb,.int .i64 s.grain]) s from ⟨Ck,Cb,rfl,hd,hm,A8,Aq⟩)
 obtain ⟨Cq,Ay,rfl,_⟩:=sl3 hd
 obtain ⟨Cp,A6,rfl,_⟩:=sl3 hm
 obtain ⟨W3,Cg,k3,Af,Bh⟩:=box_put k2 (.slice Cq s.dims.length Ay) (.slice Cp s.mets.length A6) (.int .i64 s.grain)
 have Cw:=Hd (Cc.out.ag Af)
 have B3:=Hd (B2.out.trans (Bh _ (Nat.le_refl _)))
 clear x0 x1 x2 x3 x4 x5 hd hm A8 Aq Cc Af Bh HS
 obtain ⟨⟨x0,x1,x2⟩,x3,x4,x5⟩:=can3 k2
 go_wp2_with (fail)
 try rw [Cg]
 clear Cg x0 x1 x2 x3 x4 x5 Az k1 k2 Bo
 go_at_call 13
 refine (few12_any _ vr C0 W3 (LA.ag Bs.out (Ag.new _ B3.out) fun _ _ _ h=>h.ag (Ag.new _ B3.out))).mono ?_
 rintro e W4 ⟨v4,rfl,Ak,Bg⟩
 rw [HL.out] at Ak
 have Bz:=(Array.getElem?_eq_some_iff.1 k3).1
 have Ak:=LA.weak Ak (q:=Nb w.heap.size) (fun b hb e=>by
  have e:b=w.heap.size:=e
  rcases hb with hb | hb
  ·have:=hb.2;omega
  ·omega) fun _ _ _ h=>rcel_nest.weak h (q:=Nb w.heap.size) (fun b hb e=>by
  have e:b=w.heap.size:=e
  rcases hb with hb | hb
  ·have:=hb.2;omega
  ·omega)
 have B4:=Hd (Bt B3.out Bg)
 have k4:=(Bg.block _ Bz).trans k3
 have Cl:=(Array.getElem?_eq_some_iff.1 k4).1
 have Cf:=Hd (Cw.out.ag (Ag.new _ Bg))
 have Bu:=Hd Ak
 obtain ⟨ra,rc,rfl,Cx,_⟩:=LA.open Ak
 have HE:=Hd (sa3 (Nb w.heap.size) _ _ s L W4 Cf.out Ak Bf.out)
 have Ab:=Hd (Tess.back_law (s:=s) Bf.out Bq.out)
 obtain ⟨⟨A1,zA⟩,Cj⟩:∃ x,x=Tess.encR s L:=⟨_,rfl⟩
 rw [← Cj] at HE Ab
 dsimp only at HE Ab
 clear Ak Bg Bz k3 Cj
 obtain ⟨⟨x0,x1,x2⟩,_⟩:=can3 k4
 go_wp2_with (fail)
 go_at_call 11
 refine HE.out.mono ?_
 rintro e W5 ⟨rfl,A5⟩
 have k5:=(A5.block _ Cl).trans k4
 have Ca:=(Array.getElem?_eq_some_iff.1 k5).1
 have B5:=Hd (Bt B4.out A5)
 have Cm:=Hd (Cf.out.ag (Ag.new _ A5))
 have Br:=Hd (RCels.ag Bu.out (Ag.new _ A5))
 have HD:=Hd (sa6 a0 a1 a2 (Nb w.heap.size) _ s A1 W5 (HV.out.below B5.out) (Bi.out.below B5.out) Cm.out Ab.out.1)
 unfold SP2 at HD
 have Ab:=Hd Ab.out.2
 obtain ⟨⟨D,zD⟩,Ch⟩:∃ x,x=Tess.decP s A1:=⟨_,rfl⟩
 rw [← Ch] at HD Ab
 dsimp only at HD Ab
 clear A5 k4 Cl Ch x0 x1 x2
 obtain ⟨⟨x0,x1,x2⟩,_⟩:=can3 k5
 go_wp2_with (fail)
 go_at_call 14
 refine HD.out.mono ?_
 rintro e W6 ⟨vD,rfl,A4,Bw⟩
 obtain ⟨da,dc,rfl,Cy,_⟩:=LA.open Bw
 have Bl:=Hd Bw
 have k6:=(A4.block _ Ca).trans k5
 have Bm:=(Array.getElem?_eq_some_iff.1 k6).1
 have B6:=Hd (Bt B5.out A4)
 have Be:=Hd (Cm.out.ag (Ag.new _ A4))
 have Bk:=Hd (RCels.ag Br.out (Ag.new _ A4))
 clear A4 Bw k5 Ca x0 x1 x2
 have Aw:=Hd (cut13_size b)
 have Ah:=Hd (cut13_any b)
 generalize cut13 b=B13 at *
 rcases Ab.out with (rfl | rfl) | ⟨rfl,hD2,hvo⟩
 iterate 2
  ·obtain ⟨W7,Cu⟩:∃ W7,W7=W6:=⟨_,rfl⟩
   subst Cu
   have k7:=k6
   have B7:=B6
   have A0:=Be
   go_wp2_with (fail)
   clear k6 B6 Be HE Bu Br Bk HL Bf Bq Ab Bs HD Bm Bl
   obtain ⟨⟨x0,x1,x2⟩,_⟩:=can3 k7
   have A2:=(Array.getElem?_eq_some_iff.1 k7).1
   refine FlowT.wp_region 3 [3,4,5,6,7,8] [4,5,6] 7 8 (Flow.sp3 [.inl ?_,.inl ?_,.inl (.string B13)]) (by kernel_rfl) (by kernel_rfl) ?_ rfl rfl rfl ?_
   rotate_left 2
   ·refine Flow.sm2 ?_
    repeat (first | exact Flow.ln2 | refine Flow.li2 ?_)
   all_goals try simp only [List.take_succ_cons,List.take_zero]
   iterate 2 (refine Flow.tvK rfl (fun K hK=>⟨fun w' hw hG => ?_,?_⟩);(have A7:=Flow.bc4 hw;clear hG hw;unfold Flow.Runs Flow.yields;go_simp;try rfl);go_simp;refine hK _ ?_;clear hK K)
   (refine Flow.tvK rfl (fun K hK=>⟨fun w' hw hG => ?_,?_⟩);(clear hG hw;unfold Flow.Runs Flow.yields;go_simp;refine (Ah.out _).mono ?_;rintro e w3 ⟨rfl,Bv⟩;exact ⟨rfl,Bv⟩);go_simp;refine hK _ ?_;clear hK K)
   refine Flow.tn2 fun W8 hB8 hG => ?_
   clear hG
   have k8:=(hB8.block _ A2).trans k7
   have Av:=(Array.getElem?_eq_some_iff.1 k8).1
   have B8:=Hd (Bt B7.out hB8)
   have Ar:=Hd (A0.out.ag (Ag.new _ hB8))
   have HD:=Hd (sa6 a0 a1 a2 (Nb w.heap.size) _ s B13 W8 (HV.out.below B8.out) (Bi.out.below B8.out) Ar.out (by have:=Aw.out;omega))
   unfold SP2 at HD
   obtain ⟨⟨E,zE⟩,Al⟩:∃ x,x=Tess.decP s B13:=⟨_,rfl⟩
   rw [← Al] at HD
   dsimp only at HD
   have HT:=Hd (Tess.back_two Al)
   clear hB8 k7 A2 Al x0 x1 x2 A0 B7
   obtain ⟨⟨x0,x1,x2⟩,_⟩:=can3 k8
   go_wp2_with (fail)
   go_at_call 14
   refine HD.out.mono ?_
   rintro e W9 ⟨vE,rfl,Ai,Ad⟩
   obtain ⟨ea,ec,rfl,Cn,_⟩:=LA.open Ad
   go_wp2_with (fail)
   refine ⟨rfl,_,_,rfl,rfl,(fun w=>by go_simp;try rfl),_,_,rfl,rfl,(fun w=>by go_simp;try rfl),_,_,rfl,rfl,(fun w=>by go_simp;try rfl),?_⟩
   apply both_ways
   ·intro h
    go_wp2_with (fail)
    exact ⟨rfl,h⟩
   ·intro h
    go_wp2_with (fail)
    exact ⟨rfl,h⟩
   have k9:=(Ai.block _ Av).trans k8
   have Ap:=(Array.getElem?_eq_some_iff.1 k9).1
   have B9:=Hd (Bt B8.out Ai)
   have Bb:=Hd (Ar.out.ag (Ag.new _ Ai))
   have Ad:=ctR (Ad.weak (q:=Nb w.heap.size) fun b hb e=>by
    have e:b=w.heap.size:=e
    omega)
   have Bp:=Hd Ad
   have HE:=Hd (sa3 (Nb w.heap.size) _ _ s (E.map Tess.toR) W9 Bb.out Ad HT.out.1)
   rw [Tess.eRt HT.out.1] at HE
   have HT:=Hd HT.out.2
   obtain ⟨⟨A3,z3⟩,Af⟩:∃ x,x=Tess.encP s E:=⟨_,rfl⟩
   rw [← Af] at HE HT
   dsimp only at HE
   clear Ai Ad k8 Av HD x0 x1 x2
   obtain ⟨⟨x0,x1,x2⟩,_⟩:=can3 k9
   go_wp2_with (fail)
   go_at_call 11
   refine HE.out.mono ?_
   rintro e Aj ⟨rfl,Aa⟩
   have Am:=(Aa.block _ Ap).trans k9
   have A9:=Hd (Bt B9.out Aa)
   have An:=Hd (Bb.out.ag (Ag.new _ Aa))
   have Ao:=Hd (RCels.ag Bp.out (Ag.new _ Aa))
   clear Aa k9 Ap HE x0 x1 x2
   rcases HT.out with ⟨rfl,h1,h2⟩ | ⟨h1,rfl⟩
   rotate_left
   ·obtain ⟨u,hu⟩:∃ u:Int,(zE:Int)=u:=⟨_,rfl⟩
    have Ba:¬ u=0:=by omega
    have Ct:(u != 0)=true:=by rw [bne_iff_ne];exact Ba
    have Co:(u == 0)=false:=by rw [beq_eq_false_iff_ne];exact Ba
    rw [hu]
    go_wp2_with (fail)
    go_ret
    exact ⟨rfl,A9.out⟩
   have Au:=Hd (fun W (hW:Below Aj.heap.size Aj W)=>right_full _ _ _ s (E.map Tess.toR) W (An.out.ag (Ag.new _ hW)) (RCels.ag Ao.out (Ag.new _ hW)) (rng_ok (Tess.encP_ok (s:=s) (C:=E) (by rw [← Af,h1])).2.1))
   obtain ⟨rfl,rfl⟩:=Prod.mk.inj h1
   rw [h2] at Au
   have Bh:(A3.toList == A3.toList)=true:=by simp
   clear h1 h2 Af
   go_wp2_with (fail)
   go_at_call 16
   refine (Ah.out Aj).mono ?_
   rintro e Cs ⟨rfl,Ac⟩
   have Ax:=(Ac.block _ (Array.getElem?_eq_some_iff.1 Am).1).trans Am
   obtain ⟨⟨x0,x1,x2⟩,_⟩:=can3 Ax
   go_wp2_with (fail)
   go_at_call 17
   refine (Au.out _ Ac).mono ?_
   rintro e Cv ⟨rfl,Ae⟩
   have Bn:=Hd (Bt (Bt A9.out Ac) Ae)
   clear Ac Ae x0 x1 x2 Am Ax
   go_wp2_with (fail)
   go_ret
   exact ⟨rfl,Bn.out⟩
 ·obtain ⟨Ci,rfl⟩:=Prod.mk.inj hD2
  have A7:=cels_ofR Bk.out hvo
  rw [← Ci] at A7
  have Cr:=Hd (same12_eq _ _ _ _ _ W6 Bl.out A7)
  clear hvo A7 Ci hD2
  go_wp2_with (fail)
  go_at_call 15
  refine Cr.out.mono ?_
  rintro e W7 ⟨rfl,Bc⟩
  have k7:=(Bc.block _ Bm).trans k6
  have B7:=Hd (Bt B6.out Bc)
  have A0:=Hd (Be.out.ag (Ag.new _ Bc))
  clear Bc
  go_wp2_with (fail)
  clear k6 B6 Be HE Bu Br Bk HL Bf Bq Ab Bs HD Bm Bl
  obtain ⟨⟨x0,x1,x2⟩,_⟩:=can3 k7
  have A2:=(Array.getElem?_eq_some_iff.1 k7).1
  refine FlowT.wp_region 3 [3,4,5,6,7,8] [4,5,6] 7 8 (Flow.sp3 [.inl ?_,.inl ?_,.inl (.string B13)]) (by kernel_rfl) (by kernel_rfl) ?_ rfl rfl rfl ?_
  rotate_left 2
  ·refine Flow.sm2 ?_
   repeat (first | exact Flow.ln2 | refine Flow.li2 ?_)
  all_goals try simp only [List.take_succ_cons,List.take_zero]
  iterate 2 (refine Flow.tvK rfl (fun K hK=>⟨fun w' hw hG => ?_,?_⟩);(have A7:=Flow.bc4 hw;clear hG hw;unfold Flow.Runs Flow.yields;go_simp;try rfl);go_simp;refine hK _ ?_;clear hK K)
  (refine Flow.tvK rfl (fun K hK=>⟨fun w' hw hG => ?_,?_⟩);(clear hG hw;unfold Flow.Runs Flow.yields;go_simp;refine (Ah.out _).mono ?_;rintro e w3 ⟨rfl,Bv⟩;exact ⟨rfl,Bv⟩);go_simp;refine hK _ ?_;clear hK K)
  refine Flow.tn2 fun W8 hB8 hG => ?_
  clear hG
  have k8:=(hB8.block _ A2).trans k7
  have Av:=(Array.getElem?_eq_some_iff.1 k8).1
  have B8:=Hd (Bt B7.out hB8)
  have Ar:=Hd (A0.out.ag (Ag.new _ hB8))
  have HD:=Hd (sa6 a0 a1 a2 (Nb w.heap.size) _ s B13 W8 (HV.out.below B8.out) (Bi.out.below B8.out) Ar.out (by have:=Aw.out;omega))
  unfold SP2 at HD
  obtain ⟨⟨E,zE⟩,Al⟩:∃ x,x=Tess.decP s B13:=⟨_,rfl⟩
  rw [← Al] at HD
  dsimp only at HD
  have HT:=Hd (Tess.back_two Al)
  clear hB8 k7 A2 Al x0 x1 x2 A0 B7
  obtain ⟨⟨x0,x1,x2⟩,_⟩:=can3 k8
  go_wp2_with (fail)
  go_at_call 14
  refine HD.out.mono ?_
  rintro e W9 ⟨vE,rfl,Ai,Ad⟩
  obtain ⟨ea,ec,rfl,Cn,_⟩:=LA.open Ad
  go_wp2_with (fail)
  refine ⟨rfl,_,_,rfl,rfl,(fun w=>by go_simp;try rfl),_,_,rfl,rfl,(fun w=>by go_simp;try rfl),_,_,rfl,rfl,(fun w=>by go_simp;try rfl),?_⟩
  apply both_ways
  ·intro h
   go_wp2_with (fail)
   exact ⟨rfl,h⟩
  ·intro h
   go_wp2_with (fail)
   exact ⟨rfl,h⟩
  have k9:=(Ai.block _ Av).trans k8
  have Ap:=(Array.getElem?_eq_some_iff.1 k9).1
  have B9:=Hd (Bt B8.out Ai)
  have Bb:=Hd (Ar.out.ag (Ag.new _ Ai))
  have Ad:=ctR (Ad.weak (q:=Nb w.heap.size) fun b hb e=>by
   have e:b=w.heap.size:=e
   omega)
  have Bp:=Hd Ad
  have HE:=Hd (sa3 (Nb w.heap.size) _ _ s (E.map Tess.toR) W9 Bb.out Ad HT.out.1)
  rw [Tess.eRt HT.out.1] at HE
  have HT:=Hd HT.out.2
  obtain ⟨⟨A3,z3⟩,Af⟩:∃ x,x=Tess.encP s E:=⟨_,rfl⟩
  rw [← Af] at HE HT
  dsimp only at HE
  clear Ai Ad k8 Av HD x0 x1 x2
  obtain ⟨⟨x0,x1,x2⟩,_⟩:=can3 k9
  go_wp2_with (fail)
  go_at_call 11
  refine HE.out.mono ?_
  rintro e Aj ⟨rfl,Aa⟩
  have Am:=(Aa.block _ Ap).trans k9
  have A9:=Hd (Bt B9.out Aa)
  have An:=Hd (Bb.out.ag (Ag.new _ Aa))
  have Ao:=Hd (RCels.ag Bp.out (Ag.new _ Aa))
  clear Aa k9 Ap HE x0 x1 x2
  rcases HT.out with ⟨rfl,h1,h2⟩ | ⟨h1,rfl⟩
  rotate_left
  ·obtain ⟨u,hu⟩:∃ u:Int,(zE:Int)=u:=⟨_,rfl⟩
   have Ba:¬ u=0:=by omega
   have Ct:(u != 0)=true:=by rw [bne_iff_ne];exact Ba
   have Co:(u == 0)=false:=by rw [beq_eq_false_iff_ne];exact Ba
   rw [hu]
   go_wp2_with (fail)
   go_ret
   exact ⟨rfl,A9.out⟩
  have Au:=Hd (fun W (hW:Below Aj.heap.size Aj W)=>right_full _ _ _ s (E.map Tess.toR) W (An.out.ag (Ag.new _ hW)) (RCels.ag Ao.out (Ag.new _ hW)) (rng_ok (Tess.encP_ok (s:=s) (C:=E) (by rw [← Af,h1])).2.1))
  obtain ⟨rfl,rfl⟩:=Prod.mk.inj h1
  rw [h2] at Au
  have Bh:(A3.toList == A3.toList)=true:=by simp
  clear h1 h2 Af
  go_wp2_with (fail)
  go_at_call 16
  refine (Ah.out Aj).mono ?_
  rintro e Cs ⟨rfl,Ac⟩
  have Ax:=(Ac.block _ (Array.getElem?_eq_some_iff.1 Am).1).trans Am
  obtain ⟨⟨x0,x1,x2⟩,_⟩:=can3 Ax
  go_wp2_with (fail)
  go_at_call 17
  refine (Au.out _ Ac).mono ?_
  rintro e Cv ⟨rfl,Ae⟩
  have Bn:=Hd (Bt (Bt A9.out Ac) Ae)
  clear Ac Ae x0 x1 x2 Am Ax
  go_wp2_with (fail)
  go_ret
  exact ⟨rfl,Bn.out⟩
end Go.Proofs.YtjdccifdkjnknaaGreatDoor
namespace Go.Proofs.YtjdccifdkjnknaaGreatDoor
open Go.RowKit Go.Sort
open Tess (RCel)
theorem SegmentBackW_any {vs vr:Value} {C0:List RCel} {s0:Tess.Sch} {P2:Prop} (b:ByteArray) (w:World) (hV:∃ a0 a1 a2,DV2 a0 a1 w∧SV a2 w) (hs:SA (fun _=>True) w vs s0) (hr:LA 6 (RA2 fun _=>True) (fun _=>True) w vr C0) (hrng:Tess.RRng C0) (_:P2) :
  Calls Tryz.prog 4 #[vs,vr,.string b] w fun e w'=>e = .returned (.bool true)∧Below w.heap.size w w':=by
 obtain ⟨a0,a1,a2,hv,Aa⟩:=hV
 exact SegmentBack_any a0 a1 a2 b w hv Aa hs hr hrng
end Go.Proofs.YtjdccifdkjnknaaGreatDoor
