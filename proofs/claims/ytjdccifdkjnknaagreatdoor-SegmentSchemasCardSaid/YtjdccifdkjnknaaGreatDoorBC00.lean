/- Joined by mergeK2.py: UP, U29p, U29, U29W -/
import Derived.Test.YtjdccifdkjnknaaGreatDoorAC14
import Derived.Test.YtjdccifdkjnknaaGreatDoorAC33
import Derived.Test.YtjdccifdkjnknaaGreatDoorAD37
namespace Tess
open Go Kl Go.RowKit Go.Proofs.YtjdccifdkjnknaaGreatDoor
theorem put_inj {n m:Nat} (hn:n < 18446744073709551616) (hm:m < 18446744073709551616) {r t:List UInt8} (h:putL n ++ r=putL m ++ t):n=m∧r=t:=by
 have e1:=gWp n hn r
 have e2:=gWp m hm t
 rw [h] at e1
 rw [e1] at e2
 simp only [Prod.mk.injEq,and_true] at e2
 exact ⟨e2.1,by have:=congrArg (fun b:ByteArray=>b.data.toList) e2.2;simpa [ml3] using this⟩
theorem names_inj:∀ (l m:List ByteArray),l.length=m.length→(∀ x ∈ l,x.size≤100)→(∀ x ∈ m,x.size≤100)→l.flatMap nB2=m.flatMap nB2→l=m
 | [],[],_,_,_,_=>rfl
 | x :: l,y :: m,hl,h1,h2,h=>by
   rw [List.flatMap_cons,List.flatMap_cons] at h
   unfold nB2 at h
   rw [List.append_assoc,List.append_assoc] at h
   have hx:=h1 x (by simp)
   have hy:=h2 y (by simp)
   obtain ⟨e1,e2⟩:=put_inj (by omega) (by omega) h
   have e3:x.data.toList=y.data.toList:=by
    have:=congrArg (List.take x.size) e2
    rw [List.take_left' (show x.data.toList.length=x.size from Array.length_toList),List.take_left' (by rw [e1];exact Array.length_toList)] at this
    exact this
   rw [e3] at e2
   have e4:=List.append_cancel_left e2
   have e5:x=y:=me2 e3
   rw [e5,names_inj l m (by simpa using hl) (fun z hz=>h1 z (by simp [hz])) (fun z hz=>h2 z (by simp [hz])) e4]
theorem head_inj {s t:Sch} (hs:sO s=true) (ht:sO t=true) (h:hB13 s=hB13 t):s=t:=by
 obtain ⟨a1,a2,a3,a4,a5⟩:=sf2 hs
 obtain ⟨b1,b2,b3,b4,b5⟩:=sf2 ht
 unfold hB13 at h
 obtain ⟨e1,h⟩:=put_inj (by omega) (by omega) h
 obtain ⟨e2,h⟩:=put_inj (by omega) (by omega) h
 obtain ⟨e3,h⟩:=put_inj (by omega) (by omega) h
 have e:=names_inj _ _ (by rw [List.length_append,List.length_append,e1,e2]) (fun x hx=>by have:=a5 x hx;omega) (fun x hx=>by have:=b5 x hx;omega) h
 obtain ⟨sd,sm,sg⟩:=s
 obtain ⟨td,tm,tg⟩:=t
 simp only at e e1 e3 a3 b3
 obtain ⟨e4,e5⟩:=List.append_inj e e1
 subst e4 e5
 congr 1
 omega
end Tess
namespace Tess
open Go Kl Go.RowKit Go.Proofs.YtjdccifdkjnknaaGreatDoor
theorem decP_ok {s:Sch} {b:ByteArray} (h:(decP s b).2=0):encP s (decP s b).1=(b,0):=by
 unfold decP at *
 split at h
 ·cases h
 ·rename_i h1
  split at h
  ·rename_i h2;exact absurd h h2
  ·rename_i h2
   rw [if_neg h1,if_neg h2]
   split at h
   ·cases h
   ·rename_i C hC
    split at h
    ·rename_i h3
     rw [if_pos h3]
     exact h3
    ·cases h
theorem decP_bad {s:Sch} {b:ByteArray} (h:(decP s b).2≠0):(decP s b).1=[]:=by
 unfold decP at *
 split
 ·rfl
 ·split
  ·rfl
  ·split
   ·rfl
   ·rename_i h1 h2 _ C hC
    split
    ·rename_i h3
     exfalso
     apply h
     rw [if_neg h1,if_neg h2,hC]
     simp only
     rw [if_pos h3]
    ·rfl
theorem mk_inj {l m:List UInt8} (h:mk l=mk m):l=m:=by
 have:=congrArg (fun b:ByteArray=>b.data.toList) h
 simpa [ml3] using this
theorem dec_other {s t:Sch} {C:List (CK×Pay)} (h:(encP s C).2=0) (ht:sO t=true):((decP t (encP s C).1).2=0↔hB13 s=hB13 t)∧((decP t (encP s C).1).2=0∨(decP t (encP s C).1).2=130):=by
 obtain ⟨h1,h2,h3,h4⟩:=encP_ok h
 have h5:=se2 h3
 refine ⟨⟨fun hd => ?_,fun he => ?_⟩,?_⟩
 ·have e:=decP_ok hd
  obtain ⟨g1,g2,g3,g4⟩:=encP_ok (s:=t) (C:=(decP t (encP s C).1).1) (by rw [e])
  rw [g4,h4] at e
  have e2:encS t (decP t (encS s C,0).1).1=encS s C:=(Prod.mk.inj e).1
  rw [h4] at g3
  have h6:=se2 g3
  rw [e2,h5] at h6
  have h7:=(Prod.mk.inj h6).1
  unfold pS2 at h7
  rw [List.map_cons,List.map_cons] at h7
  exact mk_inj (List.cons.inj h7).1
 ·have:=head_inj h1 ht he
  subst this
  rw [dec_encP h]
 ·unfold decP
  rw [h4]
  simp only [ht,h5]
  rw [if_neg (by simp),if_neg (by simp)]
  split
  ·exact .inr rfl
  ·split
   ·exact .inl rfl
   ·exact .inr rfl
end Tess
namespace Tess
open Go Kl Go.RowKit Go.Proofs.YtjdccifdkjnknaaGreatDoor
theorem encR_right {s:Sch} {C:List RCel} (hr:RRng C) (h:rB2 s C=true):encR s C=encP s (C.map RCel.cel):=by
 have h2:=(rBc h hr).1
 unfold encR encP
 rw [h2.sch,h,cBi.2 h2,jPp]
 simp
end Tess
namespace Go.Proofs.YtjdccifdkjnknaaGreatDoor
open Go.RowKit Go.Sort
section
variable {f:Nat→Option (Obj×Obj)} {w w':World}
theorem turns_below {N:Nat} (hr:(turns f).r w w') (hN:N≤w.heap.size) (hf:∀ k,k < N→f k=none):Below N w w':=
 ⟨hr.1,hr.2.1,hr.2.2.1,hr.2.2.2.1,fun k hk=>tb2 hr (by omega) (hf k hk)⟩
end
end Go.Proofs.YtjdccifdkjnknaaGreatDoor
namespace Go.Proofs.YtjdccifdkjnknaaGreatDoor
open Go.RowKit Go.Sort
open Tess (CK Pay RCel)
theorem rows_min {α:Type} {k:Nat} {f:α→List Value} {p:Nat→Prop} {w:World} {a:Option Addr} {n c:Nat} {l:List α} (h:RA k f p w (.slice a n c) l) (m:Nat):RA k f p w (.slice a (min n m) c) (l.take m):=by
 obtain ⟨a',Ab,hv,h1,h2,h3,h4⟩:=h
 cases hv
 refine ⟨a,c,by rw [List.length_take,Nat.min_comm],by rw [List.length_take];omega,by rw [List.length_take];omega,h3,fun hl => ?_⟩
 rw [List.length_take] at hl
 obtain ⟨b,Aa,ha,hb,hp,hc⟩:=h4 (by omega)
 refine ⟨b,Aa,ha,hb,hp,fun j hj i hi => ?_⟩
 rw [List.length_take] at hj
 rw [hc j (by omega) i hi,List.getElem_take]
theorem rcel_nest:Nest 6 RA2 where
 ag h hg:=h.ag hg
 weak h hpq:=let ⟨_,_,_,_,e,h1,h2,h3,h4⟩:=h;⟨_,_,_,_,e,h1.weak hpq,h2.weak hpq,h3.weak hpq,h4.weak hpq⟩
 lt h:=let ⟨_,_,_,_,e,h1,h2,h3,h4⟩:=h;⟨_,_,_,_,e,h1.lt,h2.lt,h3.lt,h4.lt⟩
 len h:=by obtain ⟨_,_,_,_,rfl,_⟩:=h;rfl
 one h u hu:=by
  obtain ⟨vd,vs,vm,vx,rfl,h1,h2,h3,h4⟩:=h
  obtain ⟨_,_,rfl⟩:=h1.shape
  obtain ⟨_,_,rfl⟩:=h2.shape
  obtain ⟨_,_,rfl⟩:=h3.shape
  obtain ⟨_,_,rfl⟩:=h4.shape
  simp only [List.mem_cons,List.not_mem_nil,or_false] at hu
  rcases hu with rfl | rfl | rfl | rfl | rfl | rfl <;> rfl
def cutCel (x:RCel):RCel:=⟨x.t,cV2 x.l,x.n,x.sums.take 10,x.mins.take 10,x.maxs.take 10⟩
theorem turns_ag {B:Nat} {w w':World} (h:(turns fun _=>Option.none).r w w'):Ag (fun b=>B≤b) w w':=⟨h.2.2.2.1,fun _ hb _=>tb2 h hb rfl⟩
theorem turns_bel {w w':World} (h:(turns fun _=>Option.none).r w w'):Below w.heap.size w w':=turns_below h (Nat.le_refl _) fun _ _=>rfl
theorem bel_turns {w w':World} (h:Below w.heap.size w w'):(turns fun _=>Option.none).r w w':=⟨h.os,h.tape,h.output,h.size,fun k hk => .inl (h.block k hk)⟩
set_option maxRecDepth 100000 in
set_option maxHeartbeats 4000000 in
theorem few12_any (p:Nat→Prop) (v:Value) (l:List RCel) (w:World) (hv:LA 6 (RA2 p) p w v l) :
  Calls Tryz.prog 13 #[v] w fun e w' => ∃ v',e = .returned v'∧LA 6 (RA2 fun b=>p b∨w.heap.size≤b) (fun b=>p b∨w.heap.size≤b) w' v' ((l.take 50).map cutCel)∧Below w.heap.size w w':=by
 obtain ⟨a,Bz,rfl,_,hl,_,hc⟩:=LA.open hv
 have hl:l.length≤9223372036854775807:=by unfold maxLen at hl;omega
 have HC:=Hd hc
 clear hc
 obtain ⟨i0,hi,Bb,Br,Bo⟩:=info_parts iC
 go_enter Tryz.func13,Tryz.ntmps13
 go_wp2
 go_loopw [3,4] (fun v i wr => ∃ (k:Nat) (us:List (List Value)),k≤l.length∧k≤50∧i = .int .i64 k∧us.length=k∧OwnL w.heap.size 6 56 RA2 (fun b=>p b∨w.heap.size≤b) wr v us ((l.take k).map cutCel)∧(k=0→v = .slice none 0 0)∧Below w.heap.size w wr) (fun _ i _=>50 - (intOf i).toNat)
 case atStart=>exact ⟨0,[],Nat.zero_le _,Nat.zero_le _,rfl,rfl,OwnL.nil _,fun _=>rfl,Below.refl _ _⟩
 case round=>
  obtain ⟨k,us,hk,B2,rfl,A5,Ai,Al,hB⟩:=hrel
  have HN:=Hd Al
  have HU:=Hd A5
  have HO:=Hd Ai
  have HB:=Hd hB
  clear Al A5 Ai
  by_cases hlt:k < l.length∧k < 50
  ·obtain ⟨h1,h2⟩:=hlt
   obtain ⟨b,A9,rfl,hb,_,cs,_,hR,Ab⟩:=HC.out k h1
   have HE:=Hd (show (l.take k).map cutCel ++ [cutCel l[k]]=(l.take (k + 1)).map cutCel by rw [List.take_succ_eq_append_getElem h1,List.map_append];rfl)
   generalize l[k]=x at *
   have hR:=rcel_nest.lt hR
   obtain ⟨vd,vs,vm,vx,rfl,hd,Ao,An,Aq⟩:=hR
   have A7:=Hd (fun W (hW:Below wr.heap.size wr W)=>vals_any _ vd x.l W (hd.ag (Ag.new _ (Bt hB hW))))
   obtain ⟨ad,nd,cd,rfl⟩:∃ a n c,vd = .slice a n c:=by obtain ⟨_,_,rfl⟩:=hd.shape;exact ⟨_,_,_,rfl⟩
   obtain ⟨a3,n3,c3,rfl,Bm⟩:∃ a n c,vs = .slice a n c∧n≤c:=by obtain ⟨_,_,rfl,_,h,_⟩:=Ao;exact ⟨_,_,_,rfl,h⟩
   obtain ⟨a4,n4,c4,rfl,Bl⟩:∃ a n c,vm = .slice a n c∧n≤c:=by obtain ⟨_,_,rfl,_,h,_⟩:=An;exact ⟨_,_,_,rfl,h⟩
   obtain ⟨a5,n5,c5,rfl,Bq⟩:∃ a n c,vx = .slice a n c∧n≤c:=by obtain ⟨_,_,rfl,_,h,_⟩:=Aq;exact ⟨_,_,_,rfl,h⟩
   have Av:=Hd (rows_min Ao 10)
   have Ay:=Hd (rows_min An 10)
   have Az:=Hd (rows_min Aq 10)
   have A2:n3≤maxLen∧n4≤maxLen∧n5≤maxLen:=by
    obtain ⟨_,_,e,h,_⟩:=Ao
    obtain ⟨_,_,e',h',_⟩:=An
    obtain ⟨_,_,Bp,Bd,_⟩:=Aq
    cases e;cases e';cases Bp
    exact ⟨h,h',Bd⟩
   obtain ⟨m3,Au⟩:∃ m,m=min n3 10:=⟨_,rfl⟩
   obtain ⟨m4,A0⟩:∃ m,m=min n4 10:=⟨_,rfl⟩
   obtain ⟨m5,Aw⟩:∃ m,m=min n5 10:=⟨_,rfl⟩
   rw [← Au] at Av
   rw [← A0] at Ay
   rw [← Aw] at Az
   have Bg:min (n3:Int) 10=(m3:Int):=by omega
   have Bv:min (n4:Int) 10=(m4:Int):=by omega
   have Bj:min (n5:Int) 10=(m5:Int):=by omega
   have A8:(m3:Int)≤(c3:Int):=by omega
   have Bi:(m4:Int)≤(c4:Int):=by omega
   have Bu:(m5:Int)≤(c5:Int):=by omega
   unfold maxLen at A2
   obtain ⟨Bx,B4,By⟩:=A2
   have kc:=fun o (ho:o < 6)=>(HB.out.cell (p:=⟨b,A9 + k * 6 + o,none⟩) hb).trans (Ab o ho)
   have e0:=kc 0 (by omega)
   have e1:=kc 1 (by omega)
   have e2:=kc 2 (by omega)
   have e3:=kc 3 (by omega)
   have e4:=kc 4 (by omega)
   have e5:=kc 5 (by omega)
   simp only [Nat.add_zero,List.getElem?_cons_zero,List.getElem?_cons_succ] at e0 e1 e2 e3 e4 e5
   have B1:(k:Int) < (l.length:Int):=by omega
   have Bw:(k:Int) < 50:=by omega
   have B3:b < wr.heap.size:=Nat.lt_of_lt_of_le hb HB.out.size
   obtain ⟨W1,A4⟩:∃ W1,wr.alloc (.cells #[.int .i64 x.t,.slice ad nd cd,.int .i64 x.n,.slice a3 n3 c3,.slice a4 n4 c4,.slice a5 n5 c5] 56)=W1:=⟨_,rfl⟩
   obtain ⟨k1,kS,kB⟩:=la2 wr (.cells #[.int .i64 x.t,.slice ad nd cd,.int .i64 x.n,.slice a3 n3 c3,.slice a4 n4 c4,.slice a5 n5 c5] 56)
   rw [A4] at k1 kS kB
   have Ba:=Hd k1
   have Am:=Hd kB
   have As:wr.heap.size < W1.heap.size:=by omega
   clear kc Ab Au A0 Aw Bm Bl Bq hd Ao An Aq hB k1 kS kB
   go_wp2_with (fail)
   clear A4
   have A1:=Hd (fun V (hV:(turns fun _=>Option.none).r W1 V)=>(can6 ((tb2 hV As rfl).trans Ba.out)).1)
   refine FlowE.wp_region (R:=turns fun _=>Option.none) 29 29 0 (FlowR.sp3 44 (fun _ => .inl undef) (.inl ?_ :: .inl ?_ :: .inl ?_ :: .inl ?_ :: .inl ?_ :: .inr (fun u W=>VA (fun b=>W1.heap.size≤b) W u (cV2 x.l)) :: .inl ?_ :: .inl ?_ :: .inl ?_ :: .inl ?_ :: .inl ?_ :: .inl ?_ :: .inl ?_ :: .inl ?_ :: .inl ?_ :: .inl ?_ :: .inl ?_ :: .inl ?_ :: .inl ?_ :: .inl ?_ :: .inl ?_ :: .inl ?_ :: .inl ?_ :: .inl ?_ :: .inl ?_ :: .inl ?_ :: .inl ?_ :: .inl ?_ :: .inl ?_ :: [])) (fun _=>0) (FlowR.specs_okU (by kernel_rfl)) (by kernel_rfl) (by kernel_rfl) ?_ rfl (by kernel_rfl) (by omega) (by first | (simp only [Region.wanted];done) | (simp [Region.wanted,yielded];done)) (fun w=>by go_simp;try rfl) ?_
   rotate_left 28
   ·refine FlowR.sm2 (fun x=>FlowR.mi _) ?_
    repeat (first | exact FlowR.ln2 | refine FlowR.li2 ?_ | refine FlowR.li3 (fun u A B h hr=>h.ag (turns_ag hr)) ?_)
   all_goals try simp only [FlowE.addE,List.modify_succ_cons,List.modify_zero_cons]
   all_goals try simp only [List.take_succ_cons,List.take_zero,List.drop_succ_cons,List.drop_zero]
   iterate 5 (refine FlowR.tvK rfl (fun K hK=>⟨fun V hw hG => ?_,?_⟩);(obtain ⟨t0,t1,t2,t3,t4,t5⟩:=A1.out V hw;clear hG hw;unfold FlowR.Runs FlowR.yields;go_simp;try rfl);go_simp;refine hK _ ?_;clear hK K)
   (refine FlowR.tvK2 rfl (fun K hK=>⟨fun V hw hG => ?_,?_⟩);(have HW:=Hd (turns_bel hw);clear hG hw;unfold FlowR.Runs FlowR.yields;go_simp;refine (A7.out _ (Bt Am.out HW.out)).mono ?_;rintro e w3 ⟨u,rfl,Bc,Bf⟩;exact ⟨u,rfl,bel_turns Bf,Bc.weak fun b hb=>Nat.le_trans HW.out.size hb⟩);intro vz;go_simp;refine hK _ _ ?_;clear hK K)
   iterate 23 (refine FlowR.tvK rfl (fun K hK=>⟨fun V hw hG => ?_,?_⟩);(obtain ⟨t0,t1,t2,t3,t4,t5⟩:=A1.out V hw;clear hG hw;unfold FlowR.Runs FlowR.yields;go_simp;try rfl);go_simp;refine hK _ ?_;clear hK K)
   refine FlowR.tn2 fun w2 hw2 hG => ?_
   have Ap:=(show VA (fun b=>W1.heap.size≤b) w2 vz (cV2 x.l) by simpa [FlowR.upd] using hG 5)
   clear hG
   have Ar:=turns_bel hw2
   obtain ⟨z0,z1,rfl⟩:=Ap.shape
   obtain ⟨nz,A3⟩:∃ nz,nz=(cV2 x.l).length:=⟨_,rfl⟩
   rw [← A3] at Ap ⊢
   obtain ⟨W3,Bh⟩:∃ W3,w2.alloc (.cells #[.int .i64 x.t,.slice z0 nz z1,.int .i64 x.n,.slice a3 m3 c3,.slice a4 m4 c4,.slice a5 m5 c5] 56)=W3:=⟨_,rfl⟩
   obtain ⟨k1,kS,kB⟩:=la2 w2 (.cells #[.int .i64 x.t,.slice z0 nz z1,.int .i64 x.n,.slice a3 m3 c3,.slice a4 m4 c4,.slice a5 m5 c5] 56)
   rw [Bh] at k1 kS kB
   have Ak:=Bt Ar kB
   have Ah:=Bt Am.out Ak
   have Be:=Hd k1
   have At:=Hd (HO.out.below rcel_nest Ah)
   have Ae:=Hd (Bt HB.out Ah)
   have B0:=Ae.out
   have HX:=Hd (show RA2 (fun b=>(p b∨w.heap.size≤b)∧u3.ownBlock≠some b) W3 [.int .i64 x.t,.slice z0 nz z1,.int .i64 x.n,.slice a3 m3 c3,.slice a4 m4 c4,.slice a5 m5 c5] (cutCel x) from by
    have Af:∀ b,(p b∧b < w.heap.size)→(p b∨w.heap.size≤b)∧u3.ownBlock≠some b:=fun b hb=>⟨.inl hb.1,fun e=>by have:=(HO.out.own.lt b e).1;omega⟩
    refine ⟨_,_,_,_,rfl,(Ap.ag (Ag.new _ kB)).weak fun b hb=>⟨.inr (by have:=Am.out.size;have:=HB.out.size;omega),fun e=>by have:=(HO.out.own.lt b e).2;have:=Am.out.size;omega⟩,(Av.out.ag (Ag.new _ Ae.out)).weak Af,(Ay.out.ag (Ag.new _ Ae.out)).weak Af,(Az.out.ag (Ag.new _ Ae.out)).weak Af⟩)
   have Bs:W1.heap.size≤w2.heap.size:=Ar.size
   clear Ap Ar kB Ak Ah hw2 k1 kS A3 e0 e1 e2 e3 e4 e5
   go_wp2_with (at_builtin;refine wpList_append_own_at _ rfl _ _ 28 rfl w.heap.size 56 i0 (.agg #[.int .i64 0,.slice none 0 0,.int .i64 0,.slice none 0 0,.slice none 0 0,.slice none 0 0]) 6 112 Tryz.underlying28 hi Bb Br Bo rfl (by decide) _ _ _ rfl At.out.own ⟨w2.heap.size,0,none⟩ 1 1 [.int .i64 x.t,.slice z0 nz z1,.int .i64 x.n,.slice a3 m3 c3,.slice a4 m4 c4,.slice a5 m5 c5] rfl rfl ?_ (rcel_nest.one HX.out) ?_ ?_ ?_ ?_)
   ·intro j u hj
    rw [addr_add,cell_of_row _ _ _ _ _ _ Be.out,Nat.zero_add];simpa using hj
   ·have:=HU.out;unfold maxLen;omega
   ·have:=HU.out;omega
   ·exact Ae.out.size
   intro v' w4 Ac Aa Aj Ad
   have A6:=Hd (At.out.more rcel_nest HX.out Ac Aa Ad)
   have Bk:=Hd (Ae.out.grown Aa Ae.out.size (fun j e=>(At.out.own.lt j e).1))
   clear Ac Aa Aj Ad
   go_wp2_with (fail)
   refine ⟨rfl,?_⟩
   go_wp2_with (fail)
   go_roundw
   case rel=>exact ⟨k + 1,us ++ [[.int .i64 x.t,.slice z0 nz z1,.int .i64 x.n,.slice a3 m3 c3,.slice a4 m4 c4,.slice a5 m5 c5]],by omega,by omega,by go_num,by simp [HU.out],by rw [← HE.out];exact A6.out,fun h=>by omega,Bk.out⟩
   case measure=>simp [intOf];omega
  ·have he:(l.take k).map cutCel=(l.take 50).map cutCel:=by
    by_cases e:k=50
    ·rw [e]
    ·rw [List.take_of_length_le (by omega),List.take_of_length_le (by omega)]
   rw [he] at HO
   have Ax:((l.take 50).map cutCel).length=k:=by rw [← he];simp;omega
   have HL:=Hd (HO.out.listed (q:=fun b=>p b∨w.heap.size≤b) rcel_nest (fun _ h=>h) (fun _ h => .inr h) (by unfold maxLen;omega) (fun h=>HN.out (by rw [← Ax,h];rfl)))
   clear hB he Ax
   rcases (show (¬ (k:Int) < (l.length:Int))∨((k:Int) < (l.length:Int)∧¬ (k:Int) < 50) by omega) with Bn | ⟨B5,Bn⟩
   all_goals
    clear hlt
    go_wp2
    go_ret
    exact ⟨u3,rfl,(by have h:=HL.out;rw [List.map_take] at h;exact h),HB.out⟩
end Go.Proofs.YtjdccifdkjnknaaGreatDoor
namespace Go.Proofs.YtjdccifdkjnknaaGreatDoor
open Go.RowKit Go.ChangeShapes Go.WideShapes Go.Deep Go.Joins
open Tess (RCel)
instance:Inhabited RCel:=⟨⟨0,[],0,[],[],[]⟩⟩
section
variable {w:World} {H:Type} {enc:TypeId×Value→H} {held:Bool}
theorem rowsAt_of_trod {α:Type} [Inhabited α] (k:Nat) (hk0:0 < k) (f:α→List Value) (Q:α→Prop) {t e:TypeId} (ht:Tryz.prog.underlying t=some (.slice e)) (hc:Tryz.prog.cellsOf e=k)
  (hd:∀ n cs y,cs.length=k→DataW.trod enc Tryz.prog w 0 (fun _=>true) held n e cs=some y→∃ z,cs=f z∧Q z) {fuel:Nat} {v:Value} {x:DataW H×List MemPlace} (h:DataW.trod enc Tryz.prog w 0 (fun _=>true) held fuel t [v]=some x) :
  ∃ zs:List α,RA k f (fun _=>True) w v zs∧∀ z ∈ zs,Q z:=by
 obtain ⟨zs,⟨a,Ab,hv,h1,h2,h3,h4⟩,hq⟩:=lAo k hk0 (fun _ cs z=>cs=f z) Q ht hc hd h
 refine ⟨zs,⟨a,Ab,hv,h1,h2,h3,fun hp => ?_⟩,hq⟩
 obtain ⟨b,Ac,ha,hb,hp,Aa⟩:=h4 hp
 refine ⟨b,Ac,ha,hb,hp,fun j hj i hi => ?_⟩
 obtain ⟨cs,e1,e2,e3⟩:=Aa j hj
 rw [e3 i hi,e2]
theorem uint_cell {fuel:Nat} {v:Value} {x:DataW H×List MemPlace} (h:DataW.trod enc Tryz.prog w 0 (fun _=>true) held fuel 92 [v]=some x):∃ z,v = .int .u64 z∧0≤z∧z≤18446744073709551615:=by
 obtain ⟨z,hz,_,hw⟩:=DataW.trod_int Tryz.underlying92 h
 simp only [Lit.wf,Bool.and_eq_true,decide_eq_true_eq] at hw
 exact ⟨z,by simpa using hz,hw.1,hw.2⟩
theorem ints1_of_trod {fuel:Nat} {v:Value} {x:DataW H×List MemPlace} (h:DataW.trod enc Tryz.prog w 0 (fun _=>true) held fuel 49 [v]=some x) :
  ∃ zs:List Int,RA 1 intF (fun _=>True) w v zs∧∀ z ∈ zs,-9223372036854775808≤z∧z≤9223372036854775807:=
 rowsAt_of_trod 1 (by decide) intF _ Tryz.underlying49 (by kernel_rfl) (fun n cs y hl hy=>by
  match cs,hl with
  | [c],_=>
    obtain ⟨z,rfl,hz⟩:=ic hy
    exact ⟨z,rfl,hz⟩) h
set_option maxRecDepth 100000 in
theorem wides_of_trod {fuel:Nat} {v:Value} {x:DataW H×List MemPlace} (h:DataW.trod enc Tryz.prog w 0 (fun _=>true) held fuel 54 [v]=some x):∃ zs:List Int,RA 2 wF (fun _=>True) w v zs:=by
 obtain ⟨zs,hz,_⟩:=rowsAt_of_trod (α:=Int) 2 (by decide) wF (fun _=>True) Tryz.underlying54 (by kernel_rfl) (fun n cs y hl hy=>by
  have Ab:Tryz.prog.cellsOf 100=2:=by kernel_rfl
  obtain ⟨y0,y1,n',_,Aa,t0,t1⟩:=trod_struct2 Tryz.underlying100 hy
  match cs,hl with
  | [c0,c1],_=>
    have k0:Tryz.prog.cellsOf 2=1:=by kernel_rfl
    have k1:Tryz.prog.cellsOf 92=1:=by kernel_rfl
    obtain ⟨hi,rfl,h1,h2⟩:=ic (by simpa [k0] using t0)
    obtain ⟨lo,rfl,h3,h4⟩:=uint_cell (by simpa [k0,k1] using t1)
    refine ⟨hi * 18446744073709551616 + lo,?_,trivial⟩
    have e1:wHi (hi * 18446744073709551616 + lo)=hi:=by unfold wHi;omega
    have e2:wLo (hi * 18446744073709551616 + lo)=lo:=by unfold wLo;omega
    simp [wF,e1,e2]) h
 exact ⟨zs,hz⟩
set_option maxRecDepth 100000 in
theorem rcel_of_trod {n:Nat} {cs:List Value} {y:DataW H×List MemPlace} (hl:cs.length=6) (h:DataW.trod enc Tryz.prog w 0 (fun _=>true) held n 56 cs=some y) :
  ∃ r:RCel,RA2 (fun _=>True) w cs r∧(∀ z ∈ r.mins,-9223372036854775808≤z∧z≤9223372036854775807)∧∀ z ∈ r.maxs,-9223372036854775808≤z∧z≤9223372036854775807:=by
 have k0:Tryz.prog.cellsOf 2=1:=by kernel_rfl
 have k1:Tryz.prog.cellsOf 48=1:=by kernel_rfl
 have k2:Tryz.prog.cellsOf 49=1:=by kernel_rfl
 have k3:Tryz.prog.cellsOf 54=1:=by kernel_rfl
 obtain ⟨xs,n',rfl,_,_,Aa,hf⟩:=DataW.trod_struct Tryz.underlying56 h
 match cs,hl,xs,(show xs.length=6 from Aa) with
 | [c0,c1,c2,c3,c4,c5],_,[y0,y1,y2,y3,y4,y5],_=>
   have h0:DataW.trod enc Tryz.prog w 0 (fun _=>true) held n' 2 [c0]=some y0:=by simpa [k0] using hf 0 _ rfl
   have h1:DataW.trod enc Tryz.prog w 0 (fun _=>true) held n' 48 [c1]=some y1:=by simpa [k0,k1] using hf 1 _ rfl
   have h2:DataW.trod enc Tryz.prog w 0 (fun _=>true) held n' 2 [c2]=some y2:=by simpa [k0,k1] using hf 2 _ rfl
   have h3:DataW.trod enc Tryz.prog w 0 (fun _=>true) held n' 54 [c3]=some y3:=by simpa [k0,k1,k3] using hf 3 _ rfl
   have h4:DataW.trod enc Tryz.prog w 0 (fun _=>true) held n' 49 [c4]=some y4:=by simpa [k0,k1,k2,k3] using hf 4 _ rfl
   have h5:DataW.trod enc Tryz.prog w 0 (fun _=>true) held n' 49 [c5]=some y5:=by simpa [k0,k1,k2,k3] using hf 5 _ rfl
   obtain ⟨t,rfl,_⟩:=ic h0
   obtain ⟨l,hl⟩:=vot h1
   obtain ⟨m,rfl,_⟩:=ic h2
   obtain ⟨ss,hs⟩:=wides_of_trod h3
   obtain ⟨ms,hm,g1⟩:=ints1_of_trod h4
   obtain ⟨xs,hx,g2⟩:=ints1_of_trod h5
   exact ⟨⟨t,l,m,ss,ms,xs⟩,⟨c1,c3,c4,c5,rfl,hl,hs,hm,hx⟩,g1,g2⟩
set_option maxRecDepth 100000 in
theorem open_cells {r:Reach} {b0:Nat} {v:Value} {d:DataW H} {ps:List MemPlace} (hval:Value.okWide Tryz.prog w r b0 28 v) (hd:DataW.Trod enc Tryz.prog w 0 (fun _=>true) held 28 v d ps) :
  ∃ l:List RCel,LA 6 (RA2 fun _=>True) (fun _=>True) w v l∧Tess.RRng l:=by
 obtain ⟨a0,Aa,Ac,rfl⟩:=okWide_slice Tryz.underlying28 hval
 obtain ⟨Ab,hf⟩:=hd
 exact lAo 6 (by decide) (RA2 fun _=>True) _ Tryz.underlying28 (by kernel_rfl) (fun n cs y hl hy=>rcel_of_trod hl hy) (by simpa [Value.cells] using hf)
end
end Go.Proofs.YtjdccifdkjnknaaGreatDoor
namespace Tess
open Go Kl Go.RowKit Go.Proofs.YtjdccifdkjnknaaGreatDoor
theorem schemas_law {s t:Sch} {C:List RCel} (hr:RRng C) (hl:C.length≤50) :
  (encR s C).1.size≤1000000∧((sO s=false∧(encR s C).2=100)∨(sO s=true∧(encR s C).2=120)∨(sO s=true∧(encR s C).2=0∧(sO t=true →
   ((decP t (encR s C).1).2=0∧hB13 s=hB13 t)∨((decP t (encR s C).1).2=130∧(decP t (encR s C).1).1=[]∧hB13 s≠hB13 t)))):=by
 cases h1:sO s
 ·have e:encR s C=(mk [],100):=by unfold encR;rw [if_pos h1]
  rw [e]
  exact ⟨by simp [ms2],.inl ⟨rfl,rfl⟩⟩
 ·cases h2:rB2 s C
  ·have e:encR s C=(mk [],120):=by unfold encR;rw [if_neg (by simp [h1]),if_pos h2]
   rw [e]
   exact ⟨by simp [ms2],.inr (.inl ⟨rfl,rfl⟩)⟩
  ·have hc:=(rBc h2 hr).1
   have Aa:(C.map RCel.cel).length≤50:=by rw [List.length_map];exact hl
   have h0:(encP s (C.map RCel.cel)).2=0:=by rw [efo hc Aa]
   rw [encR_right hr h2]
   refine ⟨gs3 hc Aa,.inr (.inr ⟨rfl,h0,fun ht => ?_⟩)⟩
   obtain ⟨h3,h4⟩:=dec_other h0 ht
   rcases h4 with h4 | h4
   ·exact .inl ⟨h4,h3.1 h4⟩
   ·exact .inr ⟨h4,decP_bad (by rw [h4];decide),fun hh=>by have:=h3.2 hh;omega⟩
end Tess
namespace Go.Proofs.YtjdccifdkjnknaaGreatDoor
open Go.RowKit Go.Sort
open Tess (CK Pay CO RCel)
def isListIn (p:Nat→Prop) (l:List RCel) (v:Value) (W:World):Prop:=LA 6 (RA2 p) p W v l
theorem isListIn_mono (p:Nat→Prop) (l:List RCel):Flow.Spec.mono (.inr (isListIn p l)):=fun _ _ _ h hb=>LA.ag h (Ag.new _ hb) fun _ _ _ h=>h.ag (Ag.new _ hb)
theorem cutCel_rng {C:List RCel} (h:Tess.RRng C):Tess.RRng ((C.take 50).map cutCel):=fun x hx=>by
 obtain ⟨y,hy,rfl⟩:=List.mem_map.1 hx
 have:=h y (List.mem_of_mem_take hy)
 exact ⟨fun z hz=>this.1 z (List.mem_of_mem_take hz),fun z hz=>this.2 z (List.mem_of_mem_take hz)⟩
theorem Nest.ltL {α:Type} {k:Nat} {R:(Nat→Prop)→World→List Value→α→Prop} (N:Nest k R) {p:Nat→Prop} {w:World} {v:Value} {l:List α} (h:LA k (R p) p w v l):LA k (R fun b=>p b∧b < w.heap.size) (fun b=>p b∧b < w.heap.size) w v l:=by
 obtain ⟨a,c,hv,h1,h2,h3,h4⟩:=h
 refine ⟨a,c,hv,h1,h2,h3,fun hl => ?_⟩
 obtain ⟨b,Aa,ha,hb,hp,hc⟩:=h4 hl
 exact ⟨b,Aa,ha,hb,⟨hp,hb⟩,fun j hj=>let ⟨cs,h5,h6,h7⟩:=hc j hj;⟨cs,h5,N.lt h6,h7⟩⟩
def Nb2 (b0:Nat) (b:Nat):Prop:=b≠b0∧b≠b0 + 1
set_option maxRecDepth 100000 in
set_option maxHeartbeats 8000000 in
theorem SegmentSchemas_any (a0 a1 a2:Addr) {vs vt vr:Value} {C0:List RCel} {s0 t0:Tess.Sch} (w:World) (hv:DV2 a0 a1 w) (hsv:SV a2 w) (hs:SA (fun _=>True) w vs s0) (ht:SA (fun _=>True) w vt t0) (hr:LA 6 (RA2 fun _=>True) (fun _=>True) w vr C0) (hrng:Tess.RRng C0) :
  Calls Tryz.prog 5 #[vs,vt,vr] w fun e w'=>e = .returned (.bool true)∧Below w.heap.size w w':=by
 have Cn:=Hd (rcel_nest.ltL hr)
 clear hr
 obtain ⟨vd,vm,rfl,hd,hm,Ab,Ac⟩:=hs.ltK
 have HS:=Hd (show SA (fun b=>True∧b < w.heap.size) w (.agg #[vd,vm,.int .i64 s0.grain]) s0 from ⟨vd,vm,rfl,hd,hm,Ab,Ac⟩)
 obtain ⟨ad,Av,rfl,_⟩:=sl3 hd
 obtain ⟨am,Ai,rfl,_⟩:=sl3 hm
 clear hd hm Ab Ac hs
 obtain ⟨vd,vm,rfl,hd,hm,Ab,Ac⟩:=ht.ltK
 have HT:=Hd (show SA (fun b=>True∧b < w.heap.size) w (.agg #[vd,vm,.int .i64 t0.grain]) t0 from ⟨vd,vm,rfl,hd,hm,Ab,Ac⟩)
 obtain ⟨bd,Ad,rfl,_⟩:=sl3 hd
 obtain ⟨bm,Ae,rfl,_⟩:=sl3 hm
 clear hd hm Ab Ac ht
 have HV:=Hd hv
 have Bn:=Hd hsv
 clear hv hsv
 obtain ⟨W0,Be⟩:∃ W0,(w.alloc (.cells #[.slice ad s0.dims.length Av,.slice am s0.mets.length Ai,.int .i64 s0.grain] 24)).alloc (.cells #[.slice bd t0.dims.length Ad,.slice bm t0.mets.length Ae,.int .i64 t0.grain] 24)=W0:=⟨_,rfl⟩
 obtain ⟨k0,j0,kS,kB⟩:=la3 w (.cells #[.slice ad s0.dims.length Av,.slice am s0.mets.length Ai,.int .i64 s0.grain] 24) (.cells #[.slice bd t0.dims.length Ad,.slice bm t0.mets.length Ae,.int .i64 t0.grain] 24)
 rw [Be] at k0 j0 kS kB
 have K0:=Hd k0
 have J0:=Hd j0
 have B0:=Hd kB
 clear k0 j0 kS kB
 have A6:=cutCel_rng hrng
 have A4:((C0.take 50).map cutCel).length≤50:=by rw [List.length_map,List.length_take];omega
 obtain ⟨L,hL⟩:∃ L,(C0.take 50).map cutCel=L:=⟨_,rfl⟩
 rw [hL] at A6 A4
 have HL:=Hd hL
 have Bq:=Hd A6
 have Co:=Hd A4
 clear hL A6 A4 hrng
 go_enter Tryz.func5,Tryz.ntmps5
 go_wp2_with (fail)
 go_at_call 7
 refine (sa9 a0 a1 a2 W0 (HV.out.below B0.out) (Bn.out.below B0.out)).mono ?_
 rintro e W1 ⟨rfl,A2⟩
 have B1:=Hd (Bt B0.out A2)
 have k1:=(A2.block _ (Array.getElem?_eq_some_iff.1 K0.out).1).trans K0.out
 have j1:=(A2.block _ (Array.getElem?_eq_some_iff.1 J0.out).1).trans J0.out
 have As:=(Array.getElem?_eq_some_iff.1 k1).1
 have Aj:=(Array.getElem?_eq_some_iff.1 j1).1
 clear A2 Be
 obtain ⟨⟨x0,x1,x2⟩,x3,x4,x5⟩:=can3 k1
 go_wp2_with (fail)
 go_at_call 8
 refine (cutSch_any _ s0 W1 _ (HS.out.ag (Ag.new _ B1.out))).mono ?_
 rintro e W2 ⟨Cs,rfl,A3,Aw⟩
 have B2:=Hd (Bt B1.out Aw)
 have k2:=(Aw.block _ As).trans k1
 have j2:=(Aw.block _ Aj).trans j1
 have A3:=A3.weak (q:=Nb2 w.heap.size) (fun b hb=>⟨by omega,by omega⟩)
 obtain ⟨s,Bi⟩:∃ s,cutSch s0=s:=⟨_,rfl⟩
 rw [Bi] at A3
 clear Bi
 obtain ⟨Am,Aq,rfl,hd,hm,Ab,Ac⟩:=A3
 have Ba:=Hd (show SA (Nb2 w.heap.size) W2 (.agg #[Am,Aq,.int .i64 s.grain]) s from ⟨Am,Aq,rfl,hd,hm,Ab,Ac⟩)
 obtain ⟨Cl,Ar,rfl,_⟩:=sl3 hd
 obtain ⟨Cf,Ak,rfl,_⟩:=sl3 hm
 obtain ⟨W3,Bm,k3,A5,Ap⟩:=box_put k2 (.slice Cl s.dims.length Ar) (.slice Cf s.mets.length Ak) (.int .i64 s.grain)
 have Cb:=Hd (Ba.out.ag (A5.weak fun b hb=>hb.1))
 have B3:=Hd (B2.out.trans (Ap _ (Nat.le_refl _)))
 have j3:=(A5.2 _ (Array.getElem?_eq_some_iff.1 j2).1 (show Nb _ _ from fun e=>by omega)).trans j2
 clear x0 x1 x2 x3 x4 x5 hd hm Ab Ac Ba A5 Ap
 obtain ⟨⟨x0,x1,x2⟩,x3,x4,x5⟩:=can3 k2
 obtain ⟨⟨y0,y1,y2⟩,y3,y4,y5⟩:=can3 j3
 go_wp2_with (fail)
 go_at_call 8
 try rw [Bm]
 refine (cutSch_any _ t0 W3 _ (HT.out.ag (Ag.new _ B3.out))).mono ?_
 rintro e W4 ⟨Cu,rfl,Az,At⟩
 have B4:=Hd (Bt B3.out At)
 have Bc:=(Array.getElem?_eq_some_iff.1 k3).1
 have A9:=(Array.getElem?_eq_some_iff.1 j3).1
 have k4:=(At.block _ Bc).trans k3
 have j4:=(At.block _ A9).trans j3
 have Bp:=Hd (Cb.out.ag (Ag.new _ At))
 have Az:=Az.weak (q:=Nb2 w.heap.size) (fun b hb=>⟨by omega,by omega⟩)
 obtain ⟨t,Bo⟩:∃ t,cutSch t0=t:=⟨_,rfl⟩
 rw [Bo] at Az
 clear Bo
 obtain ⟨Am,Aq,rfl,hd,hm,Ab,Ac⟩:=Az
 have Bs:=Hd (show SA (Nb2 w.heap.size) W4 (.agg #[Am,Aq,.int .i64 t.grain]) t from ⟨Am,Aq,rfl,hd,hm,Ab,Ac⟩)
 obtain ⟨Bz,An,rfl,_⟩:=sl3 hd
 obtain ⟨Cc,Al,rfl,_⟩:=sl3 hm
 obtain ⟨W5,Bb,j5,Ax,Ap⟩:=box_put j4 (.slice Bz t.dims.length An) (.slice Cc t.mets.length Al) (.int .i64 t.grain)
 have Cd:=Hd (Bs.out.ag (Ax.weak fun b hb=>hb.2))
 have Ci:=Hd (Bp.out.ag (Ax.weak fun b hb=>hb.2))
 have B5:=Hd (B4.out.trans (Ap _ (Nat.le_succ _)))
 have k5:=(Ax.2 _ (Array.getElem?_eq_some_iff.1 k4).1 (show Nb _ _ from fun e=>by omega)).trans k4
 clear x0 x1 x2 x3 x4 x5 y0 y1 y2 y3 y4 y5 hd hm Ab Ac Bs Bp Ax Ap As Aj k1 k2 k3 j1 j2 j3 Aw At Bm
 obtain ⟨⟨y0,y1,y2⟩,y3,y4,y5⟩:=can3 j4
 go_wp2_with (fail)
 try rw [Bb]
 clear Bb y0 y1 y2 y3 y4 y5 Bc A9 k4 j4
 obtain ⟨⟨x0,x1,x2⟩,_⟩:=can3 k5
 have Bg:=(Array.getElem?_eq_some_iff.1 k5).1
 have Br:=(Array.getElem?_eq_some_iff.1 j5).1
 refine FlowT.wp_region 3 [3,4,5,6,7,8] [4,5,6] 7 8 (Flow.sp3 [.inl ?_,.inl ?_,.inr (isListIn (Nb2 w.heap.size) L)]) (by kernel_rfl) (by kernel_rfl) ?_ rfl rfl rfl ?_
 rotate_left 2
 ·refine Flow.sm2 ?_
  repeat (first | exact Flow.ln2 | refine Flow.li2 ?_ | refine Flow.li3 (isListIn_mono _ _) ?_)
 all_goals try simp only [List.take_succ_cons,List.take_zero]
 iterate 2 (refine Flow.tvK rfl (fun K hK=>⟨fun w' hw hG => ?_,?_⟩);(have Ct:=Flow.bc4 hw;clear hG hw;unfold Flow.Runs Flow.yields;go_simp;try rfl);go_simp;refine hK _ ?_;clear hK K)
 (refine Flow.tvK2 rfl (fun K hK=>⟨fun w' hw hG => ?_,?_⟩);(have HW:=Hd hw;clear hG hw;unfold Flow.Runs Flow.yields;go_simp;refine (few12_any _ vr C0 _ (LA.ag Cn.out (Ag.new _ (Bt B5.out HW.out)) fun _ _ _ h=>h.ag (Ag.new _ (Bt B5.out HW.out)))).mono ?_;rintro e w3 ⟨v3,rfl,Bv,Cj⟩;rw [HL.out] at Bv;exact ⟨v3,rfl,Cj,LA.weak Bv (fun b hb=>by
   have h6:=HW.out.size
   rcases hb with hb | hb
   ·have:=hb.2;exact ⟨by omega,by omega⟩
   ·exact ⟨by omega,by omega⟩) fun _ _ _ h=>rcel_nest.weak h (fun b hb=>by
   have h6:=HW.out.size
   rcases hb with hb | hb
   ·have:=hb.2;exact ⟨by omega,by omega⟩
   ·exact ⟨by omega,by omega⟩)⟩);intro v6;go_simp;refine hK _ _ ?_;clear hK K)
 refine Flow.tn2 fun W6 hB6 hG => ?_
 have Ay:=(show isListIn (Nb2 w.heap.size) L v6 W6 by simpa [Flow.upd] using hG 2)
 unfold isListIn at Ay
 clear hG
 obtain ⟨ra,rc,rfl,Cr,_⟩:=LA.open Ay
 have k6:=(hB6.block _ Bg).trans k5
 have j6:=(hB6.block _ Br).trans j5
 have B6:=Hd (Bt B5.out hB6)
 have Bx:=Hd (Ci.out.ag (Ag.new _ hB6))
 have Ce:=Hd (Cd.out.ag (Ag.new _ hB6))
 have HE:=Hd (sa3 (Nb2 w.heap.size) _ _ s L W6 Bx.out Ay Bq.out)
 have Aa:=Hd (Tess.schemas_law (s:=s) (t:=t) Bq.out Co.out)
 obtain ⟨⟨A1,zA⟩,Bh⟩:∃ x,x=Tess.encR s L:=⟨_,rfl⟩
 rw [← Bh] at HE Aa
 dsimp only at HE Aa
 have Bk:=(Array.getElem?_eq_some_iff.1 k6).1
 have A7:=(Array.getElem?_eq_some_iff.1 j6).1
 clear Ay hB6 Bg Br k5 j5 x0 x1 x2 Bh
 go_wp2_with (fail)
 go_at_call 11
 refine HE.out.mono ?_
 rintro e W7 ⟨rfl,Ah⟩
 go_wp2_with (fail)
 refine ⟨rfl,_,_,rfl,rfl,(fun w=>by go_simp;try rfl),_,_,rfl,rfl,(fun w=>by go_simp;try rfl),_,_,rfl,rfl,(fun w=>by go_simp;try rfl),?_⟩
 apply both_ways
 ·intro h
  go_wp2_with (fail)
  exact ⟨rfl,h⟩
 ·intro h
  go_wp2_with (fail)
  exact ⟨rfl,h⟩
 have k7:=(Ah.block _ Bk).trans k6
 have j7:=(Ah.block _ A7).trans j6
 have Bd:=(Array.getElem?_eq_some_iff.1 k7).1
 have Bw:=(Array.getElem?_eq_some_iff.1 j7).1
 have B7:=Hd (Bt B6.out Ah)
 have Cm:=Hd (Bx.out.ag (Ag.new _ Ah))
 have Bf:=Hd (Ce.out.ag (Ag.new _ Ah))
 have HD:=Hd (sa6 a0 a1 a2 (Nb2 w.heap.size) _ t A1 W7 (HV.out.below B7.out) (Bn.out.below B7.out) Bf.out Aa.out.1)
 unfold SP2 at HD
 have Aa:=Hd Aa.out.2
 obtain ⟨⟨D,zD⟩,By⟩:∃ x,x=Tess.decP t A1:=⟨_,rfl⟩
 rw [← By] at HD Aa
 dsimp only at HD Aa
 clear Ah k6 j6 Bk A7 By
 obtain ⟨⟨y0,y1,y2⟩,_⟩:=can3 j7
 go_wp2_with (fail)
 go_at_call 14
 refine HD.out.mono ?_
 rintro e W8 ⟨vD,rfl,Af,Bl⟩
 obtain ⟨da,dc,rfl,Cv,_⟩:=LA.open Bl
 have k8:=(Af.block _ Bd).trans k7
 have j8:=(Af.block _ Bw).trans j7
 have Ck:=(Array.getElem?_eq_some_iff.1 k8).1
 have Bj:=(Array.getElem?_eq_some_iff.1 j8).1
 have B8:=Hd (Bt B7.out Af)
 have Cg:=Hd (ha4 (Nb2 w.heap.size) _ s W8 (Cm.out.ag (Ag.new _ Af)))
 have Ch:=Hd (Bf.out.ag (Ag.new _ Af))
 clear Af Bl k7 j7 Bd Bw y0 y1 y2
 obtain ⟨⟨x0,x1,x2⟩,_⟩:=can3 k8
 go_wp2_with (fail)
 go_at_call 18
 refine Cg.out.mono ?_
 rintro e W9 ⟨rfl,A0⟩
 have j9:=(A0.block _ Bj).trans j8
 have B9:=Hd (Bt B8.out A0)
 have Ca:=Hd (ha4 (Nb2 w.heap.size) _ t W9 (Ch.out.ag (Ag.new _ A0)))
 clear A0 k8 j8 Ck Bj x0 x1 x2
 obtain ⟨⟨y0,y1,y2⟩,_⟩:=can3 j9
 go_wp2_with (fail)
 go_at_call 18
 refine Ca.out.mono ?_
 rintro e Cq ⟨rfl,Ao⟩
 have Au:=Hd (Bt B9.out Ao)
 clear Ao j9 y0 y1 y2
 have hw:∀ u,Tess.sO u=true→Tess.headW u=(Tess.mk (Tess.hB13 u),0):=fun u h=>if_pos h
 have Bu:∀ u,Tess.sO u=false→Tess.headW u=(ByteArray.empty,100):=fun u h=>if_neg (by simp [h])
 have HW:=Hd hw
 have A8:=Hd Bu
 clear hw Bu
 have Cp:=Aa.out
 rcases Cp with ⟨h1,rfl⟩ | ⟨h1,rfl⟩ | ⟨h1,rfl,h2⟩
 ·rw [A8.out s h1]
  go_wp2_with (fail)
  go_ret
  exact ⟨rfl,Au.out⟩
 ·rw [HW.out s h1]
  go_wp2_with (fail)
  go_ret
  exact ⟨rfl,Au.out⟩
 rw [HW.out s h1]
 cases h3:Tess.sO t
 ·rw [A8.out t h3]
  clear h2
  go_wp2_with (fail)
  go_ret
  exact ⟨rfl,Au.out⟩
 rw [HW.out t h3]
 rcases h2 h3 with ⟨rfl,h4⟩ | ⟨rfl,rfl,h4⟩
 ·have h5:((Tess.mk (Tess.hB13 s)).toList == (Tess.mk (Tess.hB13 t)).toList)=true:=by rw [h4];simp
  clear h2 h4
  go_wp2_with (fail)
  go_ret
  exact ⟨rfl,Au.out⟩
 ·have h5:((Tess.mk (Tess.hB13 s)).toList == (Tess.mk (Tess.hB13 t)).toList)=false:=by
   rw [beq_eq_false_iff_ne]
   intro h6
   exact h4 (Tess.mk_inj (ByteArray.ext (Array.ext' (by simpa [ByteArray.toList_eq] using h6))))
  clear h2 h4
  go_wp2_with (fail)
  go_ret
  exact ⟨rfl,Au.out⟩
end Go.Proofs.YtjdccifdkjnknaaGreatDoor
namespace Go.Proofs.YtjdccifdkjnknaaGreatDoor
open Go.RowKit Go.Sort
open Tess (RCel)
theorem SegmentSchemasW_any {vs vt vr:Value} {C0:List RCel} {s0 t0:Tess.Sch} (w:World) (hV:∃ a0 a1 a2,DV2 a0 a1 w∧SV a2 w) (hs:SA (fun _=>True) w vs s0) (ht:SA (fun _=>True) w vt t0) (hr:LA 6 (RA2 fun _=>True) (fun _=>True) w vr C0) (hrng:Tess.RRng C0) :
  Calls Tryz.prog 5 #[vs,vt,vr] w fun e w'=>e = .returned (.bool true)∧Below w.heap.size w w':=by
 obtain ⟨a0,a1,a2,hv,Aa⟩:=hV
 exact SegmentSchemas_any a0 a1 a2 w hv Aa hs ht hr hrng
end Go.Proofs.YtjdccifdkjnknaaGreatDoor
