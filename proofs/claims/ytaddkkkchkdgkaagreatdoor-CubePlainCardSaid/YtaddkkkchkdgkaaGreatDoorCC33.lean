/- A cell's group: walked. -/
import Derived.Test.YtaddkkkchkdgkaaGreatDoorCC32
import Derived.Test.YtaddkkkchkdgkaaGreatDoorCC15
import Derived.Test.YtaddkkkchkdgkaaGreatDoorCC12
import Derived.Lib.RabinKarpLaws
namespace Go.Proofs.YtaddkkkchkdgkaaGreatDoor
open Go.RowKit Go.Sort Go.Shelf
open Tess (CK Pay PO CO Que)
theorem infoVal6:(Tryz.prog.info? 72).map (fun i=>(i.zero,i.size,i.bytes))=some (some (.agg #[.string ByteArray.empty,.bool false]),2,24):=by kernel_rfl
theorem laid4n (w:World) (A B C D:Obj):∃ W,(((w.alloc A).alloc B).alloc C).alloc D=W∧W.heap[w.heap.size]? = some A∧W.heap[w.heap.size + 1]? = some B∧W.heap[w.heap.size + 1 + 1]? = some C∧W.heap[w.heap.size + 1 + 1 + 1]? = some D∧W.heap.size=w.heap.size + 4∧Below w.heap.size w W:=by
 obtain ⟨h0,h1,h2,h3,hS,hB⟩:=laid4 w A B C D
 exact ⟨_,rfl,h0,h1,h2,h3,hS,hB⟩
theorem mk5 (W3:World) (G n:Nat) (e T c vs vm vx:Value) (h:W3.heap[G]? = some (.cells #[e,T,.slice none 0 0,c,vs,vm,vx] 56 (0,0))) (hn:n≤1000000) :
  ∃ W4 W5 cur,(Instr.makeSlice 52 (.int .i64 (n:Int)) (.int .i64 (n:Int))).run Tryz.prog W3 = .ok (.slice (some ⟨W3.heap.size,0,none⟩) n n) W4∧(W4.cell? ⟨G,2,none⟩=some (.slice none 0 0)∧W4.frozen? ⟨G,2,none⟩=false) ∧
    W4.setCell ⟨G,2,none⟩ (.slice (some ⟨W3.heap.size,0,none⟩) n n)=W5∧W5.heap[G]? = some (.cells #[e,T,.slice (some ⟨W3.heap.size,0,none⟩) n n,c,vs,vm,vx] 56 (0,0))∧W5.heap[W3.heap.size]? = some (.cells cur 72 (0,0))∧cur.size=n * 2∧Tch (fun b=>b=G) W3 W5:=by
 obtain ⟨i0,hi,Ad,Ab,Aa⟩:=info_parts infoVal6
 obtain ⟨W4,cur,hr,hg,hs,hb⟩:=rms (P:=Tryz.prog) W3 52 72 i0 _ 2 Tryz.underlying52 hi Ad Ab .i64 .i64 n n (Nat.le_refl _) (by rw [Aa];omega) (by unfold maxLen;omega)
 have Ac:=(Array.getElem?_eq_some_iff.1 h).1
 have h4:=(hb.block G Ac).trans h
 obtain ⟨⟨_,_,c2,_⟩,_,_,f2,_⟩:=can7 h4
 refine ⟨W4,_,cur,hr,⟨c2,f2⟩,rfl,heap_setCell_same W4 G 2 _ _ _ h4,?_,hs,(Tch.new hb).trans (Tch.set W4 ⟨G,2,none⟩ _ rfl)⟩
 rw [heap_setCell_other _ _ _ _ (by show W3.heap.size≠G;omega)]
 exact hg
theorem bit_one (set k:Nat) (h:set < 9223372036854775808):bits BinOp.and IntKind.i64 ((set:Int) / 2 ^ k) 1=((set / 2 ^ k % 2:Nat):Int):=by
 rw [← and_one (set / 2 ^ k) (Nat.lt_of_le_of_lt (Nat.div_le_self _ _) h),Int.natCast_ediv,Int.natCast_pow]
 rfl
theorem kFl (s:Tess.Sch) (set:Nat) (d:List Tess.DV):∀ (l:List ByteArray) (i:Nat),(Tess.kF2 s set d i l).length=l.length
 | [],_=>rfl
 | _ :: l,i=>by rw [Tess.kF2,List.length_cons,List.length_cons,kFl s set d l]
theorem kFa (s:Tess.Sch) (set:Nat) (d:List Tess.DV):∀ (l:List ByteArray) (i k:Nat) (h:k < l.length) (h':k < (Tess.kF2 s set d i l).length),(Tess.kF2 s set d i l)[k]=if set / 2 ^ (i + k) % 2=0 then d.getD (Tess.dimW s l[k]).1 none else none
 | _ :: _,_,0,_,_=>rfl
 | _ :: l,i,k + 1,h,h'=>by
   have:=kFa s set d l (i + 1) k (by simpa using h) (by rw [kFl];simpa using h)
   rw [show i + 1 + k=i + (k + 1) by omega] at this
   exact this
theorem kFs (s:Tess.Sch) (set m:Nat) (d:List Tess.DV) (hd:∀ v ∈ d.map Tess.valOf,v.s.size≤m):∀ (l:List ByteArray) (i:Nat),∀ v ∈ (Tess.kF2 s set d i l).map Tess.valOf,v.s.size≤m
 | [],_,v,hv=>by simp [Tess.kF2] at hv
 | y :: l,i,v,hv=>by
   rw [Tess.kF2,List.map_cons,List.mem_cons] at hv
   rcases hv with rfl | hv
   ·have h0:(Tess.valOf none).s.size≤m:=by simp [Tess.valOf]
    split
    ·rw [List.getD_eq_getElem?_getD]
     cases e:d[(Tess.dimW s y).1]? with
     | none=>exact h0
     | some z=>exact hd _ (List.mem_map.2 ⟨z,List.mem_of_getElem? e,rfl⟩)
    ·exact h0
   ·exact kFs s set m d hd l (i + 1) v hv
structure Gp (w:World) (fol cel grp:Array Value) (kb n k:Nat) (kl:List Tess.Val) (W:World):Prop where
 b0:W.heap[w.heap.size]? = some (.cells fol 92 (0,0))
 b1:W.heap[w.heap.size + 1]? = some (.cells cel 83 (0,0))
 b3:W.heap[w.heap.size + 1 + 1 + 1]? = some (.cells grp 56 (0,0))
 b2:W.heap[w.heap.size + 1 + 1]? = some (.cells #[.int .i64 0,.int .i64 0,.slice none 0 0,.int .i64 0,.slice none 0 0,.slice none 0 0,.slice none 0 0] 56 (0,0))
 key:∃ cur,W.heap[kb]? = some (.cells cur 72 (0,0))∧cur.size=n * 2∧cur.toList.take (k * 2)=vC (kl.take k)
 below:Below w.heap.size w W
set_option maxRecDepth 100000 in
set_option maxHeartbeats 16000000 in
theorem groupOf_any (p:Nat→Prop) (s:Tess.Sch) (q:Que) (set:Nat) (x:CK×Pay) (q0 q2 q3 q5 q6 q7 q8 q9 qa qb qc qd s0 s1 vp vb:Value) (cs:List Value) (w:World)
  (hs:SA p w (.agg #[s0,s1,.int .i64 s.grain]) s) (hb:SlP p w vb (q.names.map .string)) (hc:CA2 p w cs x) (hn:q.names.length≤60) (hset:set < 2 ^ q.names.length) (ht:0≤x.1.1∧x.1.1≤1000000000000) (he:0≤q.every∧q.every≤1000000000)
  (hd:∀ y ∈ q.names,(Tess.dimW s y).1 < x.1.2.length) :
  Calls Tryz.prog 67 #[.agg #[q0,vb,q2,q3,.int .i64 q.every,q5,q6,q7,q8,q9,qa,qb,qc,qd,s0,s1,.int .i64 s.grain,.int .i64 (set:Nat),vp],.agg cs.toArray] w fun e w' => ∃ cs',e = .returned (.agg cs'.toArray)∧GA2 (fun b=>p b∨w.heap.size≤b) w' cs' ((set:Nat),(Tess.cutE q.every x.1.1,Tess.kF2 s set x.1.2 0 q.names),x.2)∧Below w.heap.size w w':=by
 have HC:=Hd hc
 have Bx:=Hd (fun W y (hB:Below w.heap.size w W)=>dim_any _ s y p W (hs.ag (Ag.new p hB)))
 obtain ⟨ad,cd,a3,c3,a4,c4,a5,c5,rfl,_⟩:=hc.shapes
 have Ch:VC w ad (x.1.2.map Tess.valOf):=by
  obtain ⟨vd,vs,vm,vx,e,h1,_⟩:=hc
  obtain ⟨a,Db,rfl,_,h2⟩:=h1.cells
  simp only [List.cons.injEq,Value.slice.injEq] at e
  rw [e.2.1.1];exact h2
 have Cu:=Hd (show ∀ v ∈ x.1.2.map Tess.valOf,v.s.size≤maxLen by
  obtain ⟨vd,vs,vm,vx,e,h1,_⟩:=hc
  obtain ⟨_,_,_,_,h2,_⟩:=h1
  exact h2)
 have B4:=Hd (show PayAt p w (.slice a3 x.2.sums.length c3) (.slice a4 x.2.mins.length c4) (.slice a5 x.2.maxs.length c5) x.2 by
  obtain ⟨vd,vs,vm,vx,e,_,h1⟩:=hc
  simp only [List.cons.injEq,and_true] at e
  obtain ⟨_,_,_,e1,e2,e3⟩:=e
  rw [e1,e2,e3];exact h1)
 have Cz:=Hd Ch
 clear Ch
 have Bj:set < 9223372036854775808:=by
  have:(2:Nat) ^ q.names.length≤2 ^ 60:=Nat.pow_le_pow_right (by decide) hn
  have e:(2:Nat) ^ 60=1152921504606846976:=by decide
  omega
 obtain ⟨W0,Cf,k0,k1,k2,k3,kS,kB⟩:=laid4n w (.cells #[q0,vb,q2,q3,.int .i64 q.every,q5,q6,q7,q8,q9,qa,qb,qc,qd,s0,s1,.int .i64 s.grain,.int .i64 (set:Nat),vp] 92) (.cells #[.int .i64 x.1.1,.slice ad x.1.2.length cd,.int .i64 x.2.n,.slice a3 x.2.sums.length c3,.slice a4 x.2.mins.length c4,.slice a5 x.2.maxs.length c5] 83) (.cells #[.int .i64 0,.int .i64 0,.slice none 0 0,.int .i64 0,.slice none 0 0,.slice none 0 0,.slice none 0 0] 56) (.cells #[.int .i64 (set:Nat),.int .i64 0,.slice none 0 0,.int .i64 x.2.n,.slice a3 x.2.sums.length c3,.slice a4 x.2.mins.length c4,.slice a5 x.2.maxs.length c5] 56)
 obtain ⟨⟨y0,y1,y2,y3,y4,y5,y6,y7,y8,y9,ya,yb,yc,yd⟩,⟨ye,yf,yg⟩,yh,yi⟩:=ca3 k0
 obtain ⟨⟨x0,x1,x2,x3,x4,x5⟩,_⟩:=can6 k1
 obtain ⟨⟨g0,g1,g2,g3,g4,g5,g6⟩,f0,f1,f2,f3,f4,f5,f6⟩:=can7 k3
 have Ce:=Hd k0
 have Cc:=Hd k1
 have Au:=Hd k3
 have Ax:=Hd k2
 have Ah:=Hd kS
 have B9:=Hd kB
 have HB:=Hd hb
 have HD:=Hd hd
 obtain ⟨⟨C1,ba,bc,rfl,Cb⟩,Cp,_⟩:=hb
 rw [List.length_map] at *
 have Cx:=Hd Cb
 clear hc hs Cb Cp C1 hd k0 k1 k2 kS
 have Cm:=Hd (fun k (h:k < q.names.length)=>kFa s set x.1.2 q.names 0 k h (by rw [kFl];exact h))
 have B2:=Hd (show ((Tess.kF2 s set x.1.2 0 q.names).map Tess.valOf).length=q.names.length by rw [List.length_map,kFl])
 obtain ⟨kl,Bp⟩:∃ kl,(Tess.kF2 s set x.1.2 0 q.names).map Tess.valOf=kl:=⟨_,rfl⟩
 rw [Bp] at B2
 have Bd:=Hd Bp
 clear Bp
 by_cases hev:0 < q.every
 case' pos=>
  go_enter Tryz.func67,Tryz.ntmps67
  go_wp2_with (fail)
  go_at_call 55
  have Aq:=gCut_any x.1.1 q.every W0 ht ⟨by omega,he.2⟩
  rw [show x.1.1 - x.1.1 % q.every=Tess.cutE q.every x.1.1 by unfold Tess.cutE;rw [if_pos hev]] at Aq
  refine Aq.mono ?_
  rintro e w2 ⟨rfl,Af⟩
  have h0:=(Af.block w.heap.size (by rw [Ah.out];omega)).trans Ce.out
  have h1:=(Af.block (w.heap.size + 1) (by rw [Ah.out];omega)).trans Cc.out
  have h2:=(Af.block (w.heap.size + 1 + 1) (by rw [Ah.out];omega)).trans Ax.out
  have h3:=(Af.block (w.heap.size + 1 + 1 + 1) (by rw [Ah.out];omega)).trans Au.out
  obtain ⟨⟨_,u1,_⟩,_,z1,_⟩:=can7 h3
  have H3:=heap_setCell_same w2 (w.heap.size + 1 + 1 + 1) 1 _ _ (.int .i64 (Tess.cutE q.every x.1.1)) h3
  have HO:∀ b,b≠w.heap.size + 1 + 1 + 1→(w2.setCell ⟨w.heap.size + 1 + 1 + 1,1,none⟩ (.int .i64 (Tess.cutE q.every x.1.1))).heap[b]? = w2.heap[b]? := fun b hb=>heap_setCell_other _ _ _ _ hb
  have Bl:Below w.heap.size w (w2.setCell ⟨w.heap.size + 1 + 1 + 1,1,none⟩ (.int .i64 (Tess.cutE q.every x.1.1))):=(Bt B9.out Af).setCell (by show w.heap.size≤w.heap.size + 1 + 1 + 1;omega) _
  obtain ⟨W3,Ba⟩:∃ W3,w2.setCell ⟨w.heap.size + 1 + 1 + 1,1,none⟩ (.int .i64 (Tess.cutE q.every x.1.1))=W3:=⟨_,rfl⟩
  rw [Ba] at H3 Bl
  rw [Ba] at HO
  have h0:=(HO w.heap.size (by omega)).trans h0
  have h1:=(HO (w.heap.size + 1) (by omega)).trans h1
  have h2:=(HO (w.heap.size + 1 + 1) (by omega)).trans h2
  obtain ⟨W4,W5,Ab,Bf,⟨m2,Bh⟩,Bg,G5,K5,Ad,T5⟩:=mk5 W3 (w.heap.size + 1 + 1 + 1) q.names.length _ _ _ _ _ _ H3 (by omega)
  have l0:=(Array.getElem?_eq_some_iff.1 h0).1
  have l1:=(Array.getElem?_eq_some_iff.1 h1).1
  have l2:=(Array.getElem?_eq_some_iff.1 h2).1
  have Ay:=(T5.block (w.heap.size + 1 + 1) l2 (by omega)).trans h2
  have As:=(T5.block w.heap.size l0 (by omega)).trans h0
  have A3:=(T5.block (w.heap.size + 1) l1 (by omega)).trans h1
  have Az:=Bl.trans (T5.below (N:=w.heap.size) (by omega) (fun b hb=>by omega))
  have n3:=(ca3 h0).1.2.1
  have n5:=(ca3 As).1.2.1
  have A8:=Hd (show Gp w _ _ _ W3.heap.size q.names.length 0 kl W5 from ⟨As,A3,G5,Ay,⟨Ab,K5,Ad,by simp [vC]⟩,Az⟩)
  have A6:w.heap.size + 4≤W3.heap.size:=by have:=(Array.getElem?_eq_some_iff.1 H3).1;have:=Ah.out;have:=Af.size;have:=congrArg (fun W=>W.heap.size) Ba;simp only [sCs] at this;omega
  clear h0 h1 h2 h3 H3 HO Bl As A3 Ay Az G5 K5 T5 l0 l1 l2 Cf Aq Af
  have A9:=Hd A6
  clear A6
  go_wp2_with (fail)
  clear n5 n3 m2 Bh u1 z1 Bf Bg Ad
  obtain ⟨TT,Bq⟩:∃ TT,TT=Tess.cutE q.every x.1.1:=⟨_,rfl⟩
  rw [← Bq] at A8
  have Ca:=Hd Bq
  clear Ba Bq
  generalize W3.heap.size=kb at *
 case' neg=>
  obtain ⟨W4,W5,Ab,Bf,⟨m2,Bh⟩,Bg,G5,K5,Ad,T5⟩:=mk5 W0 (w.heap.size + 1 + 1 + 1) q.names.length _ _ _ _ _ _ Au.out (by omega)
  have As:=(T5.block w.heap.size (by rw [Ah.out];omega) (by omega)).trans Ce.out
  have A3:=(T5.block (w.heap.size + 1) (by rw [Ah.out];omega) (by omega)).trans Cc.out
  have Ay:=(T5.block (w.heap.size + 1 + 1) (by rw [Ah.out];omega) (by omega)).trans Ax.out
  have Az:=B9.out.trans (T5.below (N:=w.heap.size) (by rw [Ah.out];omega) (fun b hb=>by omega))
  have n5:=(ca3 As).1.2.1
  have A8:=Hd (show Gp w _ _ _ W0.heap.size q.names.length 0 kl W5 from ⟨As,A3,G5,Ay,⟨Ab,K5,Ad,by simp [vC]⟩,Az⟩)
  have A9:=Hd (show w.heap.size + 4≤W0.heap.size by rw [Ah.out];omega)
  clear As A3 Ay Az G5 K5 T5
  go_enter Tryz.func67,Tryz.ntmps67
  go_wp2_with (fail)
  clear n5 m2 Bh Bf Bg Ad
  obtain ⟨TT,Bu⟩:∃ TT:Int,TT=0:=⟨0,rfl⟩
  have Ca:=Hd (show TT=Tess.cutE q.every x.1.1 by unfold Tess.cutE;rw [if_neg (by omega),Bu])
  rw [← Bu] at A8
  clear Bu
  clear Cf
  generalize W0.heap.size=kb at *
 all_goals
  go_loopw [46] (fun i wr => ∃ k:Nat,k≤q.names.length∧i = .int .i64 k∧Gp w #[q0,.slice ba q.names.length bc,q2,q3,.int .i64 q.every,q5,q6,q7,q8,q9,qa,qb,qc,qd,s0,s1,.int .i64 s.grain,.int .i64 (set:Nat),vp] #[.int .i64 x.1.1,.slice ad x.1.2.length cd,.int .i64 x.2.n,.slice a3 x.2.sums.length c3,.slice a4 x.2.mins.length c4,.slice a5 x.2.maxs.length c5] #[.int .i64 (set:Nat),.int .i64 TT,.slice (some ⟨kb,0,none⟩) q.names.length q.names.length,.int .i64 x.2.n,.slice a3 x.2.sums.length c3,.slice a4 x.2.mins.length c4,.slice a5 x.2.maxs.length c5] kb q.names.length k kl wr) (fun i _=>q.names.length - (intOf i).toNat)
  case atStart=>exact ⟨0,Nat.zero_le _,rfl,A8.out⟩
  case round=>
   obtain ⟨k,hk,rfl,B1⟩:=hrel
   by_cases hlt:k < q.names.length
   ·have Cr:(k:Int) < (q.names.length:Int):=by omega
    have HG:=Hd B1
    obtain ⟨b0,b1,b3,b2,_,below⟩:=B1
    obtain ⟨nb,no,rfl,Ci,B7⟩:=Cx.out (by simp only [List.length_map];omega)
    have n1:=(below.cell (p:=⟨nb,no + k,none⟩) Ci).trans (B7 k (by simpa using hlt))
    rw [List.getElem_map] at n1
    have Cv:nb < wr.heap.size:=Nat.lt_of_lt_of_le Ci below.size
    have l0:=(Array.getElem?_eq_some_iff.1 b0).1
    have l1:=(Array.getElem?_eq_some_iff.1 b1).1
    have l3:=(Array.getElem?_eq_some_iff.1 b3).1
    have l2:=(Array.getElem?_eq_some_iff.1 b2).1
    obtain ⟨W1,C2⟩:∃ W1,wr.alloc (.cells #[.string ⟨#[]⟩,.bool true] 72)=W1:=⟨_,rfl⟩
    obtain ⟨k1,kS,kB⟩:=la2 wr (.cells #[.string ⟨#[]⟩,.bool true] 72)
    rw [C2] at k1 kS kB
    obtain ⟨_,⟨ye,yf,yg⟩,yh,_⟩:=ca3 ((kB.block _ l0).trans b0)
    have By:=Hd k1
    have Be:=Hd kB
    clear b0 b1 b2 b3 below B7 k1 kS kB
    have A7:=bit_one set k Bj
    obtain ⟨Cj,Ao⟩:∃ h:k < kl.length,kl[k]=Tess.valOf (if set / 2 ^ (0 + k) % 2=0 then x.1.2.getD (Tess.dimW s q.names[k]).1 none else none):=by
     refine ⟨by rw [B2.out];exact hlt,?_⟩
     simp only [← Bd.out,List.getElem_map,Cm.out k hlt]
    rw [Nat.zero_add] at Ao
    have Bi:=HD.out _ (List.getElem_mem hlt)
    by_cases hbit:set / 2 ^ k % 2=0
    ·have Cs:(bits BinOp.and IntKind.i64 ((set:Int) / 2 ^ k) 1 == 0)=true:=by rw [A7,hbit];rfl
     rw [if_pos hbit] at Ao
     have Bz:kl[k]=(x.1.2.map Tess.valOf)[(Tess.dimW s q.names[k]).1]'(by rw [List.length_map];exact Bi):=by
      rw [Ao,List.getElem_map,List.getD_eq_getElem?_getD,List.getElem?_eq_getElem Bi,Option.getD_some]
     obtain ⟨vv,Ar⟩:∃ vv,kl[k]=vv:=⟨_,rfl⟩
     rw [Ar] at Bz
     have Bm:=Hd Ar
     clear Ao Ar hbit A7
     generalize hyy:q.names[k]=y at *
     obtain ⟨db,B5,rfl,Cg,Bc,Bv⟩:=Cz.out (Tess.dimW s y).1 (by rw [List.length_map];exact Bi)
     rw [← Bz] at Bc Bv
     clear Bz hyy
     go_wp2_with (fail)
     go_at_call 104
     refine (Bx.out W1 y (Bt HG.out.below Be.out)).mono ?_
     rintro e w2 ⟨rfl,Af⟩
     have A4:=Hd (Bt Be.out Af)
     have Cd:=(A4.out.block _ l1).trans HG.out.b1
     have Ct:=(A4.out.block _ l3).trans HG.out.b3
     obtain ⟨⟨_,C6,_⟩,_⟩:=can6 Cd
     have Bo:=(Af.block wr.heap.size (by have:=(Array.getElem?_eq_some_iff.1 By.out).1;omega)).trans By.out
     obtain ⟨⟨v0,v1⟩,C4,Cq⟩:=can2 Bo
     have Br:=((Bt HG.out.below A4.out).cell (p:=⟨db,B5 + (Tess.dimW s y).1 * 2,none⟩) Cg).trans Bc
     have Bs:=((Bt HG.out.below A4.out).cell (p:=⟨db,B5 + (Tess.dimW s y).1 * 2 + 1,none⟩) Cg).trans Bv
     have Da:((Tess.dimW s y).1:Int) < (x.1.2.length:Int):=by omega
     generalize (Tess.dimW s y).1=dd at *
     have H1:=heap_setCell_same w2 wr.heap.size 0 _ _ (.string vv.s) Bo
     have H2:=heap_setCell_same _ wr.heap.size 1 _ _ (.bool vv.null) H1
     obtain ⟨Wv,Av⟩:∃ Wv,(w2.setCell ⟨wr.heap.size,0,none⟩ (.string vv.s)).setCell ⟨wr.heap.size,1,none⟩ (.bool vv.null)=Wv:=⟨_,rfl⟩
     have Aw:=Hd (show Below wr.heap.size wr Wv by rw [← Av];exact ((A4.out.setCell (Nat.le_refl _) _).setCell (Nat.le_refl _) _))
     rw [Av] at H2
     have At:=Hd H2
     clear Af Cd Ct Bo H1 H2 Bc Bv
     go_wp2_with (fail)
     clear v0 v1 C4 Cq Br Bs C6 Av
     have Ak:=(Aw.out.block _ l3).trans HG.out.b3
     obtain ⟨⟨_,_,gk,_⟩,_⟩:=can7 Ak
     obtain ⟨⟨Ck,C0⟩,_⟩:=can2 At.out
     have C5:=(Array.getElem?_eq_some_iff.1 Ak).1
     have Cw:=(Array.getElem?_eq_some_iff.1 At.out).1
     clear Ak
     have Cy:¬ q.names.length=k:=by omega
     have B3:(Tryz.prog.info? 72).map (·.size)=some 2:=by kernel_rfl
     refine Flow.wrf 6 (Flow.sp3 [.inl ?_,.inl ?_,.inl ?_,.inl ?_,.inl ?_,.inr (nT (.string vv.s) (.bool vv.null))]) (by kernel_rfl) (by kernel_rfl) ?_ ?_
     rotate_left 5
     ·refine Flow.sm2 ?_
      repeat (first | exact Flow.ln2 | refine Flow.li2 ?_ | refine Flow.li3 (nTm _ _) ?_)
     all_goals try simp only [List.take_succ_cons,List.take_zero,List.drop_succ_cons,List.drop_zero]
     iterate 5 (refine Flow.tvK rfl (fun K hK=>⟨fun w hw hG => ?_,?_⟩);(have Co:=Flow.bc4 hw;clear hG hw;unfold Flow.Runs Flow.yields;go_simp;try rfl);go_simp;refine hK _ ?_;clear hK K)
     (refine Flow.tvK2 rfl (fun K hK=>⟨fun w hw hG => ?_,?_⟩);(clear hG hw;unfold Flow.Runs Flow.yields;go_simp;exact ⟨(la2 _ _).2.2,nTm2 _ _ _ _⟩);intro vn;go_simp;refine hK _ _ ?_;clear hK K)
     refine Flow.tn2 fun w8 hw8 hG => ?_
     obtain ⟨gn,rfl,Cn,A5,A0⟩:=(show nT (.string vv.s) (.bool vv.null) vn w8 by simpa [Flow.upd] using hG 5)
     have Al:=Hd (Bt Aw.out (hw8.mono (Nat.le_refl _)))
     obtain ⟨Ab,Ai,Aj,Ac⟩:=HG.out.key
     have Bk:=(Array.getElem?_eq_some_iff.1 Ai).1
     have Ap:=(Al.out.block kb Bk).trans Ai
     have Ae:Nat.min 1 (q.names.length - k)=1:=Nat.min_eq_left (by omega)
     have A2:=rcr (P:=Tryz.prog) w8 52 52 3 72 kb (k * 2) (q.names.length - k) (q.names.length - k) 2 ⟨gn,0,none⟩ 1 1 Ab 72 [.string vv.s,.bool vv.null] Tryz.underlying52 B3 Ap (by rw [Ae];rfl) (fun j u hu=>by
      match j,hu with
      | 0,hu=>simp at hu;subst hu;simpa [Addr.add] using A5
      | 1,hu=>simp at hu;subst hu;simpa [Addr.add] using A0) (by simp;omega) (fun u hu=>by simp at hu;rcases hu with rfl | rfl <;> rfl)
     rw [Ae] at A2
     have Bn:=Hd Ap
     have Ax:=Hd Aj
     have Au:=Hd Ac
     obtain ⟨W9,Am⟩:∃ W9,w8.setRow kb (Ab.toList.take (k * 2) ++ [Value.string vv.s,Value.bool vv.null] ++ Ab.toList.drop (k * 2 + [Value.string vv.s,Value.bool vv.null].length)).toArray=W9:=⟨_,rfl⟩
     rw [Am] at A2
     have An:=Hd Am
     clear Ai Aj Ac Ap Am hG hw8 A5 A0
     go_simp
     go_wp2_with (fail)
     go_roundw
     case rel=>
      refine ⟨k + 1,by omega,by go_num,?_⟩
      have Aa:∀ b,b < wr.heap.size→b≠kb→W9.heap[b]? = wr.heap[b]? := fun b hb hne=>by rw [← An.out,setRow_other _ _ _ _ hne];exact Al.out.block b hb
      have A6:=A9.out
      have Ac:=Au.out
      have Aj:=Ax.out
      refine ⟨(Aa _ l0 (by omega)).trans HG.out.b0,(Aa _ l1 (by omega)).trans HG.out.b1,(Aa _ l3 (by omega)).trans HG.out.b3,(Aa _ l2 (by omega)).trans HG.out.b2,⟨_,by rw [← An.out];exact setRow_heap w8 kb Ab _ _ _ Bn.out,?_,?_⟩,?_⟩
      ·simp only [List.size_toArray,List.length_append,List.length_take,List.length_drop,Array.length_toList,List.length_cons,List.length_nil];omega
      ·have Bw:(Ab.toList.take (k * 2) ++ [Value.string vv.s,Value.bool vv.null]).length=(k + 1) * 2:=by
        simp only [List.length_append,List.length_take,Array.length_toList,List.length_cons,List.length_nil];omega
       rw [List.take_append_of_le_length (by omega),List.take_of_length_le (by omega),Ac,List.take_succ_eq_append_getElem Cj,vCa,Bm.out];rfl
      ·have A1:=HG.out.below
       refine (A1.trans (Al.out.mono A1.size)).trans ?_
       rw [← An.out]
       exact ⟨rfl,rfl,rfl,by rw [setRow_size];exact Nat.le_refl _,fun b hb=>setRow_other w8 _ b _ (by omega)⟩
     case measure=>simp [intOf];omega
    ·have Cs:(bits BinOp.and IntKind.i64 ((set:Int) / 2 ^ k) 1 == 0)=false:=by
      rw [A7,beq_eq_false_iff_ne]
      intro e;exact hbit (Int.natCast_eq_zero.1 e)
     rw [if_neg hbit] at Ao
     obtain ⟨vv,Ar⟩:∃ vv,kl[k]=vv:=⟨_,rfl⟩
     have Bm:=Hd Ar
     have At:=Hd (show W1.heap[wr.heap.size]? = some (.cells #[.string vv.s,.bool vv.null] 72 (0,0)) by rw [← Ar,Ao];exact By.out)
     clear Ao Ar hbit A7
     generalize hyy:q.names[k]=y at *
     clear hyy
     go_wp2_with (fail)
     have Aw:=Be
     obtain ⟨Wv,Av⟩:∃ Wv,W1=Wv:=⟨_,rfl⟩
     rw [Av] at At Aw ⊢
     clear Av
     have Ak:=(Aw.out.block _ l3).trans HG.out.b3
     obtain ⟨⟨_,_,gk,_⟩,_⟩:=can7 Ak
     obtain ⟨⟨Ck,C0⟩,_⟩:=can2 At.out
     have C5:=(Array.getElem?_eq_some_iff.1 Ak).1
     have Cw:=(Array.getElem?_eq_some_iff.1 At.out).1
     clear Ak
     have Cy:¬ q.names.length=k:=by omega
     have B3:(Tryz.prog.info? 72).map (·.size)=some 2:=by kernel_rfl
     refine Flow.wrf 6 (Flow.sp3 [.inl ?_,.inl ?_,.inl ?_,.inl ?_,.inl ?_,.inr (nT (.string vv.s) (.bool vv.null))]) (by kernel_rfl) (by kernel_rfl) ?_ ?_
     rotate_left 5
     ·refine Flow.sm2 ?_
      repeat (first | exact Flow.ln2 | refine Flow.li2 ?_ | refine Flow.li3 (nTm _ _) ?_)
     all_goals try simp only [List.take_succ_cons,List.take_zero,List.drop_succ_cons,List.drop_zero]
     iterate 5 (refine Flow.tvK rfl (fun K hK=>⟨fun w hw hG => ?_,?_⟩);(have Co:=Flow.bc4 hw;clear hG hw;unfold Flow.Runs Flow.yields;go_simp;try rfl);go_simp;refine hK _ ?_;clear hK K)
     (refine Flow.tvK2 rfl (fun K hK=>⟨fun w hw hG => ?_,?_⟩);(clear hG hw;unfold Flow.Runs Flow.yields;go_simp;exact ⟨(la2 _ _).2.2,nTm2 _ _ _ _⟩);intro vn;go_simp;refine hK _ _ ?_;clear hK K)
     refine Flow.tn2 fun w8 hw8 hG => ?_
     obtain ⟨gn,rfl,Cn,A5,A0⟩:=(show nT (.string vv.s) (.bool vv.null) vn w8 by simpa [Flow.upd] using hG 5)
     have Al:=Hd (Bt Aw.out (hw8.mono (Nat.le_refl _)))
     obtain ⟨Ab,Ai,Aj,Ac⟩:=HG.out.key
     have Bk:=(Array.getElem?_eq_some_iff.1 Ai).1
     have Ap:=(Al.out.block kb Bk).trans Ai
     have Ae:Nat.min 1 (q.names.length - k)=1:=Nat.min_eq_left (by omega)
     have A2:=rcr (P:=Tryz.prog) w8 52 52 3 72 kb (k * 2) (q.names.length - k) (q.names.length - k) 2 ⟨gn,0,none⟩ 1 1 Ab 72 [.string vv.s,.bool vv.null] Tryz.underlying52 B3 Ap (by rw [Ae];rfl) (fun j u hu=>by
      match j,hu with
      | 0,hu=>simp at hu;subst hu;simpa [Addr.add] using A5
      | 1,hu=>simp at hu;subst hu;simpa [Addr.add] using A0) (by simp;omega) (fun u hu=>by simp at hu;rcases hu with rfl | rfl <;> rfl)
     rw [Ae] at A2
     have Bn:=Hd Ap
     have Ax:=Hd Aj
     have Au:=Hd Ac
     obtain ⟨W9,Am⟩:∃ W9,w8.setRow kb (Ab.toList.take (k * 2) ++ [Value.string vv.s,Value.bool vv.null] ++ Ab.toList.drop (k * 2 + [Value.string vv.s,Value.bool vv.null].length)).toArray=W9:=⟨_,rfl⟩
     rw [Am] at A2
     have An:=Hd Am
     clear Ai Aj Ac Ap Am hG hw8 A5 A0
     go_simp
     go_wp2_with (fail)
     go_roundw
     case rel=>
      refine ⟨k + 1,by omega,by go_num,?_⟩
      have Aa:∀ b,b < wr.heap.size→b≠kb→W9.heap[b]? = wr.heap[b]? := fun b hb hne=>by rw [← An.out,setRow_other _ _ _ _ hne];exact Al.out.block b hb
      have A6:=A9.out
      have Ac:=Au.out
      have Aj:=Ax.out
      refine ⟨(Aa _ l0 (by omega)).trans HG.out.b0,(Aa _ l1 (by omega)).trans HG.out.b1,(Aa _ l3 (by omega)).trans HG.out.b3,(Aa _ l2 (by omega)).trans HG.out.b2,⟨_,by rw [← An.out];exact setRow_heap w8 kb Ab _ _ _ Bn.out,?_,?_⟩,?_⟩
      ·simp only [List.size_toArray,List.length_append,List.length_take,List.length_drop,Array.length_toList,List.length_cons,List.length_nil];omega
      ·have Bw:(Ab.toList.take (k * 2) ++ [Value.string vv.s,Value.bool vv.null]).length=(k + 1) * 2:=by
        simp only [List.length_append,List.length_take,Array.length_toList,List.length_cons,List.length_nil];omega
       rw [List.take_append_of_le_length (by omega),List.take_of_length_le (by omega),Ac,List.take_succ_eq_append_getElem Cj,vCa,Bm.out];rfl
      ·have A1:=HG.out.below
       refine (A1.trans (Al.out.mono A1.size)).trans ?_
       rw [← An.out]
       exact ⟨rfl,rfl,rfl,by rw [setRow_size];exact Nat.le_refl _,fun b hb=>setRow_other w8 _ b _ (by omega)⟩
     case measure=>simp [intOf];omega
   ·have Cr:¬ (k:Int) < (q.names.length:Int):=by omega
    obtain rfl:k=q.names.length:=by omega
    obtain ⟨b0,b1,b3,b2,⟨Ab,Ai,Aj,Ac⟩,below⟩:=B1
    obtain ⟨B8,C8,j0,jo,js,jB⟩:=box7 (.int .i64 (set:Nat)) (.int .i64 TT) (.slice (some ⟨kb,0,none⟩) q.names.length q.names.length) (.int .i64 x.2.n) (.slice a3 x.2.sums.length c3) (.slice a4 x.2.mins.length c4) (.slice a5 x.2.maxs.length c5) b2 below (show w.heap.size≤w.heap.size + 1 + 1 by omega)
    have A6:=A9.out
    have Bb:=(jo kb (by omega)).trans Ai
    have B0:=B2.out
    rw [show kl.take q.names.length=kl from List.take_of_length_le (by omega)] at Ac
    have B6:VA (fun b=>p b∨w.heap.size≤b) B8 (.slice (some ⟨kb,0,none⟩) q.names.length q.names.length) kl:=by
     rw [← B0]
     refine ⟨_,_,rfl,by unfold maxLen;omega,by rw [← Bd.out];exact kFs s set maxLen x.1.2 Cu.out q.names 0,(fun e=>by cases e),fun hl=>⟨kb,0,rfl,(Array.getElem?_eq_some_iff.1 Bb).1,.inr (by omega),fun j hj => ?_⟩⟩
     obtain ⟨a1,a2⟩:=vCa2 kl j hj
     rw [← Ac,List.getElem?_take,if_pos (by omega),Array.getElem?_toList] at a1 a2
     rw [Nat.zero_add]
     exact ⟨(cell_of_row _ _ _ _ _ _ Bb).trans a1,(cell_of_row _ _ _ _ _ _ Bb).trans a2⟩
    have Cl:=Hd (show GA2 (fun b=>p b∨w.heap.size≤b) B8 [.int .i64 (set:Nat),.int .i64 TT,.slice (some ⟨kb,0,none⟩) q.names.length q.names.length,.int .i64 x.2.n,.slice a3 x.2.sums.length c3,.slice a4 x.2.mins.length c4,.slice a5 x.2.maxs.length c5] ((set:Nat),(Tess.cutE q.every x.1.1,Tess.kF2 s set x.1.2 0 q.names),x.2) from ⟨_,_,_,_,by rw [Ca.out],by rw [Bd.out];exact B6,(B4.out.ag (Ag.new p jB)).weak fun b hb => .inl hb⟩)
    obtain ⟨⟨r0,r1,r2,r3,r4,r5,r6⟩,_⟩:=can7 b3
    obtain ⟨⟨t0,t1,t2,t3,t4,t5,t6⟩,Dg,C7,Dd,Df,De,Dc,C9⟩:=can7 b2
    obtain ⟨⟨z0,z1,z2,z3,z4,z5,z6⟩,_⟩:=can7 j0
    have C3:=Hd jB
    clear b0 b1 b2 b3 below Ai Aj Ac Bb j0 jo js jB B6
    go_wp2_with (fail)
    refine bodyPost_ret (v:=.agg #[.int .i64 (set:Nat),.int .i64 TT,.slice (some ⟨kb,0,none⟩) q.names.length q.names.length,.int .i64 x.2.n,.slice a3 x.2.sums.length c3,.slice a4 x.2.mins.length c4,.slice a5 x.2.maxs.length c5]) (by simp [results,Tryz.results67,go_sem,z0,z1,z2,z3,z4,z5,z6]) rfl ⟨[_,_,_,_,_,_,_],rfl,Cl.out,C3.out⟩
end Go.Proofs.YtaddkkkchkdgkaaGreatDoor
