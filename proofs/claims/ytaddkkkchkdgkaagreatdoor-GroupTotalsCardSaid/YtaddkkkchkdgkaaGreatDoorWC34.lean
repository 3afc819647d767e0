/- A cell's group: walked. -/
import Derived.Test.YtaddkkkchkdgkaaGreatDoorWC33
import Derived.Test.YtaddkkkchkdgkaaGreatDoorWC16
import Derived.Test.YtaddkkkchkdgkaaGreatDoorWC13
import Derived.Lib.RabinKarpLaws
namespace Go.Proofs.YtaddkkkchkdgkaaGreatDoor
open Go.RowKit Go.Sort Go.Shelf
open Tess (CK Pay PayOk CelsOk Que)
theorem infoVal6:(Tryz.prog.info? 72).map (fun i=>(i.zero,i.size,i.bytes))=some (some (.agg #[.string ByteArray.empty,.bool false]),2,24):=by kernel_rfl
theorem laid4n (w:World) (A B C D:Obj):∃ W,(((w.alloc A).alloc B).alloc C).alloc D=W∧W.heap[w.heap.size]? = some A∧W.heap[w.heap.size + 1]? = some B∧W.heap[w.heap.size + 1 + 1]? = some C∧W.heap[w.heap.size + 1 + 1 + 1]? = some D∧W.heap.size=w.heap.size + 4∧Below w.heap.size w W:=by
 obtain ⟨h0,h1,h2,h3,hS,hB⟩:=laid4 w A B C D
 exact ⟨_,rfl,h0,h1,h2,h3,hS,hB⟩
theorem mk5 (W3:World) (G n:Nat) (e T c vs vm vx:Value) (h:W3.heap[G]? = some (.cells #[e,T,.slice none 0 0,c,vs,vm,vx] 56 (0,0))) (hn:n≤1000000) :
  ∃ W4 W5 cur,(Instr.makeSlice 52 (.int .i64 (n:Int)) (.int .i64 (n:Int))).run Tryz.prog W3 = .ok (.slice (some ⟨W3.heap.size,0,none⟩) n n) W4∧(W4.cell? ⟨G,2,none⟩=some (.slice none 0 0)∧W4.frozen? ⟨G,2,none⟩=false) ∧
    W4.setCell ⟨G,2,none⟩ (.slice (some ⟨W3.heap.size,0,none⟩) n n)=W5∧W5.heap[G]? = some (.cells #[e,T,.slice (some ⟨W3.heap.size,0,none⟩) n n,c,vs,vm,vx] 56 (0,0))∧W5.heap[W3.heap.size]? = some (.cells cur 72 (0,0))∧cur.size=n * 2∧Tch (fun b=>b=G) W3 W5:=by
 obtain ⟨i0,hi,hz0,hz1,hz2⟩:=info_parts infoVal6
 obtain ⟨W4,cur,hr,hg,hs,hb⟩:=run_make_some (P:=Tryz.prog) W3 52 72 i0 _ 2 Tryz.underlying52 hi hz0 hz1 .i64 .i64 n n (Nat.le_refl _) (by rw [hz2];omega) (by unfold maxLen;omega)
 have hlt:=(Array.getElem?_eq_some_iff.1 h).1
 have h4:=(hb.block G hlt).trans h
 obtain ⟨⟨_,_,c2,_⟩,_,_,f2,_⟩:=can7 h4
 refine ⟨W4,_,cur,hr,⟨c2,f2⟩,rfl,heap_setCell_same W4 G 2 _ _ _ h4,?_,hs,(Tch.new hb).trans (Tch.set W4 ⟨G,2,none⟩ _ rfl)⟩
 rw [heap_setCell_other _ _ _ _ (by show W3.heap.size≠G;omega)]
 exact hg
theorem bit_one (set k:Nat) (h:set < 9223372036854775808):bits BinOp.and IntKind.i64 ((set:Int) / 2 ^ k) 1=((set / 2 ^ k % 2:Nat):Int):=by
 rw [← and_one (set / 2 ^ k) (Nat.lt_of_le_of_lt (Nat.div_le_self _ _) h),Int.natCast_ediv,Int.natCast_pow]
 rfl
theorem keyFrom_len (s:Tess.Sch) (set:Nat) (d:List Tess.DV):∀ (l:List ByteArray) (i:Nat),(Tess.keyFrom s set d i l).length=l.length
 | [],_=>rfl
 | _ :: l,i=>by rw [Tess.keyFrom,List.length_cons,List.length_cons,keyFrom_len s set d l]
theorem keyFrom_at (s:Tess.Sch) (set:Nat) (d:List Tess.DV):∀ (l:List ByteArray) (i k:Nat) (h:k < l.length) (h':k < (Tess.keyFrom s set d i l).length),(Tess.keyFrom s set d i l)[k]=if set / 2 ^ (i + k) % 2=0 then d.getD (Tess.dimW s l[k]).1 none else none
 | _ :: _,_,0,_,_=>rfl
 | _ :: l,i,k + 1,h,h'=>by
   have:=keyFrom_at s set d l (i + 1) k (by simpa using h) (by rw [keyFrom_len];simpa using h)
   rw [show i + 1 + k=i + (k + 1) by omega] at this
   exact this
theorem keyFrom_size (s:Tess.Sch) (set m:Nat) (d:List Tess.DV) (hd:∀ v ∈ d.map Tess.valOf,v.s.size≤m):∀ (l:List ByteArray) (i:Nat),∀ v ∈ (Tess.keyFrom s set d i l).map Tess.valOf,v.s.size≤m
 | [],_,v,hv=>by simp [Tess.keyFrom] at hv
 | y :: l,i,v,hv=>by
   rw [Tess.keyFrom,List.map_cons,List.mem_cons] at hv
   rcases hv with rfl | hv
   ·have h0:(Tess.valOf none).s.size≤m:=by simp [Tess.valOf]
    split
    ·rw [List.getD_eq_getElem?_getD]
     cases e:d[(Tess.dimW s y).1]? with
     | none=>exact h0
     | some z=>exact hd _ (List.mem_map.2 ⟨z,List.mem_of_getElem? e,rfl⟩)
    ·exact h0
   ·exact keyFrom_size s set m d hd l (i + 1) v hv
structure Gp (w:World) (fol cel grp:Array Value) (kb n k:Nat) (kl:List Tess.Val) (W:World):Prop where
 b0:W.heap[w.heap.size]? = some (.cells fol 92 (0,0))
 b1:W.heap[w.heap.size + 1]? = some (.cells cel 83 (0,0))
 b3:W.heap[w.heap.size + 1 + 1 + 1]? = some (.cells grp 56 (0,0))
 b2:W.heap[w.heap.size + 1 + 1]? = some (.cells #[.int .i64 0,.int .i64 0,.slice none 0 0,.int .i64 0,.slice none 0 0,.slice none 0 0,.slice none 0 0] 56 (0,0))
 key:∃ cur,W.heap[kb]? = some (.cells cur 72 (0,0))∧cur.size=n * 2∧cur.toList.take (k * 2)=valCells (kl.take k)
 below:Below w.heap.size w W
set_option maxRecDepth 100000 in
set_option maxHeartbeats 16000000 in
theorem groupOf_any (p:Nat→Prop) (s:Tess.Sch) (q:Que) (set:Nat) (x:CK×Pay) (q0 q2 q3 q5 q6 q7 q8 q9 qa qb qc qd s0 s1 vp vb:Value) (cs:List Value) (w:World)
  (hs:SchAt p w (.agg #[s0,s1,.int .i64 s.grain]) s) (hb:SlP p w vb (q.names.map .string)) (hc:CelAt p w cs x) (hn:q.names.length≤60) (hset:set < 2 ^ q.names.length) (ht:0≤x.1.1∧x.1.1≤1000000000000) (he:0≤q.every∧q.every≤1000000000)
  (hd:∀ y ∈ q.names,(Tess.dimW s y).1 < x.1.2.length) :
  Calls Tryz.prog 67 #[.agg #[q0,vb,q2,q3,.int .i64 q.every,q5,q6,q7,q8,q9,qa,qb,qc,qd,s0,s1,.int .i64 s.grain,.int .i64 (set:Nat),vp],.agg cs.toArray] w fun e w' => ∃ cs',e = .returned (.agg cs'.toArray)∧GrpAt (fun b=>p b∨w.heap.size≤b) w' cs' ((set:Nat),(Tess.cutE q.every x.1.1,Tess.keyFrom s set x.1.2 0 q.names),x.2)∧Below w.heap.size w w':=by
 have HC:=Lib.hid hc
 have HDIM:=Lib.hid (fun W y (hB:Below w.heap.size w W)=>dim_any _ s y p W (hs.ag (Ag.new p hB)))
 obtain ⟨ad,cd,a3,c3,a4,c4,a5,c5,rfl,_⟩:=hc.shapes
 have hvc:ValCell w ad (x.1.2.map Tess.valOf):=by
  obtain ⟨vd,vs,vm,vx,e,h1,_⟩:=hc
  obtain ⟨a,cap,rfl,_,h2⟩:=h1.cells
  simp only [List.cons.injEq,Value.slice.injEq] at e
  rw [e.2.1.1];exact h2
 have HVS:=Lib.hid (show ∀ v ∈ x.1.2.map Tess.valOf,v.s.size≤maxLen by
  obtain ⟨vd,vs,vm,vx,e,h1,_⟩:=hc
  obtain ⟨_,_,_,_,h2,_⟩:=h1
  exact h2)
 have HPAY:=Lib.hid (show PayAt p w (.slice a3 x.2.sums.length c3) (.slice a4 x.2.mins.length c4) (.slice a5 x.2.maxs.length c5) x.2 by
  obtain ⟨vd,vs,vm,vx,e,_,h1⟩:=hc
  simp only [List.cons.injEq,and_true] at e
  obtain ⟨_,_,_,e1,e2,e3⟩:=e
  rw [e1,e2,e3];exact h1)
 have HVC:=Lib.hid hvc
 clear hvc
 have hs63:set < 9223372036854775808:=by
  have:(2:Nat) ^ q.names.length≤2 ^ 60:=Nat.pow_le_pow_right (by decide) hn
  have e:(2:Nat) ^ 60=1152921504606846976:=by decide
  omega
 obtain ⟨W0,hW0,k0,k1,k2,k3,kS,kB⟩:=laid4n w (.cells #[q0,vb,q2,q3,.int .i64 q.every,q5,q6,q7,q8,q9,qa,qb,qc,qd,s0,s1,.int .i64 s.grain,.int .i64 (set:Nat),vp] 92) (.cells #[.int .i64 x.1.1,.slice ad x.1.2.length cd,.int .i64 x.2.n,.slice a3 x.2.sums.length c3,.slice a4 x.2.mins.length c4,.slice a5 x.2.maxs.length c5] 83) (.cells #[.int .i64 0,.int .i64 0,.slice none 0 0,.int .i64 0,.slice none 0 0,.slice none 0 0,.slice none 0 0] 56) (.cells #[.int .i64 (set:Nat),.int .i64 0,.slice none 0 0,.int .i64 x.2.n,.slice a3 x.2.sums.length c3,.slice a4 x.2.mins.length c4,.slice a5 x.2.maxs.length c5] 56)
 obtain ⟨⟨y0,y1,y2,y3,y4,y5,y6,y7,y8,y9,ya,yb,yc,yd⟩,⟨ye,yf,yg⟩,yh,yi⟩:=can19 k0
 obtain ⟨⟨x0,x1,x2,x3,x4,x5⟩,_⟩:=can6 k1
 obtain ⟨⟨g0,g1,g2,g3,g4,g5,g6⟩,f0,f1,f2,f3,f4,f5,f6⟩:=can7 k3
 have HK0:=Lib.hid k0
 have HK1:=Lib.hid k1
 have HK3:=Lib.hid k3
 have HK2:=Lib.hid k2
 have HKS:=Lib.hid kS
 have HKB:=Lib.hid kB
 have HB:=Lib.hid hb
 have HD:=Lib.hid hd
 obtain ⟨⟨hln,ba,bc,rfl,hbc⟩,hbp,_⟩:=hb
 rw [List.length_map] at *
 have HBC:=Lib.hid hbc
 clear hc hs hbc hbp hln hd k0 k1 k2 kS
 have HKY:=Lib.hid (fun k (h:k < q.names.length)=>keyFrom_at s set x.1.2 q.names 0 k h (by rw [keyFrom_len];exact h))
 have HKL:=Lib.hid (show ((Tess.keyFrom s set x.1.2 0 q.names).map Tess.valOf).length=q.names.length by rw [List.length_map,keyFrom_len])
 obtain ⟨kl,hkl⟩:∃ kl,(Tess.keyFrom s set x.1.2 0 q.names).map Tess.valOf=kl:=⟨_,rfl⟩
 rw [hkl] at HKL
 have HKE:=Lib.hid hkl
 clear hkl
 by_cases hev:0 < q.every
 ·go_enter Tryz.func67,Tryz.ntmps67
  go_wp2_with (fail)
  go_at_call 55
  have HCUT:=gCut_any x.1.1 q.every W0 ht ⟨by omega,he.2⟩
  rw [show x.1.1 - x.1.1 % q.every=Tess.cutE q.every x.1.1 by unfold Tess.cutE;rw [if_pos hev]] at HCUT
  refine HCUT.mono ?_
  rintro e w2 ⟨rfl,hb2⟩
  have h0:=(hb2.block w.heap.size (by rw [HKS.out];omega)).trans HK0.out
  have h1:=(hb2.block (w.heap.size + 1) (by rw [HKS.out];omega)).trans HK1.out
  have h2:=(hb2.block (w.heap.size + 1 + 1) (by rw [HKS.out];omega)).trans HK2.out
  have h3:=(hb2.block (w.heap.size + 1 + 1 + 1) (by rw [HKS.out];omega)).trans HK3.out
  obtain ⟨⟨_,u1,_⟩,_,z1,_⟩:=can7 h3
  have H3:=heap_setCell_same w2 (w.heap.size + 1 + 1 + 1) 1 _ _ (.int .i64 (Tess.cutE q.every x.1.1)) h3
  have HO:∀ b,b≠w.heap.size + 1 + 1 + 1→(w2.setCell ⟨w.heap.size + 1 + 1 + 1,1,none⟩ (.int .i64 (Tess.cutE q.every x.1.1))).heap[b]? = w2.heap[b]? := fun b hb=>heap_setCell_other _ _ _ _ hb
  have HB3:Below w.heap.size w (w2.setCell ⟨w.heap.size + 1 + 1 + 1,1,none⟩ (.int .i64 (Tess.cutE q.every x.1.1))):=(Bt HKB.out hb2).setCell (by show w.heap.size≤w.heap.size + 1 + 1 + 1;omega) _
  obtain ⟨W3,hW3⟩:∃ W3,w2.setCell ⟨w.heap.size + 1 + 1 + 1,1,none⟩ (.int .i64 (Tess.cutE q.every x.1.1))=W3:=⟨_,rfl⟩
  rw [hW3] at H3 HB3
  rw [hW3] at HO
  have h0:=(HO w.heap.size (by omega)).trans h0
  have h1:=(HO (w.heap.size + 1) (by omega)).trans h1
  have h2:=(HO (w.heap.size + 1 + 1) (by omega)).trans h2
  obtain ⟨W4,W5,cur,hmk,⟨m2,mf2⟩,hW5,G5,K5,hcur,T5⟩:=mk5 W3 (w.heap.size + 1 + 1 + 1) q.names.length _ _ _ _ _ _ H3 (by omega)
  have l0:=(Array.getElem?_eq_some_iff.1 h0).1
  have l1:=(Array.getElem?_eq_some_iff.1 h1).1
  have l2:=(Array.getElem?_eq_some_iff.1 h2).1
  have h25:=(T5.block (w.heap.size + 1 + 1) l2 (by omega)).trans h2
  have h05:=(T5.block w.heap.size l0 (by omega)).trans h0
  have h15:=(T5.block (w.heap.size + 1) l1 (by omega)).trans h1
  have hB5:=HB3.trans (T5.below (N:=w.heap.size) (by omega) (fun b hb=>by omega))
  have n3:=(can19 h0).1.2.1
  have n5:=(can19 h05).1.2.1
  have HGP:=Lib.hid (show Gp w _ _ _ W3.heap.size q.names.length 0 kl W5 from ⟨h05,h15,G5,h25,⟨cur,K5,hcur,by simp [valCells]⟩,hB5⟩)
  have hkn:w.heap.size + 4≤W3.heap.size:=by have:=(Array.getElem?_eq_some_iff.1 H3).1;have:=HKS.out;have:=hb2.size;have:=congrArg (fun W=>W.heap.size) hW3;simp only [setCell_size] at this;omega
  clear h0 h1 h2 h3 H3 HO HB3 h05 h15 h25 hB5 G5 K5 T5 l0 l1 l2 hW0 HCUT hb2
  have HKN:=Lib.hid hkn
  clear hkn
  go_wp2_with (fail)
  clear n5 n3 m2 mf2 u1 z1 hmk hW5 hcur
  obtain ⟨TT,hTE⟩:∃ TT,TT=Tess.cutE q.every x.1.1:=⟨_,rfl⟩
  rw [← hTE] at HGP
  have HTE:=Lib.hid hTE
  clear hW3 hTE
  generalize W3.heap.size=kb at *
  go_loopw [46] (fun i wr => ∃ k:Nat,k≤q.names.length∧i = .int .i64 k∧Gp w #[q0,.slice ba q.names.length bc,q2,q3,.int .i64 q.every,q5,q6,q7,q8,q9,qa,qb,qc,qd,s0,s1,.int .i64 s.grain,.int .i64 (set:Nat),vp] #[.int .i64 x.1.1,.slice ad x.1.2.length cd,.int .i64 x.2.n,.slice a3 x.2.sums.length c3,.slice a4 x.2.mins.length c4,.slice a5 x.2.maxs.length c5] #[.int .i64 (set:Nat),.int .i64 TT,.slice (some ⟨kb,0,none⟩) q.names.length q.names.length,.int .i64 x.2.n,.slice a3 x.2.sums.length c3,.slice a4 x.2.mins.length c4,.slice a5 x.2.maxs.length c5] kb q.names.length k kl wr) (fun i _=>q.names.length - (intOf i).toNat)
  case atStart=>exact ⟨0,Nat.zero_le _,rfl,HGP.out⟩
  case round=>
   obtain ⟨k,hk,rfl,hgp⟩:=hrel
   by_cases hlt:k < q.names.length
   ·have hki:(k:Int) < (q.names.length:Int):=by omega
    have HG:=Lib.hid hgp
    obtain ⟨b0,b1,b3,b2,_,below⟩:=hgp
    obtain ⟨nb,no,rfl,hnb,hnc⟩:=HBC.out (by simp only [List.length_map];omega)
    have n1:=(below.cell (p:=⟨nb,no + k,none⟩) hnb).trans (hnc k (by simpa using hlt))
    rw [List.getElem_map] at n1
    have hnb2:nb < wr.heap.size:=Nat.lt_of_lt_of_le hnb below.size
    have l0:=(Array.getElem?_eq_some_iff.1 b0).1
    have l1:=(Array.getElem?_eq_some_iff.1 b1).1
    have l3:=(Array.getElem?_eq_some_iff.1 b3).1
    have l2:=(Array.getElem?_eq_some_iff.1 b2).1
    obtain ⟨W1,hW1⟩:∃ W1,wr.alloc (.cells #[.string ⟨#[]⟩,.bool true] 72)=W1:=⟨_,rfl⟩
    obtain ⟨k1,kS,kB⟩:=laid1 wr (.cells #[.string ⟨#[]⟩,.bool true] 72)
    rw [hW1] at k1 kS kB
    obtain ⟨_,⟨ye,yf,yg⟩,yh,_⟩:=can19 ((kB.block _ l0).trans b0)
    have HV1:=Lib.hid k1
    have HVB:=Lib.hid kB
    clear b0 b1 b2 b3 below hnc k1 kS kB
    have hbt:=bit_one set k hs63
    obtain ⟨hvl,hve⟩:∃ h:k < kl.length,kl[k]=Tess.valOf (if set / 2 ^ (0 + k) % 2=0 then x.1.2.getD (Tess.dimW s q.names[k]).1 none else none):=by
     refine ⟨by rw [HKL.out];exact hlt,?_⟩
     simp only [← HKE.out,List.getElem_map,HKY.out k hlt]
    rw [Nat.zero_add] at hve
    have hdl:=HD.out _ (List.getElem_mem hlt)
    by_cases hbit:set / 2 ^ k % 2=0
    ·have hbe:(bits BinOp.and IntKind.i64 ((set:Int) / 2 ^ k) 1 == 0)=true:=by rw [hbt,hbit];rfl
     rw [if_pos hbit] at hve
     have hvd:kl[k]=(x.1.2.map Tess.valOf)[(Tess.dimW s q.names[k]).1]'(by rw [List.length_map];exact hdl):=by
      rw [hve,List.getElem_map,List.getD_eq_getElem?_getD,List.getElem?_eq_getElem hdl,Option.getD_some]
     obtain ⟨vv,hvv⟩:∃ vv,kl[k]=vv:=⟨_,rfl⟩
     rw [hvv] at hvd
     have HVE:=Lib.hid hvv
     clear hve hvv hbit hbt
     generalize hyy:q.names[k]=y at *
     obtain ⟨db,dof,rfl,hdb,dc0,dc1⟩:=HVC.out (Tess.dimW s y).1 (by rw [List.length_map];exact hdl)
     rw [← hvd] at dc0 dc1
     clear hvd hyy
     go_wp2_with (fail)
     go_at_call 104
     refine (HDIM.out W1 y (Bt HG.out.below HVB.out)).mono ?_
     rintro e w2 ⟨rfl,hb2⟩
     have HB2:=Lib.hid (Bt HVB.out hb2)
     have h1':=(HB2.out.block _ l1).trans HG.out.b1
     have h3':=(HB2.out.block _ l3).trans HG.out.b3
     obtain ⟨⟨_,x1',_⟩,_⟩:=can6 h1'
     have hv2:=(hb2.block wr.heap.size (by have:=(Array.getElem?_eq_some_iff.1 HV1.out).1;omega)).trans HV1.out
     obtain ⟨⟨v0,v1⟩,w0',w1'⟩:=can2 hv2
     have dc0':=((Bt HG.out.below HB2.out).cell (p:=⟨db,dof + (Tess.dimW s y).1 * 2,none⟩) hdb).trans dc0
     have dc1':=((Bt HG.out.below HB2.out).cell (p:=⟨db,dof + (Tess.dimW s y).1 * 2 + 1,none⟩) hdb).trans dc1
     have hdi:((Tess.dimW s y).1:Int) < (x.1.2.length:Int):=by omega
     generalize (Tess.dimW s y).1=dd at *
     have H1:=heap_setCell_same w2 wr.heap.size 0 _ _ (.string vv.s) hv2
     have H2:=heap_setCell_same _ wr.heap.size 1 _ _ (.bool vv.null) H1
     obtain ⟨Wv,hWv⟩:∃ Wv,(w2.setCell ⟨wr.heap.size,0,none⟩ (.string vv.s)).setCell ⟨wr.heap.size,1,none⟩ (.bool vv.null)=Wv:=⟨_,rfl⟩
     have HBV:=Lib.hid (show Below wr.heap.size wr Wv by rw [← hWv];exact ((HB2.out.setCell (Nat.le_refl _) _).setCell (Nat.le_refl _) _))
     rw [hWv] at H2
     have HVV:=Lib.hid H2
     clear hb2 h1' h3' hv2 H1 H2 dc0 dc1
     go_wp2_with (fail)
     clear v0 v1 w0' w1' dc0' dc1' x1' hWv
     have h3v:=(HBV.out.block _ l3).trans HG.out.b3
     obtain ⟨⟨_,_,gk,_⟩,_⟩:=can7 h3v
     obtain ⟨⟨v0v,v1v⟩,_⟩:=can2 HVV.out
     have l3v:=(Array.getElem?_eq_some_iff.1 h3v).1
     have lbv:=(Array.getElem?_eq_some_iff.1 HVV.out).1
     clear h3v
     have hnk:¬ q.names.length=k:=by omega
     have hi1:(Tryz.prog.info? 72).map (·.size)=some 2:=by kernel_rfl
     refine Flow.wp_region_flow_tail 6 (Flow.specs [.inl ?_,.inl ?_,.inl ?_,.inl ?_,.inl ?_,.inr (newTwo (.string vv.s) (.bool vv.null))]) (by kernel_rfl) (by kernel_rfl) ?_ ?_
     rotate_left 5
     ·refine Flow.specs_mono ?_
      repeat (first | exact Flow.lmono_nil | refine Flow.lmono_inl ?_ | refine Flow.lmono_inr (newTwo_mono _ _) ?_)
     all_goals try simp only [List.take_succ_cons,List.take_zero,List.drop_succ_cons,List.drop_zero]
     iterate 5 (refine Flow.tree_valK rfl (fun K hK=>⟨fun w hw hG => ?_,?_⟩);(have hcl:=Flow.bcell hw;clear hG hw;unfold Flow.Runs Flow.yields;go_simp;try rfl);go_simp;refine hK _ ?_;clear hK K)
     (refine Flow.tree_varK rfl (fun K hK=>⟨fun w hw hG => ?_,?_⟩);(clear hG hw;unfold Flow.Runs Flow.yields;go_simp;exact ⟨(laid1 _ _).2.2,newTwo_mk _ _ _ _⟩);intro vn;go_simp;refine hK _ _ ?_;clear hK K)
     refine Flow.tree_nil fun w8 hw8 hG => ?_
     obtain ⟨gn,rfl,hgn,hn0,hn1⟩:=(show newTwo (.string vv.s) (.bool vv.null) vn w8 by simpa [Flow.upd] using hG 5)
     have HW8:=Lib.hid (Bt HBV.out (hw8.mono (Nat.le_refl _)))
     obtain ⟨cur,hk1,hk2,hk3⟩:=HG.out.key
     have lkb:=(Array.getElem?_eq_some_iff.1 hk1).1
     have hk8:=(HW8.out.block kb lkb).trans hk1
     have hmin:Nat.min 1 (q.names.length - k)=1:=Nat.min_eq_left (by omega)
     have hrc:=run_copy_rowK (P:=Tryz.prog) w8 52 52 3 72 kb (k * 2) (q.names.length - k) (q.names.length - k) 2 ⟨gn,0,none⟩ 1 1 cur 72 [.string vv.s,.bool vv.null] Tryz.underlying52 hi1 hk8 (by rw [hmin];rfl) (fun j u hu=>by
      match j,hu with
      | 0,hu=>simp at hu;subst hu;simpa [Addr.add] using hn0
      | 1,hu=>simp at hu;subst hu;simpa [Addr.add] using hn1) (by simp;omega) (fun u hu=>by simp at hu;rcases hu with rfl | rfl <;> rfl)
     rw [hmin] at hrc
     have HK8:=Lib.hid hk8
     have HK2:=Lib.hid hk2
     have HK3:=Lib.hid hk3
     obtain ⟨W9,hW9⟩:∃ W9,w8.setRow kb (cur.toList.take (k * 2) ++ [Value.string vv.s,Value.bool vv.null] ++ cur.toList.drop (k * 2 + [Value.string vv.s,Value.bool vv.null].length)).toArray=W9:=⟨_,rfl⟩
     rw [hW9] at hrc
     have HW9:=Lib.hid hW9
     clear hk1 hk2 hk3 hk8 hW9 hG hw8 hn0 hn1
     go_simp
     go_wp2_with (fail)
     go_roundw
     case rel=>
      refine ⟨k + 1,by omega,by go_num,?_⟩
      have hoth:∀ b,b < wr.heap.size→b≠kb→W9.heap[b]? = wr.heap[b]? := fun b hb hne=>by rw [← HW9.out,setRow_other _ _ _ _ hne];exact HW8.out.block b hb
      have hkn:=HKN.out
      have hk3:=HK3.out
      have hk2:=HK2.out
      refine ⟨(hoth _ l0 (by omega)).trans HG.out.b0,(hoth _ l1 (by omega)).trans HG.out.b1,(hoth _ l3 (by omega)).trans HG.out.b3,(hoth _ l2 (by omega)).trans HG.out.b2,⟨_,by rw [← HW9.out];exact setRow_heap w8 kb cur _ _ _ HK8.out,?_,?_⟩,?_⟩
      ·simp only [List.size_toArray,List.length_append,List.length_take,List.length_drop,Array.length_toList,List.length_cons,List.length_nil];omega
      ·have hlen:(cur.toList.take (k * 2) ++ [Value.string vv.s,Value.bool vv.null]).length=(k + 1) * 2:=by
        simp only [List.length_append,List.length_take,Array.length_toList,List.length_cons,List.length_nil];omega
       rw [List.take_append_of_le_length (by omega),List.take_of_length_le (by omega),hk3,List.take_succ_eq_append_getElem hvl,valCells_app,HVE.out];rfl
      ·have hb1:=HG.out.below
       refine (hb1.trans (HW8.out.mono hb1.size)).trans ?_
       rw [← HW9.out]
       exact ⟨rfl,rfl,rfl,by rw [setRow_size];exact Nat.le_refl _,fun b hb=>setRow_other w8 _ b _ (by omega)⟩
     case measure=>simp [intOf];omega
    ·have hbe:(bits BinOp.and IntKind.i64 ((set:Int) / 2 ^ k) 1 == 0)=false:=by
      rw [hbt,beq_eq_false_iff_ne]
      intro e;exact hbit (Int.natCast_eq_zero.1 e)
     rw [if_neg hbit] at hve
     obtain ⟨vv,hvv⟩:∃ vv,kl[k]=vv:=⟨_,rfl⟩
     have HVE:=Lib.hid hvv
     have HVV:=Lib.hid (show W1.heap[wr.heap.size]? = some (.cells #[.string vv.s,.bool vv.null] 72 (0,0)) by rw [← hvv,hve];exact HV1.out)
     clear hve hvv hbit hbt
     generalize hyy:q.names[k]=y at *
     clear hyy
     go_wp2_with (fail)
     have HBV:=HVB
     obtain ⟨Wv,hWv⟩:∃ Wv,W1=Wv:=⟨_,rfl⟩
     rw [hWv] at HVV HBV ⊢
     clear hWv
     have h3v:=(HBV.out.block _ l3).trans HG.out.b3
     obtain ⟨⟨_,_,gk,_⟩,_⟩:=can7 h3v
     obtain ⟨⟨v0v,v1v⟩,_⟩:=can2 HVV.out
     have l3v:=(Array.getElem?_eq_some_iff.1 h3v).1
     have lbv:=(Array.getElem?_eq_some_iff.1 HVV.out).1
     clear h3v
     have hnk:¬ q.names.length=k:=by omega
     have hi1:(Tryz.prog.info? 72).map (·.size)=some 2:=by kernel_rfl
     refine Flow.wp_region_flow_tail 6 (Flow.specs [.inl ?_,.inl ?_,.inl ?_,.inl ?_,.inl ?_,.inr (newTwo (.string vv.s) (.bool vv.null))]) (by kernel_rfl) (by kernel_rfl) ?_ ?_
     rotate_left 5
     ·refine Flow.specs_mono ?_
      repeat (first | exact Flow.lmono_nil | refine Flow.lmono_inl ?_ | refine Flow.lmono_inr (newTwo_mono _ _) ?_)
     all_goals try simp only [List.take_succ_cons,List.take_zero,List.drop_succ_cons,List.drop_zero]
     iterate 5 (refine Flow.tree_valK rfl (fun K hK=>⟨fun w hw hG => ?_,?_⟩);(have hcl:=Flow.bcell hw;clear hG hw;unfold Flow.Runs Flow.yields;go_simp;try rfl);go_simp;refine hK _ ?_;clear hK K)
     (refine Flow.tree_varK rfl (fun K hK=>⟨fun w hw hG => ?_,?_⟩);(clear hG hw;unfold Flow.Runs Flow.yields;go_simp;exact ⟨(laid1 _ _).2.2,newTwo_mk _ _ _ _⟩);intro vn;go_simp;refine hK _ _ ?_;clear hK K)
     refine Flow.tree_nil fun w8 hw8 hG => ?_
     obtain ⟨gn,rfl,hgn,hn0,hn1⟩:=(show newTwo (.string vv.s) (.bool vv.null) vn w8 by simpa [Flow.upd] using hG 5)
     have HW8:=Lib.hid (Bt HBV.out (hw8.mono (Nat.le_refl _)))
     obtain ⟨cur,hk1,hk2,hk3⟩:=HG.out.key
     have lkb:=(Array.getElem?_eq_some_iff.1 hk1).1
     have hk8:=(HW8.out.block kb lkb).trans hk1
     have hmin:Nat.min 1 (q.names.length - k)=1:=Nat.min_eq_left (by omega)
     have hrc:=run_copy_rowK (P:=Tryz.prog) w8 52 52 3 72 kb (k * 2) (q.names.length - k) (q.names.length - k) 2 ⟨gn,0,none⟩ 1 1 cur 72 [.string vv.s,.bool vv.null] Tryz.underlying52 hi1 hk8 (by rw [hmin];rfl) (fun j u hu=>by
      match j,hu with
      | 0,hu=>simp at hu;subst hu;simpa [Addr.add] using hn0
      | 1,hu=>simp at hu;subst hu;simpa [Addr.add] using hn1) (by simp;omega) (fun u hu=>by simp at hu;rcases hu with rfl | rfl <;> rfl)
     rw [hmin] at hrc
     have HK8:=Lib.hid hk8
     have HK2:=Lib.hid hk2
     have HK3:=Lib.hid hk3
     obtain ⟨W9,hW9⟩:∃ W9,w8.setRow kb (cur.toList.take (k * 2) ++ [Value.string vv.s,Value.bool vv.null] ++ cur.toList.drop (k * 2 + [Value.string vv.s,Value.bool vv.null].length)).toArray=W9:=⟨_,rfl⟩
     rw [hW9] at hrc
     have HW9:=Lib.hid hW9
     clear hk1 hk2 hk3 hk8 hW9 hG hw8 hn0 hn1
     go_simp
     go_wp2_with (fail)
     go_roundw
     case rel=>
      refine ⟨k + 1,by omega,by go_num,?_⟩
      have hoth:∀ b,b < wr.heap.size→b≠kb→W9.heap[b]? = wr.heap[b]? := fun b hb hne=>by rw [← HW9.out,setRow_other _ _ _ _ hne];exact HW8.out.block b hb
      have hkn:=HKN.out
      have hk3:=HK3.out
      have hk2:=HK2.out
      refine ⟨(hoth _ l0 (by omega)).trans HG.out.b0,(hoth _ l1 (by omega)).trans HG.out.b1,(hoth _ l3 (by omega)).trans HG.out.b3,(hoth _ l2 (by omega)).trans HG.out.b2,⟨_,by rw [← HW9.out];exact setRow_heap w8 kb cur _ _ _ HK8.out,?_,?_⟩,?_⟩
      ·simp only [List.size_toArray,List.length_append,List.length_take,List.length_drop,Array.length_toList,List.length_cons,List.length_nil];omega
      ·have hlen:(cur.toList.take (k * 2) ++ [Value.string vv.s,Value.bool vv.null]).length=(k + 1) * 2:=by
        simp only [List.length_append,List.length_take,Array.length_toList,List.length_cons,List.length_nil];omega
       rw [List.take_append_of_le_length (by omega),List.take_of_length_le (by omega),hk3,List.take_succ_eq_append_getElem hvl,valCells_app,HVE.out];rfl
      ·have hb1:=HG.out.below
       refine (hb1.trans (HW8.out.mono hb1.size)).trans ?_
       rw [← HW9.out]
       exact ⟨rfl,rfl,rfl,by rw [setRow_size];exact Nat.le_refl _,fun b hb=>setRow_other w8 _ b _ (by omega)⟩
     case measure=>simp [intOf];omega
   ·have hki:¬ (k:Int) < (q.names.length:Int):=by omega
    obtain rfl:k=q.names.length:=by omega
    obtain ⟨b0,b1,b3,b2,⟨cur,hk1,hk2,hk3⟩,below⟩:=hgp
    obtain ⟨W4',hW4,j0,jo,js,jB⟩:=box7 (.int .i64 (set:Nat)) (.int .i64 TT) (.slice (some ⟨kb,0,none⟩) q.names.length q.names.length) (.int .i64 x.2.n) (.slice a3 x.2.sums.length c3) (.slice a4 x.2.mins.length c4) (.slice a5 x.2.maxs.length c5) b2 below (show w.heap.size≤w.heap.size + 1 + 1 by omega)
    have hkn:=HKN.out
    have hk9:=(jo kb (by omega)).trans hk1
    have hkll:=HKL.out
    rw [show kl.take q.names.length=kl from List.take_of_length_le (by omega)] at hk3
    have hVA:ValsAt (fun b=>p b∨w.heap.size≤b) W4' (.slice (some ⟨kb,0,none⟩) q.names.length q.names.length) kl:=by
     rw [← hkll]
     refine ⟨_,_,rfl,by unfold maxLen;omega,by rw [← HKE.out];exact keyFrom_size s set maxLen x.1.2 HVS.out q.names 0,(fun e=>by cases e),fun hl=>⟨kb,0,rfl,(Array.getElem?_eq_some_iff.1 hk9).1,.inr (by omega),fun j hj => ?_⟩⟩
     obtain ⟨a1,a2⟩:=valCells_at kl j hj
     rw [← hk3,List.getElem?_take,if_pos (by omega),Array.getElem?_toList] at a1 a2
     rw [Nat.zero_add]
     exact ⟨(cell_of_row _ _ _ _ _ _ hk9).trans a1,(cell_of_row _ _ _ _ _ _ hk9).trans a2⟩
    have HGR:=Lib.hid (show GrpAt (fun b=>p b∨w.heap.size≤b) W4' [.int .i64 (set:Nat),.int .i64 TT,.slice (some ⟨kb,0,none⟩) q.names.length q.names.length,.int .i64 x.2.n,.slice a3 x.2.sums.length c3,.slice a4 x.2.mins.length c4,.slice a5 x.2.maxs.length c5] ((set:Nat),(Tess.cutE q.every x.1.1,Tess.keyFrom s set x.1.2 0 q.names),x.2) from ⟨_,_,_,_,by rw [HTE.out],by rw [HKE.out];exact hVA,(HPAY.out.ag (Ag.new p jB)).weak fun b hb => .inl hb⟩)
    obtain ⟨⟨r0,r1,r2,r3,r4,r5,r6⟩,_⟩:=can7 b3
    obtain ⟨⟨t0,t1,t2,t3,t4,t5,t6⟩,g0',g1',g2',g3',g4',g5',g6'⟩:=can7 b2
    obtain ⟨⟨z0,z1,z2,z3,z4,z5,z6⟩,_⟩:=can7 j0
    have HJB:=Lib.hid jB
    clear b0 b1 b2 b3 below hk1 hk2 hk3 hk9 j0 jo js jB hVA
    go_wp2_with (fail)
    refine bodyPost_ret (v:=.agg #[.int .i64 (set:Nat),.int .i64 TT,.slice (some ⟨kb,0,none⟩) q.names.length q.names.length,.int .i64 x.2.n,.slice a3 x.2.sums.length c3,.slice a4 x.2.mins.length c4,.slice a5 x.2.maxs.length c5]) (by simp [results,Tryz.results67,go_sem,z0,z1,z2,z3,z4,z5,z6]) rfl ⟨[_,_,_,_,_,_,_],rfl,HGR.out,HJB.out⟩
 ·obtain ⟨W4,W5,cur,hmk,⟨m2,mf2⟩,hW5,G5,K5,hcur,T5⟩:=mk5 W0 (w.heap.size + 1 + 1 + 1) q.names.length _ _ _ _ _ _ HK3.out (by omega)
  have h05:=(T5.block w.heap.size (by rw [HKS.out];omega) (by omega)).trans HK0.out
  have h15:=(T5.block (w.heap.size + 1) (by rw [HKS.out];omega) (by omega)).trans HK1.out
  have h25:=(T5.block (w.heap.size + 1 + 1) (by rw [HKS.out];omega) (by omega)).trans HK2.out
  have hB5:=HKB.out.trans (T5.below (N:=w.heap.size) (by rw [HKS.out];omega) (fun b hb=>by omega))
  have n5:=(can19 h05).1.2.1
  have HGP:=Lib.hid (show Gp w _ _ _ W0.heap.size q.names.length 0 kl W5 from ⟨h05,h15,G5,h25,⟨cur,K5,hcur,by simp [valCells]⟩,hB5⟩)
  have HKN:=Lib.hid (show w.heap.size + 4≤W0.heap.size by rw [HKS.out];omega)
  clear h05 h15 h25 hB5 G5 K5 T5
  go_enter Tryz.func67,Tryz.ntmps67
  go_wp2_with (fail)
  clear n5 m2 mf2 hmk hW5 hcur
  obtain ⟨TT,hTT⟩:∃ TT:Int,TT=0:=⟨0,rfl⟩
  have HTE:=Lib.hid (show TT=Tess.cutE q.every x.1.1 by unfold Tess.cutE;rw [if_neg (by omega),hTT])
  rw [← hTT] at HGP
  clear hTT
  clear hW0
  generalize W0.heap.size=kb at *
  go_loopw [46] (fun i wr => ∃ k:Nat,k≤q.names.length∧i = .int .i64 k∧Gp w #[q0,.slice ba q.names.length bc,q2,q3,.int .i64 q.every,q5,q6,q7,q8,q9,qa,qb,qc,qd,s0,s1,.int .i64 s.grain,.int .i64 (set:Nat),vp] #[.int .i64 x.1.1,.slice ad x.1.2.length cd,.int .i64 x.2.n,.slice a3 x.2.sums.length c3,.slice a4 x.2.mins.length c4,.slice a5 x.2.maxs.length c5] #[.int .i64 (set:Nat),.int .i64 TT,.slice (some ⟨kb,0,none⟩) q.names.length q.names.length,.int .i64 x.2.n,.slice a3 x.2.sums.length c3,.slice a4 x.2.mins.length c4,.slice a5 x.2.maxs.length c5] kb q.names.length k kl wr) (fun i _=>q.names.length - (intOf i).toNat)
  case atStart=>exact ⟨0,Nat.zero_le _,rfl,HGP.out⟩
  case round=>
   obtain ⟨k,hk,rfl,hgp⟩:=hrel
   by_cases hlt:k < q.names.length
   ·have hki:(k:Int) < (q.names.length:Int):=by omega
    have HG:=Lib.hid hgp
    obtain ⟨b0,b1,b3,b2,_,below⟩:=hgp
    obtain ⟨nb,no,rfl,hnb,hnc⟩:=HBC.out (by simp only [List.length_map];omega)
    have n1:=(below.cell (p:=⟨nb,no + k,none⟩) hnb).trans (hnc k (by simpa using hlt))
    rw [List.getElem_map] at n1
    have hnb2:nb < wr.heap.size:=Nat.lt_of_lt_of_le hnb below.size
    have l0:=(Array.getElem?_eq_some_iff.1 b0).1
    have l1:=(Array.getElem?_eq_some_iff.1 b1).1
    have l3:=(Array.getElem?_eq_some_iff.1 b3).1
    have l2:=(Array.getElem?_eq_some_iff.1 b2).1
    obtain ⟨W1,hW1⟩:∃ W1,wr.alloc (.cells #[.string ⟨#[]⟩,.bool true] 72)=W1:=⟨_,rfl⟩
    obtain ⟨k1,kS,kB⟩:=laid1 wr (.cells #[.string ⟨#[]⟩,.bool true] 72)
    rw [hW1] at k1 kS kB
    obtain ⟨_,⟨ye,yf,yg⟩,yh,_⟩:=can19 ((kB.block _ l0).trans b0)
    have HV1:=Lib.hid k1
    have HVB:=Lib.hid kB
    clear b0 b1 b2 b3 below hnc k1 kS kB
    have hbt:=bit_one set k hs63
    obtain ⟨hvl,hve⟩:∃ h:k < kl.length,kl[k]=Tess.valOf (if set / 2 ^ (0 + k) % 2=0 then x.1.2.getD (Tess.dimW s q.names[k]).1 none else none):=by
     refine ⟨by rw [HKL.out];exact hlt,?_⟩
     simp only [← HKE.out,List.getElem_map,HKY.out k hlt]
    rw [Nat.zero_add] at hve
    have hdl:=HD.out _ (List.getElem_mem hlt)
    by_cases hbit:set / 2 ^ k % 2=0
    ·have hbe:(bits BinOp.and IntKind.i64 ((set:Int) / 2 ^ k) 1 == 0)=true:=by rw [hbt,hbit];rfl
     rw [if_pos hbit] at hve
     have hvd:kl[k]=(x.1.2.map Tess.valOf)[(Tess.dimW s q.names[k]).1]'(by rw [List.length_map];exact hdl):=by
      rw [hve,List.getElem_map,List.getD_eq_getElem?_getD,List.getElem?_eq_getElem hdl,Option.getD_some]
     obtain ⟨vv,hvv⟩:∃ vv,kl[k]=vv:=⟨_,rfl⟩
     rw [hvv] at hvd
     have HVE:=Lib.hid hvv
     clear hve hvv hbit hbt
     generalize hyy:q.names[k]=y at *
     obtain ⟨db,dof,rfl,hdb,dc0,dc1⟩:=HVC.out (Tess.dimW s y).1 (by rw [List.length_map];exact hdl)
     rw [← hvd] at dc0 dc1
     clear hvd hyy
     go_wp2_with (fail)
     go_at_call 104
     refine (HDIM.out W1 y (Bt HG.out.below HVB.out)).mono ?_
     rintro e w2 ⟨rfl,hb2⟩
     have HB2:=Lib.hid (Bt HVB.out hb2)
     have h1':=(HB2.out.block _ l1).trans HG.out.b1
     have h3':=(HB2.out.block _ l3).trans HG.out.b3
     obtain ⟨⟨_,x1',_⟩,_⟩:=can6 h1'
     have hv2:=(hb2.block wr.heap.size (by have:=(Array.getElem?_eq_some_iff.1 HV1.out).1;omega)).trans HV1.out
     obtain ⟨⟨v0,v1⟩,w0',w1'⟩:=can2 hv2
     have dc0':=((Bt HG.out.below HB2.out).cell (p:=⟨db,dof + (Tess.dimW s y).1 * 2,none⟩) hdb).trans dc0
     have dc1':=((Bt HG.out.below HB2.out).cell (p:=⟨db,dof + (Tess.dimW s y).1 * 2 + 1,none⟩) hdb).trans dc1
     have hdi:((Tess.dimW s y).1:Int) < (x.1.2.length:Int):=by omega
     generalize (Tess.dimW s y).1=dd at *
     have H1:=heap_setCell_same w2 wr.heap.size 0 _ _ (.string vv.s) hv2
     have H2:=heap_setCell_same _ wr.heap.size 1 _ _ (.bool vv.null) H1
     obtain ⟨Wv,hWv⟩:∃ Wv,(w2.setCell ⟨wr.heap.size,0,none⟩ (.string vv.s)).setCell ⟨wr.heap.size,1,none⟩ (.bool vv.null)=Wv:=⟨_,rfl⟩
     have HBV:=Lib.hid (show Below wr.heap.size wr Wv by rw [← hWv];exact ((HB2.out.setCell (Nat.le_refl _) _).setCell (Nat.le_refl _) _))
     rw [hWv] at H2
     have HVV:=Lib.hid H2
     clear hb2 h1' h3' hv2 H1 H2 dc0 dc1
     go_wp2_with (fail)
     clear v0 v1 w0' w1' dc0' dc1' x1' hWv
     have h3v:=(HBV.out.block _ l3).trans HG.out.b3
     obtain ⟨⟨_,_,gk,_⟩,_⟩:=can7 h3v
     obtain ⟨⟨v0v,v1v⟩,_⟩:=can2 HVV.out
     have l3v:=(Array.getElem?_eq_some_iff.1 h3v).1
     have lbv:=(Array.getElem?_eq_some_iff.1 HVV.out).1
     clear h3v
     have hnk:¬ q.names.length=k:=by omega
     have hi1:(Tryz.prog.info? 72).map (·.size)=some 2:=by kernel_rfl
     refine Flow.wp_region_flow_tail 6 (Flow.specs [.inl ?_,.inl ?_,.inl ?_,.inl ?_,.inl ?_,.inr (newTwo (.string vv.s) (.bool vv.null))]) (by kernel_rfl) (by kernel_rfl) ?_ ?_
     rotate_left 5
     ·refine Flow.specs_mono ?_
      repeat (first | exact Flow.lmono_nil | refine Flow.lmono_inl ?_ | refine Flow.lmono_inr (newTwo_mono _ _) ?_)
     all_goals try simp only [List.take_succ_cons,List.take_zero,List.drop_succ_cons,List.drop_zero]
     iterate 5 (refine Flow.tree_valK rfl (fun K hK=>⟨fun w hw hG => ?_,?_⟩);(have hcl:=Flow.bcell hw;clear hG hw;unfold Flow.Runs Flow.yields;go_simp;try rfl);go_simp;refine hK _ ?_;clear hK K)
     (refine Flow.tree_varK rfl (fun K hK=>⟨fun w hw hG => ?_,?_⟩);(clear hG hw;unfold Flow.Runs Flow.yields;go_simp;exact ⟨(laid1 _ _).2.2,newTwo_mk _ _ _ _⟩);intro vn;go_simp;refine hK _ _ ?_;clear hK K)
     refine Flow.tree_nil fun w8 hw8 hG => ?_
     obtain ⟨gn,rfl,hgn,hn0,hn1⟩:=(show newTwo (.string vv.s) (.bool vv.null) vn w8 by simpa [Flow.upd] using hG 5)
     have HW8:=Lib.hid (Bt HBV.out (hw8.mono (Nat.le_refl _)))
     obtain ⟨cur,hk1,hk2,hk3⟩:=HG.out.key
     have lkb:=(Array.getElem?_eq_some_iff.1 hk1).1
     have hk8:=(HW8.out.block kb lkb).trans hk1
     have hmin:Nat.min 1 (q.names.length - k)=1:=Nat.min_eq_left (by omega)
     have hrc:=run_copy_rowK (P:=Tryz.prog) w8 52 52 3 72 kb (k * 2) (q.names.length - k) (q.names.length - k) 2 ⟨gn,0,none⟩ 1 1 cur 72 [.string vv.s,.bool vv.null] Tryz.underlying52 hi1 hk8 (by rw [hmin];rfl) (fun j u hu=>by
      match j,hu with
      | 0,hu=>simp at hu;subst hu;simpa [Addr.add] using hn0
      | 1,hu=>simp at hu;subst hu;simpa [Addr.add] using hn1) (by simp;omega) (fun u hu=>by simp at hu;rcases hu with rfl | rfl <;> rfl)
     rw [hmin] at hrc
     have HK8:=Lib.hid hk8
     have HK2:=Lib.hid hk2
     have HK3:=Lib.hid hk3
     obtain ⟨W9,hW9⟩:∃ W9,w8.setRow kb (cur.toList.take (k * 2) ++ [Value.string vv.s,Value.bool vv.null] ++ cur.toList.drop (k * 2 + [Value.string vv.s,Value.bool vv.null].length)).toArray=W9:=⟨_,rfl⟩
     rw [hW9] at hrc
     have HW9:=Lib.hid hW9
     clear hk1 hk2 hk3 hk8 hW9 hG hw8 hn0 hn1
     go_simp
     go_wp2_with (fail)
     go_roundw
     case rel=>
      refine ⟨k + 1,by omega,by go_num,?_⟩
      have hoth:∀ b,b < wr.heap.size→b≠kb→W9.heap[b]? = wr.heap[b]? := fun b hb hne=>by rw [← HW9.out,setRow_other _ _ _ _ hne];exact HW8.out.block b hb
      have hkn:=HKN.out
      have hk3:=HK3.out
      have hk2:=HK2.out
      refine ⟨(hoth _ l0 (by omega)).trans HG.out.b0,(hoth _ l1 (by omega)).trans HG.out.b1,(hoth _ l3 (by omega)).trans HG.out.b3,(hoth _ l2 (by omega)).trans HG.out.b2,⟨_,by rw [← HW9.out];exact setRow_heap w8 kb cur _ _ _ HK8.out,?_,?_⟩,?_⟩
      ·simp only [List.size_toArray,List.length_append,List.length_take,List.length_drop,Array.length_toList,List.length_cons,List.length_nil];omega
      ·have hlen:(cur.toList.take (k * 2) ++ [Value.string vv.s,Value.bool vv.null]).length=(k + 1) * 2:=by
        simp only [List.length_append,List.length_take,Array.length_toList,List.length_cons,List.length_nil];omega
       rw [List.take_append_of_le_length (by omega),List.take_of_length_le (by omega),hk3,List.take_succ_eq_append_getElem hvl,valCells_app,HVE.out];rfl
      ·have hb1:=HG.out.below
       refine (hb1.trans (HW8.out.mono hb1.size)).trans ?_
       rw [← HW9.out]
       exact ⟨rfl,rfl,rfl,by rw [setRow_size];exact Nat.le_refl _,fun b hb=>setRow_other w8 _ b _ (by omega)⟩
     case measure=>simp [intOf];omega
    ·have hbe:(bits BinOp.and IntKind.i64 ((set:Int) / 2 ^ k) 1 == 0)=false:=by
      rw [hbt,beq_eq_false_iff_ne]
      intro e;exact hbit (Int.natCast_eq_zero.1 e)
     rw [if_neg hbit] at hve
     obtain ⟨vv,hvv⟩:∃ vv,kl[k]=vv:=⟨_,rfl⟩
     have HVE:=Lib.hid hvv
     have HVV:=Lib.hid (show W1.heap[wr.heap.size]? = some (.cells #[.string vv.s,.bool vv.null] 72 (0,0)) by rw [← hvv,hve];exact HV1.out)
     clear hve hvv hbit hbt
     generalize hyy:q.names[k]=y at *
     clear hyy
     go_wp2_with (fail)
     have HBV:=HVB
     obtain ⟨Wv,hWv⟩:∃ Wv,W1=Wv:=⟨_,rfl⟩
     rw [hWv] at HVV HBV ⊢
     clear hWv
     have h3v:=(HBV.out.block _ l3).trans HG.out.b3
     obtain ⟨⟨_,_,gk,_⟩,_⟩:=can7 h3v
     obtain ⟨⟨v0v,v1v⟩,_⟩:=can2 HVV.out
     have l3v:=(Array.getElem?_eq_some_iff.1 h3v).1
     have lbv:=(Array.getElem?_eq_some_iff.1 HVV.out).1
     clear h3v
     have hnk:¬ q.names.length=k:=by omega
     have hi1:(Tryz.prog.info? 72).map (·.size)=some 2:=by kernel_rfl
     refine Flow.wp_region_flow_tail 6 (Flow.specs [.inl ?_,.inl ?_,.inl ?_,.inl ?_,.inl ?_,.inr (newTwo (.string vv.s) (.bool vv.null))]) (by kernel_rfl) (by kernel_rfl) ?_ ?_
     rotate_left 5
     ·refine Flow.specs_mono ?_
      repeat (first | exact Flow.lmono_nil | refine Flow.lmono_inl ?_ | refine Flow.lmono_inr (newTwo_mono _ _) ?_)
     all_goals try simp only [List.take_succ_cons,List.take_zero,List.drop_succ_cons,List.drop_zero]
     iterate 5 (refine Flow.tree_valK rfl (fun K hK=>⟨fun w hw hG => ?_,?_⟩);(have hcl:=Flow.bcell hw;clear hG hw;unfold Flow.Runs Flow.yields;go_simp;try rfl);go_simp;refine hK _ ?_;clear hK K)
     (refine Flow.tree_varK rfl (fun K hK=>⟨fun w hw hG => ?_,?_⟩);(clear hG hw;unfold Flow.Runs Flow.yields;go_simp;exact ⟨(laid1 _ _).2.2,newTwo_mk _ _ _ _⟩);intro vn;go_simp;refine hK _ _ ?_;clear hK K)
     refine Flow.tree_nil fun w8 hw8 hG => ?_
     obtain ⟨gn,rfl,hgn,hn0,hn1⟩:=(show newTwo (.string vv.s) (.bool vv.null) vn w8 by simpa [Flow.upd] using hG 5)
     have HW8:=Lib.hid (Bt HBV.out (hw8.mono (Nat.le_refl _)))
     obtain ⟨cur,hk1,hk2,hk3⟩:=HG.out.key
     have lkb:=(Array.getElem?_eq_some_iff.1 hk1).1
     have hk8:=(HW8.out.block kb lkb).trans hk1
     have hmin:Nat.min 1 (q.names.length - k)=1:=Nat.min_eq_left (by omega)
     have hrc:=run_copy_rowK (P:=Tryz.prog) w8 52 52 3 72 kb (k * 2) (q.names.length - k) (q.names.length - k) 2 ⟨gn,0,none⟩ 1 1 cur 72 [.string vv.s,.bool vv.null] Tryz.underlying52 hi1 hk8 (by rw [hmin];rfl) (fun j u hu=>by
      match j,hu with
      | 0,hu=>simp at hu;subst hu;simpa [Addr.add] using hn0
      | 1,hu=>simp at hu;subst hu;simpa [Addr.add] using hn1) (by simp;omega) (fun u hu=>by simp at hu;rcases hu with rfl | rfl <;> rfl)
     rw [hmin] at hrc
     have HK8:=Lib.hid hk8
     have HK2:=Lib.hid hk2
     have HK3:=Lib.hid hk3
     obtain ⟨W9,hW9⟩:∃ W9,w8.setRow kb (cur.toList.take (k * 2) ++ [Value.string vv.s,Value.bool vv.null] ++ cur.toList.drop (k * 2 + [Value.string vv.s,Value.bool vv.null].length)).toArray=W9:=⟨_,rfl⟩
     rw [hW9] at hrc
     have HW9:=Lib.hid hW9
     clear hk1 hk2 hk3 hk8 hW9 hG hw8 hn0 hn1
     go_simp
     go_wp2_with (fail)
     go_roundw
     case rel=>
      refine ⟨k + 1,by omega,by go_num,?_⟩
      have hoth:∀ b,b < wr.heap.size→b≠kb→W9.heap[b]? = wr.heap[b]? := fun b hb hne=>by rw [← HW9.out,setRow_other _ _ _ _ hne];exact HW8.out.block b hb
      have hkn:=HKN.out
      have hk3:=HK3.out
      have hk2:=HK2.out
      refine ⟨(hoth _ l0 (by omega)).trans HG.out.b0,(hoth _ l1 (by omega)).trans HG.out.b1,(hoth _ l3 (by omega)).trans HG.out.b3,(hoth _ l2 (by omega)).trans HG.out.b2,⟨_,by rw [← HW9.out];exact setRow_heap w8 kb cur _ _ _ HK8.out,?_,?_⟩,?_⟩
      ·simp only [List.size_toArray,List.length_append,List.length_take,List.length_drop,Array.length_toList,List.length_cons,List.length_nil];omega
      ·have hlen:(cur.toList.take (k * 2) ++ [Value.string vv.s,Value.bool vv.null]).length=(k + 1) * 2:=by
        simp only [List.length_append,List.length_take,Array.length_toList,List.length_cons,List.length_nil];omega
       rw [List.take_append_of_le_length (by omega),List.take_of_length_le (by omega),hk3,List.take_succ_eq_append_getElem hvl,valCells_app,HVE.out];rfl
      ·have hb1:=HG.out.below
       refine (hb1.trans (HW8.out.mono hb1.size)).trans ?_
       rw [← HW9.out]
       exact ⟨rfl,rfl,rfl,by rw [setRow_size];exact Nat.le_refl _,fun b hb=>setRow_other w8 _ b _ (by omega)⟩
     case measure=>simp [intOf];omega
   ·have hki:¬ (k:Int) < (q.names.length:Int):=by omega
    obtain rfl:k=q.names.length:=by omega
    obtain ⟨b0,b1,b3,b2,⟨cur,hk1,hk2,hk3⟩,below⟩:=hgp
    obtain ⟨W4',hW4,j0,jo,js,jB⟩:=box7 (.int .i64 (set:Nat)) (.int .i64 TT) (.slice (some ⟨kb,0,none⟩) q.names.length q.names.length) (.int .i64 x.2.n) (.slice a3 x.2.sums.length c3) (.slice a4 x.2.mins.length c4) (.slice a5 x.2.maxs.length c5) b2 below (show w.heap.size≤w.heap.size + 1 + 1 by omega)
    have hkn:=HKN.out
    have hk9:=(jo kb (by omega)).trans hk1
    have hkll:=HKL.out
    rw [show kl.take q.names.length=kl from List.take_of_length_le (by omega)] at hk3
    have hVA:ValsAt (fun b=>p b∨w.heap.size≤b) W4' (.slice (some ⟨kb,0,none⟩) q.names.length q.names.length) kl:=by
     rw [← hkll]
     refine ⟨_,_,rfl,by unfold maxLen;omega,by rw [← HKE.out];exact keyFrom_size s set maxLen x.1.2 HVS.out q.names 0,(fun e=>by cases e),fun hl=>⟨kb,0,rfl,(Array.getElem?_eq_some_iff.1 hk9).1,.inr (by omega),fun j hj => ?_⟩⟩
     obtain ⟨a1,a2⟩:=valCells_at kl j hj
     rw [← hk3,List.getElem?_take,if_pos (by omega),Array.getElem?_toList] at a1 a2
     rw [Nat.zero_add]
     exact ⟨(cell_of_row _ _ _ _ _ _ hk9).trans a1,(cell_of_row _ _ _ _ _ _ hk9).trans a2⟩
    have HGR:=Lib.hid (show GrpAt (fun b=>p b∨w.heap.size≤b) W4' [.int .i64 (set:Nat),.int .i64 TT,.slice (some ⟨kb,0,none⟩) q.names.length q.names.length,.int .i64 x.2.n,.slice a3 x.2.sums.length c3,.slice a4 x.2.mins.length c4,.slice a5 x.2.maxs.length c5] ((set:Nat),(Tess.cutE q.every x.1.1,Tess.keyFrom s set x.1.2 0 q.names),x.2) from ⟨_,_,_,_,by rw [HTE.out],by rw [HKE.out];exact hVA,(HPAY.out.ag (Ag.new p jB)).weak fun b hb => .inl hb⟩)
    obtain ⟨⟨r0,r1,r2,r3,r4,r5,r6⟩,_⟩:=can7 b3
    obtain ⟨⟨t0,t1,t2,t3,t4,t5,t6⟩,g0',g1',g2',g3',g4',g5',g6'⟩:=can7 b2
    obtain ⟨⟨z0,z1,z2,z3,z4,z5,z6⟩,_⟩:=can7 j0
    have HJB:=Lib.hid jB
    clear b0 b1 b2 b3 below hk1 hk2 hk3 hk9 j0 jo js jB hVA
    go_wp2_with (fail)
    refine bodyPost_ret (v:=.agg #[.int .i64 (set:Nat),.int .i64 TT,.slice (some ⟨kb,0,none⟩) q.names.length q.names.length,.int .i64 x.2.n,.slice a3 x.2.sums.length c3,.slice a4 x.2.mins.length c4,.slice a5 x.2.maxs.length c5]) (by simp [results,Tryz.results67,go_sem,z0,z1,z2,z3,z4,z5,z6]) rfl ⟨[_,_,_,_,_,_,_],rfl,HGR.out,HJB.out⟩
end Go.Proofs.YtaddkkkchkdgkaaGreatDoor
