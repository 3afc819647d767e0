/- What rows come to: the program's rollup.Roll, walked. -/
import Derived.Test.YtaddkkkchkdgkaaGreatDoorCC17
namespace Go.Proofs.YtaddkkkchkdgkaaGreatDoor
open Go.RowKit Go.Sort
open Tess (CK Pay PO ckLt)
open Tess.Kl (fold)
def rC2 (s:Tess.Sch) (rows:List Tess.Row):Int:=if Tess.sO2 s then (if rows.all (Tess.Row.ok s) then 0 else 101) else 100
theorem kp_sum (g:Int) (rows:List Tess.Row):((rows.map (Tess.Row.kp g)).map (·.2.n)).sum=rows.length:=by
 induction rows with
 | nil=>rfl
 | cons r l ih=>rw [List.map_cons,List.map_cons,List.sum_cons,ih,List.length_cons];show (1:Int) + _=_;omega
theorem fold_none {C:List (CK×Pay)} (h:fold ckLt Pay.add C=[]):C=[]:=by
 have e:Tess.Kl.sum Pay.add (fun _=>true) (fold ckLt Pay.add C)=Tess.Kl.sum Pay.add (fun _=>true) C:=Tess.Kl.sf2 Tess.cs3 Tess.pc2 _ _
 rw [h] at e
 exact Tess.Kl.san e.symm
theorem sch_mets {s:Tess.Sch} (h:Tess.sO2 s=true):s.mets.length≤1000:=by
 simp only [Tess.sO2,Bool.and_eq_true,decide_eq_true_eq] at h
 omega
theorem ofCode_ok {s:Tess.Sch} (h:Tess.sO2 s=true) (r:Tess.Row):oC s r.t r.l r.ns.length=if Tess.Row.ok s r then 0 else 101:=by
 unfold oC Tess.Row.ok
 rw [h];rfl
set_option maxRecDepth 100000 in
set_option maxHeartbeats 4000000 in
theorem roll_any (p:Nat→Prop) (vs va:Value) (s:Tess.Sch) (rows:List Tess.Row) (w:World) (hs:SA p w vs s) (hv:RowsIn p w va rows) (hlen:rows.length≤1000) (hrow:∀ r ∈ rows,r.l.length≤1000∧r.ns.length≤1000∧r.rng) :
  Calls Tryz.prog 14 #[vs,va] w fun e w' => ∃ v,e = .returned (.tuple #[v,.int .i64 (rC2 s rows)])∧(rC2 s rows=0→CA3 (fun b=>w.heap.size≤b) w' v (Tess.rP s.grain rows))∧(rC2 s rows≠0→v = .slice none 0 0)∧Below w.heap.size w w':=by
 obtain ⟨a,Cl,rfl,_,_,_,hc⟩:=LA.open hv
 have hl:rows.length≤9223372036854775807:=by omega
 have HC:=Hd hc
 clear hc hv
 have HR:=Hd (fun W (hB:Below w.heap.size w W)=>sRa vs s p W (hs.ag (Ag.new p hB)))
 have Ch:=Hd (fun W (hB:Below w.heap.size w W) k (hk:k < rows.length) vr (hr:RA2 p W vr rows[k].t rows[k].l rows[k].ns)=>of6_any p vs vr s rows[k] W (hs.ag (Ag.new p hB)) hr (hrow _ (List.getElem_mem hk)).1 (hrow _ (List.getElem_mem hk)).2.1 (hrow _ (List.getElem_mem hk)).2.2)
 have Ay:=Hd hrow
 have Aj:=Hd hlen
 obtain ⟨vd,vm,rfl,hd,hm,_,_⟩:=hs
 obtain ⟨ad,Au,rfl,_⟩:=sl3 hd
 obtain ⟨am,As,rfl,_⟩:=sl3 hm
 clear hd hm hrow hlen
 obtain ⟨W0,Be⟩:∃ W0,w.alloc (.cells #[.slice ad s.dims.length Au,.slice am s.mets.length As,.int .i64 s.grain] 24)=W0:=⟨_,rfl⟩
 obtain ⟨h0,hS,hB⟩:=la2 w (.cells #[.slice ad s.dims.length Au,.slice am s.mets.length As,.int .i64 s.grain] 24)
 rw [Be] at h0 hS hB
 obtain ⟨⟨x0,x1,x2⟩,_⟩:=can3 h0
 have HB:=Hd hB
 have H0:=Hd h0
 have HS:=Hd hS
 clear h0 hS hB
 cases hok:Tess.sO2 s
 ·rw [hok] at HR
  have Ab:rC2 s rows=100:=by unfold rC2;rw [hok];rfl
  rw [Ab]
  clear Ab
  go_enter Tryz.func14,Tryz.ntmps14
  go_wp2_with (fail)
  go_at_call 30
  refine (HR.out W0 HB.out).mono ?_
  rintro e w1 ⟨rfl,Aw⟩
  have Ba:=Hd Aw
  clear x0 x1 x2 Be Aw
  go_wp2
  go_ret2
  exact ⟨_,rfl,fun h=>by omega,fun _=>rfl,Bt HB.out Ba.out⟩
 ·rw [hok] at HR
  have A7:=Hd hok
  clear hok
  obtain ⟨i0,hi,B5,Ca,Cd⟩:=info_parts iC2
  go_enter Tryz.func14,Tryz.ntmps14
  go_wp2_with (fail)
  go_at_call 30
  refine (HR.out W0 HB.out).mono ?_
  rintro e w1 ⟨rfl,Aw⟩
  have Cc:=Hd ((Aw.block _ (by have:=HS.out;omega)).trans H0.out)
  have Ba:=Hd (Bt HB.out Aw)
  clear x0 x1 x2 Be Aw
  go_wp2_with (fail)
  go_loopw [6,16] (fun v i wr => ∃ (k:Nat) (us:List (List Value)),k≤rows.length∧i = .int .i64 k∧us.length=k∧OwnL (w.heap.size + 1) 6 83 CA2 (fun b=>w.heap.size≤b) wr v us ((rows.take k).map (Tess.Row.kp s.grain))∧(k=0→v = .slice none 0 0)∧(∀ r ∈ rows.take k,Tess.Row.ok s r=true)∧wr.heap[w.heap.size]? = some (.cells #[.slice ad s.dims.length Au,.slice am s.mets.length As,.int .i64 s.grain] 24 (0,0))∧Below w.heap.size w wr) (fun _ i _=>rows.length - (intOf i).toNat)
  case atStart=>exact ⟨0,[],Nat.zero_le _,rfl,rfl,OwnL.nil _,fun _=>rfl,(fun r h=>by simp at h),Cc.out,Ba.out⟩
  case round=>
   obtain ⟨k,us,hk,rfl,Bx,A0,A1,A2,A8,hB⟩:=hrel
   have HN:=Hd A1
   have HU:=Hd Bx
   have HO:=Hd A0
   have HA:=Hd A2
   have B0:=Hd A8
   have Aq:=Hd hB
   obtain ⟨⟨x0,x1,x2⟩,_⟩:=can3 A8
   have Bv:w.heap.size < wr.heap.size:=(Array.getElem?_eq_some_iff.1 A8).1
   clear A1 Bx A0 A2 A8 hB
   by_cases hlt:k < rows.length
   ·obtain ⟨b,Ax,rfl,hb,_,cs,_,hR,Ae⟩:=HC.out k hlt
    have HF:=Hd (fun W (hW:Below w.heap.size w W)=>Ch.out W hW k hlt (.agg cs.toArray) (rn2.ag hR (Ag.new p hW)).row)
    have Ac:=ofCode_ok A7.out rows[k]
    obtain ⟨vd,na,nc,rfl,_,By,_⟩:=hR
    obtain ⟨da,dc,rfl⟩:=By.shape
    have c0:wr.cell? ⟨b,Ax + k * 3,none⟩=some (.int .i64 rows[k].t):=(Aq.out.cell (p:=⟨b,Ax + k * 3,none⟩) hb).trans (Ae 0 (by omega))
    have c1:wr.cell? ⟨b,Ax + k * 3 + 1,none⟩=some (.slice da rows[k].l.length dc):=(Aq.out.cell (p:=⟨b,Ax + k * 3 + 1,none⟩) hb).trans (Ae 1 (by omega))
    have c2:wr.cell? ⟨b,Ax + k * 3 + 2,none⟩=some (.slice na rows[k].ns.length nc):=(Aq.out.cell (p:=⟨b,Ax + k * 3 + 2,none⟩) hb).trans (Ae 2 (by omega))
    have Cb:(k:Int) < (rows.length:Int):=by omega
    have Co:b < wr.heap.size:=Nat.lt_of_lt_of_le hb Aq.out.size
    have HE:=Hd (show (rows.take k).map (Tess.Row.kp s.grain) ++ [Tess.Row.kp s.grain rows[k]]=(rows.take (k + 1)).map (Tess.Row.kp s.grain) by rw [List.take_succ_eq_append_getElem hlt,List.map_append];rfl)
    have HM:=Hd (show rows[k] ∈ rows from List.getElem_mem hlt)
    have B6:=Hd (show Tess.Row.ok s rows[k]=true→∀ r ∈ rows.take (k + 1),Tess.Row.ok s r=true from fun h r hr=>by
     rw [List.take_succ_eq_append_getElem hlt] at hr
     rcases List.mem_append.1 hr with hr | hr
     ·exact HA.out r hr
     ·rw [List.mem_singleton.1 hr];exact h)
    clear Ae By hb
    generalize rows[k]=r at *
    obtain ⟨W3,Bg⟩:∃ W3,wr.alloc (.cells #[.int .i64 r.t,.slice da r.l.length dc,.slice na r.ns.length nc] 74)=W3:=⟨_,rfl⟩
    obtain ⟨k1,kS,kB⟩:=la2 wr (.cells #[.int .i64 r.t,.slice da r.l.length dc,.slice na r.ns.length nc] 74)
    rw [Bg] at k1 kS kB
    obtain ⟨⟨y0,y1,y2⟩,_⟩:=can3 k1
    have Bk:=(kB.block _ Bv).trans B0.out
    obtain ⟨⟨z0,z1,z2⟩,_⟩:=can3 Bk
    have Ce:=Hd Bk
    have Av:=Hd (Bt Aq.out kB)
    have B9:=Hd kB
    have Bq:=Hd kS
    clear Bk kB kS k1
    cases hrk:Tess.Row.ok s r
    ·rw [hrk] at Ac
     simp only [Bool.false_eq_true,if_false] at Ac
     rw [Ac] at HF
     have A3:=Hd hrk
     have Ad:=Hd (show rC2 s rows=101 by
      unfold rC2
      rw [A7.out]
      simp only [if_true]
      rw [if_neg]
      intro h
      have:=List.all_eq_true.1 h r HM.out
      rw [A3.out] at this;cases this)
     clear Ac hrk
     go_wp2_with (fail)
     go_at_call 31
     refine (HF.out W3 Av.out).mono ?_
     rintro e w2 ⟨Cj,rfl,Af,Ah⟩
     rcases Af with ⟨h,_⟩ | ⟨_,rfl⟩
     ·rw [A3.out] at h;cases h
     have A5:=Hd (Bt Av.out Ah)
     clear Ah x0 x1 x2 y0 y1 y2 z0 z1 z2 c0 c1 c2 Bg
     go_wp2
     go_ret2
     exact ⟨.slice none 0 0,by rw [Ad.out];rfl,fun h=>by rw [Ad.out] at h;omega,fun _=>rfl,A5.out.alloc A5.out.size _⟩
    ·rw [hrk] at Ac
     simp only [if_true] at Ac
     rw [Ac] at HF
     have A3:=Hd hrk
     clear Ac hrk
     go_wp2_with (fail)
     go_at_call 31
     refine (HF.out W3 Av.out).mono ?_
     rintro e w2 ⟨Cj,rfl,Af,Ah⟩
     rcases Af with ⟨_,At⟩ | ⟨h,_⟩
     rotate_left
     ·rw [A3.out] at h;cases h
     have A4:=Hd At
     have Ck:=Hd ((Ah.block _ (by have:=Bq.out;omega)).trans Ce.out)
     have A5:=Hd (Bt Av.out Ah)
     have Bi:=Hd (Bt B9.out Ah)
     clear Ah x0 x1 x2 y0 y1 y2 z0 z1 z2 c0 c1 c2 Bg
     generalize hX:Tess.Row.kp s.grain r=x at *
     obtain ⟨Ar,An,a3,c3,a4,c4,a5,c5,rfl,_⟩:=At.shapes
     obtain ⟨W4,Bu⟩:∃ W4,w2.alloc (.cells #[.int .i64 x.1.1,.slice Ar x.1.2.length An,.int .i64 x.2.n,.slice a3 x.2.sums.length c3,.slice a4 x.2.mins.length c4,.slice a5 x.2.maxs.length c5] 83)=W4:=⟨_,rfl⟩
     obtain ⟨k4,Br,Bl⟩:=la2 w2 (.cells #[.int .i64 x.1.1,.slice Ar x.1.2.length An,.int .i64 x.2.n,.slice a3 x.2.sums.length c3,.slice a4 x.2.mins.length c4,.slice a5 x.2.maxs.length c5] 83)
     rw [Bu] at k4 Br Bl
     obtain ⟨⟨y0,y1,y2,y3,y4,y5⟩,_⟩:=can6 k4
     obtain ⟨W5,Bs⟩:∃ W5,W4.alloc (.cells #[.int .i64 x.1.1,.slice Ar x.1.2.length An,.int .i64 x.2.n,.slice a3 x.2.sums.length c3,.slice a4 x.2.mins.length c4,.slice a5 x.2.maxs.length c5] 83)=W5:=⟨_,rfl⟩
     obtain ⟨k5,Bd,Bf⟩:=la2 W4 (.cells #[.int .i64 x.1.1,.slice Ar x.1.2.length An,.int .i64 x.2.n,.slice a3 x.2.sums.length c3,.slice a4 x.2.mins.length c4,.slice a5 x.2.maxs.length c5] 83)
     rw [Bs] at k5 Bd Bf
     have B4:=Hd k5
     have Ao:Below w2.heap.size w2 W5:=Bt Bl Bf
     have Ai:Below wr.heap.size wr W5:=Bt Bi.out Ao
     have A6:=Hd (HO.out.below cn2 Ai)
     have Bj:=Hd ((Ai.block _ Bv).trans B0.out)
     have Bh:=Hd (Bt Aq.out Ai)
     have Bc:=Hd (cn2.one A4.out)
     have B3:=Hd (show CA2 (fun b=>w.heap.size≤b∧u6.ownBlock≠some b) W5 [.int .i64 x.1.1,.slice Ar x.1.2.length An,.int .i64 x.2.n,.slice a3 x.2.sums.length c3,.slice a4 x.2.mins.length c4,.slice a5 x.2.maxs.length c5] x from cn2.weak (cn2.ag A4.out (Ag.new _ Ao)) fun b hb=>by
      have h3:=Bq.out
      refine ⟨by omega,fun e => ?_⟩
      have:=(HO.out.own.lt b e).2
      omega)
     have Cn:=Hd Bd
     clear Bl Bf Br Bd k4 k5 Ao Ai At
     go_wp2_with (at_builtin;refine wpList_append_own_at _ rfl _ _ 41 rfl (w.heap.size + 1) 83 i0 (.agg #[.int .i64 0,.slice none 0 0,.int .i64 0,.slice none 0 0,.slice none 0 0,.slice none 0 0]) 6 112 Tryz.underlying41 hi B5 Ca Cd rfl (by decide) _ _ _ rfl A6.out.own ⟨W4.heap.size,0,none⟩ 1 1 [.int .i64 x.1.1,.slice Ar x.1.2.length An,.int .i64 x.2.n,.slice a3 x.2.sums.length c3,.slice a4 x.2.mins.length c4,.slice a5 x.2.maxs.length c5] rfl rfl ?_ Bc.out ?_ ?_ ?_ ?_)
     ·intro j u hj
      rw [addr_add,cell_of_row _ _ _ _ _ _ B4.out,Nat.zero_add];simpa using hj
     ·have:=HU.out;unfold maxLen;have:=Aj.out;omega
     ·have:=HU.out;have:=Aj.out;omega
     ·have:=Bh.out.size;have:=(Array.getElem?_eq_some_iff.1 Bj.out).1;omega
     intro v' w3 Al Aa Az Ak
     have B8:=Hd (A6.out.more cn2 B3.out Al Aa Ak)
     have Cf:=Hd (Bh.out.grown Aa Bh.out.size (fun j e=>by have:=(A6.out.own.lt j e).1;omega))
     have B2:=Hd ((Aa.block w.heap.size ((Array.getElem?_eq_some_iff.1 Bj.out).1) (fun e=>by have:=(A6.out.own.lt _ e.symm).1;omega)).trans Bj.out)
     clear Al Aa Az Ak y0 y1 y2 y3 y4 y5 Bu Bs
     go_wp2
     go_roundw
     case rel=>exact ⟨k + 1,us ++ [[.int .i64 x.1.1,.slice Ar x.1.2.length An,.int .i64 x.2.n,.slice a3 x.2.sums.length c3,.slice a4 x.2.mins.length c4,.slice a5 x.2.maxs.length c5]],by omega,by go_num,by simp [HU.out],by rw [← HE.out];exact B8.out,(fun h=>by omega),B6.out A3.out,B2.out,Cf.out⟩
     case measure=>simp [intOf];omega
   ·have Cb:¬ (k:Int) < (rows.length:Int):=by omega
    obtain rfl:k=rows.length:=by omega
    rw [List.take_length] at HO HA
    have Ab:rC2 s rows=0:=by
     unfold rC2
     rw [A7.out]
     simp only [if_true]
     rw [if_pos (List.all_eq_true.2 HA.out)]
    have Ad:=Hd Ab
    have A9:(rows.map (Tess.Row.kp s.grain)).length≤1000:=by rw [List.length_map];exact Aj.out
    have Am:CA3 (fun b=>w.heap.size≤b) wr u6 (rows.map (Tess.Row.kp s.grain)):=HO.out.listed cn2 (fun _ h=>h) (fun _ h=>by omega) (by unfold maxLen;omega) (fun h=>HN.out (by rw [List.map_eq_nil_iff] at h;rw [h];rfl))
    have hM:∀ x ∈ rows.map (Tess.Row.kp s.grain),PO s.mets.length x.2∧x.1.2.length≤1000:=fun x hx=>by
     obtain ⟨r,hr,rfl⟩:=List.mem_map.1 hx
     refine ⟨Tess.row_pay (HA.out r hr) (Ay.out r hr).2.2 _,?_⟩
     show (r.l.map Tess.Val.c).length≤1000
     rw [List.length_map];exact (Ay.out r hr).1
    have Ap:((rows.map (Tess.Row.kp s.grain)).map (·.2.n)).sum≤1000000:=by rw [kp_sum];have:=Aj.out;omega
    have Bn:=Hd (put_any _ u6 _ s.mets.length wr Am hM (sch_mets A7.out) Ap A9)
    have Bo:=Hd (fun y hy=>(Tess.fold_pay (fun x hx=>(hM x hx).1) y hy).2)
    have Bz:=Hd (Nat.le_trans (fold_len (rows.map (Tess.Row.kp s.grain))) A9)
    have Bp:=Hd Ap
    clear hM Ap Am A9 Ab x0 x1 x2
    go_wp2_with (fail)
    go_at_call 33
    refine Bn.out.mono ?_
    rintro e w2 ⟨v2,Cm,rfl,B1,Bw,Ah⟩
    have Bm:CA3 (fun b=>w.heap.size≤b) w2 v2 (fold ckLt Pay.add (rows.map (Tess.Row.kp s.grain))):=B1.own.listed cn2 (fun _ h=>by omega) (fun _ h=>by omega) (by have:=Bz.out;unfold maxLen;omega) (fun h=>Bw (fold_none h))
    have B7:=Hd Bm
    have Ci:=Hd (ends_any _ v2 _ w2 Bm Bz.out (fun x hx=>Int.le_trans (Bo.out x hx) Bp.out))
    have A5:=Hd (Bt Aq.out Ah)
    clear B1 Bw Ah Bm
    go_wp2_with (fail)
    go_at_call 32
    refine Ci.out.mono ?_
    rintro e w3 ⟨rfl,Bb⟩
    have Cg:=Hd (B7.out.ag (Ag.new _ Bb))
    have Av:=Hd (Bt A5.out Bb)
    clear Bb
    go_wp2
    go_ret2
    exact ⟨v2,by rw [Ad.out];rfl,fun _=>Cg.out,fun h=>absurd Ad.out h,Av.out⟩
end Go.Proofs.YtaddkkkchkdgkaaGreatDoor
