/- What rows come to: the program's rollup.Roll, walked. -/
import Derived.Test.YtjdccifdkjnknaaGreatDoorAC25
import Derived.Test.YtjdccifdkjnknaaGreatDoorAC26
namespace Go.Proofs.YtjdccifdkjnknaaGreatDoor
open Go.RowKit Go.Sort
open Tess (CK Pay PO ckLt)
open Tess.Kl (fold)
def rC (s:Tess.Sch) (rows:List Tess.Row):Int:=if Tess.sO s then (if rows.all (Tess.Row.ok s) then 0 else 101) else 100
theorem kp_sum (g:Int) (rows:List Tess.Row):((rows.map (Tess.Row.kp g)).map (·.2.n)).sum=rows.length:=by
 induction rows with
 | nil=>rfl
 | cons r l ih=>rw [List.map_cons,List.map_cons,List.sum_cons,ih,List.length_cons];show (1:Int) + _=_;omega
theorem fold_none {C:List (CK×Pay)} (h:fold ckLt Pay.add C=[]):C=[]:=by
 have e:Tess.Kl.sum Pay.add (fun _=>true) (fold ckLt Pay.add C)=Tess.Kl.sum Pay.add (fun _=>true) C:=Tess.Kl.sf3 Tess.cs3 Tess.pc5 _ _
 rw [h] at e
 exact Tess.Kl.san e.symm
theorem sch_mets {s:Tess.Sch} (h:Tess.sO s=true):s.mets.length≤1000:=by
 simp only [Tess.sO,Bool.and_eq_true,decide_eq_true_eq] at h
 omega
theorem ofCode_ok {s:Tess.Sch} (h:Tess.sO s=true) (r:Tess.Row):oC s r.t r.l r.ns.length=if Tess.Row.ok s r then 0 else 101:=by
 unfold oC Tess.Row.ok
 rw [h];rfl
set_option maxRecDepth 100000 in
set_option maxHeartbeats 4000000 in
theorem roll_any (p:Nat→Prop) (vs va:Value) (s:Tess.Sch) (rows:List Tess.Row) (w:World) (hs:SA p w vs s) (hv:RowsIn p w va rows) (hlen:rows.length≤1000) (hrow:∀ r ∈ rows,r.l.length≤1000∧r.ns.length≤1000∧r.rng) :
  Calls Tryz.prog 9 #[vs,va] w fun e w' => ∃ v,e = .returned (.tuple #[v,.int .i64 (rC s rows)])∧(rC s rows=0→CA2 (fun b=>w.heap.size≤b) w' v (Tess.rP s.grain rows))∧(rC s rows≠0→v = .slice none 0 0)∧Below w.heap.size w w':=by
 obtain ⟨a,Cn,rfl,_,_,_,hc⟩:=LA.open hv
 have hl:rows.length≤9223372036854775807:=by omega
 have HC:=Hd hc
 clear hc hv
 have HR:=Hd (fun W (hB:Below w.heap.size w W)=>sRa vs s p W (hs.ag (Ag.new p hB)))
 have Ch:=Hd (fun W (hB:Below w.heap.size w W) k (hk:k < rows.length) vr (hr:RA3 p W vr rows[k].t rows[k].l rows[k].ns)=>of6_any p vs vr s rows[k] W (hs.ag (Ag.new p hB)) hr (hrow _ (List.getElem_mem hk)).1 (hrow _ (List.getElem_mem hk)).2.1 (hrow _ (List.getElem_mem hk)).2.2)
 have A3:=Hd hrow
 have Aj:=Hd hlen
 obtain ⟨vd,vm,rfl,hd,hm,_,_⟩:=hs
 obtain ⟨ad,As,rfl,_⟩:=sl3 hd
 obtain ⟨am,Ar,rfl,_⟩:=sl3 hm
 clear hd hm hrow hlen
 obtain ⟨W0,Bc⟩:∃ W0,w.alloc (.cells #[.slice ad s.dims.length As,.slice am s.mets.length Ar,.int .i64 s.grain] 24)=W0:=⟨_,rfl⟩
 obtain ⟨h0,hS,hB⟩:=la2 w (.cells #[.slice ad s.dims.length As,.slice am s.mets.length Ar,.int .i64 s.grain] 24)
 rw [Bc] at h0 hS hB
 obtain ⟨⟨x0,x1,x2⟩,_⟩:=can3 h0
 have HB:=Hd hB
 have H0:=Hd h0
 have HS:=Hd hS
 clear h0 hS hB
 cases hok:Tess.sO s
 ·rw [hok] at HR
  have Ac:rC s rows=100:=by unfold rC;rw [hok];rfl
  rw [Ac]
  clear Ac
  go_enter Tryz.func9,Tryz.ntmps9
  go_wp2_with (fail)
  go_at_call 23
  refine (HR.out W0 HB.out).mono ?_
  rintro e w1 ⟨rfl,Av⟩
  have A9:=Hd Av
  clear x0 x1 x2 Bc Av
  go_wp2
  go_ret2
  exact ⟨_,rfl,fun h=>by omega,fun _=>rfl,Bt HB.out A9.out⟩
 ·rw [hok] at HR
  have A8:=Hd hok
  clear hok
  obtain ⟨i0,hi,B7,B9,Cd⟩:=info_parts iC
  go_enter Tryz.func9,Tryz.ntmps9
  go_wp2_with (fail)
  go_at_call 23
  refine (HR.out W0 HB.out).mono ?_
  rintro e w1 ⟨rfl,Av⟩
  have Ce:=Hd ((Av.block _ (by have:=HS.out;omega)).trans H0.out)
  have A9:=Hd (Bt HB.out Av)
  clear x0 x1 x2 Bc Av
  go_wp2_with (fail)
  go_loopw [6,16] (fun v i wr => ∃ (k:Nat) (us:List (List Value)),k≤rows.length∧i = .int .i64 k∧us.length=k∧OwnL (w.heap.size + 1) 6 56 CA3 (fun b=>w.heap.size≤b) wr v us ((rows.take k).map (Tess.Row.kp s.grain))∧(k=0→v = .slice none 0 0)∧(∀ r ∈ rows.take k,Tess.Row.ok s r=true)∧wr.heap[w.heap.size]? = some (.cells #[.slice ad s.dims.length As,.slice am s.mets.length Ar,.int .i64 s.grain] 24 (0,0))∧Below w.heap.size w wr) (fun _ i _=>rows.length - (intOf i).toNat)
  case atStart=>exact ⟨0,[],Nat.zero_le _,rfl,rfl,OwnL.nil _,fun _=>rfl,(fun r h=>by simp at h),Ce.out,A9.out⟩
  case round=>
   obtain ⟨k,us,hk,rfl,Bv,A0,A4,A2,A6,hB⟩:=hrel
   have HN:=Hd A4
   have HU:=Hd Bv
   have HO:=Hd A0
   have HA:=Hd A2
   have By:=Hd A6
   have At:=Hd hB
   obtain ⟨⟨x0,x1,x2⟩,_⟩:=can3 A6
   have Br:w.heap.size < wr.heap.size:=(Array.getElem?_eq_some_iff.1 A6).1
   clear A4 Bv A0 A2 A6 hB
   by_cases hlt:k < rows.length
   ·obtain ⟨b,Ax,rfl,hb,_,cs,_,hR,Ae⟩:=HC.out k hlt
    have HF:=Hd (fun W (hW:Below w.heap.size w W)=>Ch.out W hW k hlt (.agg cs.toArray) (rn2.ag hR (Ag.new p hW)).row)
    have Ab:=ofCode_ok A8.out rows[k]
    obtain ⟨vd,na,nc,rfl,_,B1,_⟩:=hR
    obtain ⟨da,dc,rfl⟩:=B1.shape
    have c0:wr.cell? ⟨b,Ax + k * 3,none⟩=some (.int .i64 rows[k].t):=(At.out.cell (p:=⟨b,Ax + k * 3,none⟩) hb).trans (Ae 0 (by omega))
    have c1:wr.cell? ⟨b,Ax + k * 3 + 1,none⟩=some (.slice da rows[k].l.length dc):=(At.out.cell (p:=⟨b,Ax + k * 3 + 1,none⟩) hb).trans (Ae 1 (by omega))
    have c2:wr.cell? ⟨b,Ax + k * 3 + 2,none⟩=some (.slice na rows[k].ns.length nc):=(At.out.cell (p:=⟨b,Ax + k * 3 + 2,none⟩) hb).trans (Ae 2 (by omega))
    have B6:(k:Int) < (rows.length:Int):=by omega
    have Co:b < wr.heap.size:=Nat.lt_of_lt_of_le hb At.out.size
    have HE:=Hd (show (rows.take k).map (Tess.Row.kp s.grain) ++ [Tess.Row.kp s.grain rows[k]]=(rows.take (k + 1)).map (Tess.Row.kp s.grain) by rw [List.take_succ_eq_append_getElem hlt,List.map_append];rfl)
    have HM:=Hd (show rows[k] ∈ rows from List.getElem_mem hlt)
    have B3:=Hd (show Tess.Row.ok s rows[k]=true→∀ r ∈ rows.take (k + 1),Tess.Row.ok s r=true from fun h r hr=>by
     rw [List.take_succ_eq_append_getElem hlt] at hr
     rcases List.mem_append.1 hr with hr | hr
     ·exact HA.out r hr
     ·rw [List.mem_singleton.1 hr];exact h)
    clear Ae B1 hb
    generalize rows[k]=r at *
    obtain ⟨W3,Bf⟩:∃ W3,wr.alloc (.cells #[.int .i64 r.t,.slice da r.l.length dc,.slice na r.ns.length nc] 51)=W3:=⟨_,rfl⟩
    obtain ⟨k1,kS,kB⟩:=la2 wr (.cells #[.int .i64 r.t,.slice da r.l.length dc,.slice na r.ns.length nc] 51)
    rw [Bf] at k1 kS kB
    obtain ⟨⟨y0,y1,y2⟩,_⟩:=can3 k1
    have Bo:=(kB.block _ Br).trans By.out
    obtain ⟨⟨z0,z1,z2⟩,_⟩:=can3 Bo
    have B4:=Hd Bo
    have Aw:=Hd (Bt At.out kB)
    have Cc:=Hd kB
    have B0:=Hd kS
    clear Bo kB kS k1
    cases hrk:Tess.Row.ok s r
    ·rw [hrk] at Ab
     simp only [Bool.false_eq_true,if_false] at Ab
     rw [Ab] at HF
     have Az:=Hd hrk
     have Ad:=Hd (show rC s rows=101 by
      unfold rC
      rw [A8.out]
      simp only [if_true]
      rw [if_neg]
      intro h
      have:=List.all_eq_true.1 h r HM.out
      rw [Az.out] at this;cases this)
     clear Ab hrk
     go_wp2_with (fail)
     go_at_call 24
     refine (HF.out W3 Aw.out).mono ?_
     rintro e w2 ⟨B8,rfl,Af,Ah⟩
     rcases Af with ⟨h,_⟩ | ⟨_,rfl⟩
     ·rw [Az.out] at h;cases h
     have Ay:=Hd (Bt Aw.out Ah)
     clear Ah x0 x1 x2 y0 y1 y2 z0 z1 z2 c0 c1 c2 Bf
     go_wp2
     go_ret2
     exact ⟨.slice none 0 0,by rw [Ad.out];rfl,fun h=>by rw [Ad.out] at h;omega,fun _=>rfl,Ay.out.alloc Ay.out.size _⟩
    ·rw [hrk] at Ab
     simp only [if_true] at Ab
     rw [Ab] at HF
     have Az:=Hd hrk
     clear Ab hrk
     go_wp2_with (fail)
     go_at_call 24
     refine (HF.out W3 Aw.out).mono ?_
     rintro e w2 ⟨B8,rfl,Af,Ah⟩
     rcases Af with ⟨_,Ap⟩ | ⟨h,_⟩
     rotate_left
     ·rw [Az.out] at h;cases h
     have A1:=Hd Ap
     have Cm:=Hd ((Ah.block _ (by have:=B0.out;omega)).trans B4.out)
     have Ay:=Hd (Bt Aw.out Ah)
     have Bl:=Hd (Bt Cc.out Ah)
     clear Ah x0 x1 x2 y0 y1 y2 z0 z1 z2 c0 c1 c2 Bf
     generalize hX:Tess.Row.kp s.grain r=x at *
     obtain ⟨Aq,Au,a3,c3,a4,c4,a5,c5,rfl,_⟩:=Ap.shapes
     obtain ⟨W4,Bs⟩:∃ W4,w2.alloc (.cells #[.int .i64 x.1.1,.slice Aq x.1.2.length Au,.int .i64 x.2.n,.slice a3 x.2.sums.length c3,.slice a4 x.2.mins.length c4,.slice a5 x.2.maxs.length c5] 56)=W4:=⟨_,rfl⟩
     obtain ⟨k4,Bz,Be⟩:=la2 w2 (.cells #[.int .i64 x.1.1,.slice Aq x.1.2.length Au,.int .i64 x.2.n,.slice a3 x.2.sums.length c3,.slice a4 x.2.mins.length c4,.slice a5 x.2.maxs.length c5] 56)
     rw [Bs] at k4 Bz Be
     obtain ⟨⟨y0,y1,y2,y3,y4,y5⟩,_⟩:=can6 k4
     obtain ⟨W5,Bx⟩:∃ W5,W4.alloc (.cells #[.int .i64 x.1.1,.slice Aq x.1.2.length Au,.int .i64 x.2.n,.slice a3 x.2.sums.length c3,.slice a4 x.2.mins.length c4,.slice a5 x.2.maxs.length c5] 56)=W5:=⟨_,rfl⟩
     obtain ⟨k5,Bj,Bk⟩:=la2 W4 (.cells #[.int .i64 x.1.1,.slice Aq x.1.2.length Au,.int .i64 x.2.n,.slice a3 x.2.sums.length c3,.slice a4 x.2.mins.length c4,.slice a5 x.2.maxs.length c5] 56)
     rw [Bx] at k5 Bj Bk
     have Cf:=Hd k5
     have An:Below w2.heap.size w2 W5:=Bt Be Bk
     have Ai:Below wr.heap.size wr W5:=Bt Bl.out An
     have A7:=Hd (HO.out.below cn2 Ai)
     have Bh:=Hd ((Ai.block _ Br).trans By.out)
     have Bm:=Hd (Bt At.out Ai)
     have Bd:=Hd (cn2.one A1.out)
     have B2:=Hd (show CA3 (fun b=>w.heap.size≤b∧u6.ownBlock≠some b) W5 [.int .i64 x.1.1,.slice Aq x.1.2.length Au,.int .i64 x.2.n,.slice a3 x.2.sums.length c3,.slice a4 x.2.mins.length c4,.slice a5 x.2.maxs.length c5] x from cn2.weak (cn2.ag A1.out (Ag.new _ An)) fun b hb=>by
      have h3:=B0.out
      refine ⟨by omega,fun e => ?_⟩
      have:=(HO.out.own.lt b e).2
      omega)
     have Cl:=Hd Bj
     clear Be Bk Bz Bj k4 k5 An Ai Ap
     go_wp2_with (at_builtin;refine wpList_append_own_at _ rfl _ _ 28 rfl (w.heap.size + 1) 56 i0 (.agg #[.int .i64 0,.slice none 0 0,.int .i64 0,.slice none 0 0,.slice none 0 0,.slice none 0 0]) 6 112 Tryz.underlying28 hi B7 B9 Cd rfl (by decide) _ _ _ rfl A7.out.own ⟨W4.heap.size,0,none⟩ 1 1 [.int .i64 x.1.1,.slice Aq x.1.2.length Au,.int .i64 x.2.n,.slice a3 x.2.sums.length c3,.slice a4 x.2.mins.length c4,.slice a5 x.2.maxs.length c5] rfl rfl ?_ Bd.out ?_ ?_ ?_ ?_)
     ·intro j u hj
      rw [addr_add,cell_of_row _ _ _ _ _ _ Cf.out,Nat.zero_add];simpa using hj
     ·have:=HU.out;unfold maxLen;have:=Aj.out;omega
     ·have:=HU.out;have:=Aj.out;omega
     ·have:=Bm.out.size;have:=(Array.getElem?_eq_some_iff.1 Bh.out).1;omega
     intro v' w3 Al Aa A5 Am
     have B5:=Hd (A7.out.more cn2 B2.out Al Aa Am)
     have Cb:=Hd (Bm.out.grown Aa Bm.out.size (fun j e=>by have:=(A7.out.own.lt j e).1;omega))
     have Ci:=Hd ((Aa.block w.heap.size ((Array.getElem?_eq_some_iff.1 Bh.out).1) (fun e=>by have:=(A7.out.own.lt _ e.symm).1;omega)).trans Bh.out)
     clear Al Aa A5 Am y0 y1 y2 y3 y4 y5 Bs Bx
     go_wp2
     go_roundw
     case rel=>exact ⟨k + 1,us ++ [[.int .i64 x.1.1,.slice Aq x.1.2.length Au,.int .i64 x.2.n,.slice a3 x.2.sums.length c3,.slice a4 x.2.mins.length c4,.slice a5 x.2.maxs.length c5]],by omega,by go_num,by simp [HU.out],by rw [← HE.out];exact B5.out,(fun h=>by omega),B3.out Az.out,Ci.out,Cb.out⟩
     case measure=>simp [intOf];omega
   ·have B6:¬ (k:Int) < (rows.length:Int):=by omega
    obtain rfl:k=rows.length:=by omega
    rw [List.take_length] at HO HA
    have Ac:rC s rows=0:=by
     unfold rC
     rw [A8.out]
     simp only [if_true]
     rw [if_pos (List.all_eq_true.2 HA.out)]
    have Ad:=Hd Ac
    have Bb:(rows.map (Tess.Row.kp s.grain)).length≤1000:=by rw [List.length_map];exact Aj.out
    have Ak:CA2 (fun b=>w.heap.size≤b) wr u6 (rows.map (Tess.Row.kp s.grain)):=HO.out.listed cn2 (fun _ h=>h) (fun _ h=>by omega) (by unfold maxLen;omega) (fun h=>HN.out (by rw [List.map_eq_nil_iff] at h;rw [h];rfl))
    have hM:∀ x ∈ rows.map (Tess.Row.kp s.grain),PO s.mets.length x.2∧x.1.2.length≤1000:=fun x hx=>by
     obtain ⟨r,hr,rfl⟩:=List.mem_map.1 hx
     refine ⟨Tess.row_pay (HA.out r hr) (A3.out r hr).2.2 _,?_⟩
     show (r.l.map Tess.Val.c).length≤1000
     rw [List.length_map];exact (A3.out r hr).1
    have Ao:((rows.map (Tess.Row.kp s.grain)).map (·.2.n)).sum≤1000000:=by rw [kp_sum];have:=Aj.out;omega
    have Bi:=Hd (put_any _ u6 _ s.mets.length wr Ak hM (sch_mets A8.out) Ao Bb)
    have Ba:=Hd (fun y hy=>(Tess.fold_pay (fun x hx=>(hM x hx).1) y hy).2)
    have Bu:=Hd (Nat.le_trans (fold_len (rows.map (Tess.Row.kp s.grain))) Bb)
    have Bp:=Hd Ao
    clear hM Ao Ak Bb Ac x0 x1 x2
    go_wp2_with (fail)
    go_at_call 26
    refine Bi.out.mono ?_
    rintro e w2 ⟨v2,Ck,rfl,Bq,Bw,Ah⟩
    have Bg:CA2 (fun b=>w.heap.size≤b) w2 v2 (fold ckLt Pay.add (rows.map (Tess.Row.kp s.grain))):=Bq.own.listed cn2 (fun _ h=>by omega) (fun _ h=>by omega) (by have:=Bu.out;unfold maxLen;omega) (fun h=>Bw (fold_none h))
    have Cg:=Hd Bg
    have Cj:=Hd (ends_any _ v2 _ w2 Bg Bu.out (fun x hx=>Int.le_trans (Ba.out x hx) Bp.out))
    have Ay:=Hd (Bt At.out Ah)
    clear Bq Bw Ah Bg
    go_wp2_with (fail)
    go_at_call 25
    refine Cj.out.mono ?_
    rintro e w3 ⟨rfl,Bn⟩
    have Ca:=Hd (Cg.out.ag (Ag.new _ Bn))
    have Aw:=Hd (Bt Ay.out Bn)
    clear Bn
    go_wp2
    go_ret2
    exact ⟨v2,by rw [Ad.out];rfl,fun _=>Ca.out,fun h=>absurd Ad.out h,Aw.out⟩
end Go.Proofs.YtjdccifdkjnknaaGreatDoor
