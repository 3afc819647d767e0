/- What rows come to: the program's rollup.Roll, walked. -/
import Derived.Test.YtaddkkkchkdgkaaGreatDoorWC18
namespace Go.Proofs.YtaddkkkchkdgkaaGreatDoor
open Go.RowKit Go.Sort
open Tess (CK Pay PayOk ckLt)
open Tess.Kl (fold)
def rollCode (s:Tess.Sch) (rows:List Tess.Row):Int:=if Tess.schOk s then (if rows.all (Tess.Row.ok s) then 0 else 101) else 100
theorem kp_sum (g:Int) (rows:List Tess.Row):((rows.map (Tess.Row.kp g)).map (·.2.n)).sum=rows.length:=by
 induction rows with
 | nil=>rfl
 | cons r l ih=>rw [List.map_cons,List.map_cons,List.sum_cons,ih,List.length_cons];show (1:Int) + _=_;omega
theorem fold_none {C:List (CK×Pay)} (h:fold ckLt Pay.add C=[]):C=[]:=by
 have e:Tess.Kl.sum Pay.add (fun _=>true) (fold ckLt Pay.add C)=Tess.Kl.sum Pay.add (fun _=>true) C:=Tess.Kl.sum_fold Tess.ck_sto Tess.pay_com _ _
 rw [h] at e
 exact Tess.Kl.sum_all_none e.symm
theorem sch_mets {s:Tess.Sch} (h:Tess.schOk s=true):s.mets.length≤1000:=by
 simp only [Tess.schOk,Bool.and_eq_true,decide_eq_true_eq] at h
 omega
theorem ofCode_ok {s:Tess.Sch} (h:Tess.schOk s=true) (r:Tess.Row):ofCode s r.t r.l r.ns.length=if Tess.Row.ok s r then 0 else 101:=by
 unfold ofCode Tess.Row.ok
 rw [h];rfl
set_option maxRecDepth 100000 in
set_option maxHeartbeats 4000000 in
theorem roll_any (p:Nat→Prop) (vs va:Value) (s:Tess.Sch) (rows:List Tess.Row) (w:World) (hs:SchAt p w vs s) (hv:RowsIn p w va rows) (hlen:rows.length≤1000) (hrow:∀ r ∈ rows,r.l.length≤1000∧r.ns.length≤1000∧r.rng) :
  Calls Tryz.prog 14 #[vs,va] w fun e w' => ∃ v,e = .returned (.tuple #[v,.int .i64 (rollCode s rows)])∧(rollCode s rows=0→CelsAt (fun b=>w.heap.size≤b) w' v (Tess.rollP s.grain rows))∧(rollCode s rows≠0→v = .slice none 0 0)∧Below w.heap.size w w':=by
 obtain ⟨a,cap,rfl,_,_,_,hc⟩:=ListAt.open hv
 have hl:rows.length≤9223372036854775807:=by omega
 have HC:=Lib.hid hc
 clear hc hv
 have HR:=Lib.hid (fun W (hB:Below w.heap.size w W)=>schRight_any vs s p W (hs.ag (Ag.new p hB)))
 have HOF:=Lib.hid (fun W (hB:Below w.heap.size w W) k (hk:k < rows.length) vr (hr:RowAt p W vr rows[k].t rows[k].l rows[k].ns)=>of6_any p vs vr s rows[k] W (hs.ag (Ag.new p hB)) hr (hrow _ (List.getElem_mem hk)).1 (hrow _ (List.getElem_mem hk)).2.1 (hrow _ (List.getElem_mem hk)).2.2)
 have HROW:=Lib.hid hrow
 have HLEN:=Lib.hid hlen
 obtain ⟨vd,vm,rfl,hd,hm,_,_⟩:=hs
 obtain ⟨ad,capd,rfl,_⟩:=slp_len hd
 obtain ⟨am,capm,rfl,_⟩:=slp_len hm
 clear hd hm hrow hlen
 obtain ⟨W0,hW0⟩:∃ W0,w.alloc (.cells #[.slice ad s.dims.length capd,.slice am s.mets.length capm,.int .i64 s.grain] 24)=W0:=⟨_,rfl⟩
 obtain ⟨h0,hS,hB⟩:=laid1 w (.cells #[.slice ad s.dims.length capd,.slice am s.mets.length capm,.int .i64 s.grain] 24)
 rw [hW0] at h0 hS hB
 obtain ⟨⟨x0,x1,x2⟩,_⟩:=can3 h0
 have HB:=Lib.hid hB
 have H0:=Lib.hid h0
 have HS:=Lib.hid hS
 clear h0 hS hB
 cases hok:Tess.schOk s
 ·rw [hok] at HR
  have hcode:rollCode s rows=100:=by unfold rollCode;rw [hok];rfl
  rw [hcode]
  clear hcode
  go_enter Tryz.func14,Tryz.ntmps14
  go_wp2_with (fail)
  go_at_call 30
  refine (HR.out W0 HB.out).mono ?_
  rintro e w1 ⟨rfl,hB1⟩
  have HB1:=Lib.hid hB1
  clear x0 x1 x2 hW0 hB1
  go_wp2
  go_ret2
  exact ⟨_,rfl,fun h=>by omega,fun _=>rfl,Bt HB.out HB1.out⟩
 ·rw [hok] at HR
  have HOK:=Lib.hid hok
  clear hok
  obtain ⟨i0,hi,hz0,hz1,hz2⟩:=info_parts infoCell
  go_enter Tryz.func14,Tryz.ntmps14
  go_wp2_with (fail)
  go_at_call 30
  refine (HR.out W0 HB.out).mono ?_
  rintro e w1 ⟨rfl,hB1⟩
  have HS1:=Lib.hid ((hB1.block _ (by have:=HS.out;omega)).trans H0.out)
  have HB1:=Lib.hid (Bt HB.out hB1)
  clear x0 x1 x2 hW0 hB1
  go_wp2_with (fail)
  go_loopw [6,16] (fun v i wr => ∃ (k:Nat) (us:List (List Value)),k≤rows.length∧i = .int .i64 k∧us.length=k∧OwnL (w.heap.size + 1) 6 83 CelAt (fun b=>w.heap.size≤b) wr v us ((rows.take k).map (Tess.Row.kp s.grain))∧(k=0→v = .slice none 0 0)∧(∀ r ∈ rows.take k,Tess.Row.ok s r=true)∧wr.heap[w.heap.size]? = some (.cells #[.slice ad s.dims.length capd,.slice am s.mets.length capm,.int .i64 s.grain] 24 (0,0))∧Below w.heap.size w wr) (fun _ i _=>rows.length - (intOf i).toNat)
  case atStart=>exact ⟨0,[],Nat.zero_le _,rfl,rfl,OwnL.nil _,fun _=>rfl,(fun r h=>by simp at h),HS1.out,HB1.out⟩
  case round=>
   obtain ⟨k,us,hk,rfl,hus,hown,hnil,hall,hbx,hB⟩:=hrel
   have HN:=Lib.hid hnil
   have HU:=Lib.hid hus
   have HO:=Lib.hid hown
   have HA:=Lib.hid hall
   have HX0:=Lib.hid hbx
   have HBr:=Lib.hid hB
   obtain ⟨⟨x0,x1,x2⟩,_⟩:=can3 hbx
   have hwl:w.heap.size < wr.heap.size:=(Array.getElem?_eq_some_iff.1 hbx).1
   clear hnil hus hown hall hbx hB
   by_cases hlt:k < rows.length
   ·obtain ⟨b,off,rfl,hb,_,cs,_,hR,hcell⟩:=HC.out k hlt
    have HF:=Lib.hid (fun W (hW:Below w.heap.size w W)=>HOF.out W hW k hlt (.agg cs.toArray) (row_nest.ag hR (Ag.new p hW)).row)
    have hcod:=ofCode_ok HOK.out rows[k]
    obtain ⟨vd,na,nc,rfl,_,hvd,_⟩:=hR
    obtain ⟨da,dc,rfl⟩:=hvd.shape
    have c0:wr.cell? ⟨b,off + k * 3,none⟩=some (.int .i64 rows[k].t):=(HBr.out.cell (p:=⟨b,off + k * 3,none⟩) hb).trans (hcell 0 (by omega))
    have c1:wr.cell? ⟨b,off + k * 3 + 1,none⟩=some (.slice da rows[k].l.length dc):=(HBr.out.cell (p:=⟨b,off + k * 3 + 1,none⟩) hb).trans (hcell 1 (by omega))
    have c2:wr.cell? ⟨b,off + k * 3 + 2,none⟩=some (.slice na rows[k].ns.length nc):=(HBr.out.cell (p:=⟨b,off + k * 3 + 2,none⟩) hb).trans (hcell 2 (by omega))
    have hki:(k:Int) < (rows.length:Int):=by omega
    have hbw:b < wr.heap.size:=Nat.lt_of_lt_of_le hb HBr.out.size
    have HE:=Lib.hid (show (rows.take k).map (Tess.Row.kp s.grain) ++ [Tess.Row.kp s.grain rows[k]]=(rows.take (k + 1)).map (Tess.Row.kp s.grain) by rw [List.take_succ_eq_append_getElem hlt,List.map_append];rfl)
    have HM:=Lib.hid (show rows[k] ∈ rows from List.getElem_mem hlt)
    have HAK:=Lib.hid (show Tess.Row.ok s rows[k]=true→∀ r ∈ rows.take (k + 1),Tess.Row.ok s r=true from fun h r hr=>by
     rw [List.take_succ_eq_append_getElem hlt] at hr
     rcases List.mem_append.1 hr with hr | hr
     ·exact HA.out r hr
     ·rw [List.mem_singleton.1 hr];exact h)
    clear hcell hvd hb
    generalize rows[k]=r at *
    obtain ⟨W3,hW3⟩:∃ W3,wr.alloc (.cells #[.int .i64 r.t,.slice da r.l.length dc,.slice na r.ns.length nc] 74)=W3:=⟨_,rfl⟩
    obtain ⟨k1,kS,kB⟩:=laid1 wr (.cells #[.int .i64 r.t,.slice da r.l.length dc,.slice na r.ns.length nc] 74)
    rw [hW3] at k1 kS kB
    obtain ⟨⟨y0,y1,y2⟩,_⟩:=can3 k1
    have hx3:=(kB.block _ hwl).trans HX0.out
    obtain ⟨⟨z0,z1,z2⟩,_⟩:=can3 hx3
    have HX3:=Lib.hid hx3
    have HB3:=Lib.hid (Bt HBr.out kB)
    have HK3:=Lib.hid kB
    have HS3:=Lib.hid kS
    clear hx3 kB kS k1
    cases hrk:Tess.Row.ok s r
    ·rw [hrk] at hcod
     simp only [Bool.false_eq_true,if_false] at hcod
     rw [hcod] at HF
     have HRK:=Lib.hid hrk
     have HCODE:=Lib.hid (show rollCode s rows=101 by
      unfold rollCode
      rw [HOK.out]
      simp only [if_true]
      rw [if_neg]
      intro h
      have:=List.all_eq_true.1 h r HM.out
      rw [HRK.out] at this;cases this)
     clear hcod hrk
     go_wp2_with (fail)
     go_at_call 31
     refine (HF.out W3 HB3.out).mono ?_
     rintro e w2 ⟨cs2,rfl,hpost,hb2⟩
     rcases hpost with ⟨h,_⟩ | ⟨_,rfl⟩
     ·rw [HRK.out] at h;cases h
     have HB2:=Lib.hid (Bt HB3.out hb2)
     clear hb2 x0 x1 x2 y0 y1 y2 z0 z1 z2 c0 c1 c2 hW3
     go_wp2
     go_ret2
     exact ⟨.slice none 0 0,by rw [HCODE.out];rfl,fun h=>by rw [HCODE.out] at h;omega,fun _=>rfl,HB2.out.alloc HB2.out.size _⟩
    ·rw [hrk] at hcod
     simp only [if_true] at hcod
     rw [hcod] at HF
     have HRK:=Lib.hid hrk
     clear hcod hrk
     go_wp2_with (fail)
     go_at_call 31
     refine (HF.out W3 HB3.out).mono ?_
     rintro e w2 ⟨cs2,rfl,hpost,hb2⟩
     rcases hpost with ⟨_,hcel⟩ | ⟨h,_⟩
     rotate_left
     ·rw [HRK.out] at h;cases h
     have HCEL:=Lib.hid hcel
     have HX2:=Lib.hid ((hb2.block _ (by have:=HS3.out;omega)).trans HX3.out)
     have HB2:=Lib.hid (Bt HB3.out hb2)
     have HB32:=Lib.hid (Bt HK3.out hb2)
     clear hb2 x0 x1 x2 y0 y1 y2 z0 z1 z2 c0 c1 c2 hW3
     generalize hX:Tess.Row.kp s.grain r=x at *
     obtain ⟨ad8,cd8,a3,c3,a4,c4,a5,c5,rfl,_⟩:=hcel.shapes
     obtain ⟨W4,hW4⟩:∃ W4,w2.alloc (.cells #[.int .i64 x.1.1,.slice ad8 x.1.2.length cd8,.int .i64 x.2.n,.slice a3 x.2.sums.length c3,.slice a4 x.2.mins.length c4,.slice a5 x.2.maxs.length c5] 83)=W4:=⟨_,rfl⟩
     obtain ⟨k4,kS4,kB4⟩:=laid1 w2 (.cells #[.int .i64 x.1.1,.slice ad8 x.1.2.length cd8,.int .i64 x.2.n,.slice a3 x.2.sums.length c3,.slice a4 x.2.mins.length c4,.slice a5 x.2.maxs.length c5] 83)
     rw [hW4] at k4 kS4 kB4
     obtain ⟨⟨y0,y1,y2,y3,y4,y5⟩,_⟩:=can6 k4
     obtain ⟨W5,hW5⟩:∃ W5,W4.alloc (.cells #[.int .i64 x.1.1,.slice ad8 x.1.2.length cd8,.int .i64 x.2.n,.slice a3 x.2.sums.length c3,.slice a4 x.2.mins.length c4,.slice a5 x.2.maxs.length c5] 83)=W5:=⟨_,rfl⟩
     obtain ⟨k5,kS5,kB5⟩:=laid1 W4 (.cells #[.int .i64 x.1.1,.slice ad8 x.1.2.length cd8,.int .i64 x.2.n,.slice a3 x.2.sums.length c3,.slice a4 x.2.mins.length c4,.slice a5 x.2.maxs.length c5] 83)
     rw [hW5] at k5 kS5 kB5
     have HK5:=Lib.hid k5
     have hb25:Below w2.heap.size w2 W5:=Bt kB4 kB5
     have hbr5:Below wr.heap.size wr W5:=Bt HB32.out hb25
     have HO5:=Lib.hid (HO.out.below cel_nest hbr5)
     have HX5:=Lib.hid ((hbr5.block _ hwl).trans HX0.out)
     have HB5:=Lib.hid (Bt HBr.out hbr5)
     have HONE:=Lib.hid (cel_nest.one HCEL.out)
     have HCX:=Lib.hid (show CelAt (fun b=>w.heap.size≤b∧u6.ownBlock≠some b) W5 [.int .i64 x.1.1,.slice ad8 x.1.2.length cd8,.int .i64 x.2.n,.slice a3 x.2.sums.length c3,.slice a4 x.2.mins.length c4,.slice a5 x.2.maxs.length c5] x from cel_nest.weak (cel_nest.ag HCEL.out (Ag.new _ hb25)) fun b hb=>by
      have h3:=HS3.out
      refine ⟨by omega,fun e => ?_⟩
      have:=(HO.out.own.lt b e).2
      omega)
     have HS5:=Lib.hid kS5
     clear kB4 kB5 kS4 kS5 k4 k5 hb25 hbr5 hcel
     go_wp2_with (at_builtin;refine wpList_append_own_at _ rfl _ _ 41 rfl (w.heap.size + 1) 83 i0 (.agg #[.int .i64 0,.slice none 0 0,.int .i64 0,.slice none 0 0,.slice none 0 0,.slice none 0 0]) 6 112 Tryz.underlying41 hi hz0 hz1 hz2 rfl (by decide) _ _ _ rfl HO5.out.own ⟨W4.heap.size,0,none⟩ 1 1 [.int .i64 x.1.1,.slice ad8 x.1.2.length cd8,.int .i64 x.2.n,.slice a3 x.2.sums.length c3,.slice a4 x.2.mins.length c4,.slice a5 x.2.maxs.length c5] rfl rfl ?_ HONE.out ?_ ?_ ?_ ?_)
     ·intro j u hj
      rw [addr_add,cell_of_row _ _ _ _ _ _ HK5.out,Nat.zero_add];simpa using hj
     ·have:=HU.out;unfold maxLen;have:=HLEN.out;omega
     ·have:=HU.out;have:=HLEN.out;omega
     ·have:=HB5.out.size;have:=(Array.getElem?_eq_some_iff.1 HX5.out).1;omega
     intro v' w3 hown3 hgrow3 hnil3 hloc3
     have HO6:=Lib.hid (HO5.out.more cel_nest HCX.out hown3 hgrow3 hloc3)
     have HB6:=Lib.hid (HB5.out.grown hgrow3 HB5.out.size (fun j e=>by have:=(HO5.out.own.lt j e).1;omega))
     have HX6:=Lib.hid ((hgrow3.block w.heap.size ((Array.getElem?_eq_some_iff.1 HX5.out).1) (fun e=>by have:=(HO5.out.own.lt _ e.symm).1;omega)).trans HX5.out)
     clear hown3 hgrow3 hnil3 hloc3 y0 y1 y2 y3 y4 y5 hW4 hW5
     go_wp2
     go_roundw
     case rel=>exact ⟨k + 1,us ++ [[.int .i64 x.1.1,.slice ad8 x.1.2.length cd8,.int .i64 x.2.n,.slice a3 x.2.sums.length c3,.slice a4 x.2.mins.length c4,.slice a5 x.2.maxs.length c5]],by omega,by go_num,by simp [HU.out],by rw [← HE.out];exact HO6.out,(fun h=>by omega),HAK.out HRK.out,HX6.out,HB6.out⟩
     case measure=>simp [intOf];omega
   ·have hki:¬ (k:Int) < (rows.length:Int):=by omega
    obtain rfl:k=rows.length:=by omega
    rw [List.take_length] at HO HA
    have hcode:rollCode s rows=0:=by
     unfold rollCode
     rw [HOK.out]
     simp only [if_true]
     rw [if_pos (List.all_eq_true.2 HA.out)]
    have HCODE:=Lib.hid hcode
    have hCl:(rows.map (Tess.Row.kp s.grain)).length≤1000:=by rw [List.length_map];exact HLEN.out
    have hcels:CelsAt (fun b=>w.heap.size≤b) wr u6 (rows.map (Tess.Row.kp s.grain)):=HO.out.listed cel_nest (fun _ h=>h) (fun _ h=>by omega) (by unfold maxLen;omega) (fun h=>HN.out (by rw [List.map_eq_nil_iff] at h;rw [h];rfl))
    have hM:∀ x ∈ rows.map (Tess.Row.kp s.grain),PayOk s.mets.length x.2∧x.1.2.length≤1000:=fun x hx=>by
     obtain ⟨r,hr,rfl⟩:=List.mem_map.1 hx
     refine ⟨Tess.row_pay (HA.out r hr) (HROW.out r hr).2.2 _,?_⟩
     show (r.l.map Tess.Val.c).length≤1000
     rw [List.length_map];exact (HROW.out r hr).1
    have htot:((rows.map (Tess.Row.kp s.grain)).map (·.2.n)).sum≤1000000:=by rw [kp_sum];have:=HLEN.out;omega
    have HPUT:=Lib.hid (put_any _ u6 _ s.mets.length wr hcels hM (sch_mets HOK.out) htot hCl)
    have HPAY:=Lib.hid (fun y hy=>(Tess.fold_pay (fun x hx=>(hM x hx).1) y hy).2)
    have HFL:=Lib.hid (Nat.le_trans (fold_len (rows.map (Tess.Row.kp s.grain))) hCl)
    have HTOT:=Lib.hid htot
    clear hM htot hcels hCl hcode x0 x1 x2
    go_wp2_with (fail)
    go_at_call 33
    refine HPUT.out.mono ?_
    rintro e w2 ⟨v2,us2,rfl,hst,hn2,hb2⟩
    have hl2:CelsAt (fun b=>w.heap.size≤b) w2 v2 (fold ckLt Pay.add (rows.map (Tess.Row.kp s.grain))):=hst.own.listed cel_nest (fun _ h=>by omega) (fun _ h=>by omega) (by have:=HFL.out;unfold maxLen;omega) (fun h=>hn2 (fold_none h))
    have HL2:=Lib.hid hl2
    have HE2:=Lib.hid (ends_any _ v2 _ w2 hl2 HFL.out (fun x hx=>Int.le_trans (HPAY.out x hx) HTOT.out))
    have HB2:=Lib.hid (Bt HBr.out hb2)
    clear hst hn2 hb2 hl2
    go_wp2_with (fail)
    go_at_call 32
    refine HE2.out.mono ?_
    rintro e w3 ⟨rfl,hb3⟩
    have HL3:=Lib.hid (HL2.out.ag (Ag.new _ hb3))
    have HB3:=Lib.hid (Bt HB2.out hb3)
    clear hb3
    go_wp2
    go_ret2
    exact ⟨v2,by rw [HCODE.out];rfl,fun _=>HL3.out,fun h=>absurd HCODE.out h,HB3.out⟩
end Go.Proofs.YtaddkkkchkdgkaaGreatDoor
