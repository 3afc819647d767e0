/- Joined by mergeK.py: H4, H5 -/
import Derived.Test.YtaddkkkchkdgkaaGreatDoorWC38
namespace Go.Proofs.YtaddkkkchkdgkaaGreatDoor
open Go.RowKit Go.Sort
open Tess (Fil Que)
theorem right_cells2 {w w':World} {g:Nat} {x0 x1:Value} {t:TypeId} (hB:Below w.heap.size w w') (hg:w.heap[g]? = some (.cells #[x0,x1] t (0,0))):w'.cell? ⟨g,0,none⟩=some x0∧w'.cell? ⟨g,1,none⟩=some x1:=by
 have hg':=(hB.block _ (Array.getElem?_eq_some_iff.1 hg).1).trans hg
 exact ⟨cell_of_row _ _ 0 _ _ _ hg',cell_of_row _ _ 1 _ _ _ hg'⟩
theorem emptyL:ByteArray.empty.toList=[]:=by rw [ByteArray.toList_eq];rfl
set_option maxRecDepth 100000 in
set_option maxHeartbeats 1000000 in
theorem isTyped_any (v:Value) (s:Tess.Sch) (k:Int) (x:ByteArray) (p:Nat→Prop) (w:World) (hv:SchAt p w v s) :
  Calls Tryz.prog 119 #[v,.agg #[.int .i64 k,.string x]] w fun e w'=>e = .returned (.bool (Que.isTyped s ⟨k,x⟩))∧Below w.heap.size w w':=by
 have HV:=Lib.hid hv
 have HM:=Lib.hid (fun W (hB:Below w.heap.size w W)=>metric_any v s x p W (HV.out.ag (Ag.new p hB)))
 obtain ⟨vd,vm,rfl,hd,hm,_,_⟩:=hv
 obtain ⟨ad,capd,rfl,_⟩:=slp_len hd
 obtain ⟨am,capm,rfl,_⟩:=slp_len hm
 clear hd hm HV
 have HT:RowKit.Hid (Que.isTyped s ⟨k,x⟩=if k=1 then decide (x=ByteArray.empty) else (Tess.metW s x).2 && decide (1 < k) && decide (k≤5)):=Lib.hid rfl
 obtain ⟨r,hr⟩:∃ r,r=Que.isTyped s ⟨k,x⟩:=⟨_,rfl⟩
 rw [← hr] at HT ⊢
 clear hr
 generalize Tess.metW s x=m at *
 obtain ⟨m1,m2⟩:=m
 simp only at HM HT
 obtain ⟨h1,h2,hS0,hB0⟩:=laid2 w (.cells #[.slice ad s.dims.length capd,.slice am s.mets.length capm,.int .i64 s.grain] 24) (.cells #[.int .i64 k,.string x] 76)
 have HB0:=Lib.hid hB0
 have H2:=Lib.hid h2
 clear hB0 h1 h2 hS0
 by_cases hk:k=1
 ·subst hk
  have HT2:=Lib.hid (show r=decide (x=ByteArray.empty) from HT.out)
  clear HT
  by_cases hx:x.toList=[]
  ·have HX:=Lib.hid (show x=ByteArray.empty from str_inj (hx.trans emptyL.symm))
   go_enter Tryz.func119,Tryz.ntmps119
   go_wp2_with (go_at_call 164;refine (HM.out _ HB0.out).mono ?_;rintro e W1 ⟨rfl,hB1⟩;obtain ⟨y0,y1⟩:=right_cells2 hB1 H2.out;have HB1:=Lib.hid (Bt HB0.out hB1);clear hB1)
   go_ret
   exact ⟨by rw [HT2.out];simp [HX.out],HB1.out⟩
  ·have HX:=Lib.hid (show x≠ByteArray.empty from fun e=>hx (by rw [e];exact emptyL))
   go_enter Tryz.func119,Tryz.ntmps119
   go_wp2_with (go_at_call 164;refine (HM.out _ HB0.out).mono ?_;rintro e W1 ⟨rfl,hB1⟩;obtain ⟨y0,y1⟩:=right_cells2 hB1 H2.out;have HB1:=Lib.hid (Bt HB0.out hB1);clear hB1)
   go_ret
   exact ⟨by rw [HT2.out];simp [HX.out,hx],HB1.out⟩
 ·have HT2:=Lib.hid (show r=(m2 && decide (1 < k) && decide (k≤5)) from HT.out.trans (if_neg hk))
  have hk1:(k == 1)=false:=beq_eq_false_iff_ne.2 hk
  clear HT hk
  cases m2
  ·have HT3:=Lib.hid (show r=false from HT2.out)
   go_enter Tryz.func119,Tryz.ntmps119
   go_wp2_with (go_at_call 164;refine (HM.out _ HB0.out).mono ?_;rintro e W1 ⟨rfl,hB1⟩;obtain ⟨y0,y1⟩:=right_cells2 hB1 H2.out;have HB1:=Lib.hid (Bt HB0.out hB1);clear hB1)
   go_ret
   exact ⟨ret_bool' HT3.out.symm,HB1.out⟩
  ·cases h1:decide (1 < k)
   ·have HT3:=Lib.hid (show r=false by rw [HT2.out,h1];rfl)
    clear HT2
    go_enter Tryz.func119,Tryz.ntmps119
    go_wp2_with (go_at_call 164;refine (HM.out _ HB0.out).mono ?_;rintro e W1 ⟨rfl,hB1⟩;obtain ⟨y0,y1⟩:=right_cells2 hB1 H2.out;have HB1:=Lib.hid (Bt HB0.out hB1);clear hB1)
    go_ret
    exact ⟨ret_bool' HT3.out.symm,HB1.out⟩
   ·have HT3:=Lib.hid (show r=decide (k≤5) by rw [HT2.out,h1];rfl)
    clear HT2
    go_enter Tryz.func119,Tryz.ntmps119
    go_wp2_with (go_at_call 164;refine (HM.out _ HB0.out).mono ?_;rintro e W1 ⟨rfl,hB1⟩;obtain ⟨y0,y1⟩:=right_cells2 hB1 H2.out;have HB1:=Lib.hid (Bt HB0.out hB1);clear hB1)
    go_ret
    exact ⟨ret_bool' HT3.out.symm,HB1.out⟩
theorem inOrd_take_succ (all l:List ByteArray) (k:Nat) (hk:k < l.length) (last:Int) :
  Que.inOrd all last (l.drop k)=if Que.nameAt all l[k]≤last then false else Que.inOrd all (Que.nameAt all l[k]) (l.drop (k + 1)):=by
 rw [List.drop_eq_getElem_cons hk];rfl
set_option maxRecDepth 100000 in
set_option maxHeartbeats 1000000 in
theorem inOrder_any (vl va:Value) (l all:List ByteArray) (w:World) (hl:SlOf w vl (l.map .string)) (ha:SlOf w va (all.map .string)) :
  Calls Tryz.prog 120 #[vl,va] w fun e w'=>e = .returned (.bool (Que.inOrder l all))∧Below w.heap.size w w':=by
 have HI:=Lib.hid (fun (W:World) (hB:Below w.heap.size w W) (x:ByteArray)=>index_any va all x W (ha.below hB))
 obtain ⟨a,cap,rfl,hlm,hc⟩:=sls_open hl
 obtain ⟨aa,acap,rfl,_,_⟩:=sls_open ha
 have HC:=Lib.hid hc
 clear hc hl ha
 obtain ⟨r,hr⟩:∃ r,r=Que.inOrder l all:=⟨_,rfl⟩
 rw [← hr]
 have HR:=Lib.hid hr
 clear hr
 go_enter Tryz.func120,Tryz.ntmps120
 go_wp2
 go_loopw [5,11] (fun last i wr => ∃ (k:Nat) (z:Int),k≤l.length∧i = .int .i64 k∧last = .int .i64 z∧r=Que.inOrd all z (l.drop k)∧Below w.heap.size w wr) (fun _ i _=>l.length - (intOf i).toNat)
 case atStart=>exact ⟨0,-1,Nat.zero_le _,rfl,rfl,HR.out,Below.refl _ _⟩
 case round=>
  obtain ⟨k,z,hk,rfl,rfl,hrr,hB⟩:=hrel
  have HRR:=Lib.hid hrr
  have HB:=Lib.hid hB
  clear hrr hB
  by_cases hlt:k < l.length
  ·obtain ⟨b,off,rfl,hb,hck⟩:=HC.out k hlt
   have hki:(k:Int) < (l.length:Int):=by omega
   have hck':=(HB.out.cell (p:=⟨b,off + k,none⟩) hb).trans hck
   have HST:=Lib.hid (HRR.out.trans (inOrd_take_succ all l k hlt z))
   clear hck
   generalize l[k]=y at *
   have HCALL:=Lib.hid (HI.out wr HB.out y)
   have HN:RowKit.Hid (Que.nameAt all y=if Tess.hasW all y then ((Tess.idxW all y:Nat):Int) else -1):=Lib.hid rfl
   rw [← HN.out] at HCALL
   generalize Que.nameAt all y=m at *
   by_cases hm:m≤z
   ·have HST2:=Lib.hid (show r=false by rw [HST.out,if_pos hm])
    have hmd:decide (m≤z)=true:=decide_eq_true hm
    go_wp2_with (go_at_call 165;refine HCALL.out.mono ?_;rintro e w2 ⟨rfl,rfl⟩)
    go_ret
    exact ⟨ret_bool' HST2.out.symm,HB.out⟩
   ·have HST2:=Lib.hid (show r=Que.inOrd all m (l.drop (k + 1)) by rw [HST.out,if_neg hm])
    have hmd:decide (m≤z)=false:=decide_eq_false hm
    go_wp2_with (go_at_call 165;refine HCALL.out.mono ?_;rintro e w2 ⟨rfl,rfl⟩)
    go_roundw
    case rel=>exact ⟨k + 1,m,by omega,by go_num,rfl,HST2.out,HB.out⟩
    case measure=>simp [intOf];omega
  ·have hki:¬ (k:Int) < (l.length:Int):=by omega
   have HE:=Lib.hid (show r=true by rw [HRR.out,List.drop_eq_nil_of_le (by omega)];rfl)
   go_wp2
   go_ret
   exact ⟨ret_bool' HE.out.symm,HB.out⟩
end Go.Proofs.YtaddkkkchkdgkaaGreatDoor
namespace Go.Proofs.YtaddkkkchkdgkaaGreatDoor
open Go.RowKit Go.Sort
open Tess (Fil Que)
set_option maxRecDepth 100000 in
theorem clo1_any (p:Nat→Prop) (s:Tess.Sch) (vd vm:Value) (B:Nat) (W:World) (hb:W.heap[B]? = some (.cells #[vd,vm,.int .i64 s.grain] 24 (0,0))) (hs:SchAt p W (.agg #[vd,vm,.int .i64 s.grain]) s) (k:Int) (x:ByteArray) :
  Calls Tryz.prog 118 #[.agg #[.int .i64 k,.string x],.pointer (some ⟨B,0,none⟩)] W fun e w'=>e = .returned (.bool (Que.isTyped s ⟨k,x⟩))∧Below W.heap.size W w':=by
 obtain ⟨W0,hW0⟩:∃ W0,W.alloc (.cells #[.int .i64 k,.string x] 76)=W0:=⟨_,rfl⟩
 obtain ⟨h0,hS,hB⟩:=laid1 W (.cells #[.int .i64 k,.string x] 76)
 rw [hW0] at h0 hS hB
 have HC:=Lib.hid (isTyped_any _ s k x p W0 (hs.ag (Ag.new p hB)))
 obtain ⟨y0,y1,y2⟩:=right_cells3 hB hb
 obtain ⟨z0,z1⟩:=right_cells2 (Below.refl _ _) h0
 have HB:=Lib.hid hB
 clear hs h0 hS hB hb
 generalize Que.isTyped s ⟨k,x⟩=r at *
 go_enter Tryz.func118,Tryz.ntmps118
 go_wp2_with (go_at_call 119;refine HC.out.mono ?_;rintro e w2 ⟨rfl,hB2⟩;have HB2:=Lib.hid (Bt HB.out hB2);clear hB2)
 go_ret
 exact ⟨rfl,HB2.out⟩
set_option maxRecDepth 100000 in
theorem clo2_any (p:Nat→Prop) (s:Tess.Sch) (vd vm:Value) (B:Nat) (W:World) (hb:W.heap[B]? = some (.cells #[vd,vm,.int .i64 s.grain] 24 (0,0))) (hs:SchAt p W (.agg #[vd,vm,.int .i64 s.grain]) s) (x:ByteArray) :
  Calls Tryz.prog 122 #[.string x,.pointer (some ⟨B,0,none⟩)] W fun e w'=>e = .returned (.bool (Tess.dimW s x).2)∧Below W.heap.size W w':=by
 have HC:=Lib.hid (dim_any _ s x p W hs)
 obtain ⟨y0,y1,y2⟩:=right_cells3 (Below.refl _ _) hb
 clear hs hb
 generalize Tess.dimW s x=r at *
 obtain ⟨r1,r2⟩:=r
 simp only at HC
 go_enter Tryz.func122,Tryz.ntmps122
 go_wp2_with (go_at_call 104;refine HC.out.mono ?_;rintro e w2 ⟨rfl,hB2⟩;have HB2:=Lib.hid hB2;clear hB2)
 go_ret
 exact ⟨rfl,HB2.out⟩
set_option maxRecDepth 100000 in
theorem clo3_any (vl vb:Value) (l names:List ByteArray) (B:Nat) (W:World) (hb:W.cell? ⟨B,1,none⟩=some vb) (hl:SlOf W vl (l.map .string)) (hn:SlOf W vb (names.map .string)) :
  Calls Tryz.prog 124 #[vl,.pointer (some ⟨B,0,none⟩)] W fun e w'=>e = .returned (.bool (Que.inOrder l names))∧Below W.heap.size W w':=by
 have HC:=Lib.hid (inOrder_any vl vb l names W hl hn)
 obtain ⟨a,cap,rfl,_,_⟩:=sls_open hl
 obtain ⟨aa,acap,rfl,_,_⟩:=sls_open hn
 clear hl hn
 generalize Que.inOrder l names=r at *
 go_enter Tryz.func124,Tryz.ntmps124
 go_wp2_with (go_at_call 120;refine HC.out.mono ?_;rintro e w2 ⟨rfl,hB2⟩;have HB2:=Lib.hid hB2;clear hB2)
 go_ret
 exact ⟨rfl,HB2.out⟩
set_option maxRecDepth 100000 in
set_option maxHeartbeats 2000000 in
theorem clo4_any (c:Tess.Cond) (aa:Option Addr) (na ca:Nat) (hna:na≤9223372036854775807) (B:Nat) (W:World) (hlt:B < W.heap.size) (hb:W.cell? ⟨B,0,none⟩=some (.slice aa na ca)) :
  Calls Tryz.prog 126 #[.agg #[.int .i64 c.pos,.int .i64 c.op,.int .i64 c.n],.pointer (some ⟨B,0,none⟩)] W fun e w'=>e = .returned (.bool (Que.condOk na c))∧Below W.heap.size W w':=by
 obtain ⟨W0,hW0⟩:∃ W0,W.alloc (.cells #[.int .i64 c.pos,.int .i64 c.op,.int .i64 c.n] 200)=W0:=⟨_,rfl⟩
 obtain ⟨h0,hS,hB⟩:=laid1 W (.cells #[.int .i64 c.pos,.int .i64 c.op,.int .i64 c.n] 200)
 rw [hW0] at h0 hS hB
 obtain ⟨z0,z1,z2⟩:=right_cells3 (Below.refl _ _) h0
 have y0:=(hB.cell (p:=⟨B,0,none⟩) hlt).trans hb
 have HB:=Lib.hid hB
 have H1:=Lib.hid (qwithin_any c.pos 0 ((na:Int) - 1) W0)
 have H2:=Lib.hid (qwithin_any c.op 1 6 W0)
 clear h0 hS hB hb
 have HR:RowKit.Hid (Que.condOk na c=(Tess.within c.pos 0 ((na:Int) - 1) && Tess.within c.op 1 6)):=Lib.hid rfl
 generalize Que.condOk na c=r at *
 cases e1:Tess.within c.pos 0 ((na:Int) - 1)
 ·have HR2:=Lib.hid (show r=false by rw [HR.out,e1];rfl)
  rw [e1] at H1
  go_enter Tryz.func126,Tryz.ntmps126
  go_wp2_with (go_at_call 116;refine H1.out.mono ?_;rintro e w2 ⟨rfl,rfl⟩)
  go_ret
  exact ⟨ret_bool' HR2.out.symm,HB.out⟩
 ·have HR2:=Lib.hid (show r=Tess.within c.op 1 6 by rw [HR.out,e1];rfl)
  rw [e1] at H1
  generalize Tess.within c.op 1 6=r2 at *
  go_enter Tryz.func126,Tryz.ntmps126
  go_wp2_with (fail)
  go_at_call 116
  refine H1.out.mono ?_
  rintro e w2 ⟨rfl,rfl⟩
  go_wp2_with (go_at_call 116;refine H2.out.mono ?_;rintro e w2 ⟨rfl,rfl⟩)
  go_ret
  exact ⟨ret_bool' HR2.out.symm,HB.out⟩
set_option maxRecDepth 100000 in
set_option maxHeartbeats 2000000 in
theorem clo5_any (c:Tess.Key) (aa ab:Option Addr) (na ca nb cb:Nat) (hna:na≤9223372036854775807) (hnb:nb≤9223372036854775807) (B:Nat) (W:World) (hlt:B < W.heap.size) (hb:W.cell? ⟨B,0,none⟩=some (.slice aa na ca)) (hb1:W.cell? ⟨B,1,none⟩=some (.slice ab nb cb)) :
  Calls Tryz.prog 128 #[.agg #[.bool c.agg,.int .i64 c.pos,.bool c.desc],.pointer (some ⟨B,0,none⟩)] W fun e w'=>e = .returned (.bool (Que.keyOk na nb c))∧Below W.heap.size W w':=by
 obtain ⟨W0,hW0⟩:∃ W0,W.alloc (.cells #[.bool c.agg,.int .i64 c.pos,.bool c.desc] 204)=W0:=⟨_,rfl⟩
 obtain ⟨h0,hS,hB⟩:=laid1 W (.cells #[.bool c.agg,.int .i64 c.pos,.bool c.desc] 204)
 rw [hW0] at h0 hS hB
 obtain ⟨z0,z1,z2⟩:=right_cells3 (Below.refl _ _) h0
 have y0:=(hB.cell (p:=⟨B,0,none⟩) hlt).trans hb
 have y1:=(hB.cell (p:=⟨B,1,none⟩) hlt).trans hb1
 have HB:=Lib.hid hB
 have H1:=Lib.hid (qwithin_any c.pos 0 ((na:Int) - 1) W0)
 have H2:=Lib.hid (qwithin_any c.pos 0 ((nb:Int) - 1) W0)
 clear h0 hS hB hb hb1
 have HR:RowKit.Hid (Que.keyOk na nb c=if c.agg then Tess.within c.pos 0 ((na:Int) - 1) else Tess.within c.pos 0 ((nb:Int) - 1)):=Lib.hid rfl
 generalize Que.keyOk na nb c=r at *
 cases ea:c.agg
 ·rw [ea] at z0 hW0
  have HR2:=Lib.hid (show r=Tess.within c.pos 0 ((nb:Int) - 1) by rw [HR.out,ea];rfl)
  generalize Tess.within c.pos 0 ((nb:Int) - 1)=r2 at *
  go_enter Tryz.func128,Tryz.ntmps128
  go_wp2_with (go_at_call 116;refine H2.out.mono ?_;rintro e w2 ⟨rfl,rfl⟩)
  go_ret
  exact ⟨ret_bool' HR2.out.symm,HB.out⟩
 ·rw [ea] at z0 hW0
  have HR2:=Lib.hid (show r=Tess.within c.pos 0 ((na:Int) - 1) by rw [HR.out,ea];rfl)
  generalize Tess.within c.pos 0 ((na:Int) - 1)=r2 at *
  cases r2
  all_goals
   go_enter Tryz.func128,Tryz.ntmps128
   go_wp2_with (go_at_call 116;refine H1.out.mono ?_;rintro e w2 ⟨rfl,rfl⟩)
   go_ret
   exact ⟨ret_bool' HR2.out.symm,HB.out⟩
end Go.Proofs.YtaddkkkchkdgkaaGreatDoor
