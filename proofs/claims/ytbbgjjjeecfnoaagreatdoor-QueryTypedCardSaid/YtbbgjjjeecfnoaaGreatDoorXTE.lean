/- Joined by mergeQ.py: H4, H5, H6, H12 -/
import Derived.Test.YtbbgjjjeecfnoaaGreatDoorXH3
import Derived.Test.YtbbgjjjeecfnoaaGreatDoorXQJ
namespace Go.Proofs.YtbbgjjjeecfnoaaGreatDoor
open Go.RowKit Go.Sort
open Tess (Fil Que)
theorem right_cells2 {w w':World} {g:Nat} {x0 x1:Value} {t:TypeId} (hB:Below w.heap.size w w') (hg:w.heap[g]? = some (.cells #[x0,x1] t (0,0))):w'.cell? ⟨g,0,none⟩=some x0∧w'.cell? ⟨g,1,none⟩=some x1:=by
 have hg':=(hB.block _ (Array.getElem?_eq_some_iff.1 hg).1).trans hg
 exact ⟨cell_of_row _ _ 0 _ _ _ hg',cell_of_row _ _ 1 _ _ _ hg'⟩
theorem emptyL:ByteArray.empty.toList=[]:=by rw [ByteArray.toList_eq];rfl
set_option maxRecDepth 100000 in
set_option maxHeartbeats 1000000 in
theorem isTyped_any (v:Value) (s:Tess.Sch) (k:Int) (x:ByteArray) (p:Nat→Prop) (w:World) (hv:SchAt p w v s) :
  Calls Tryz.prog 103 #[v,.agg #[.int .i64 k,.string x]] w fun e w'=>e = .returned (.bool (Que.isTyped s ⟨k,x⟩))∧Below w.heap.size w w':=by
 have HV:=Lib.hid hv
 have HM:=Lib.hid (fun W (hB:Below w.heap.size w W)=>metric_any v s x p W (HV.out.ag (Ag.new p hB)))
 obtain ⟨vd,vm,rfl,hd,hm,_,_⟩:=hv
 obtain ⟨ad,capd,rfl,_⟩:=slp_len hd
 obtain ⟨am,capm,rfl,_⟩:=slp_len hm
 clear hd hm HV
 have HT:RowKit.Hid (Que.isTyped s ⟨k,x⟩=if k=1 then decide (x=ByteArray.empty) else (Tess.metW s x).2 && decide (1 < k) && decide (k≤5)):=Lib.hid rfl
 obtain ⟨r,hr⟩:∃ r,r=Que.isTyped s ⟨k,x⟩:=⟨_,rfl⟩
 rw [← hr] at HT ⊢
 clear hr
 generalize Tess.metW s x=m at *
 obtain ⟨m1,m2⟩:=m
 simp only at HM HT
 obtain ⟨h1,h2,hS0,hB0⟩:=laid2 w (.cells #[.slice ad s.dims.length capd,.slice am s.mets.length capm,.int .i64 s.grain] 24) (.cells #[.int .i64 k,.string x] 83)
 have HB0:=Lib.hid hB0
 have H2:=Lib.hid h2
 clear hB0 h1 h2 hS0
 by_cases hk:k=1
 ·subst hk
  have HT2:=Lib.hid (show r=decide (x=ByteArray.empty) from HT.out)
  clear HT
  by_cases hx:x.toList=[]
  ·have HX:=Lib.hid (show x=ByteArray.empty from str_inj (hx.trans emptyL.symm))
   go_enter Tryz.func103,Tryz.ntmps103
   go_wp2_with (go_at_call 179;refine (HM.out _ HB0.out).mono ?_;rintro e W1 ⟨rfl,hB1⟩;obtain ⟨y0,y1⟩:=right_cells2 hB1 H2.out;have HB1:=Lib.hid (Bt HB0.out hB1);clear hB1)
   go_ret
   exact ⟨by rw [HT2.out];simp [HX.out],HB1.out⟩
  ·have HX:=Lib.hid (show x≠ByteArray.empty from fun e=>hx (by rw [e];exact emptyL))
   go_enter Tryz.func103,Tryz.ntmps103
   go_wp2_with (go_at_call 179;refine (HM.out _ HB0.out).mono ?_;rintro e W1 ⟨rfl,hB1⟩;obtain ⟨y0,y1⟩:=right_cells2 hB1 H2.out;have HB1:=Lib.hid (Bt HB0.out hB1);clear hB1)
   go_ret
   exact ⟨by rw [HT2.out];simp [HX.out,hx],HB1.out⟩
 ·have HT2:=Lib.hid (show r=(m2 && decide (1 < k) && decide (k≤5)) from HT.out.trans (if_neg hk))
  have hk1:(k == 1)=false:=beq_eq_false_iff_ne.2 hk
  clear HT hk
  cases m2
  ·have HT3:=Lib.hid (show r=false from HT2.out)
   go_enter Tryz.func103,Tryz.ntmps103
   go_wp2_with (go_at_call 179;refine (HM.out _ HB0.out).mono ?_;rintro e W1 ⟨rfl,hB1⟩;obtain ⟨y0,y1⟩:=right_cells2 hB1 H2.out;have HB1:=Lib.hid (Bt HB0.out hB1);clear hB1)
   go_ret
   exact ⟨ret_bool' HT3.out.symm,HB1.out⟩
  ·cases h1:decide (1 < k)
   ·have HT3:=Lib.hid (show r=false by rw [HT2.out,h1];rfl)
    clear HT2
    go_enter Tryz.func103,Tryz.ntmps103
    go_wp2_with (go_at_call 179;refine (HM.out _ HB0.out).mono ?_;rintro e W1 ⟨rfl,hB1⟩;obtain ⟨y0,y1⟩:=right_cells2 hB1 H2.out;have HB1:=Lib.hid (Bt HB0.out hB1);clear hB1)
    go_ret
    exact ⟨ret_bool' HT3.out.symm,HB1.out⟩
   ·have HT3:=Lib.hid (show r=decide (k≤5) by rw [HT2.out,h1];rfl)
    clear HT2
    go_enter Tryz.func103,Tryz.ntmps103
    go_wp2_with (go_at_call 179;refine (HM.out _ HB0.out).mono ?_;rintro e W1 ⟨rfl,hB1⟩;obtain ⟨y0,y1⟩:=right_cells2 hB1 H2.out;have HB1:=Lib.hid (Bt HB0.out hB1);clear hB1)
    go_ret
    exact ⟨ret_bool' HT3.out.symm,HB1.out⟩
theorem inOrd_take_succ (all l:List ByteArray) (k:Nat) (hk:k < l.length) (last:Int) :
  Que.inOrd all last (l.drop k)=if Que.nameAt all l[k]≤last then false else Que.inOrd all (Que.nameAt all l[k]) (l.drop (k + 1)):=by
 rw [List.drop_eq_getElem_cons hk];rfl
set_option maxRecDepth 100000 in
set_option maxHeartbeats 1000000 in
theorem inOrder_any (vl va:Value) (l all:List ByteArray) (w:World) (hl:SlOf w vl (l.map .string)) (ha:SlOf w va (all.map .string)) :
  Calls Tryz.prog 104 #[vl,va] w fun e w'=>e = .returned (.bool (Que.inOrder l all))∧Below w.heap.size w w':=by
 have HI:=Lib.hid (fun (W:World) (hB:Below w.heap.size w W) (x:ByteArray)=>index_any va all x W (ha.below hB))
 obtain ⟨a,cap,rfl,hlm,hc⟩:=sls_open hl
 obtain ⟨aa,acap,rfl,_,_⟩:=sls_open ha
 have HC:=Lib.hid hc
 clear hc hl ha
 obtain ⟨r,hr⟩:∃ r,r=Que.inOrder l all:=⟨_,rfl⟩
 rw [← hr]
 have HR:=Lib.hid hr
 clear hr
 go_enter Tryz.func104,Tryz.ntmps104
 go_wp2
 go_loopw [5,11] (fun last i wr => ∃ (k:Nat) (z:Int),k≤l.length∧i = .int .i64 k∧last = .int .i64 z∧r=Que.inOrd all z (l.drop k)∧Below w.heap.size w wr) (fun _ i _=>l.length - (intOf i).toNat)
 case atStart=>exact ⟨0,-1,Nat.zero_le _,rfl,rfl,HR.out,Below.refl _ _⟩
 case round=>
  obtain ⟨k,z,hk,rfl,rfl,hrr,hB⟩:=hrel
  have HRR:=Lib.hid hrr
  have HB:=Lib.hid hB
  clear hrr hB
  by_cases hlt:k < l.length
  ·obtain ⟨b,off,rfl,hb,hck⟩:=HC.out k hlt
   have hki:(k:Int) < (l.length:Int):=by omega
   have hck':=(HB.out.cell (p:=⟨b,off + k,none⟩) hb).trans hck
   have HST:=Lib.hid (HRR.out.trans (inOrd_take_succ all l k hlt z))
   clear hck
   generalize l[k]=y at *
   have HCALL:=Lib.hid (HI.out wr HB.out y)
   have HN:RowKit.Hid (Que.nameAt all y=if Tess.hasW all y then ((Tess.idxW all y:Nat):Int) else -1):=Lib.hid rfl
   rw [← HN.out] at HCALL
   generalize Que.nameAt all y=m at *
   by_cases hm:m≤z
   ·have HST2:=Lib.hid (show r=false by rw [HST.out,if_pos hm])
    have hmd:decide (m≤z)=true:=decide_eq_true hm
    go_wp2_with (go_at_call 180;refine HCALL.out.mono ?_;rintro e w2 ⟨rfl,rfl⟩)
    go_ret
    exact ⟨ret_bool' HST2.out.symm,HB.out⟩
   ·have HST2:=Lib.hid (show r=Que.inOrd all m (l.drop (k + 1)) by rw [HST.out,if_neg hm])
    have hmd:decide (m≤z)=false:=decide_eq_false hm
    go_wp2_with (go_at_call 180;refine HCALL.out.mono ?_;rintro e w2 ⟨rfl,rfl⟩)
    go_roundw
    case rel=>exact ⟨k + 1,m,by omega,by go_num,rfl,HST2.out,HB.out⟩
    case measure=>simp [intOf];omega
  ·have hki:¬ (k:Int) < (l.length:Int):=by omega
   have HE:=Lib.hid (show r=true by rw [HRR.out,List.drop_eq_nil_of_le (by omega)];rfl)
   go_wp2
   go_ret
   exact ⟨ret_bool' HE.out.symm,HB.out⟩
end Go.Proofs.YtbbgjjjeecfnoaaGreatDoor
namespace Go.Proofs.YtbbgjjjeecfnoaaGreatDoor
open Go.RowKit Go.Sort
open Tess (Fil Que)
set_option maxRecDepth 100000 in
theorem clo1_any (p:Nat→Prop) (s:Tess.Sch) (vd vm:Value) (B:Nat) (W:World) (hb:W.heap[B]? = some (.cells #[vd,vm,.int .i64 s.grain] 24 (0,0))) (hs:SchAt p W (.agg #[vd,vm,.int .i64 s.grain]) s) (k:Int) (x:ByteArray) :
  Calls Tryz.prog 102 #[.agg #[.int .i64 k,.string x],.pointer (some ⟨B,0,none⟩)] W fun e w'=>e = .returned (.bool (Que.isTyped s ⟨k,x⟩))∧Below W.heap.size W w':=by
 obtain ⟨W0,hW0⟩:∃ W0,W.alloc (.cells #[.int .i64 k,.string x] 83)=W0:=⟨_,rfl⟩
 obtain ⟨h0,hS,hB⟩:=laid1 W (.cells #[.int .i64 k,.string x] 83)
 rw [hW0] at h0 hS hB
 have HC:=Lib.hid (isTyped_any _ s k x p W0 (hs.ag (Ag.new p hB)))
 obtain ⟨y0,y1,y2⟩:=right_cells3 hB hb
 obtain ⟨z0,z1⟩:=right_cells2 (Below.refl _ _) h0
 have HB:=Lib.hid hB
 clear hs h0 hS hB hb
 generalize Que.isTyped s ⟨k,x⟩=r at *
 go_enter Tryz.func102,Tryz.ntmps102
 go_wp2_with (go_at_call 103;refine HC.out.mono ?_;rintro e w2 ⟨rfl,hB2⟩;have HB2:=Lib.hid (Bt HB.out hB2);clear hB2)
 go_ret
 exact ⟨rfl,HB2.out⟩
set_option maxRecDepth 100000 in
theorem clo2_any (p:Nat→Prop) (s:Tess.Sch) (vd vm:Value) (B:Nat) (W:World) (hb:W.heap[B]? = some (.cells #[vd,vm,.int .i64 s.grain] 24 (0,0))) (hs:SchAt p W (.agg #[vd,vm,.int .i64 s.grain]) s) (x:ByteArray) :
  Calls Tryz.prog 106 #[.string x,.pointer (some ⟨B,0,none⟩)] W fun e w'=>e = .returned (.bool (Tess.dimW s x).2)∧Below W.heap.size W w':=by
 have HC:=Lib.hid (dim_any _ s x p W hs)
 obtain ⟨y0,y1,y2⟩:=right_cells3 (Below.refl _ _) hb
 clear hs hb
 generalize Tess.dimW s x=r at *
 obtain ⟨r1,r2⟩:=r
 simp only at HC
 go_enter Tryz.func106,Tryz.ntmps106
 go_wp2_with (go_at_call 107;refine HC.out.mono ?_;rintro e w2 ⟨rfl,hB2⟩;have HB2:=Lib.hid hB2;clear hB2)
 go_ret
 exact ⟨rfl,HB2.out⟩
set_option maxRecDepth 100000 in
theorem clo3_any (vl vb:Value) (l names:List ByteArray) (B:Nat) (W:World) (hb:W.cell? ⟨B,1,none⟩=some vb) (hl:SlOf W vl (l.map .string)) (hn:SlOf W vb (names.map .string)) :
  Calls Tryz.prog 109 #[vl,.pointer (some ⟨B,0,none⟩)] W fun e w'=>e = .returned (.bool (Que.inOrder l names))∧Below W.heap.size W w':=by
 have HC:=Lib.hid (inOrder_any vl vb l names W hl hn)
 obtain ⟨a,cap,rfl,_,_⟩:=sls_open hl
 obtain ⟨aa,acap,rfl,_,_⟩:=sls_open hn
 clear hl hn
 generalize Que.inOrder l names=r at *
 go_enter Tryz.func109,Tryz.ntmps109
 go_wp2_with (go_at_call 104;refine HC.out.mono ?_;rintro e w2 ⟨rfl,hB2⟩;have HB2:=Lib.hid hB2;clear hB2)
 go_ret
 exact ⟨rfl,HB2.out⟩
set_option maxRecDepth 100000 in
set_option maxHeartbeats 2000000 in
theorem clo4_any (c:Tess.Cond) (aa:Option Addr) (na ca:Nat) (hna:na≤9223372036854775807) (B:Nat) (W:World) (hlt:B < W.heap.size) (hb:W.cell? ⟨B,0,none⟩=some (.slice aa na ca)) :
  Calls Tryz.prog 111 #[.agg #[.int .i64 c.pos,.int .i64 c.op,.int .i64 c.n],.pointer (some ⟨B,0,none⟩)] W fun e w'=>e = .returned (.bool (Que.condOk na c))∧Below W.heap.size W w':=by
 obtain ⟨W0,hW0⟩:∃ W0,W.alloc (.cells #[.int .i64 c.pos,.int .i64 c.op,.int .i64 c.n] 147)=W0:=⟨_,rfl⟩
 obtain ⟨h0,hS,hB⟩:=laid1 W (.cells #[.int .i64 c.pos,.int .i64 c.op,.int .i64 c.n] 147)
 rw [hW0] at h0 hS hB
 obtain ⟨z0,z1,z2⟩:=right_cells3 (Below.refl _ _) h0
 have y0:=(hB.cell (p:=⟨B,0,none⟩) hlt).trans hb
 have HB:=Lib.hid hB
 have H1:=Lib.hid (qwithin_any c.pos 0 ((na:Int) - 1) W0)
 have H2:=Lib.hid (qwithin_any c.op 1 6 W0)
 clear h0 hS hB hb
 have HR:RowKit.Hid (Que.condOk na c=(Tess.within c.pos 0 ((na:Int) - 1) && Tess.within c.op 1 6)):=Lib.hid rfl
 generalize Que.condOk na c=r at *
 cases e1:Tess.within c.pos 0 ((na:Int) - 1)
 ·have HR2:=Lib.hid (show r=false by rw [HR.out,e1];rfl)
  rw [e1] at H1
  go_enter Tryz.func111,Tryz.ntmps111
  go_wp2_with (go_at_call 100;refine H1.out.mono ?_;rintro e w2 ⟨rfl,rfl⟩)
  go_ret
  exact ⟨ret_bool' HR2.out.symm,HB.out⟩
 ·have HR2:=Lib.hid (show r=Tess.within c.op 1 6 by rw [HR.out,e1];rfl)
  rw [e1] at H1
  generalize Tess.within c.op 1 6=r2 at *
  go_enter Tryz.func111,Tryz.ntmps111
  go_wp2_with (fail)
  go_at_call 100
  refine H1.out.mono ?_
  rintro e w2 ⟨rfl,rfl⟩
  go_wp2_with (go_at_call 100;refine H2.out.mono ?_;rintro e w2 ⟨rfl,rfl⟩)
  go_ret
  exact ⟨ret_bool' HR2.out.symm,HB.out⟩
set_option maxRecDepth 100000 in
set_option maxHeartbeats 2000000 in
theorem clo5_any (c:Tess.Key) (aa ab:Option Addr) (na ca nb cb:Nat) (hna:na≤9223372036854775807) (hnb:nb≤9223372036854775807) (B:Nat) (W:World) (hlt:B < W.heap.size) (hb:W.cell? ⟨B,0,none⟩=some (.slice aa na ca)) (hb1:W.cell? ⟨B,1,none⟩=some (.slice ab nb cb)) :
  Calls Tryz.prog 113 #[.agg #[.bool c.agg,.int .i64 c.pos,.bool c.desc],.pointer (some ⟨B,0,none⟩)] W fun e w'=>e = .returned (.bool (Que.keyOk na nb c))∧Below W.heap.size W w':=by
 obtain ⟨W0,hW0⟩:∃ W0,W.alloc (.cells #[.bool c.agg,.int .i64 c.pos,.bool c.desc] 150)=W0:=⟨_,rfl⟩
 obtain ⟨h0,hS,hB⟩:=laid1 W (.cells #[.bool c.agg,.int .i64 c.pos,.bool c.desc] 150)
 rw [hW0] at h0 hS hB
 obtain ⟨z0,z1,z2⟩:=right_cells3 (Below.refl _ _) h0
 have y0:=(hB.cell (p:=⟨B,0,none⟩) hlt).trans hb
 have y1:=(hB.cell (p:=⟨B,1,none⟩) hlt).trans hb1
 have HB:=Lib.hid hB
 have H1:=Lib.hid (qwithin_any c.pos 0 ((na:Int) - 1) W0)
 have H2:=Lib.hid (qwithin_any c.pos 0 ((nb:Int) - 1) W0)
 clear h0 hS hB hb hb1
 have HR:RowKit.Hid (Que.keyOk na nb c=if c.agg then Tess.within c.pos 0 ((na:Int) - 1) else Tess.within c.pos 0 ((nb:Int) - 1)):=Lib.hid rfl
 generalize Que.keyOk na nb c=r at *
 cases ea:c.agg
 ·rw [ea] at z0 hW0
  have HR2:=Lib.hid (show r=Tess.within c.pos 0 ((nb:Int) - 1) by rw [HR.out,ea];rfl)
  generalize Tess.within c.pos 0 ((nb:Int) - 1)=r2 at *
  go_enter Tryz.func113,Tryz.ntmps113
  go_wp2_with (go_at_call 100;refine H2.out.mono ?_;rintro e w2 ⟨rfl,rfl⟩)
  go_ret
  exact ⟨ret_bool' HR2.out.symm,HB.out⟩
 ·rw [ea] at z0 hW0
  have HR2:=Lib.hid (show r=Tess.within c.pos 0 ((na:Int) - 1) by rw [HR.out,ea];rfl)
  generalize Tess.within c.pos 0 ((na:Int) - 1)=r2 at *
  cases r2
  all_goals
   go_enter Tryz.func113,Tryz.ntmps113
   go_wp2_with (go_at_call 100;refine H1.out.mono ?_;rintro e w2 ⟨rfl,rfl⟩)
   go_ret
   exact ⟨ret_bool' HR2.out.symm,HB.out⟩
end Go.Proofs.YtbbgjjjeecfnoaaGreatDoor
namespace Go.Proofs.YtbbgjjjeecfnoaaGreatDoor
open Go.RowKit Go.Sort
open Tess (Fil Que)
theorem isAll_agg (p:Nat→Prop) (va vd vm:Value) (s:Tess.Sch) (l:List Tess.Agg) (B:Nat) (W:World) (hb:W.heap[B]? = some (.cells #[vd,vm,.int .i64 s.grain] 24 (0,0))) (hs:SchAt p W (.agg #[vd,vm,.int .i64 s.grain]) s) (hl:RowsAt 2 aggF p W va l) :
  Calls Tryz.prog 101 #[va,.func (.func 102) #[] #[.pointer (some ⟨B,0,none⟩)]] W fun e w'=>e = .returned (.bool (l.all (Que.isTyped s)))∧Below W.heap.size W w':=by
 obtain ⟨a,cap,rfl,hlen,_,_,hc⟩:=hl
 refine all_agg _ l a cap _ W hlen fun k hk => ?_
 obtain ⟨b,off,ha,hb',_,hcell⟩:=hc (by omega)
 exact ⟨b,off,ha,hb',_,_,⟨hcell k hk 0 (by omega),hcell k hk 1 (by omega)⟩,fun X hX=>clo1_any p s vd vm B X ((hX.block _ (Array.getElem?_eq_some_iff.1 hb).1).trans hb) (hs.ag (Ag.new p hX)) l[k].kind l[k].met⟩
theorem isAll_name (p:Nat→Prop) (vb vd vm:Value) (s:Tess.Sch) (l:List ByteArray) (B:Nat) (W:World) (hb:W.heap[B]? = some (.cells #[vd,vm,.int .i64 s.grain] 24 (0,0))) (hs:SchAt p W (.agg #[vd,vm,.int .i64 s.grain]) s) (hl:SlP p W vb (l.map .string)) :
  Calls Tryz.prog 105 #[vb,.func (.func 106) #[] #[.pointer (some ⟨B,0,none⟩)]] W fun e w'=>e = .returned (.bool (l.all fun x=>(Tess.dimW s x).2))∧Below W.heap.size W w':=by
 obtain ⟨a,cap,rfl,hlen,hc⟩:=sls_open hl.1
 refine all_name _ l a cap _ W (by unfold maxLen;omega) fun k hk => ?_
 obtain ⟨b,off,ha,hb',hcell⟩:=hc k hk
 exact ⟨b,off,ha,hb',_,hcell,fun X hX=>clo2_any p s vd vm B X ((hX.block _ (Array.getElem?_eq_some_iff.1 hb).1).trans hb) (hs.ag (Ag.new p hX)) l[k]⟩
theorem isAll_set (p:Nat→Prop) (vS vb:Value) (l:List (List ByteArray)) (names:List ByteArray) (B:Nat) (W:World) (hlt:B < W.heap.size) (hb:W.cell? ⟨B,1,none⟩=some vb) (hn:SlP p W vb (names.map .string)) (hl:SetsAt p W vS l) :
  Calls Tryz.prog 108 #[vS,.func (.func 109) #[] #[.pointer (some ⟨B,0,none⟩)]] W fun e w'=>e = .returned (.bool (l.all fun x=>Que.inOrder x names))∧Below W.heap.size W w':=by
 obtain ⟨a,cap,rfl,hlen,_,_,hc⟩:=hl
 refine all_set _ l a cap _ W hlen fun k hk => ?_
 obtain ⟨b,off,ha,hb',_,hcell⟩:=hc (by omega)
 obtain ⟨c,e1,e2,_⟩:=hcell k hk
 exact ⟨b,off,ha,hb',c,e1,fun X hX=>clo3_any c vb l[k] names B X ((hX.cell (p:=⟨B,1,none⟩) hlt).trans hb) (e2.1.below hX) (hn.1.below hX)⟩
theorem isAll_cond (p:Nat→Prop) (vh:Value) (l:List Tess.Cond) (aa:Option Addr) (na ca:Nat) (hna:na≤9223372036854775807) (B:Nat) (W:World) (hlt:B < W.heap.size) (hb:W.cell? ⟨B,0,none⟩=some (.slice aa na ca)) (hl:RowsAt 3 condF p W vh l) :
  Calls Tryz.prog 110 #[vh,.func (.func 111) #[] #[.pointer (some ⟨B,0,none⟩)]] W fun e w'=>e = .returned (.bool (l.all (Que.condOk na)))∧Below W.heap.size W w':=by
 obtain ⟨a,cap,rfl,hlen,_,_,hc⟩:=hl
 refine all_cond _ l a cap _ W hlen fun k hk => ?_
 obtain ⟨b,off,ha,hb',_,hcell⟩:=hc (by omega)
 exact ⟨b,off,ha,hb',_,_,_,⟨hcell k hk 0 (by omega),hcell k hk 1 (by omega),hcell k hk 2 (by omega)⟩,fun X hX=>clo4_any l[k] aa na ca hna B X (Nat.lt_of_lt_of_le hlt hX.size) ((hX.cell (p:=⟨B,0,none⟩) hlt).trans hb)⟩
theorem isAll_key (p:Nat→Prop) (vo:Value) (l:List Tess.Key) (aa ab:Option Addr) (na ca nb cb:Nat) (hna:na≤9223372036854775807) (hnb:nb≤9223372036854775807) (B:Nat) (W:World) (hlt:B < W.heap.size) (hb:W.cell? ⟨B,0,none⟩=some (.slice aa na ca)) (hb1:W.cell? ⟨B,1,none⟩=some (.slice ab nb cb)) (hl:RowsAt 3 keyF p W vo l) :
  Calls Tryz.prog 112 #[vo,.func (.func 113) #[] #[.pointer (some ⟨B,0,none⟩)]] W fun e w'=>e = .returned (.bool (l.all (Que.keyOk na nb)))∧Below W.heap.size W w':=by
 obtain ⟨a,cap,rfl,hlen,_,_,hc⟩:=hl
 refine all_key _ l a cap _ W hlen fun k hk => ?_
 obtain ⟨b,off,ha,hb',_,hcell⟩:=hc (by omega)
 exact ⟨b,off,ha,hb',_,_,_,⟨hcell k hk 0 (by omega),hcell k hk 1 (by omega),hcell k hk 2 (by omega)⟩,fun X hX=>clo5_any l[k] aa ab na ca nb cb hna hnb B X (Nat.lt_of_lt_of_le hlt hX.size) ((hX.cell (p:=⟨B,0,none⟩) hlt).trans hb) ((hX.cell (p:=⟨B,1,none⟩) hlt).trans hb1)⟩
theorem first6 (b1 b2 b3 b4 b5 b6:Bool):b1=false∨(b1=true∧b2=false)∨(b1=true∧b2=true∧b3=false)∨(b1=true∧b2=true∧b3=true∧b4=false)∨(b1=true∧b2=true∧b3=true∧b4=true∧b5=false)∨(b1=true∧b2=true∧b3=true∧b4=true∧b5=true∧b6=false)∨(b1=true∧b2=true∧b3=true∧b4=true∧b5=true∧b6=true):=by
 cases b1 <;> cases b2 <;> cases b3 <;> cases b4 <;> cases b5 <;> cases b6 <;> simp
set_option maxRecDepth 100000 in
set_option maxHeartbeats 4000000 in
theorem isOf_any (p:Nat→Prop) (n:Nat) (vs v:Value) (s:Tess.Sch) (q:Que) (va vb vS f0 f1 f2 f3 f4 f5 vh vo:Value) (w:World) (hs:SchAt p w vs s) (hq:QueAt p n w v q va vb vS f0 f1 f2 f3 f4 f5 vh vo) :
  Calls Tryz.prog 53 #[vs,v] w fun e w'=>e = .returned (.bool (Que.isOf s q))∧Below w.heap.size w w':=by
 have hna:=hq.aggs.len
 have hnS:=hq.sets.len
 have hnh:=hq.conds.len
 have hno:=hq.keys.len
 obtain ⟨ab,cb,eb,hnb,hdum⟩:=sls_open hq.names.1
 clear hdum
 obtain ⟨aa,ca,ea⟩:=hq.aggs.shape
 obtain ⟨aS,cS,eS⟩:=hq.sets.shape
 obtain ⟨ah,ch,eh⟩:=hq.conds.shape
 obtain ⟨ao,co,eo⟩:=hq.keys.shape
 obtain ⟨vd,vm,rfl,hd,hm,hd1,hm1⟩:=hs
 have hs:SchAt p w (.agg #[vd,vm,.int .i64 s.grain]) s:=⟨vd,vm,rfl,hd,hm,hd1,hm1⟩
 obtain ⟨W0,hW0⟩:∃ W0,(w.alloc (.cells #[vd,vm,.int .i64 s.grain] 24)).alloc (.cells #[va,vb,.int .i64 q.mode,vS,.int .i64 q.every,f0,f1,f2,f3,f4,f5,vh,vo,.int .i64 q.limit] 35)=W0:=⟨_,rfl⟩
 obtain ⟨h1,h2,hS0,hB0⟩:=laid2 w (.cells #[vd,vm,.int .i64 s.grain] 24) (.cells #[va,vb,.int .i64 q.mode,vS,.int .i64 q.every,f0,f1,f2,f3,f4,f5,vh,vo,.int .i64 q.limit] 35)
 rw [hW0] at h1 h2 hS0 hB0
 have hv:=hq.e
 have HBX:=Lib.hid (fun X (hX:Below W0.heap.size W0 X)=>(can14 ((hX.block _ (Array.getElem?_eq_some_iff.1 h2).1).trans h2)).1)
 have q0:=fun X (hX:Below W0.heap.size W0 X)=>hs.ag (Ag.new p (Bt hB0 hX))
 have q1:=fun X (hX:Below W0.heap.size W0 X)=>hq.ag (Ag.new p (Bt hB0 hX))
 have b0:=fun X (hX:Below W0.heap.size W0 X)=>(hX.block _ (Array.getElem?_eq_some_iff.1 h1).1).trans h1
 have lt1:=fun X (hX:Below W0.heap.size W0 X)=>Nat.lt_of_lt_of_le (Array.getElem?_eq_some_iff.1 h2).1 hX.size
 have HA:=Lib.hid (fun X (hX:Below W0.heap.size W0 X)=>isAll_agg p va vd vm s q.aggs w.heap.size X (b0 X hX) (q0 X hX) (q1 X hX).aggs)
 have HO:=Lib.hid (fun X (hX:Below W0.heap.size W0 X)=>inOrder_any vb vb q.names q.names X (q1 X hX).names.1 (q1 X hX).names.1)
 have HN:=Lib.hid (fun X (hX:Below W0.heap.size W0 X)=>isAll_name p vb vd vm s q.names w.heap.size X (b0 X hX) (q0 X hX) (q1 X hX).names)
 have HS:=Lib.hid (fun X (hX:Below W0.heap.size W0 X)=>isAll_set p vS vb q.sets q.names (w.heap.size + 1) X (lt1 X hX) (HBX.out X hX).2.1 (q1 X hX).names (q1 X hX).sets)
 have HC:=Lib.hid (fun X (hX:Below W0.heap.size W0 X)=>isAll_cond p vh q.conds aa q.aggs.length ca hna (w.heap.size + 1) X (lt1 X hX) (by rw [← ea];exact (HBX.out X hX).1) (q1 X hX).conds)
 have HK:=Lib.hid (fun X (hX:Below W0.heap.size W0 X)=>isAll_key p vo q.keys aa ab q.aggs.length ca q.names.length cb hna hnb (w.heap.size + 1) X (lt1 X hX) (by rw [← ea];exact (HBX.out X hX).1) (by rw [← eb];exact (HBX.out X hX).2.1) (q1 X hX).keys)
 have HR:RowKit.Hid (Que.isOf s q=(Que.sizesOk q && q.aggs.all (Que.isTyped s) && Que.inOrder q.names q.names && q.names.all (fun x=>(Tess.dimW s x).2) && q.sets.all (fun l=>Que.inOrder l q.names) && q.conds.all (Que.condOk q.aggs.length) && q.keys.all (Que.keyOk q.aggs.length q.names.length))):=Lib.hid rfl
 have HZ:RowKit.Hid (Que.sizesOk q=(Tess.within q.aggs.length 1 6 && decide (q.names.length≤6) && Tess.within q.mode 1 4 && Tess.within q.sets.length (if q.mode=4 then 1 else 0) (if q.mode=4 then 8 else 0) && decide (q.conds.length≤4) && decide (q.keys.length≤4) && Tess.within q.limit 0 1000)):=Lib.hid rfl
 generalize Que.isOf s q=r at *
 generalize Que.sizesOk q=z at *
 generalize q.aggs.all (Que.isTyped s)=c1 at *
 generalize Que.inOrder q.names q.names=c2 at *
 generalize q.names.all (fun x=>(Tess.dimW s x).2)=c3 at *
 generalize q.sets.all (fun l=>Que.inOrder l q.names)=c4 at *
 generalize q.conds.all (Que.condOk q.aggs.length)=c5 at *
 generalize q.keys.all (Que.keyOk q.aggs.length q.names.length)=c6 at *
 have HB0:=Lib.hid hB0
 have hB00:=Below.refl W0.heap.size W0
 subst hv
 clear hs hd hm hd1 hm1 h1 h2 hS0 hB0 q0 q1 b0 lt1 hq
 generalize q.aggs.length=na at *
 generalize q.names.length=nb at *
 generalize q.sets.length=nS at *
 generalize q.conds.length=nh at *
 generalize q.keys.length=no at *
 generalize q.mode=mode at *
 generalize q.every=every at *
 generalize q.limit=limit at *
 subst ea eb eS eh eo
 have HW:=Lib.hid (fun a b c=>qwithin_any a b c W0)
 have i2:decide ((nb:Int)≤6)=decide (nb≤6):=decide_eq_decide.2 (by omega)
 have i5:decide ((nh:Int)≤4)=decide (nh≤4):=decide_eq_decide.2 (by omega)
 have i6:decide ((no:Int)≤4)=decide (no≤4):=decide_eq_decide.2 (by omega)
 obtain ⟨y0,y1,y2,y3,y4,y5,y6,y7,y8,y9,ya,yb,yc,yd⟩:=HBX.out W0 hB00
 obtain ⟨most,hmost⟩:∃ most:Int,(if mode=4 then (8:Int) else 0)=most:=⟨_,rfl⟩
 obtain ⟨least,hleast⟩:∃ least:Int,(if mode=4 then (1:Int) else 0)=least:=⟨_,rfl⟩
 rw [hmost,hleast] at HZ
 obtain ⟨s1,e1⟩:∃ b,Tess.within (na:Int) 1 6=b:=⟨_,rfl⟩
 obtain ⟨s2,e2⟩:∃ b,decide (nb≤6)=b:=⟨_,rfl⟩
 obtain ⟨s3,e3⟩:∃ b,Tess.within mode 1 4=b:=⟨_,rfl⟩
 obtain ⟨s4,e4⟩:∃ b,Tess.within (nS:Int) least most=b:=⟨_,rfl⟩
 obtain ⟨s5,e5⟩:∃ b,decide (nh≤4)=b:=⟨_,rfl⟩
 obtain ⟨s6,e6⟩:∃ b,decide (no≤4)=b:=⟨_,rfl⟩
 obtain ⟨s7,e7⟩:∃ b,Tess.within limit 0 1000=b:=⟨_,rfl⟩
 rw [e1,e2,e3,e4,e5,e6,e7] at HZ
 have HW1:=Lib.hid (e1 ▸ HW.out (na:Int) 1 6)
 have HW3:=Lib.hid (e3 ▸ HW.out mode 1 4)
 have HW4:=Lib.hid (e4 ▸ HW.out (nS:Int) least most)
 have HW7:=Lib.hid (e7 ▸ HW.out limit 0 1000)
 rw [e2] at i2
 rw [e5] at i5
 rw [e6] at i6
 clear e1 e3 e4 e7 HW
 have HM:=Lib.hid (And.intro hmost hleast)
 clear hmost hleast
 rcases (show (mode=4∧(mode == 4)=true)∨(¬ mode=4∧(mode == 4)=false) by
  by_cases h:mode=4
  ·exact .inl ⟨h,by simp [h]⟩
  ·exact .inr ⟨h,by simp [h]⟩) with ⟨hm4,hm4b⟩ | ⟨hm4,hm4b⟩
 all_goals
  have hmm:=HM.out
  simp only [hm4,if_true,if_false] at hmm
  obtain ⟨rfl,rfl⟩:=hmm
  clear HM hm4
  by_cases hz:z=false
  ·have HF:=Lib.hid (show r=false by rw [HR.out,hz];rfl)
   have hz2:=HZ.out
   rw [hz] at hz2
   clear HR HZ hz HA HO HN HS HC HK
   rcases first6 s1 s2 s3 s4 s5 s6 with rfl | ⟨rfl,rfl⟩ | ⟨rfl,rfl,rfl⟩ | ⟨rfl,rfl,rfl,rfl⟩ | ⟨rfl,rfl,rfl,rfl,rfl⟩ | ⟨rfl,rfl,rfl,rfl,rfl,rfl⟩ | ⟨rfl,rfl,rfl,rfl,rfl,rfl⟩
   rotate_left 6
   obtain rfl:s7=false:=by simpa using hz2.symm
   all_goals
    clear hz2
    go_enter Tryz.func53,Tryz.ntmps53
    go_wp2_with (go_at_call 100;first | (with_reducible refine HW1.out.mono ?_;rintro e w2 ⟨rfl,rfl⟩) | (with_reducible refine HW3.out.mono ?_;rintro e w2 ⟨rfl,rfl⟩) | (with_reducible refine HW4.out.mono ?_;rintro e w2 ⟨rfl,rfl⟩) | (with_reducible refine HW7.out.mono ?_;rintro e w2 ⟨rfl,rfl⟩))
    go_ret
    exact ⟨ret_bool' HF.out.symm,HB0.out⟩
  ·obtain rfl:z=true:=by simpa using hz
   have hz2:=HZ.out
   simp only [Bool.true_eq,Bool.and_eq_true] at hz2
   obtain ⟨⟨⟨⟨⟨⟨rfl,rfl⟩,rfl⟩,rfl⟩,rfl⟩,rfl⟩,rfl⟩:=hz2
   have HR:=Lib.hid (show r=(c1 && c2 && c3 && c4 && c5 && c6) by rw [HR.out,Bool.true_and])
   clear HZ hz
   go_enter Tryz.func53,Tryz.ntmps53
   go_wp2_with (go_at_call 100;first | (with_reducible refine HW1.out.mono ?_;rintro e w2 ⟨rfl,rfl⟩) | (with_reducible refine HW3.out.mono ?_;rintro e w2 ⟨rfl,rfl⟩) | (with_reducible refine HW4.out.mono ?_;rintro e w2 ⟨rfl,rfl⟩) | (with_reducible refine HW7.out.mono ?_;rintro e w2 ⟨rfl,rfl⟩))
   go_at_call 101
   refine (HA.out W0 hB00).mono ?_
   rintro e W1 ⟨rfl,hx⟩
   have hB1:=Bt hB00 hx
   clear hx y0 y1 y2 y3 y4 y5 y6 y7 y8 y9 ya yb yc yd
   obtain ⟨y0,y1,y2,y3,y4,y5,y6,y7,y8,y9,ya,yb,yc,yd⟩:=HBX.out W1 hB1
   have HB1:=Lib.hid hB1
   clear hB1
   cases c1
   ·have HF:=Lib.hid (show r=false by rw [HR.out];simp)
    go_wp2
    go_ret
    exact ⟨ret_bool' HF.out.symm,Bt HB0.out HB1.out⟩
   have hB1:=HB1.out
   go_wp2_with (fail)
   go_at_call 104
   refine (HO.out W1 hB1).mono ?_
   rintro e W2 ⟨rfl,hx⟩
   have hB2:=Bt hB1 hx
   clear hx y0 y1 y2 y3 y4 y5 y6 y7 y8 y9 ya yb yc yd
   obtain ⟨y0,y1,y2,y3,y4,y5,y6,y7,y8,y9,ya,yb,yc,yd⟩:=HBX.out W2 hB2
   have HB2:=Lib.hid hB2
   clear hB2
   cases c2
   ·have HF:=Lib.hid (show r=false by rw [HR.out];simp)
    go_wp2
    go_ret
    exact ⟨ret_bool' HF.out.symm,Bt HB0.out HB2.out⟩
   have hB2:=HB2.out
   go_wp2_with (fail)
   go_at_call 105
   refine (HN.out W2 hB2).mono ?_
   rintro e W3 ⟨rfl,hx⟩
   have hB3:=Bt hB2 hx
   clear hx y0 y1 y2 y3 y4 y5 y6 y7 y8 y9 ya yb yc yd
   obtain ⟨y0,y1,y2,y3,y4,y5,y6,y7,y8,y9,ya,yb,yc,yd⟩:=HBX.out W3 hB3
   have HB3:=Lib.hid hB3
   clear hB3
   cases c3
   ·have HF:=Lib.hid (show r=false by rw [HR.out];simp)
    go_wp2
    go_ret
    exact ⟨ret_bool' HF.out.symm,Bt HB0.out HB3.out⟩
   have hB3:=HB3.out
   go_wp2_with (fail)
   go_at_call 108
   refine (HS.out W3 hB3).mono ?_
   rintro e W4 ⟨rfl,hx⟩
   have hB4:=Bt hB3 hx
   clear hx y0 y1 y2 y3 y4 y5 y6 y7 y8 y9 ya yb yc yd
   obtain ⟨y0,y1,y2,y3,y4,y5,y6,y7,y8,y9,ya,yb,yc,yd⟩:=HBX.out W4 hB4
   have HB4:=Lib.hid hB4
   clear hB4
   cases c4
   ·have HF:=Lib.hid (show r=false by rw [HR.out];simp)
    go_wp2
    go_ret
    exact ⟨ret_bool' HF.out.symm,Bt HB0.out HB4.out⟩
   have hB4:=HB4.out
   go_wp2_with (fail)
   go_at_call 110
   refine (HC.out W4 hB4).mono ?_
   rintro e W5 ⟨rfl,hx⟩
   have hB5:=Bt hB4 hx
   clear hx y0 y1 y2 y3 y4 y5 y6 y7 y8 y9 ya yb yc yd
   obtain ⟨y0,y1,y2,y3,y4,y5,y6,y7,y8,y9,ya,yb,yc,yd⟩:=HBX.out W5 hB5
   have HB5:=Lib.hid hB5
   clear hB5
   cases c5
   ·have HF:=Lib.hid (show r=false by rw [HR.out];simp)
    go_wp2
    go_ret
    exact ⟨ret_bool' HF.out.symm,Bt HB0.out HB5.out⟩
   have hB5:=HB5.out
   go_wp2_with (fail)
   go_at_call 112
   refine (HK.out W5 hB5).mono ?_
   rintro e W6 ⟨rfl,hx⟩
   have hB6:=Bt hB5 hx
   clear hx y0 y1 y2 y3 y4 y5 y6 y7 y8 y9 ya yb yc yd
   obtain ⟨y0,y1,y2,y3,y4,y5,y6,y7,y8,y9,ya,yb,yc,yd⟩:=HBX.out W6 hB6
   have HB6:=Lib.hid hB6
   have HF:=Lib.hid (show r=c6 by rw [HR.out];simp)
   go_wp2
   go_ret
   exact ⟨ret_bool' HF.out.symm,Bt HB0.out HB6.out⟩
end Go.Proofs.YtbbgjjjeecfnoaaGreatDoor
namespace Go.Proofs.YtbbgjjjeecfnoaaGreatDoor
open Go.RowKit Go.Sort
open Tess (Fil Que)
set_option maxRecDepth 100000 in
set_option maxHeartbeats 4000000 in
theorem qcheck_any (a0 a1:Addr) (p:Nat→Prop) (n:Nat) (vs v:Value) (s:Tess.Sch) (q:Que) (va vb vS f0 f1 f2 f3 f4 f5 vh vo:Value) (w:World) (hV:Vars a0 a1 w) (hs:SchAt p w vs s) (hq:QueAt p n w v q va vb vS f0 f1 f2 f3 f4 f5 vh vo) (hn:n≤100) (hK:kindsOk q.fil) :
  Calls Tryz.prog 28 #[vs,v] w fun e w'=>e = .returned (.int .i64 (Que.check s q:Nat))∧Below w.heap.size w w':=by
 have HR:=Lib.hid (fun W (hB:Below w.heap.size w W)=>schRight_any vs s p W (hs.ag (Ag.new p hB)))
 have HI:=Lib.hid (fun W (hB:Below w.heap.size w W)=>isOf_any p n vs v s q va vb vS f0 f1 f2 f3 f4 f5 vh vo W (hs.ag (Ag.new p hB)) (hq.ag (Ag.new p hB)))
 have HF:=Lib.hid (fun W (hB:Below w.heap.size w W)=>check_any a0 a1 p n vs (.agg #[f0,f1,f2,f3,f4,f5]) s q.fil W (hV.below hB) (hs.ag (Ag.new p hB)) (hq.fil.ag (Ag.new p hB)) hn hK)
 have HE:RowKit.Hid (Que.check s q=if Tess.schOk s then (if Que.isOf s q then (if decide (q.every≠0) && !Tess.coarser s.grain q.every then 110 else Fil.checkE s q.fil) else 152) else 100):=Lib.hid rfl
 obtain ⟨vd,vm,rfl,_,_,_,_⟩:=hs
 have hv:=hq.e
 subst hv
 clear hq hV
 obtain ⟨W0,hW0⟩:∃ W0,(w.alloc (.cells #[vd,vm,.int .i64 s.grain] 24)).alloc (.cells #[va,vb,.int .i64 q.mode,vS,.int .i64 q.every,f0,f1,f2,f3,f4,f5,vh,vo,.int .i64 q.limit] 35)=W0:=⟨_,rfl⟩
 obtain ⟨h1,h2,hS0,hB0⟩:=laid2 w (.cells #[vd,vm,.int .i64 s.grain] 24) (.cells #[va,vb,.int .i64 q.mode,vS,.int .i64 q.every,f0,f1,f2,f3,f4,f5,vh,vo,.int .i64 q.limit] 35)
 rw [hW0] at h1 h2 hS0 hB0
 have HBX:=Lib.hid (fun X (hX:Below W0.heap.size W0 X)=>And.intro (can3 ((hX.block _ (Array.getElem?_eq_some_iff.1 h1).1).trans h1)).1 (can14 ((hX.block _ (Array.getElem?_eq_some_iff.1 h2).1).trans h2)).1)
 have HG:=Lib.hid (fun W=>coarser_any s.grain q.every W)
 have HB0:=Lib.hid hB0
 have hB00:=Below.refl W0.heap.size W0
 clear h1 h2 hS0 hB0
 obtain ⟨⟨x0,x1,x2⟩,y0,y1,y2,y3,y4,y5,y6,y7,y8,y9,ya,yb,yc,yd⟩:=HBX.out W0 hB00
 generalize Que.check s q=r at *
 generalize Tess.schOk s=c1 at *
 generalize Que.isOf s q=c2 at *
 generalize Tess.coarser s.grain q.every=c3 at *
 generalize Fil.checkE s q.fil=c4 at *
 go_enter Tryz.func28,Tryz.ntmps28
 go_wp2_with (fail)
 go_at_call 36
 refine (HR.out W0 HB0.out).mono ?_
 rintro e W1 ⟨rfl,hx⟩
 have hB1:=Bt hB00 hx
 clear hx x0 x1 x2 y0 y1 y2 y3 y4 y5 y6 y7 y8 y9 ya yb yc yd
 obtain ⟨⟨x0,x1,x2⟩,y0,y1,y2,y3,y4,y5,y6,y7,y8,y9,ya,yb,yc,yd⟩:=HBX.out W1 hB1
 have HB1:=Lib.hid hB1
 clear hB1
 cases c1
 ·have HZ:=Lib.hid (show r=100 from HE.out)
  go_wp2
  go_ret
  exact ⟨ret_int (by rw [HZ.out];rfl),Bt HB0.out HB1.out⟩
 have HE:=Lib.hid (show r=if c2 then (if decide (q.every≠0) && !c3 then 110 else c4) else 152 from HE.out)
 go_wp2_with (fail)
 go_at_call 53
 refine (HI.out W1 (Bt HB0.out HB1.out)).mono ?_
 rintro e W2 ⟨rfl,hx⟩
 have hB2:=Bt HB1.out hx
 clear hx x0 x1 x2 y0 y1 y2 y3 y4 y5 y6 y7 y8 y9 ya yb yc yd
 obtain ⟨⟨x0,x1,x2⟩,y0,y1,y2,y3,y4,y5,y6,y7,y8,y9,ya,yb,yc,yd⟩:=HBX.out W2 hB2
 have HB2:=Lib.hid hB2
 clear hB2
 cases c2
 ·have HZ:=Lib.hid (show r=152 from HE.out)
  go_wp2
  go_ret
  exact ⟨ret_int (by rw [HZ.out];rfl),Bt HB0.out HB2.out⟩
 have HE:=Lib.hid (show r=if decide (q.every≠0) && !c3 then 110 else c4 from HE.out)
 by_cases h0:q.every=0
 ·have HZ:=Lib.hid (show r=c4 by rw [HE.out];simp [h0])
  have h0b:(q.every != 0)=false:=by simp [h0]
  clear h0
  go_wp2_with (go_at_call 55;refine (HF.out _ (Bt HB0.out HB2.out)).mono ?_;rintro e W3 ⟨rfl,hx⟩;have HB3:=Lib.hid (Bt HB2.out hx);clear hx)
  go_ret
  exact ⟨ret_int (by rw [HZ.out]),Bt HB0.out HB3.out⟩
 ·have h0b:(q.every != 0)=true:=by simp [h0]
  have HZ:=Lib.hid (show r=if c3 then c4 else 110 by rw [HE.out];cases c3 <;> simp [h0])
  clear h0
  go_wp2_with (fail)
  go_at_call 54
  refine (HG.out W2).mono ?_
  rintro e W3 ⟨rfl,hx⟩
  have hB3:=Bt HB2.out hx
  clear hx x0 x1 x2 y0 y1 y2 y3 y4 y5 y6 y7 y8 y9 ya yb yc yd
  obtain ⟨⟨x0,x1,x2⟩,y0,y1,y2,y3,y4,y5,y6,y7,y8,y9,ya,yb,yc,yd⟩:=HBX.out W3 hB3
  have HB3:=Lib.hid hB3
  clear hB3
  cases c3
  ·go_wp2
   go_ret
   exact ⟨ret_int (by rw [HZ.out];rfl),Bt HB0.out HB3.out⟩
  ·go_wp2_with (go_at_call 55;refine (HF.out _ (Bt HB0.out HB3.out)).mono ?_;rintro e W4 ⟨rfl,hx⟩;have HB4:=Lib.hid (Bt HB3.out hx);clear hx)
   go_ret
   exact ⟨ret_int (by rw [HZ.out];rfl),Bt HB0.out HB4.out⟩
end Go.Proofs.YtbbgjjjeecfnoaaGreatDoor
