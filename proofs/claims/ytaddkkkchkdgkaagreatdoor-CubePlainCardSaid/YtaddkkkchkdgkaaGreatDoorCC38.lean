/- Joined by mergeK.py: H4, H5 -/
import Derived.Test.YtaddkkkchkdgkaaGreatDoorCC37
namespace Go.Proofs.YtaddkkkchkdgkaaGreatDoor
open Go.RowKit Go.Sort
open Tess (Fil Que)
theorem rc3 {w w':World} {g:Nat} {x0 x1:Value} {t:TypeId} (hB:Below w.heap.size w w') (hg:w.heap[g]? = some (.cells #[x0,x1] t (0,0))):w'.cell? ⟨g,0,none⟩=some x0∧w'.cell? ⟨g,1,none⟩=some x1:=by
 have Aa:=(hB.block _ (Array.getElem?_eq_some_iff.1 hg).1).trans hg
 exact ⟨cell_of_row _ _ 0 _ _ _ Aa,cell_of_row _ _ 1 _ _ _ Aa⟩
theorem emptyL:ByteArray.empty.toList=[]:=by rw [ByteArray.toList_eq];rfl
set_option maxRecDepth 100000 in
set_option maxHeartbeats 1000000 in
theorem isTyped_any (v:Value) (s:Tess.Sch) (k:Int) (x:ByteArray) (p:Nat→Prop) (w:World) (hv:SA p w v s) :
  Calls Tryz.prog 119 #[v,.agg #[.int .i64 k,.string x]] w fun e w'=>e = .returned (.bool (Que.iT s ⟨k,x⟩))∧Below w.heap.size w w':=by
 have HV:=Hd hv
 have HM:=Hd (fun W (hB:Below w.heap.size w W)=>metric_any v s x p W (HV.out.ag (Ag.new p hB)))
 obtain ⟨vd,vm,rfl,hd,hm,_,_⟩:=hv
 obtain ⟨ad,Af,rfl,_⟩:=sl3 hd
 obtain ⟨am,Ah,rfl,_⟩:=sl3 hm
 clear hd hm HV
 have HT:RowKit.Hid (Que.iT s ⟨k,x⟩=if k=1 then decide (x=ByteArray.empty) else (Tess.metW s x).2 && decide (1 < k) && decide (k≤5)):=Hd rfl
 obtain ⟨r,hr⟩:∃ r,r=Que.iT s ⟨k,x⟩:=⟨_,rfl⟩
 rw [← hr] at HT ⊢
 clear hr
 generalize Tess.metW s x=m at *
 obtain ⟨m1,m2⟩:=m
 simp only at HM HT
 obtain ⟨h1,h2,Aj,Ai⟩:=la3 w (.cells #[.slice ad s.dims.length Af,.slice am s.mets.length Ah,.int .i64 s.grain] 24) (.cells #[.int .i64 k,.string x] 76)
 have Ab:=Hd Ai
 have H2:=Hd h2
 clear Ai h1 h2 Aj
 by_cases hk:k=1
 ·subst hk
  have Ad:=Hd (show r=decide (x=ByteArray.empty) from HT.out)
  clear HT
  by_cases hx:x.toList=[]
  ·have HX:=Hd (show x=ByteArray.empty from str_inj (hx.trans emptyL.symm))
   go_enter Tryz.func119,Tryz.ntmps119
   go_wp2_with (go_at_call 164;refine (HM.out _ Ab.out).mono ?_;rintro e W1 ⟨rfl,Aa⟩;obtain ⟨y0,y1⟩:=rc3 Aa H2.out;have Ac:=Hd (Bt Ab.out Aa);clear Aa)
   go_ret
   exact ⟨by rw [Ad.out];simp [HX.out],Ac.out⟩
  ·have HX:=Hd (show x≠ByteArray.empty from fun e=>hx (by rw [e];exact emptyL))
   go_enter Tryz.func119,Tryz.ntmps119
   go_wp2_with (go_at_call 164;refine (HM.out _ Ab.out).mono ?_;rintro e W1 ⟨rfl,Aa⟩;obtain ⟨y0,y1⟩:=rc3 Aa H2.out;have Ac:=Hd (Bt Ab.out Aa);clear Aa)
   go_ret
   exact ⟨by rw [Ad.out];simp [HX.out,hx],Ac.out⟩
 ·have Ad:=Hd (show r=(m2 && decide (1 < k) && decide (k≤5)) from HT.out.trans (if_neg hk))
  have Ak:(k == 1)=false:=beq_eq_false_iff_ne.2 hk
  clear HT hk
  cases m2
  ·have Ae:=Hd (show r=false from Ad.out)
   go_enter Tryz.func119,Tryz.ntmps119
   go_wp2_with (go_at_call 164;refine (HM.out _ Ab.out).mono ?_;rintro e W1 ⟨rfl,Aa⟩;obtain ⟨y0,y1⟩:=rc3 Aa H2.out;have Ac:=Hd (Bt Ab.out Aa);clear Aa)
   go_ret
   exact ⟨rb2 Ae.out.symm,Ac.out⟩
  ·cases h1:decide (1 < k)
   ·have Ae:=Hd (show r=false by rw [Ad.out,h1];rfl)
    clear Ad
    go_enter Tryz.func119,Tryz.ntmps119
    go_wp2_with (go_at_call 164;refine (HM.out _ Ab.out).mono ?_;rintro e W1 ⟨rfl,Aa⟩;obtain ⟨y0,y1⟩:=rc3 Aa H2.out;have Ac:=Hd (Bt Ab.out Aa);clear Aa)
    go_ret
    exact ⟨rb2 Ae.out.symm,Ac.out⟩
   ·have Ae:=Hd (show r=decide (k≤5) by rw [Ad.out,h1];rfl)
    clear Ad
    go_enter Tryz.func119,Tryz.ntmps119
    go_wp2_with (go_at_call 164;refine (HM.out _ Ab.out).mono ?_;rintro e W1 ⟨rfl,Aa⟩;obtain ⟨y0,y1⟩:=rc3 Aa H2.out;have Ac:=Hd (Bt Ab.out Aa);clear Aa)
    go_ret
    exact ⟨rb2 Ae.out.symm,Ac.out⟩
theorem iOt (all l:List ByteArray) (k:Nat) (hk:k < l.length) (last:Int) :
  Que.iO2 all last (l.drop k)=if Que.nameAt all l[k]≤last then false else Que.iO2 all (Que.nameAt all l[k]) (l.drop (k + 1)):=by
 rw [List.drop_eq_getElem_cons hk];rfl
set_option maxRecDepth 100000 in
set_option maxHeartbeats 1000000 in
theorem iOa (vl va:Value) (l all:List ByteArray) (w:World) (hl:SlOf w vl (l.map .string)) (ha:SlOf w va (all.map .string)) :
  Calls Tryz.prog 120 #[vl,va] w fun e w'=>e = .returned (.bool (Que.iO l all))∧Below w.heap.size w w':=by
 have HI:=Hd (fun (W:World) (hB:Below w.heap.size w W) (x:ByteArray)=>ia2 va all x W (ha.below hB))
 obtain ⟨a,Al,rfl,Am,hc⟩:=so2 hl
 obtain ⟨aa,Ag,rfl,_,_⟩:=so2 ha
 have HC:=Hd hc
 clear hc hl ha
 obtain ⟨r,hr⟩:∃ r,r=Que.iO l all:=⟨_,rfl⟩
 rw [← hr]
 have HR:=Hd hr
 clear hr
 go_enter Tryz.func120,Tryz.ntmps120
 go_wp2
 go_loopw [5,11] (fun last i wr => ∃ (k:Nat) (z:Int),k≤l.length∧i = .int .i64 k∧last = .int .i64 z∧r=Que.iO2 all z (l.drop k)∧Below w.heap.size w wr) (fun _ i _=>l.length - (intOf i).toNat)
 case atStart=>exact ⟨0,-1,Nat.zero_le _,rfl,rfl,HR.out,Below.refl _ _⟩
 case round=>
  obtain ⟨k,z,hk,rfl,rfl,Ad,hB⟩:=hrel
  have Af:=Hd Ad
  have HB:=Hd hB
  clear Ad hB
  by_cases hlt:k < l.length
  ·obtain ⟨b,Ah,rfl,hb,Ac⟩:=HC.out k hlt
   have Ai:(k:Int) < (l.length:Int):=by omega
   have Aj:=(HB.out.cell (p:=⟨b,Ah + k,none⟩) hb).trans Ac
   have Ae:=Hd (Af.out.trans (iOt all l k hlt z))
   clear Ac
   generalize l[k]=y at *
   have Aa:=Hd (HI.out wr HB.out y)
   have HN:RowKit.Hid (Que.nameAt all y=if Tess.hasW all y then ((Tess.idxW all y:Nat):Int) else -1):=Hd rfl
   rw [← HN.out] at Aa
   generalize Que.nameAt all y=m at *
   by_cases hm:m≤z
   ·have Ab:=Hd (show r=false by rw [Ae.out,if_pos hm])
    have Ak:decide (m≤z)=true:=decide_eq_true hm
    go_wp2_with (go_at_call 165;refine Aa.out.mono ?_;rintro e w2 ⟨rfl,rfl⟩)
    go_ret
    exact ⟨rb2 Ab.out.symm,HB.out⟩
   ·have Ab:=Hd (show r=Que.iO2 all m (l.drop (k + 1)) by rw [Ae.out,if_neg hm])
    have Ak:decide (m≤z)=false:=decide_eq_false hm
    go_wp2_with (go_at_call 165;refine Aa.out.mono ?_;rintro e w2 ⟨rfl,rfl⟩)
    go_roundw
    case rel=>exact ⟨k + 1,m,by omega,by go_num,rfl,Ab.out,HB.out⟩
    case measure=>simp [intOf];omega
  ·have Ai:¬ (k:Int) < (l.length:Int):=by omega
   have HE:=Hd (show r=true by rw [Af.out,List.drop_eq_nil_of_le (by omega)];rfl)
   go_wp2
   go_ret
   exact ⟨rb2 HE.out.symm,HB.out⟩
end Go.Proofs.YtaddkkkchkdgkaaGreatDoor
namespace Go.Proofs.YtaddkkkchkdgkaaGreatDoor
open Go.RowKit Go.Sort
open Tess (Fil Que)
set_option maxRecDepth 100000 in
theorem clo1_any (p:Nat→Prop) (s:Tess.Sch) (vd vm:Value) (B:Nat) (W:World) (hb:W.heap[B]? = some (.cells #[vd,vm,.int .i64 s.grain] 24 (0,0))) (hs:SA p W (.agg #[vd,vm,.int .i64 s.grain]) s) (k:Int) (x:ByteArray) :
  Calls Tryz.prog 118 #[.agg #[.int .i64 k,.string x],.pointer (some ⟨B,0,none⟩)] W fun e w'=>e = .returned (.bool (Que.iT s ⟨k,x⟩))∧Below W.heap.size W w':=by
 obtain ⟨W0,Ab⟩:∃ W0,W.alloc (.cells #[.int .i64 k,.string x] 76)=W0:=⟨_,rfl⟩
 obtain ⟨h0,hS,hB⟩:=la2 W (.cells #[.int .i64 k,.string x] 76)
 rw [Ab] at h0 hS hB
 have HC:=Hd (isTyped_any _ s k x p W0 (hs.ag (Ag.new p hB)))
 obtain ⟨y0,y1,y2⟩:=rc2 hB hb
 obtain ⟨z0,z1⟩:=rc3 (Below.refl _ _) h0
 have HB:=Hd hB
 clear hs h0 hS hB hb
 generalize Que.iT s ⟨k,x⟩=r at *
 go_enter Tryz.func118,Tryz.ntmps118
 go_wp2_with (go_at_call 119;refine HC.out.mono ?_;rintro e w2 ⟨rfl,Aa⟩;have Ac:=Hd (Bt HB.out Aa);clear Aa)
 go_ret
 exact ⟨rfl,Ac.out⟩
set_option maxRecDepth 100000 in
theorem clo2_any (p:Nat→Prop) (s:Tess.Sch) (vd vm:Value) (B:Nat) (W:World) (hb:W.heap[B]? = some (.cells #[vd,vm,.int .i64 s.grain] 24 (0,0))) (hs:SA p W (.agg #[vd,vm,.int .i64 s.grain]) s) (x:ByteArray) :
  Calls Tryz.prog 122 #[.string x,.pointer (some ⟨B,0,none⟩)] W fun e w'=>e = .returned (.bool (Tess.dimW s x).2)∧Below W.heap.size W w':=by
 have HC:=Hd (dim_any _ s x p W hs)
 obtain ⟨y0,y1,y2⟩:=rc2 (Below.refl _ _) hb
 clear hs hb
 generalize Tess.dimW s x=r at *
 obtain ⟨r1,r2⟩:=r
 simp only at HC
 go_enter Tryz.func122,Tryz.ntmps122
 go_wp2_with (go_at_call 104;refine HC.out.mono ?_;rintro e w2 ⟨rfl,Aa⟩;have Ab:=Hd Aa;clear Aa)
 go_ret
 exact ⟨rfl,Ab.out⟩
set_option maxRecDepth 100000 in
theorem clo3_any (vl vb:Value) (l names:List ByteArray) (B:Nat) (W:World) (hb:W.cell? ⟨B,1,none⟩=some vb) (hl:SlOf W vl (l.map .string)) (hn:SlOf W vb (names.map .string)) :
  Calls Tryz.prog 124 #[vl,.pointer (some ⟨B,0,none⟩)] W fun e w'=>e = .returned (.bool (Que.iO l names))∧Below W.heap.size W w':=by
 have HC:=Hd (iOa vl vb l names W hl hn)
 obtain ⟨a,Ad,rfl,_,_⟩:=so2 hl
 obtain ⟨aa,Ac,rfl,_,_⟩:=so2 hn
 clear hl hn
 generalize Que.iO l names=r at *
 go_enter Tryz.func124,Tryz.ntmps124
 go_wp2_with (go_at_call 120;refine HC.out.mono ?_;rintro e w2 ⟨rfl,Aa⟩;have Ab:=Hd Aa;clear Aa)
 go_ret
 exact ⟨rfl,Ab.out⟩
set_option maxRecDepth 100000 in
set_option maxHeartbeats 2000000 in
theorem clo4_any (c:Tess.Cond) (aa:Option Addr) (na ca:Nat) (hna:na≤9223372036854775807) (B:Nat) (W:World) (hlt:B < W.heap.size) (hb:W.cell? ⟨B,0,none⟩=some (.slice aa na ca)) :
  Calls Tryz.prog 126 #[.agg #[.int .i64 c.pos,.int .i64 c.op,.int .i64 c.n],.pointer (some ⟨B,0,none⟩)] W fun e w'=>e = .returned (.bool (Que.cO na c))∧Below W.heap.size W w':=by
 obtain ⟨W0,Ab⟩:∃ W0,W.alloc (.cells #[.int .i64 c.pos,.int .i64 c.op,.int .i64 c.n] 200)=W0:=⟨_,rfl⟩
 obtain ⟨h0,hS,hB⟩:=la2 W (.cells #[.int .i64 c.pos,.int .i64 c.op,.int .i64 c.n] 200)
 rw [Ab] at h0 hS hB
 obtain ⟨z0,z1,z2⟩:=rc2 (Below.refl _ _) h0
 have y0:=(hB.cell (p:=⟨B,0,none⟩) hlt).trans hb
 have HB:=Hd hB
 have H1:=Hd (qa2 c.pos 0 ((na:Int) - 1) W0)
 have H2:=Hd (qa2 c.op 1 6 W0)
 clear h0 hS hB hb
 have HR:RowKit.Hid (Que.cO na c=(Tess.within c.pos 0 ((na:Int) - 1) && Tess.within c.op 1 6)):=Hd rfl
 generalize Que.cO na c=r at *
 cases e1:Tess.within c.pos 0 ((na:Int) - 1)
 ·have Aa:=Hd (show r=false by rw [HR.out,e1];rfl)
  rw [e1] at H1
  go_enter Tryz.func126,Tryz.ntmps126
  go_wp2_with (go_at_call 116;refine H1.out.mono ?_;rintro e w2 ⟨rfl,rfl⟩)
  go_ret
  exact ⟨rb2 Aa.out.symm,HB.out⟩
 ·have Aa:=Hd (show r=Tess.within c.op 1 6 by rw [HR.out,e1];rfl)
  rw [e1] at H1
  generalize Tess.within c.op 1 6=r2 at *
  go_enter Tryz.func126,Tryz.ntmps126
  go_wp2_with (fail)
  go_at_call 116
  refine H1.out.mono ?_
  rintro e w2 ⟨rfl,rfl⟩
  go_wp2_with (go_at_call 116;refine H2.out.mono ?_;rintro e w2 ⟨rfl,rfl⟩)
  go_ret
  exact ⟨rb2 Aa.out.symm,HB.out⟩
set_option maxRecDepth 100000 in
set_option maxHeartbeats 2000000 in
theorem clo5_any (c:Tess.Key) (aa ab:Option Addr) (na ca nb cb:Nat) (hna:na≤9223372036854775807) (hnb:nb≤9223372036854775807) (B:Nat) (W:World) (hlt:B < W.heap.size) (hb:W.cell? ⟨B,0,none⟩=some (.slice aa na ca)) (hb1:W.cell? ⟨B,1,none⟩=some (.slice ab nb cb)) :
  Calls Tryz.prog 128 #[.agg #[.bool c.agg,.int .i64 c.pos,.bool c.desc],.pointer (some ⟨B,0,none⟩)] W fun e w'=>e = .returned (.bool (Que.keyOk na nb c))∧Below W.heap.size W w':=by
 obtain ⟨W0,Aa⟩:∃ W0,W.alloc (.cells #[.bool c.agg,.int .i64 c.pos,.bool c.desc] 204)=W0:=⟨_,rfl⟩
 obtain ⟨h0,hS,hB⟩:=la2 W (.cells #[.bool c.agg,.int .i64 c.pos,.bool c.desc] 204)
 rw [Aa] at h0 hS hB
 obtain ⟨z0,z1,z2⟩:=rc2 (Below.refl _ _) h0
 have y0:=(hB.cell (p:=⟨B,0,none⟩) hlt).trans hb
 have y1:=(hB.cell (p:=⟨B,1,none⟩) hlt).trans hb1
 have HB:=Hd hB
 have H1:=Hd (qa2 c.pos 0 ((na:Int) - 1) W0)
 have H2:=Hd (qa2 c.pos 0 ((nb:Int) - 1) W0)
 clear h0 hS hB hb hb1
 have HR:RowKit.Hid (Que.keyOk na nb c=if c.agg then Tess.within c.pos 0 ((na:Int) - 1) else Tess.within c.pos 0 ((nb:Int) - 1)):=Hd rfl
 generalize Que.keyOk na nb c=r at *
 cases ea:c.agg
 ·rw [ea] at z0 Aa
  have Ab:=Hd (show r=Tess.within c.pos 0 ((nb:Int) - 1) by rw [HR.out,ea];rfl)
  generalize Tess.within c.pos 0 ((nb:Int) - 1)=r2 at *
  go_enter Tryz.func128,Tryz.ntmps128
  go_wp2_with (go_at_call 116;refine H2.out.mono ?_;rintro e w2 ⟨rfl,rfl⟩)
  go_ret
  exact ⟨rb2 Ab.out.symm,HB.out⟩
 ·rw [ea] at z0 Aa
  have Ab:=Hd (show r=Tess.within c.pos 0 ((na:Int) - 1) by rw [HR.out,ea];rfl)
  generalize Tess.within c.pos 0 ((na:Int) - 1)=r2 at *
  cases r2
  all_goals
   go_enter Tryz.func128,Tryz.ntmps128
   go_wp2_with (go_at_call 116;refine H1.out.mono ?_;rintro e w2 ⟨rfl,rfl⟩)
   go_ret
   exact ⟨rb2 Ab.out.symm,HB.out⟩
end Go.Proofs.YtaddkkkchkdgkaaGreatDoor
