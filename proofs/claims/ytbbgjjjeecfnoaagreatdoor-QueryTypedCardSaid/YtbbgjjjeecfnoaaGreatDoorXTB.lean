/- Joined by mergeQ.py: F17, F18, F19, F20 -/
import Derived.Test.YtbbgjjjeecfnoaaGreatDoorXTA
import Derived.Test.YtbbgjjjeecfnoaaGreatDoorXFF
import Derived.RegionIn
import Derived.Stop.RegionWithIn
import Derived.OwnWalkIn
import Derived.TacticsInMore
import Derived.LoopNIn
import Derived.LoopIn
import Derived.Shelf.Abstract
import Derived.Shelf.RegionOpen
import Derived.LaidEql
import Derived.Stop.Asserts
namespace Go.Proofs.YtbbgjjjeecfnoaaGreatDoor
open Go.RowKit Go.Sort
open Tess (Fil)
open Tess.Fil (spanOk grainOk spanFits spanHas)
set_option maxHeartbeats 1000000 in
theorem gRight_any (a b:Int) (w:World):Calls Tryz.prog 259 #[.agg #[.int .i64 a,.int .i64 b]] w fun e w'=>e = .returned (.bool (spanOk a b))∧Below w.heap.size w w':=by
 unfold spanOk
 by_cases h1:0≤a
 ·have d1:decide (0≤a)=true:=decide_eq_true h1
  by_cases h2:a≤b
  ·have d2:decide (a≤b)=true:=decide_eq_true h2
   obtain ⟨r,hr⟩:∃ r,decide (b≤1000000000001)=r:=⟨_,rfl⟩
   rw [d1,d2,hr]
   go_enter Tryz.func259,Tryz.ntmps259
   go_wp2
   go_ret
   exact ⟨rfl,(Below.refl _ _).alloc (Nat.le_refl _) _⟩
  ·have d2:decide (a≤b)=false:=decide_eq_false h2
   rw [d1,d2,Bool.true_and,Bool.false_and]
   go_enter Tryz.func259,Tryz.ntmps259
   go_wp2
   go_ret
   exact ⟨rfl,(Below.refl _ _).alloc (Nat.le_refl _) _⟩
 ·have d1:decide (0≤a)=false:=decide_eq_false h1
  rw [d1,Bool.false_and,Bool.false_and]
  go_enter Tryz.func259,Tryz.ntmps259
  go_wp2
  go_ret
  exact ⟨rfl,(Below.refl _ _).alloc (Nat.le_refl _) _⟩
set_option maxRecDepth 100000 in
set_option maxHeartbeats 1000000 in
theorem areGrains1 (b:Nat) (g:Int) (w:World) (hc:w.cell? ⟨b,0,none⟩=some (.int .i64 g)) :
  Calls Tryz.prog 114 #[.slice (some ⟨b,0,none⟩) 1 1] w fun e w'=>e = .returned (.bool (grainOk g))∧w=w':=by
 unfold grainOk
 by_cases h1:1≤g
 ·have d1:decide (1≤g)=true:=decide_eq_true h1
  have d1':decide (g < 1)=false:=decide_eq_false (by omega)
  by_cases h2:g≤1000000000
  ·have d2:decide (g≤1000000000)=true:=decide_eq_true h2
   have d2':decide (1000000000 < g)=false:=decide_eq_false (by omega)
   rw [d1,d2]
   go_enter Tryz.func114,Tryz.ntmps114
   go_wp2
   refine wp_loop_rounds 2 ?_
   rw [rounds_succ]
   go_wp2
   rw [rounds_succ]
   go_wp2
   go_ret
   exact ⟨rfl,rfl⟩
  ·have d2:decide (g≤1000000000)=false:=decide_eq_false h2
   have d2':decide (1000000000 < g)=true:=decide_eq_true (by omega)
   rw [d1,d2]
   go_enter Tryz.func114,Tryz.ntmps114
   go_wp2
   refine wp_loop_rounds 2 ?_
   rw [rounds_succ]
   go_wp2
   go_ret
   exact ⟨rfl,rfl⟩
 ·have d1:decide (1≤g)=false:=decide_eq_false h1
  have d1':decide (g < 1)=true:=decide_eq_true (by omega)
  rw [d1,Bool.false_and]
  go_enter Tryz.func114,Tryz.ntmps114
  go_wp2
  refine wp_loop_rounds 2 ?_
  rw [rounds_succ]
  go_wp2
  go_ret
  exact ⟨rfl,rfl⟩
end Go.Proofs.YtbbgjjjeecfnoaaGreatDoor
namespace Go.Proofs.YtbbgjjjeecfnoaaGreatDoor
open Go.RowKit Go.Sort
open Tess (Fil)
open Tess.Fil (spanOk grainOk spanFits spanHas)
set_option maxRecDepth 100000 in
set_option maxHeartbeats 2000000 in
theorem gFits_any (a b g:Int) (w:World):Calls Tryz.prog 193 #[.agg #[.int .i64 a,.int .i64 b],.int .i64 g] w fun e w'=>e = .returned (.bool (spanFits a b g))∧Below w.heap.size w w':=by
 have HR:=Lib.hid (fun w=>gRight_any a b w)
 have HG:=Lib.hid (fun (b:Nat) (w:World) h=>areGrains1 b g w h)
 have HF:RowKit.Hid (spanFits a b g=(spanOk a b && grainOk g && decide (a % g=0) && (decide (b=1000000000001) || decide (b % g=0)))):=Lib.hid rfl
 cases hok:spanOk a b
 ·rw [hok] at HR HF
  rw [HF.out,Bool.false_and,Bool.false_and,Bool.false_and]
  clear HF
  go_enter Tryz.func193,Tryz.ntmps193
  go_wp2_with (go_at_call 259;refine (HR.out _).mono ?_;rintro e w2 ⟨rfl,hB⟩;have HB:=Lib.hid (((Below.refl _ _).alloc (Nat.le_refl _) _).trans (hB.mono (by simp)));clear hB)
  go_ret
  exact ⟨rfl,HB.out⟩
 ·have hab:0≤a∧a≤b∧b≤1000000000001:=by unfold spanOk at hok;simp at hok;omega
  obtain ⟨ha,hab,hb⟩:=hab
  rw [hok] at HR HF
  cases hg:grainOk g
  ·rw [hg] at HG HF
   rw [HF.out,Bool.true_and,Bool.false_and,Bool.false_and]
   clear HF
   go_enter Tryz.func193,Tryz.ntmps193
   go_wp2_with (first
    | (go_at_call 259;refine (HR.out _).mono ?_;rintro e w2 ⟨rfl,hB⟩;have HB:=Lib.hid (((Below.refl _ _).alloc (Nat.le_refl _) _).trans (hB.mono (by simp)));clear hB)
    | (go_at_call 114;refine (HG.out _ _ (by simp)).mono ?_;rintro e w3 ⟨rfl,rfl⟩;have HB3:=Lib.hid (HB.out.alloc HB.out.size (.cells #[.int .i64 g] 2))))
   go_ret
   exact ⟨rfl,HB3.out⟩
  ·have hg1:1≤g∧g≤1000000000:=by unfold grainOk at hg;simpa using hg
   obtain ⟨hg1,hg2⟩:=hg1
   rw [hg] at HG HF
   obtain ⟨r1,hr1⟩:∃ r,((a % g:Int) == 0)=r:=⟨_,rfl⟩
   obtain ⟨r2,hr2⟩:∃ r,((b:Int) == 1000000000001)=r:=⟨_,rfl⟩
   obtain ⟨r3,hr3⟩:∃ r,((b % g:Int) == 0)=r:=⟨_,rfl⟩
   have e1:decide (a % g=0)=r1:=by rw [← hr1];rfl
   have e2:decide (b=1000000000001)=r2:=by rw [← hr2];rfl
   have e3:decide (b % g=0)=r3:=by rw [← hr3];rfl
   rw [e1,e2,e3,Bool.true_and,Bool.true_and] at HF
   have hb0:0≤b:=by omega
   clear e1 e2 e3 hok hg
   rw [HF.out]
   clear HF
   cases r1 <;> cases r2
   all_goals
    go_enter Tryz.func193,Tryz.ntmps193
    go_wp2_with (first
     | (go_at_call 259;refine (HR.out _).mono ?_;rintro e w2 ⟨rfl,hB⟩;have c0:=hB.cell (p:=⟨w.heap.size,0,none⟩) (by simp);have c1:=hB.cell (p:=⟨w.heap.size,1,none⟩) (by simp);simp at c0 c1;have hsz:=hB.size;simp at hsz;have hlt:w.heap.size < w2.heap.size:=(by omega);have HB:=Lib.hid (((Below.refl _ _).alloc (Nat.le_refl _) _).trans (hB.mono (by simp)));clear hB)
     | (go_at_call 114;refine (HG.out _ _ (by simp)).mono ?_;rintro e w3 ⟨rfl,rfl⟩;have HB3:=Lib.hid (HB.out.alloc HB.out.size (.cells #[.int .i64 g] 2))))
    go_ret
    exact ⟨rfl,HB3.out⟩
end Go.Proofs.YtbbgjjjeecfnoaaGreatDoor
namespace Tess
namespace Fil
def run (s:Sch):List (Nat×Fil)→Nat→Bool→Option (Nat×Bool)
 | [],k,g=>some (k,g)
 | (d,x) :: r,k,g=>if k + 1 > 40 || d > 6 || !own s x then none else run s r (k + 1) (g || badGrain s x)
theorem run_append (s:Sch) (a b:List (Nat×Fil)):∀ k g,run s (a ++ b) k g=(run s a k g).bind fun x=>run s b x.1 x.2:=by
 induction a with
 | nil=>intro k g;rfl
 | cons x a ih=>
   intro k g
   obtain ⟨d,x⟩:=x
   simp only [List.cons_append,run]
   split
   ·rfl
   ·exact ih _ _
theorem chk_run (s:Sch) (l:List (Nat×Fil)):∀ k g,chk s k g l=match run s l k g with | none=>140 | some (_,g')=>if g' then 110 else 0:=by
 induction l with
 | nil=>intro k g;rfl
 | cons x l ih=>
   intro k g
   obtain ⟨d,x⟩:=x
   simp only [chk,run]
   split
   ·rfl
   ·exact ih _ _
theorem preL_take_succ (d:Nat) (q:List Fil) (k:Nat) (h:k < q.length):preL d (q.take (k + 1))=preL d (q.take k) ++ pre d q[k]:=by
 rw [List.take_succ_eq_append_getElem h,preL_append];simp [preL]
end Fil
end Tess
namespace Go.Proofs.YtbbgjjjeecfnoaaGreatDoor
open Go.RowKit Go.Sort Go.Shelf
open Tess (Fil)
attribute [local go_sem] Oper.semAt_some
theorem roundIn_any {n m:Nat} {P:Program} {l:Nat} {f:FuncId} {tmps:Array Value} {assign body:Code} {w:World} {R:Ending→World→Prop} (h:RoundIn Fence.wide n P l f tmps assign body w R):RoundIn Fence.wide m P l f tmps assign body w R:=
 ⟨h.1,fun c cs _=>h.2 c cs (room_wide _)⟩
def WalkPost (Inv:Nat→Bool→World→Prop) (Stop:World→Prop) (q:Nat→Prop) (r:Option (Nat×Bool)) (W:World) (e:Ending) (W':World):Prop:=
 Ag q W W'∧match r with
  | some (k,g)=>e = .returned (.bool true)∧Inv k g W'
  | none=>e = .returned (.bool false)∧Stop W'
set_option maxRecDepth 100000 in
set_option maxHeartbeats 4000000 in
theorem walk_any (s:Tess.Sch) (l:Nat) (fn0:FuncId) (T:Nat→Value→Array Value) (A B:Code) (Inv:Nat→Bool→World→Prop) (Stop:World→Prop) (p q:Nat→Prop) (N:Nat) (K:Fil→Prop) (hK:∀ f,K f→∀ x ∈ f.l,K x)
  (hpq:∀ b,p b→q b) (hNq:∀ b,N≤b→q b) (hIN:∀ k g W,Inv k g W→N≤W.heap.size) (hIB:∀ k g W W',Inv k g W→Below W.heap.size W W'→Inv k g W')
  (hy:∀ k g W,Inv k g W→∀ (d:Nat) v,(Instr.yield l #[.int .i64 (d:Nat),v]).run Tryz.prog W = .ok (.round l fn0 (T d v) A B) W)
  (hr:∀ k g W,Inv k g W→∀ (d m:Nat) v x,d≤1000→FilAt p m W v x→K x→RoundIn Fence.wide 5 Tryz.prog l fn0 (T d v) A B W (WalkPost Inv Stop q (Fil.run s [(d,x)] k g) W))
  (n:Nat):∀ (v:Value) (f:Fil) (d k:Nat) (g:Bool) (W:World),FilAt p n W v f→K f→Inv k g W→d + n≤1000 →
  Calls Tryz.prog 255 #[v,.int .i64 (d:Nat),.func (.yield l) #[] #[]] W (WalkPost Inv Stop q (Fil.run s (Fil.pre d f) k g) W):=by
 induction n with
 | zero=>intro v f d k g W h;exact h.elim
 | succ n ih=>
   intro v f d k g W hf hKf hI hd
   have HF:=Lib.hid hf
   have HI:=Lib.hid hI
   obtain ⟨vw,a,cap,rfl,_,hvw,_,hl,_,hc⟩:=hf
   obtain ⟨wa,wn,wc,rfl⟩:=hvw.shape
   have HC:=Lib.hid hc
   have hlm:f.l.length≤9223372036854775807:=by unfold maxLen at hl;omega
   have HIH:=Lib.hid ih
   have HPQ:=Lib.hid hpq
   have HNQ:=Lib.hid hNq
   have HIN:=Lib.hid hIN
   have HIB:=Lib.hid hIB
   have HY:=Lib.hid hy
   have HR:=Lib.hid hr
   have HKF:=Lib.hid hKf
   have HK:=Lib.hid hK
   clear hvw hc hl hI ih hpq hNq hIN hIB hy hr hKf hK
   refine (callsIn_wide (n:=5)).1 ?_
   refine callsIn_of_wp Tryz.func255 rfl trivial ?_ rfl
   simp only [Tryz.ntmps255,List.size_toArray,List.length_cons,List.length_nil,Nat.reduceAdd,Nat.reduceSub,Array.replicate_succ,Array.replicate_zero,List.push_toArray,List.append_toArray,List.nil_append,List.cons_append]
   obtain ⟨W0,hW0⟩:∃ W0,W.alloc (.cells #[.int .i64 f.kind,.string f.name,.slice wa wn wc,.int .i64 f.frm,.int .i64 f.to,.slice a f.l.length cap] 31)=W0:=⟨_,rfl⟩
   have hB0:Below W.heap.size W W0:=by rw [← hW0];exact (Below.refl _ _).alloc (Nat.le_refl _) _
   have hbox:W0.heap[W.heap.size]? = some (.cells #[.int .i64 f.kind,.string f.name,.slice wa wn wc,.int .i64 f.frm,.int .i64 f.to,.slice a f.l.length cap] 31 (0,0)):=by rw [← hW0];exact heap_alloc_new _ _
   have hI0:=HIB.out k g W W0 HI.out hB0
   have hyl:=HY.out k g W0 hI0 d (.agg #[.int .i64 f.kind,.string f.name,.slice wa wn wc,.int .i64 f.frm,.int .i64 f.to,.slice a f.l.length cap])
   have HI0:=Lib.hid hI0
   have HB0:=Lib.hid hB0
   have HBOX:=Lib.hid hbox
   have HW0:=Lib.hid hW0
   clear hI0 hB0 hbox hW0
   rw [← HW0.out] at hyl
   gi_wp2
   rw [HW0.out]
   refine roundIn_any ((HR.out k g W0 HI0.out d (n + 1) _ f (by omega) (HF.out.ag (Ag.new p HB0.out)) HKF.out).mono ?_)
   clear hyl
   have hNW:N≤W.heap.size:=HIN.out k g W HI.out
   have HPRE:RowKit.Hid (Fil.run s (Fil.pre d f) k g=(Fil.run s [(d,f)] k g).bind fun x=>Fil.run s (Fil.preL (d + 1) f.l) x.1 x.2):=Lib.hid (by rw [Fil.pre_eq,← Fil.run_append];rfl)
   cases hres:Fil.run s [(d,f)] k g with
   | none=>
     rw [hres] at HPRE
     rintro e w1 ⟨hag,rfl,hstop⟩
     have HP:=Lib.hid (show WalkPost Inv Stop q (Fil.run s (Fil.pre d f) k g) W (.returned (.bool false)) w1 from by
      rw [HPRE.out];exact ⟨(Ag.new q HB0.out).trans hag,rfl,hstop⟩)
     clear hag hstop
     gi_wp2
     go_ret
     exact HP.out
   | some x=>
     obtain ⟨k1,g1⟩:=x
     rw [hres] at HPRE
     have HPR2:RowKit.Hid (Fil.run s (Fil.pre d f) k g=Fil.run s (Fil.preL (d + 1) f.l) k1 g1):=Lib.hid HPRE.out
     rintro e w1 ⟨hag,rfl,hinv⟩
     have HAG:=Lib.hid hag
     have HINV:=Lib.hid hinv
     have hsW:W.heap.size < W0.heap.size:=(Array.getElem?_eq_some_iff.1 HBOX.out).1
     have hbx1:=(hag.2 _ hsW (HNQ.out _ hNW)).trans HBOX.out
     have c5:=cell_of_row w1 W.heap.size 5 _ _ _ hbx1
     simp only [List.getElem?_toArray,List.getElem?_cons_succ,List.getElem?_cons_zero] at c5
     clear hag hinv hbx1 HPRE
     gi_wp2
     gi_loopw [17] (fun i wr => ∃ (j k2:Nat) (g2:Bool),j≤f.l.length∧i = .int .i64 j∧Fil.run s (Fil.preL (d + 1) (f.l.take j)) k1 g1=some (k2,g2)∧Inv k2 g2 wr∧Ag q W0 wr) (fun i _=>f.l.length - (intOf i).toNat)
     case atStart=>exact ⟨0,k1,g1,Nat.zero_le _,rfl,rfl,HINV.out,HAG.out⟩
     case round=>
      clear c5 HAG HINV
      obtain ⟨j,k2,g2,hj,rfl,hrun,hinv,hag⟩:=hrel
      have HRUN:=Lib.hid hrun
      have HINV:=Lib.hid hinv
      have HAG:=Lib.hid hag
      clear hrun hinv hag
      by_cases hlt:j < f.l.length
      ·obtain ⟨b,off,rfl,hb,hp,hel⟩:=HC.out (by omega)
       obtain ⟨e0,e1,e2,e3,e4,e5,hfe,q0,q1,q2,q3,q4,q5⟩:=hel j hlt
       have hqb:q b:=HPQ.out b hp
       have hb0:b < W0.heap.size:=Nat.lt_of_lt_of_le hb HB0.out.size
       have hcl:∀ o,wr.cell? ⟨b,o,none⟩=W.cell? ⟨b,o,none⟩:=fun o=>(HAG.out.cell hb0 hqb).trans (HB0.out.cell (p:=⟨b,o,none⟩) hb)
       have r0:=(hcl _).trans q0
       have r1:=(hcl _).trans q1
       have r2:=(hcl _).trans q2
       have r3:=(hcl _).trans q3
       have r4:=(hcl _).trans q4
       have r5:=(hcl _).trans q5
       have hji:(j:Int) < (f.l.length:Int):=by omega
       have hsh:=hfe.shape6
       have HFE:=Lib.hid (fun (W2:World) (hg:Ag q W0 W2)=>FilAt.ag hfe (((Ag.new p HB0.out)).trans (hg.weak HPQ.out)))
       clear hel q0 q1 q2 q3 q4 q5 hfe hcl
       obtain ⟨ya,yn,yc,za,zc,heq⟩:=hsh
       simp only [Value.agg.injEq,Array.mk.injEq,List.cons.injEq,and_true] at heq
       obtain ⟨rfl,rfl,rfl,rfl,rfl,rfl⟩:=heq
       obtain ⟨x,hx⟩:∃ x,x=f.l[j]:=⟨_,rfl⟩
       rw [← hx] at HFE r0 r1 r3 r4 r5
       have HSUC:=Lib.hid (Fil.preL_take_succ (d + 1) f.l j hlt)
       rw [← hx] at HSUC
       have HKX:=Lib.hid (show K x from by rw [hx];exact HK.out f HKF.out _ (List.getElem_mem hlt))
       have HCALL:=Lib.hid (fun (W2:World) (hb2:Below wr.heap.size wr W2)=>(show ((d + 1:Nat):Int)=(d:Int) + 1 by omega) ▸ HIH.out _ x (d + 1) k2 g2 W2 (HFE.out W2 (HAG.out.trans (Ag.new q hb2))) HKX.out (HIB.out k2 g2 wr W2 HINV.out hb2) (by omega))
       have HX:=Lib.hid hx
       clear hx
       gi_wp2
       refine ⟨trivial,(callsIn_wide.2 (HCALL.out _ ((Below.refl _ _).alloc (Nat.le_refl _) _))).mono ?_⟩
       have HRS:RowKit.Hid (Fil.run s (Fil.preL (d + 1) (f.l.take (j + 1))) k1 g1=Fil.run s (Fil.pre (d + 1) x) k2 g2):=Lib.hid (by rw [HSUC.out,Fil.run_append,HRUN.out];rfl)
       cases hres2:Fil.run s (Fil.pre (d + 1) x) k2 g2 with
       | none=>
         rw [hres2] at HRS
         rintro e w3 ⟨hag3,rfl,hstop⟩
         have HP:=Lib.hid (show WalkPost Inv Stop q (Fil.run s (Fil.pre d f) k g) W (.returned (.bool false)) w3 from by
          rw [HPR2.out,show f.l=f.l.take (j + 1) ++ f.l.drop (j + 1) from (List.take_append_drop _ _).symm,Fil.preL_append,Fil.run_append,HRS.out]
          exact ⟨((Ag.new q HB0.out).trans HAG.out).trans ((Ag.new q ((Below.refl _ _).alloc (Nat.le_refl _) _)).trans hag3),rfl,hstop⟩)
         clear hag3 hstop
         gi_wp2
         go_ret
         exact HP.out
       | some y=>
         obtain ⟨k3,g3⟩:=y
         rw [hres2] at HRS
         rintro e w3 ⟨hag3,rfl,hinv3⟩
         have HAG3:=Lib.hid (HAG.out.trans ((Ag.new q ((Below.refl _ _).alloc (Nat.le_refl _) _)).trans hag3))
         have HINV3:=Lib.hid hinv3
         clear hag3 hinv3
         gi_wp2
         go_roundw
         case rel=>exact ⟨j + 1,k3,g3,by omega,by go_num,HRS.out,HINV3.out,HAG3.out⟩
         case measure=>simp [intOf];omega
      ·have hji:¬ (j:Int) < (f.l.length:Int):=by omega
       have HE:=Lib.hid (show f.l.take j=f.l from List.take_of_length_le (by omega))
       have HP:=Lib.hid (show WalkPost Inv Stop q (Fil.run s (Fil.pre d f) k g) W (.returned (.bool true)) wr from by
        rw [HPR2.out,← HE.out,HRUN.out];exact ⟨(Ag.new q HB0.out).trans HAG.out,rfl,HINV.out⟩)
       gi_wp2
       go_ret
       exact HP.out
end Go.Proofs.YtbbgjjjeecfnoaaGreatDoor
namespace Go.Proofs.YtbbgjjjeecfnoaaGreatDoor
open Go.RowKit Go.Sort Go.Extern.Stop Go.Stop Go.Extern
def errV (a0 a1:Addr) (code:Nat):Value:=if code=0 then .nilIface else .iface 426 (.pointer (some (if code=140 then a0 else a1)))
structure Vars (a0 a1:Addr) (w:World):Prop where
 ne:a0≠a1
 g1:w.cell? ⟨1,0,none⟩=some (.iface 426 (.pointer (some a0)))
 g2:w.cell? ⟨2,0,none⟩=some (.iface 426 (.pointer (some a1)))
 b0:∃ c0 t0,w.heap[a0.block]? = some (.cells c0 t0 (0,0))
 b1:∃ c1 t1,w.heap[a1.block]? = some (.cells c1 t1 (0,0))
theorem Vars.below {a0 a1:Addr} {w w':World} (h:Vars a0 a1 w) (hb:Below w.heap.size w w'):Vars a0 a1 w':=by
 obtain ⟨c0,t0,h0⟩:=h.b0
 obtain ⟨c1,t1,h1⟩:=h.b1
 exact ⟨h.ne,(hb.cell (p:=⟨1,0,none⟩) (World.block_lt_of_cell? _ _ h.g1)).trans h.g1,(hb.cell (p:=⟨2,0,none⟩) (World.block_lt_of_cell? _ _ h.g2)).trans h.g2,
  ⟨c0,t0,(hb.block _ (Array.getElem?_eq_some_iff.1 h0).1).trans h0⟩,⟨c1,t1,(hb.block _ (Array.getElem?_eq_some_iff.1 h1).1).trans h1⟩⟩
theorem isTypeOf (v:Value) (w:World):(Extern.ReflectliteType.typeOf #[.iface 426 v]).run Tryz.prog w = .ok (.iface 287 (.agg #[.pointer (some ⟨17,426,none⟩)])) w:=by kernel_rfl
def cmpEntry : Array Value → Sem Value := Extern.ReflectliteType.method fun t => do Rtype.noPackHeld "Comparable" t; pure (.bool (← typeInfo t).comparable)
theorem isComparable (w:World):(cmpEntry #[.agg #[.pointer (some ⟨17,426,none⟩)]]).run Tryz.prog w = .ok (.bool true) w:=by kernel_rfl
theorem isMethodComparable (v : Value) (w : World) : (Go.method 561 287 v "Comparable").run Tryz.prog w = .ok (378, v) w := by kernel_rfl
theorem isComp:(Tryz.prog.info? 426).map (·.comparable)=some true:=by kernel_rfl
theorem isSize:(Tryz.prog.info? 428).map (·.size)=some 1:=by kernel_rfl
theorem noIsE (v:Value) (xT:TypeId) (w:World):(Instr.typeAssert (.iface 426 v) xT 363 true).run Tryz.prog w = .ok (.tuple #[.nilIface,.bool false]) w:=run_typeAssert_lacksB Tryz.underlying363 (by kernel_rfl) (by kernel_rfl) v xT w
theorem noUnwrapE (v:Value) (xT:TypeId) (w:World):(Instr.typeAssert (.iface 426 v) xT 295 true).run Tryz.prog w = .ok (.tuple #[.nilIface,.bool false]) w:=run_typeAssert_lacksB Tryz.underlying295 (by kernel_rfl) (by kernel_rfl) v xT w
theorem noUnwrapsE (v:Value) (xT:TypeId) (w:World):(Instr.typeAssert (.iface 426 v) xT 296 true).run Tryz.prog w = .ok (.tuple #[.nilIface,.bool false]) w:=run_typeAssert_lacksB Tryz.underlying296 (by kernel_rfl) (by kernel_rfl) v xT w
theorem is_same (a:Addr) (w:World) :
  Calls Tryz.prog 190 #[.iface 426 (.pointer (some a)),.iface 426 (.pointer (some a))] w fun e w'=>e = .returned (.bool true)∧w'=w:=by
 obtain ⟨i,hi,hcmp⟩:=Option.map_eq_some_iff.1 isComp
 obtain ⟨j,hj,hjs⟩:=Option.map_eq_some_iff.1 isSize
 have h8:=@run_callFunc_extern Tryz.prog 212 _ Extern.ReflectliteType.typeOf Tryz.func212 (by kernel_rfl) (by kernel_rfl) (by kernel_rfl) (by kernel_rfl)
 have h32:=@run_callFunc_extern Tryz.prog 378 _ cmpEntry Tryz.func378 (by kernel_rfl) (by kernel_rfl) (by kernel_rfl) (by kernel_rfl)
 have tT:=isTypeOf
 have cT:=isComparable
 have mR:=isMethodComparable
 have heq:=run_eql_iface_ptr_same (P:=Tryz.prog) w a Tryz.underlying96 Tryz.underlying426 hi hcmp hj
 go_enter Tryz.func190,Tryz.ntmps190
 go_wp2
 refine wp_loop_rounds 1 ?_
 rw [rounds_succ]
 go_wp2
 go_ret
 exact ⟨rfl,rfl⟩
theorem is_nil (b:Addr) (w:World) :
  Calls Tryz.prog 190 #[.nilIface,.iface 426 (.pointer (some b))] w fun e w'=>e = .returned (.bool false)∧w'=w:=by
 have hn:=run_eql_iface_nil_left (P:=Tryz.prog) w 426 (.pointer (some b)) Tryz.underlying96
 go_enter Tryz.func190,Tryz.ntmps190
 go_wp2
 go_ret
 exact ⟨rfl,rfl⟩
theorem is_other (a b:Addr) (ca cb:Array Value) (ta tb:TypeId) (w:World) (hne:a≠b) (ha:w.heap[a.block]? = some (.cells ca ta (0,0))) (hb:w.heap[b.block]? = some (.cells cb tb (0,0))) :
  Calls Tryz.prog 190 #[.iface 426 (.pointer (some a)),.iface 426 (.pointer (some b))] w fun e w'=>e = .returned (.bool false)∧w'=w:=by
 obtain ⟨i,hi,hcmp⟩:=Option.map_eq_some_iff.1 isComp
 obtain ⟨j,hj,hjs⟩:=Option.map_eq_some_iff.1 isSize
 have h8:=@run_callFunc_extern Tryz.prog 212 _ Extern.ReflectliteType.typeOf Tryz.func212 (by kernel_rfl) (by kernel_rfl) (by kernel_rfl) (by kernel_rfl)
 have h32:=@run_callFunc_extern Tryz.prog 378 _ cmpEntry Tryz.func378 (by kernel_rfl) (by kernel_rfl) (by kernel_rfl) (by kernel_rfl)
 have tT:=isTypeOf
 have cT:=isComparable
 have mR:=isMethodComparable
 have nE:=noIsE
 have uE:=noUnwrapE
 have vE:=noUnwrapsE
 have heq:=run_eql_iface_ptr_other (P:=Tryz.prog) w Tryz.underlying96 Tryz.underlying426 hi hcmp hj (by rw [hjs];decide) hne ha hb
 go_enter Tryz.func190,Tryz.ntmps190
 go_wp2
 refine wp_loop_rounds 1 ?_
 rw [rounds_succ]
 go_wp2
 go_ret
 exact ⟨rfl,rfl⟩
set_option maxRecDepth 100000 in
theorem told_any (a0 a1:Addr) (code:Nat) (w:World) (hv:Vars a0 a1 w) (hc:code=0∨code=140∨code=110) :
  Calls Tryz.prog 115 #[errV a0 a1 code] w fun e w'=>e = .returned (.int .i64 (code:Nat))∧w'=w:=by
 have g1:=hv.g1
 have g2:=hv.g2
 obtain ⟨c0,t0,hb0⟩:=hv.b0
 obtain ⟨c1,t1,hb1⟩:=hv.b1
 have i1:=is_nil a0 w
 have i2:=is_nil a1 w
 have i3:=is_same a0 w
 have i4:=is_same a1 w
 have i5:=is_other a1 a0 c1 c0 t1 t0 w hv.ne.symm hb1 hb0
 have I1:=Lib.hid i1
 have I2:=Lib.hid i2
 have I3:=Lib.hid i3
 have I4:=Lib.hid i4
 have I5:=Lib.hid i5
 clear i1 i2 i3 i4 i5 hv hb0 hb1
 unfold errV
 rcases hc with rfl | rfl | rfl
 ·simp only [if_true]
  go_enter Tryz.func115,Tryz.ntmps115
  go_wp2_with (first
   | (go_at_call 190;with_reducible refine I1.out.mono ?_;rintro e w' ⟨rfl,rfl⟩)
   | (go_at_call 190;with_reducible refine I2.out.mono ?_;rintro e w' ⟨rfl,rfl⟩))
  go_ret
  exact ⟨rfl,rfl⟩
 ·simp only [if_true,if_false,show (140:Nat)≠0 by decide]
  go_enter Tryz.func115,Tryz.ntmps115
  go_wp2_with (go_at_call 190;with_reducible refine I3.out.mono ?_;rintro e w' ⟨rfl,rfl⟩)
  go_ret
  exact ⟨rfl,rfl⟩
 ·simp only [if_false,show (110:Nat)≠0 by decide,show (110:Nat)≠140 by decide]
  go_enter Tryz.func115,Tryz.ntmps115
  go_wp2_with (first
   | (go_at_call 190;with_reducible refine I5.out.mono ?_;rintro e w' ⟨rfl,rfl⟩)
   | (go_at_call 190;with_reducible refine I4.out.mono ?_;rintro e w' ⟨rfl,rfl⟩))
  go_ret
  exact ⟨rfl,rfl⟩
end Go.Proofs.YtbbgjjjeecfnoaaGreatDoor
