/- Joined by mergeK.py: F19, F20, F21, F22, F23 -/
import Derived.Test.YtaddkkkchkdgkaaGreatDoorWC05
import Derived.RegionIn
import Derived.Stop.RegionWithIn
import Derived.OwnWalkIn
import Derived.TacticsInMore
import Derived.LoopNIn
import Derived.LoopIn
import Derived.Shelf.Abstract
import Derived.Shelf.RegionOpen
import Derived.LaidEql
import Derived.Stop.Asserts
import Derived.Test.YtaddkkkchkdgkaaGreatDoorWC02
import Derived.Sort.Walk0
import Derived.Test.YtaddkkkchkdgkaaGreatDoorWC00
namespace Tess
namespace Fil
def run (s:Sch):List (Nat×Fil)→Nat→Bool→Option (Nat×Bool)
 | [],k,g=>some (k,g)
 | (d,x) :: r,k,g=>if k + 1 > 40 || d > 6 || !own s x then none else run s r (k + 1) (g || badGrain s x)
theorem run_append (s:Sch) (a b:List (Nat×Fil)):∀ k g,run s (a ++ b) k g=(run s a k g).bind fun x=>run s b x.1 x.2:=by
 induction a with
 | nil=>intro k g;rfl
 | cons x a ih=>
   intro k g
   obtain ⟨d,x⟩:=x
   simp only [List.cons_append,run]
   split
   ·rfl
   ·exact ih _ _
theorem chk_run (s:Sch) (l:List (Nat×Fil)):∀ k g,chk s k g l=match run s l k g with | none=>140 | some (_,g')=>if g' then 110 else 0:=by
 induction l with
 | nil=>intro k g;rfl
 | cons x l ih=>
   intro k g
   obtain ⟨d,x⟩:=x
   simp only [chk,run]
   split
   ·rfl
   ·exact ih _ _
theorem preL_take_succ (d:Nat) (q:List Fil) (k:Nat) (h:k < q.length):preL d (q.take (k + 1))=preL d (q.take k) ++ pre d q[k]:=by
 rw [List.take_succ_eq_append_getElem h,preL_append];simp [preL]
end Fil
end Tess
namespace Go.Proofs.YtaddkkkchkdgkaaGreatDoor
open Go.RowKit Go.Sort Go.Shelf
open Tess (Fil)
attribute [local go_sem] Oper.semAt_some
theorem roundIn_any {n m:Nat} {P:Program} {l:Nat} {f:FuncId} {tmps:Array Value} {assign body:Code} {w:World} {R:Ending→World→Prop} (h:RoundIn Fence.wide n P l f tmps assign body w R):RoundIn Fence.wide m P l f tmps assign body w R:=
 ⟨h.1,fun c cs _=>h.2 c cs (room_wide _)⟩
def WalkPost (Inv:Nat→Bool→World→Prop) (Stop:World→Prop) (q:Nat→Prop) (r:Option (Nat×Bool)) (W:World) (e:Ending) (W':World):Prop:=
 Ag q W W'∧match r with
  | some (k,g)=>e = .returned (.bool true)∧Inv k g W'
  | none=>e = .returned (.bool false)∧Stop W'
set_option maxRecDepth 100000 in
set_option maxHeartbeats 4000000 in
theorem walk_any (s:Tess.Sch) (l:Nat) (fn0:FuncId) (T:Nat→Value→Array Value) (A B:Code) (Inv:Nat→Bool→World→Prop) (Stop:World→Prop) (p q:Nat→Prop) (N:Nat) (K:Fil→Prop) (hK:∀ f,K f→∀ x ∈ f.l,K x)
  (hpq:∀ b,p b→q b) (hNq:∀ b,N≤b→q b) (hIN:∀ k g W,Inv k g W→N≤W.heap.size) (hIB:∀ k g W W',Inv k g W→Below W.heap.size W W'→Inv k g W')
  (hy:∀ k g W,Inv k g W→∀ (d:Nat) v,(Instr.yield l #[.int .i64 (d:Nat),v]).run Tryz.prog W = .ok (.round l fn0 (T d v) A B) W)
  (hr:∀ k g W,Inv k g W→∀ (d m:Nat) v x,d≤1000→FilAt p m W v x→K x→RoundIn Fence.wide 5 Tryz.prog l fn0 (T d v) A B W (WalkPost Inv Stop q (Fil.run s [(d,x)] k g) W))
  (n:Nat):∀ (v:Value) (f:Fil) (d k:Nat) (g:Bool) (W:World),FilAt p n W v f→K f→Inv k g W→d + n≤1000 →
  Calls Tryz.prog 206 #[v,.int .i64 (d:Nat),.func (.yield l) #[] #[]] W (WalkPost Inv Stop q (Fil.run s (Fil.pre d f) k g) W):=by
 induction n with
 | zero=>intro v f d k g W h;exact h.elim
 | succ n ih=>
   intro v f d k g W hf hKf hI hd
   have HF:=Lib.hid hf
   have HI:=Lib.hid hI
   obtain ⟨vw,a,cap,rfl,_,hvw,_,hl,_,hc⟩:=hf
   obtain ⟨wa,wn,wc,rfl⟩:=hvw.shape
   have HC:=Lib.hid hc
   have hlm:f.l.length≤9223372036854775807:=by unfold maxLen at hl;omega
   have HIH:=Lib.hid ih
   have HPQ:=Lib.hid hpq
   have HNQ:=Lib.hid hNq
   have HIN:=Lib.hid hIN
   have HIB:=Lib.hid hIB
   have HY:=Lib.hid hy
   have HR:=Lib.hid hr
   have HKF:=Lib.hid hKf
   have HK:=Lib.hid hK
   clear hvw hc hl hI ih hpq hNq hIN hIB hy hr hKf hK
   refine (callsIn_wide (n:=5)).1 ?_
   refine callsIn_of_wp Tryz.func206 rfl trivial ?_ rfl
   simp only [Tryz.ntmps206,List.size_toArray,List.length_cons,List.length_nil,Nat.reduceAdd,Nat.reduceSub,Array.replicate_succ,Array.replicate_zero,List.push_toArray,List.append_toArray,List.nil_append,List.cons_append]
   obtain ⟨W0,hW0⟩:∃ W0,W.alloc (.cells #[.int .i64 f.kind,.string f.name,.slice wa wn wc,.int .i64 f.frm,.int .i64 f.to,.slice a f.l.length cap] 31)=W0:=⟨_,rfl⟩
   have hB0:Below W.heap.size W W0:=by rw [← hW0];exact (Below.refl _ _).alloc (Nat.le_refl _) _
   have hbox:W0.heap[W.heap.size]? = some (.cells #[.int .i64 f.kind,.string f.name,.slice wa wn wc,.int .i64 f.frm,.int .i64 f.to,.slice a f.l.length cap] 31 (0,0)):=by rw [← hW0];exact heap_alloc_new _ _
   have hI0:=HIB.out k g W W0 HI.out hB0
   have hyl:=HY.out k g W0 hI0 d (.agg #[.int .i64 f.kind,.string f.name,.slice wa wn wc,.int .i64 f.frm,.int .i64 f.to,.slice a f.l.length cap])
   have HI0:=Lib.hid hI0
   have HB0:=Lib.hid hB0
   have HBOX:=Lib.hid hbox
   have HW0:=Lib.hid hW0
   clear hI0 hB0 hbox hW0
   rw [← HW0.out] at hyl
   gi_wp2
   rw [HW0.out]
   refine roundIn_any ((HR.out k g W0 HI0.out d (n + 1) _ f (by omega) (HF.out.ag (Ag.new p HB0.out)) HKF.out).mono ?_)
   clear hyl
   have hNW:N≤W.heap.size:=HIN.out k g W HI.out
   have HPRE:RowKit.Hid (Fil.run s (Fil.pre d f) k g=(Fil.run s [(d,f)] k g).bind fun x=>Fil.run s (Fil.preL (d + 1) f.l) x.1 x.2):=Lib.hid (by rw [Fil.pre_eq,← Fil.run_append];rfl)
   cases hres:Fil.run s [(d,f)] k g with
   | none=>
     rw [hres] at HPRE
     rintro e w1 ⟨hag,rfl,hstop⟩
     have HP:=Lib.hid (show WalkPost Inv Stop q (Fil.run s (Fil.pre d f) k g) W (.returned (.bool false)) w1 from by
      rw [HPRE.out];exact ⟨(Ag.new q HB0.out).trans hag,rfl,hstop⟩)
     clear hag hstop
     gi_wp2
     go_ret
     exact HP.out
   | some x=>
     obtain ⟨k1,g1⟩:=x
     rw [hres] at HPRE
     have HPR2:RowKit.Hid (Fil.run s (Fil.pre d f) k g=Fil.run s (Fil.preL (d + 1) f.l) k1 g1):=Lib.hid HPRE.out
     rintro e w1 ⟨hag,rfl,hinv⟩
     have HAG:=Lib.hid hag
     have HINV:=Lib.hid hinv
     have hsW:W.heap.size < W0.heap.size:=(Array.getElem?_eq_some_iff.1 HBOX.out).1
     have hbx1:=(hag.2 _ hsW (HNQ.out _ hNW)).trans HBOX.out
     have c5:=cell_of_row w1 W.heap.size 5 _ _ _ hbx1
     simp only [List.getElem?_toArray,List.getElem?_cons_succ,List.getElem?_cons_zero] at c5
     clear hag hinv hbx1 HPRE
     gi_wp2
     gi_loopw [17] (fun i wr => ∃ (j k2:Nat) (g2:Bool),j≤f.l.length∧i = .int .i64 j∧Fil.run s (Fil.preL (d + 1) (f.l.take j)) k1 g1=some (k2,g2)∧Inv k2 g2 wr∧Ag q W0 wr) (fun i _=>f.l.length - (intOf i).toNat)
     case atStart=>exact ⟨0,k1,g1,Nat.zero_le _,rfl,rfl,HINV.out,HAG.out⟩
     case round=>
      clear c5 HAG HINV
      obtain ⟨j,k2,g2,hj,rfl,hrun,hinv,hag⟩:=hrel
      have HRUN:=Lib.hid hrun
      have HINV:=Lib.hid hinv
      have HAG:=Lib.hid hag
      clear hrun hinv hag
      by_cases hlt:j < f.l.length
      ·obtain ⟨b,off,rfl,hb,hp,hel⟩:=HC.out (by omega)
       obtain ⟨e0,e1,e2,e3,e4,e5,hfe,q0,q1,q2,q3,q4,q5⟩:=hel j hlt
       have hqb:q b:=HPQ.out b hp
       have hb0:b < W0.heap.size:=Nat.lt_of_lt_of_le hb HB0.out.size
       have hcl:∀ o,wr.cell? ⟨b,o,none⟩=W.cell? ⟨b,o,none⟩:=fun o=>(HAG.out.cell hb0 hqb).trans (HB0.out.cell (p:=⟨b,o,none⟩) hb)
       have r0:=(hcl _).trans q0
       have r1:=(hcl _).trans q1
       have r2:=(hcl _).trans q2
       have r3:=(hcl _).trans q3
       have r4:=(hcl _).trans q4
       have r5:=(hcl _).trans q5
       have hji:(j:Int) < (f.l.length:Int):=by omega
       have hsh:=hfe.shape6
       have HFE:=Lib.hid (fun (W2:World) (hg:Ag q W0 W2)=>FilAt.ag hfe (((Ag.new p HB0.out)).trans (hg.weak HPQ.out)))
       clear hel q0 q1 q2 q3 q4 q5 hfe hcl
       obtain ⟨ya,yn,yc,za,zc,heq⟩:=hsh
       simp only [Value.agg.injEq,Array.mk.injEq,List.cons.injEq,and_true] at heq
       obtain ⟨rfl,rfl,rfl,rfl,rfl,rfl⟩:=heq
       obtain ⟨x,hx⟩:∃ x,x=f.l[j]:=⟨_,rfl⟩
       rw [← hx] at HFE r0 r1 r3 r4 r5
       have HSUC:=Lib.hid (Fil.preL_take_succ (d + 1) f.l j hlt)
       rw [← hx] at HSUC
       have HKX:=Lib.hid (show K x from by rw [hx];exact HK.out f HKF.out _ (List.getElem_mem hlt))
       have HCALL:=Lib.hid (fun (W2:World) (hb2:Below wr.heap.size wr W2)=>(show ((d + 1:Nat):Int)=(d:Int) + 1 by omega) ▸ HIH.out _ x (d + 1) k2 g2 W2 (HFE.out W2 (HAG.out.trans (Ag.new q hb2))) HKX.out (HIB.out k2 g2 wr W2 HINV.out hb2) (by omega))
       have HX:=Lib.hid hx
       clear hx
       gi_wp2
       refine ⟨trivial,(callsIn_wide.2 (HCALL.out _ ((Below.refl _ _).alloc (Nat.le_refl _) _))).mono ?_⟩
       have HRS:RowKit.Hid (Fil.run s (Fil.preL (d + 1) (f.l.take (j + 1))) k1 g1=Fil.run s (Fil.pre (d + 1) x) k2 g2):=Lib.hid (by rw [HSUC.out,Fil.run_append,HRUN.out];rfl)
       cases hres2:Fil.run s (Fil.pre (d + 1) x) k2 g2 with
       | none=>
         rw [hres2] at HRS
         rintro e w3 ⟨hag3,rfl,hstop⟩
         have HP:=Lib.hid (show WalkPost Inv Stop q (Fil.run s (Fil.pre d f) k g) W (.returned (.bool false)) w3 from by
          rw [HPR2.out,show f.l=f.l.take (j + 1) ++ f.l.drop (j + 1) from (List.take_append_drop _ _).symm,Fil.preL_append,Fil.run_append,HRS.out]
          exact ⟨((Ag.new q HB0.out).trans HAG.out).trans ((Ag.new q ((Below.refl _ _).alloc (Nat.le_refl _) _)).trans hag3),rfl,hstop⟩)
         clear hag3 hstop
         gi_wp2
         go_ret
         exact HP.out
       | some y=>
         obtain ⟨k3,g3⟩:=y
         rw [hres2] at HRS
         rintro e w3 ⟨hag3,rfl,hinv3⟩
         have HAG3:=Lib.hid (HAG.out.trans ((Ag.new q ((Below.refl _ _).alloc (Nat.le_refl _) _)).trans hag3))
         have HINV3:=Lib.hid hinv3
         clear hag3 hinv3
         gi_wp2
         go_roundw
         case rel=>exact ⟨j + 1,k3,g3,by omega,by go_num,HRS.out,HINV3.out,HAG3.out⟩
         case measure=>simp [intOf];omega
      ·have hji:¬ (j:Int) < (f.l.length:Int):=by omega
       have HE:=Lib.hid (show f.l.take j=f.l from List.take_of_length_le (by omega))
       have HP:=Lib.hid (show WalkPost Inv Stop q (Fil.run s (Fil.pre d f) k g) W (.returned (.bool true)) wr from by
        rw [HPR2.out,← HE.out,HRUN.out];exact ⟨(Ag.new q HB0.out).trans HAG.out,rfl,HINV.out⟩)
       gi_wp2
       go_ret
       exact HP.out
end Go.Proofs.YtaddkkkchkdgkaaGreatDoor
namespace Go.Proofs.YtaddkkkchkdgkaaGreatDoor
open Go.RowKit Go.Sort Go.Extern.Stop Go.Stop Go.Extern
def errV (a0 a1:Addr) (code:Nat):Value:=if code=0 then .nilIface else .iface 324 (.pointer (some (if code=140 then a0 else a1)))
structure Vars (a0 a1:Addr) (w:World):Prop where
 ne:a0≠a1
 g1:w.cell? ⟨1,0,none⟩=some (.iface 324 (.pointer (some a0)))
 g2:w.cell? ⟨2,0,none⟩=some (.iface 324 (.pointer (some a1)))
 b0:∃ c0 t0,w.heap[a0.block]? = some (.cells c0 t0 (0,0))
 b1:∃ c1 t1,w.heap[a1.block]? = some (.cells c1 t1 (0,0))
theorem Vars.below {a0 a1:Addr} {w w':World} (h:Vars a0 a1 w) (hb:Below w.heap.size w w'):Vars a0 a1 w':=by
 obtain ⟨c0,t0,h0⟩:=h.b0
 obtain ⟨c1,t1,h1⟩:=h.b1
 exact ⟨h.ne,(hb.cell (p:=⟨1,0,none⟩) (World.block_lt_of_cell? _ _ h.g1)).trans h.g1,(hb.cell (p:=⟨2,0,none⟩) (World.block_lt_of_cell? _ _ h.g2)).trans h.g2,
  ⟨c0,t0,(hb.block _ (Array.getElem?_eq_some_iff.1 h0).1).trans h0⟩,⟨c1,t1,(hb.block _ (Array.getElem?_eq_some_iff.1 h1).1).trans h1⟩⟩
theorem isTypeOf (v:Value) (w:World):(Extern.ReflectliteType.typeOf #[.iface 324 v]).run Tryz.prog w = .ok (.iface 229 (.agg #[.pointer (some ⟨14,324,none⟩)])) w:=by kernel_rfl
def cmpEntry : Array Value → Sem Value := Extern.ReflectliteType.method fun t => do Rtype.noPackHeld "Comparable" t; pure (.bool (← typeInfo t).comparable)
theorem isComparable (w:World):(cmpEntry #[.agg #[.pointer (some ⟨14,324,none⟩)]]).run Tryz.prog w = .ok (.bool true) w:=by kernel_rfl
theorem isMethodComparable (v : Value) (w : World) : (Go.method 455 229 v "Comparable").run Tryz.prog w = .ok (265, v) w := by kernel_rfl
theorem isComp:(Tryz.prog.info? 324).map (·.comparable)=some true:=by kernel_rfl
theorem isSize:(Tryz.prog.info? 344).map (·.size)=some 1:=by kernel_rfl
theorem noIsE (v:Value) (xT:TypeId) (w:World):(Instr.typeAssert (.iface 324 v) xT 303 true).run Tryz.prog w = .ok (.tuple #[.nilIface,.bool false]) w:=run_typeAssert_lacksB Tryz.underlying303 (by kernel_rfl) (by kernel_rfl) v xT w
theorem noUnwrapE (v:Value) (xT:TypeId) (w:World):(Instr.typeAssert (.iface 324 v) xT 237 true).run Tryz.prog w = .ok (.tuple #[.nilIface,.bool false]) w:=run_typeAssert_lacksB Tryz.underlying237 (by kernel_rfl) (by kernel_rfl) v xT w
theorem noUnwrapsE (v:Value) (xT:TypeId) (w:World):(Instr.typeAssert (.iface 324 v) xT 239 true).run Tryz.prog w = .ok (.tuple #[.nilIface,.bool false]) w:=run_typeAssert_lacksB Tryz.underlying239 (by kernel_rfl) (by kernel_rfl) v xT w
theorem is_same (a:Addr) (w:World) :
  Calls Tryz.prog 174 #[.iface 324 (.pointer (some a)),.iface 324 (.pointer (some a))] w fun e w'=>e = .returned (.bool true)∧w'=w:=by
 obtain ⟨i,hi,hcmp⟩:=Option.map_eq_some_iff.1 isComp
 obtain ⟨j,hj,hjs⟩:=Option.map_eq_some_iff.1 isSize
 have h8:=@run_callFunc_extern Tryz.prog 155 _ Extern.ReflectliteType.typeOf Tryz.func155 (by kernel_rfl) (by kernel_rfl) (by kernel_rfl) (by kernel_rfl)
 have h32:=@run_callFunc_extern Tryz.prog 265 _ cmpEntry Tryz.func265 (by kernel_rfl) (by kernel_rfl) (by kernel_rfl) (by kernel_rfl)
 have tT:=isTypeOf
 have cT:=isComparable
 have mR:=isMethodComparable
 have heq:=run_eql_iface_ptr_same (P:=Tryz.prog) w a Tryz.underlying89 Tryz.underlying324 hi hcmp hj
 go_enter Tryz.func174,Tryz.ntmps174
 go_wp2
 refine wp_loop_rounds 1 ?_
 rw [rounds_succ]
 go_wp2
 go_ret
 exact ⟨rfl,rfl⟩
theorem is_nil (b:Addr) (w:World) :
  Calls Tryz.prog 174 #[.nilIface,.iface 324 (.pointer (some b))] w fun e w'=>e = .returned (.bool false)∧w'=w:=by
 have hn:=run_eql_iface_nil_left (P:=Tryz.prog) w 324 (.pointer (some b)) Tryz.underlying89
 go_enter Tryz.func174,Tryz.ntmps174
 go_wp2
 go_ret
 exact ⟨rfl,rfl⟩
theorem is_other (a b:Addr) (ca cb:Array Value) (ta tb:TypeId) (w:World) (hne:a≠b) (ha:w.heap[a.block]? = some (.cells ca ta (0,0))) (hb:w.heap[b.block]? = some (.cells cb tb (0,0))) :
  Calls Tryz.prog 174 #[.iface 324 (.pointer (some a)),.iface 324 (.pointer (some b))] w fun e w'=>e = .returned (.bool false)∧w'=w:=by
 obtain ⟨i,hi,hcmp⟩:=Option.map_eq_some_iff.1 isComp
 obtain ⟨j,hj,hjs⟩:=Option.map_eq_some_iff.1 isSize
 have h8:=@run_callFunc_extern Tryz.prog 155 _ Extern.ReflectliteType.typeOf Tryz.func155 (by kernel_rfl) (by kernel_rfl) (by kernel_rfl) (by kernel_rfl)
 have h32:=@run_callFunc_extern Tryz.prog 265 _ cmpEntry Tryz.func265 (by kernel_rfl) (by kernel_rfl) (by kernel_rfl) (by kernel_rfl)
 have tT:=isTypeOf
 have cT:=isComparable
 have mR:=isMethodComparable
 have nE:=noIsE
 have uE:=noUnwrapE
 have vE:=noUnwrapsE
 have heq:=run_eql_iface_ptr_other (P:=Tryz.prog) w Tryz.underlying89 Tryz.underlying324 hi hcmp hj (by rw [hjs];decide) hne ha hb
 go_enter Tryz.func174,Tryz.ntmps174
 go_wp2
 refine wp_loop_rounds 1 ?_
 rw [rounds_succ]
 go_wp2
 go_ret
 exact ⟨rfl,rfl⟩
set_option maxRecDepth 100000 in
theorem told_any (a0 a1:Addr) (code:Nat) (w:World) (hv:Vars a0 a1 w) (hc:code=0∨code=140∨code=110) :
  Calls Tryz.prog 129 #[errV a0 a1 code] w fun e w'=>e = .returned (.int .i64 (code:Nat))∧w'=w:=by
 have g1:=hv.g1
 have g2:=hv.g2
 obtain ⟨c0,t0,hb0⟩:=hv.b0
 obtain ⟨c1,t1,hb1⟩:=hv.b1
 have i1:=is_nil a0 w
 have i2:=is_nil a1 w
 have i3:=is_same a0 w
 have i4:=is_same a1 w
 have i5:=is_other a1 a0 c1 c0 t1 t0 w hv.ne.symm hb1 hb0
 have I1:=Lib.hid i1
 have I2:=Lib.hid i2
 have I3:=Lib.hid i3
 have I4:=Lib.hid i4
 have I5:=Lib.hid i5
 clear i1 i2 i3 i4 i5 hv hb0 hb1
 unfold errV
 rcases hc with rfl | rfl | rfl
 ·simp only [if_true]
  go_enter Tryz.func129,Tryz.ntmps129
  go_wp2_with (first
   | (go_at_call 174;with_reducible refine I1.out.mono ?_;rintro e w' ⟨rfl,rfl⟩)
   | (go_at_call 174;with_reducible refine I2.out.mono ?_;rintro e w' ⟨rfl,rfl⟩))
  go_ret
  exact ⟨rfl,rfl⟩
 ·simp only [if_true,if_false,show (140:Nat)≠0 by decide]
  go_enter Tryz.func129,Tryz.ntmps129
  go_wp2_with (go_at_call 174;with_reducible refine I3.out.mono ?_;rintro e w' ⟨rfl,rfl⟩)
  go_ret
  exact ⟨rfl,rfl⟩
 ·simp only [if_false,show (110:Nat)≠0 by decide,show (110:Nat)≠140 by decide]
  go_enter Tryz.func129,Tryz.ntmps129
  go_wp2_with (first
   | (go_at_call 174;with_reducible refine I5.out.mono ?_;rintro e w' ⟨rfl,rfl⟩)
   | (go_at_call 174;with_reducible refine I4.out.mono ?_;rintro e w' ⟨rfl,rfl⟩))
  go_ret
  exact ⟨rfl,rfl⟩
end Go.Proofs.YtaddkkkchkdgkaaGreatDoor
namespace Go.Proofs.YtaddkkkchkdgkaaGreatDoor
open Go.RowKit Go.Sort Go.Shelf
open Tess (Fil)
attribute [local go_sem] Oper.semAt_some
theorem cell_of_box {W:World} {B:Nat} {v:Value} {t:TypeId} (h:W.heap[B]? = some (.cells #[v] t (0,0))):W.cell? ⟨B,0,none⟩=some v∧W.frozen? ⟨B,0,none⟩=false:=by
 constructor <;> simp [World.cell?,World.frozen?,h]
theorem grownBy_putObj (W:World) (l:Nat) (o:Obj):W.grownBy (W.putObj l o) (some l):=
 ⟨rfl,rfl,rfl,by simp,fun k _ hk=>World.putObj_heap_other (fun e=>hk (by rw [e]))⟩
theorem filters_any (v:Value) (d:Nat) (cs:Array Value) (hv:v = .agg cs) (w:World) :
  Calls Tryz.prog 175 #[v,.int .i64 d] w fun e w'=>e = .returned (.func (.func 205) #[] #[.pointer (some ⟨w.heap.size,0,none⟩),.pointer (some ⟨w.heap.size + 1,0,none⟩)])∧(w.alloc (.cells cs 31)).alloc (.cells #[.int .i64 d] 3)=w':=by
 subst hv
 go_enter Tryz.func175,Tryz.ntmps175
 go_wp2
 go_ret
 exact ⟨rfl,rfl⟩
theorem laid6 (w:World) (A B C D E F:Obj):(((((((w.alloc A).alloc B).alloc C).alloc D).alloc E).alloc F)).heap[w.heap.size]? = some A∧(((((((w.alloc A).alloc B).alloc C).alloc D).alloc E).alloc F)).heap[w.heap.size + 2]? = some C∧(((((((w.alloc A).alloc B).alloc C).alloc D).alloc E).alloc F)).heap[w.heap.size + 3]? = some D ∧
  (((((((w.alloc A).alloc B).alloc C).alloc D).alloc E).alloc F)).heap[w.heap.size + 4]? = some E∧(((((((w.alloc A).alloc B).alloc C).alloc D).alloc E).alloc F)).heap[w.heap.size + 5]? = some F∧(((((((w.alloc A).alloc B).alloc C).alloc D).alloc E).alloc F)).heap.size=w.heap.size + 6∧Below w.heap.size w (((((((w.alloc A).alloc B).alloc C).alloc D).alloc E).alloc F)):=by
 obtain ⟨h1,_,h3,h4,h5,h6⟩:=laid4 w A B C D
 obtain ⟨k1,k2,k3,k4⟩:=laid2 ((((w.alloc A).alloc B).alloc C).alloc D) E F
 rw [h5] at k1 k2
 exact ⟨(k4.block _ (by omega)).trans h1,(k4.block _ (by omega)).trans h3,(k4.block _ (by omega)).trans h4,k1,k2,by rw [k3,h5],h6.trans (k4.mono (by omega))⟩
structure Ck (w:World) (sbx:Array Value) (rec:Loop) (ev:Value) (k:Nat) (W:World):Prop where
 k0:W.heap[w.heap.size]? = some (.cells sbx 24 (0,0))
 k2:W.heap[w.heap.size + 2]? = some (.cells #[ev] 89 (0,0))
 k3:W.heap[w.heap.size + 3]? = some (.cells #[.int .i64 (k:Nat)] 3 (0,0))
 kD:W.heap[w.heap.size + 6]? = some (.deferred (some []))
 kL:W.heap[w.heap.size + 7]? = some (.loop rec)
 below:Below w.heap.size w W
def Ql (B:Nat) (b:Nat):Prop:=b≠B + 2∧b≠B + 3∧b≠B + 7
section
variable {w W W':World} {sbx:Array Value} {rec rec':Loop} {ev ev':Value} {k k':Nat}
theorem Ck.lt (h:Ck w sbx rec ev k W):w.heap.size + 7 < W.heap.size:=(Array.getElem?_eq_some_iff.1 h.kL).1
theorem Ck.later (h:Ck w sbx rec ev k W) (hb:Below W.heap.size W W'):Ck w sbx rec ev k W':=
 have:=h.lt
 ⟨(hb.block _ (by omega)).trans h.k0,(hb.block _ (by omega)).trans h.k2,(hb.block _ (by omega)).trans h.k3,(hb.block _ (by omega)).trans h.kD,(hb.block _ (by omega)).trans h.kL,Bt h.below hb⟩
theorem Ck.set2 (h:Ck w sbx rec ev k W) (ev':Value):Ck w sbx rec ev' k (W.setCell ⟨w.heap.size + 2,0,none⟩ ev'):=
 ⟨(heap_setCell_other _ _ _ _ (by show _≠w.heap.size + 2;omega)).trans h.k0,heap_setCell_same _ _ _ _ _ _ h.k2,(heap_setCell_other _ _ _ _ (by show _≠w.heap.size + 2;omega)).trans h.k3,(heap_setCell_other _ _ _ _ (by show _≠w.heap.size + 2;omega)).trans h.kD,(heap_setCell_other _ _ _ _ (by show _≠w.heap.size + 2;omega)).trans h.kL,h.below.setCell (by show _≤w.heap.size + 2;omega) _⟩
theorem Ck.set3 (h:Ck w sbx rec ev k W) (k':Nat) (n:Int) (hn:n=(k':Nat)):Ck w sbx rec ev k' (W.setCell ⟨w.heap.size + 3,0,none⟩ (.int .i64 n)):=by
 subst hn
 exact ⟨(heap_setCell_other _ _ _ _ (by show _≠w.heap.size + 3;omega)).trans h.k0,(heap_setCell_other _ _ _ _ (by show _≠w.heap.size + 3;omega)).trans h.k2,heap_setCell_same _ _ _ _ _ _ h.k3,(heap_setCell_other _ _ _ _ (by show _≠w.heap.size + 3;omega)).trans h.kD,(heap_setCell_other _ _ _ _ (by show _≠w.heap.size + 3;omega)).trans h.kL,h.below.setCell (by show _≤w.heap.size + 3;omega) _⟩
theorem Ck.but (h:Ck w sbx rec ev k W) (hs:Rf.SameBut (w.heap.size + 7) W W') (hl:W'.heap[w.heap.size + 7]? = some (.loop rec')):Ck w sbx rec' ev k W':=
 ⟨(hs.block _ (by omega)).trans h.k0,(hs.block _ (by omega)).trans h.k2,(hs.block _ (by omega)).trans h.k3,(hs.block _ (by omega)).trans h.kD,hl,h.below.trans (hs.below (by omega))⟩
theorem ql_but {B:Nat} (hs:Rf.SameBut (B + 7) W W'):Ag (Ql B) W W':=⟨by rw [hs.size];exact Nat.le_refl _,fun b _ hq=>hs.block b hq.2.2⟩
theorem ql_set2 (B:Nat) (W:World) (v:Value):Ag (Ql B) W (W.setCell ⟨B + 2,0,none⟩ v):=Ag.set _ _ _ (fun h=>h.1 rfl)
theorem ql_set3 (B:Nat) (W:World) (v:Value):Ag (Ql B) W (W.setCell ⟨B + 3,0,none⟩ v):=Ag.set _ _ _ (fun h=>h.2.1 rfl)
theorem Ck.after {W0 W4 W5:World} {a0 a1:Addr} {X:Nat} {T:TypeId} {n:Int} {a b c d e f s0 s1 s2:Value} (hV:Vars a0 a1 w) (hS:Ck w sbx rec ev k (W4.setCell ⟨w.heap.size + 3,0,none⟩ (.int .i64 n))) (hA:Ag (Ql w.heap.size) W0 (W4.setCell ⟨w.heap.size + 3,0,none⟩ (.int .i64 n)))
  (hX:W4.heap[X]? = some (.cells #[a,b,c,d,e,f] T (0,0))) (hX3:X≠w.heap.size + 3) (hsb:sbx=#[s0,s1,s2]) (hB:Below (W4.setCell ⟨w.heap.size + 3,0,none⟩ (.int .i64 n)).heap.size (W4.setCell ⟨w.heap.size + 3,0,none⟩ (.int .i64 n)) W5) :
  Hid (Ck w sbx rec ev k W5)∧Hid (Ag (Ql w.heap.size) W0 W5)∧W5.cell? ⟨X,0,none⟩=some a∧W5.cell? ⟨X,3,none⟩=some d∧W5.cell? ⟨X,4,none⟩=some e∧W5.cell? ⟨w.heap.size,2,none⟩=some s2 ∧
   W5.cell? ⟨w.heap.size + 2,0,none⟩=some ev∧W5.frozen? ⟨w.heap.size + 2,0,none⟩=false∧W5.cell? ⟨1,0,none⟩=some (.iface 324 (.pointer (some a0)))∧W5.cell? ⟨2,0,none⟩=some (.iface 324 (.pointer (some a1))):=by
 have hS5:=hS.later hB
 have hlt:X < (W4.setCell ⟨w.heap.size + 3,0,none⟩ (.int .i64 n)).heap.size:=by
  have:=(Array.getElem?_eq_some_iff.1 hX).1
  simpa using this
 have hX5:=(hB.block X hlt).trans ((heap_setCell_other _ _ _ _ (by show _≠w.heap.size + 3;exact hX3)).trans hX)
 have y0:=cell_of_row W5 X 0 _ _ _ hX5
 have y3:=cell_of_row W5 X 3 _ _ _ hX5
 have y4:=cell_of_row W5 X 4 _ _ _ hX5
 have u2:=cell_of_row W5 w.heap.size 2 _ _ _ hS5.k0
 rw [hsb] at u2
 obtain ⟨c2,z2⟩:=cell_of_box hS5.k2
 have hv:=hV.below hS5.below
 exact ⟨Lib.hid hS5,Lib.hid (hA.trans (Ag.new _ hB)),y0,y3,y4,u2,c2,z2,hv.g1,hv.g2⟩
theorem Ck.fits (hS:Ck w sbx rec ev k W) {a0 a1:Addr} (hV:Vars a0 a1 w) {W0 W5:World} (hA:Ag (Ql w.heap.size) W0 W) (hB:Below W.heap.size W W5) :
  Hid (Ck w sbx rec ev k W5)∧Hid (Ag (Ql w.heap.size) W0 W5)∧W5.cell? ⟨w.heap.size + 2,0,none⟩=some ev∧W5.frozen? ⟨w.heap.size + 2,0,none⟩=false∧W5.cell? ⟨1,0,none⟩=some (.iface 324 (.pointer (some a0)))∧W5.cell? ⟨2,0,none⟩=some (.iface 324 (.pointer (some a1))):=by
 have hS5:=hS.later hB
 obtain ⟨c2,z2⟩:=cell_of_box hS5.k2
 have hv:=hV.below hS5.below
 exact ⟨Lib.hid hS5,Lib.hid (hA.trans (Ag.new _ hB)),c2,z2,hv.g1,hv.g2⟩
end
set_option maxRecDepth 100000 in
set_option maxHeartbeats 4000000 in
theorem checked_any (a0 a1:Addr) (p:Nat→Prop) (n:Nat) (vs v:Value) (s:Tess.Sch) (f:Fil) (w:World) (hV:Vars a0 a1 w) (hs:SchAt p w vs s) (hf:FilAt p n w v f) (hn:n≤100)
  (hK:Fil.allP (fun x=>decide (-9223372036854775808≤x.kind) && decide (x.kind≤9223372036854775807)) f=true) :
  Calls Tryz.prog 130 #[vs,v] w fun e w'=>e = .returned (errV a0 a1 (Fil.chk s 0 false (Fil.pre 1 f)))∧Below w.heap.size w w':=by
 have HS:=Lib.hid hs
 have HF:=Lib.hid hf
 have HV:=Lib.hid hV
 obtain ⟨vd,vm,rfl,hd,hm,_,_⟩:=hs
 obtain ⟨ad,capd,rfl,_⟩:=slp_len hd
 obtain ⟨am,capm,rfl,_⟩:=slp_len hm
 obtain ⟨wa,wn,wc,za,zc,rfl⟩:=hf.shape6
 clear hd hm hV hf
 refine (callsIn_wide (n:=5)).1 ?_
 refine callsIn_of_wp_marks Tryz.func130 rfl trivial ?_ rfl
 simp only [Tryz.ntmps130,List.size_toArray,List.length_cons,List.length_nil,Nat.reduceAdd,Nat.reduceSub,Array.replicate_succ,Array.replicate_zero,List.push_toArray,List.append_toArray,List.nil_append,List.cons_append]
 gi_wp2
 refine Rf.wpIn_scope_straight ?_
 gi_wp2
 refine wpIn_label ?_
 gi_wp2_with (refine ⟨trivial,?_⟩;gi_at_call 175;refine (callsIn_wide.2 (filters_any _ 1 _ rfl _)).mono ?_;rintro e w' ⟨rfl,rfl⟩)
 obtain ⟨sbx,hsbx⟩:∃ sbx:Array Value,sbx=#[.slice ad s.dims.length capd,.slice am s.mets.length capm,.int .i64 s.grain]:=⟨_,rfl⟩
 obtain ⟨W0,hW0⟩:∃ W0,(((((((w.alloc (.cells #[.slice ad s.dims.length capd,.slice am s.mets.length capm,.int .i64 s.grain] 24)).alloc (.cells #[.int .i64 f.kind,.string f.name,.slice wa wn wc,.int .i64 f.frm,.int .i64 f.to,.slice za f.l.length zc] 31)).alloc (.cells #[.nilIface] 89)).alloc (.cells #[.int .i64 0] 3)).alloc (.cells #[.int .i64 f.kind,.string f.name,.slice wa wn wc,.int .i64 f.frm,.int .i64 f.to,.slice za f.l.length zc] 31)).alloc (.cells #[.int .i64 1] 3)))=W0:=⟨_,rfl⟩
 obtain ⟨h0,h2,h3,h4,h5,hS0,hB0⟩:=laid6 w (.cells #[.slice ad s.dims.length capd,.slice am s.mets.length capm,.int .i64 s.grain] 24) (.cells #[.int .i64 f.kind,.string f.name,.slice wa wn wc,.int .i64 f.frm,.int .i64 f.to,.slice za f.l.length zc] 31) (.cells #[.nilIface] 89) (.cells #[.int .i64 0] 3) (.cells #[.int .i64 f.kind,.string f.name,.slice wa wn wc,.int .i64 f.frm,.int .i64 f.to,.slice za f.l.length zc] 31) (.cells #[.int .i64 1] 3)
 rw [hW0] at h0 h2 h3 h4 h5 hS0 hB0
 rw [← hsbx] at h0
 simp only [hW0,Nat.add_assoc,Nat.reduceAdd]
 have HSBX:=Lib.hid hsbx
 clear hW0 hsbx
 refine Rf.range_wide (gf:=205) (lb:=#[.pointer (some ⟨w.heap.size + 4,0,none⟩),.pointer (some ⟨w.heap.size + 5,0,none⟩)]) rfl (enters_of Tryz.func205 (by kernel_rfl) rfl) ?_
 intro fn W1 hL hD hB1 hS1
 rw [hS0] at hL hD hS1 ⊢
 obtain ⟨rec,hrec,hL⟩:∃ rec:Loop,rec=_∧W1.heap[w.heap.size + 6 + 1]? = some (.loop rec):=⟨_,rfl,hL⟩
 have HREC:=Lib.hid hrec
 have hst:rec.state = .ready∧rec.params.size=2∧rec.pending=none:=by rw [hrec];exact ⟨rfl,rfl,rfl⟩
 clear hrec
 obtain ⟨hst,hps,hpe⟩:=hst
 have hI:Ck w sbx rec (errV a0 a1 0) 0 W1:=⟨(hB1.block _ (by omega)).trans h0,(hB1.block _ (by omega)).trans h2,(hB1.block _ (by omega)).trans h3,hD,hL,Bt hB0 hB1⟩
 have h4':=(hB1.block _ (by omega)).trans h4
 have h5':=(hB1.block _ (by omega)).trans h5
 have HI:=Lib.hid hI
 clear hB0 hB1 h0 h2 h3 h4 h5 hD hL hI
 refine callsIn_of_wp Tryz.func205 rfl trivial ?_ rfl
 simp only [Tryz.ntmps205,List.size_toArray,List.length_cons,List.length_nil,Nat.reduceAdd,Nat.reduceSub,Array.replicate_succ,Array.replicate_zero,List.push_toArray,List.append_toArray,List.nil_append,List.cons_append]
 have c40:=cell_of_row W1 (w.heap.size + 4) 0 _ _ _ h4'
 have c41:=cell_of_row W1 (w.heap.size + 4) 1 _ _ _ h4'
 have c42:=cell_of_row W1 (w.heap.size + 4) 2 _ _ _ h4'
 have c43:=cell_of_row W1 (w.heap.size + 4) 3 _ _ _ h4'
 have c44:=cell_of_row W1 (w.heap.size + 4) 4 _ _ _ h4'
 have c45:=cell_of_row W1 (w.heap.size + 4) 5 _ _ _ h4'
 have c50:=cell_of_row W1 (w.heap.size + 5) 0 _ _ _ h5'
 simp only [List.getElem?_toArray,List.getElem?_cons_succ,List.getElem?_cons_zero] at c40 c41 c42 c43 c44 c45 c50
 clear h4' h5'
 obtain ⟨q',hq'⟩:∃ q':Nat→Prop,q'=fun b=>p b∧b < w.heap.size:=⟨_,rfl⟩
 have HSW:RowKit.Hid (∀ W,Below w.heap.size w W→SchAt q' W (.agg #[.slice ad s.dims.length capd,.slice am s.mets.length capm,.int .i64 s.grain]) s):=Lib.hid (fun W hB=>by
  rw [hq']
  obtain ⟨vd,vm,e1,e2,e3,e4,e5⟩:=HS.out
  exact SchAt.ag ⟨vd,vm,e1,e2.lt,e3.lt,e4,e5⟩ (Ag.below _ hB fun b _ hb=>hb.2))
 have HFW:RowKit.Hid (∀ W,Below w.heap.size w W→FilAt q' n W (.agg #[.int .i64 f.kind,.string f.name,.slice wa wn wc,.int .i64 f.frm,.int .i64 f.to,.slice za f.l.length zc]) f):=Lib.hid (fun W hB=>by
  rw [hq']
  exact HF.out.lt.ag (Ag.below _ hB fun b _ hb=>hb.2))
 have HWALK:RowKit.Hid (Calls Tryz.prog 206 #[.agg #[.int .i64 f.kind,.string f.name,.slice wa wn wc,.int .i64 f.frm,.int .i64 f.to,.slice za f.l.length zc],.int .i64 ((1:Nat):Int),.func (.yield (w.heap.size + 6 + 1)) #[] #[]] W1
   (WalkPost (fun k g W=>k≤40∧Ck w sbx rec (errV a0 a1 (if g then 110 else 0)) k W) (fun W => ∃ k,Ck w sbx { rec with state:=.done,pending:=some (.exit 0) } (errV a0 a1 140) k W) (Ql w.heap.size) (Fil.run s (Fil.pre 1 f) 0 false) W1)):=Lib.hid (by
  refine walk_any s (w.heap.size + 6 + 1) rec.fn (fun d v=>(rec.params.zip #[.int .i64 (d:Nat),v]).foldl (fun tmps (t,a)=>tmps.setIfInBounds t a) rec.tmps) rec.assign rec.body _ _ q' (Ql w.heap.size) (w.heap.size + 8)
   (fun x => -9223372036854775808≤x.kind∧x.kind≤9223372036854775807∧Fil.allP (fun x=>decide (-9223372036854775808≤x.kind) && decide (x.kind≤9223372036854775807)) x=true) ?_
   (fun b hb=>by rw [hq'] at hb;exact ⟨by have:=hb.2;omega,by have:=hb.2;omega,by have:=hb.2;omega⟩) (fun b hb=>⟨by omega,by omega,by omega⟩) (fun k g W h=>by have:=h.2.lt;omega) (fun k g W W' h hb=>⟨h.1,h.2.later hb⟩)
   (fun k g W h d v=>run_yield h.2.kL (by rw [hps];rfl)) ?_ n _ f 1 0 false W1 (HFW.out W1 HI.out.below) ?_ ⟨by omega,HI.out⟩ (by omega)
  ·intro f hf x hx
   have hall:=hf.2.2
   rw [Fil.allP_eq,Bool.and_eq_true,List.all_eq_true] at hall
   have h2:=hall.2 x hx
   have h3:=h2
   rw [Fil.allP_eq,Bool.and_eq_true,Bool.and_eq_true,decide_eq_true_iff,decide_eq_true_iff] at h3
   exact ⟨h3.1.1,h3.1.2,h2⟩
  ·intro k g W hInv d m v x hd hfx hKx
   obtain ⟨xa,xn,xc,ya,yc,rfl⟩:=hfx.shape6
   obtain ⟨hk40,hInv⟩:=hInv
   have HINV:=Lib.hid hInv
   have HFX:=Lib.hid hfx
   have HKX:=Lib.hid (And.intro hKx.1 hKx.2.1)
   clear hInv hfx hKx
   clear c40 c41 c42 c43 c44 c45 c50
   refine Rf.round_wide (r:=rec) ?_
   have hrr:=HREC.out
   subst hrr
   dsimp only
   gi_wp2_with (rw [Oper.semAt_eq _ _ _ (fun c h=>by cases h)];go_simp;try go_bits)
   have hB1:=(Below.refl W.heap.size W).alloc (Nat.le_refl _) (.cells #[.int .i64 x.kind,.string x.name,.slice xa xn xc,.int .i64 x.frm,.int .i64 x.to,.slice ya x.l.length yc] 31)
   have HS1:=Lib.hid (HINV.out.later hB1)
   have HA1:=Lib.hid (Ag.new (Ql w.heap.size) hB1)
   have HBOX:=Lib.hid (heap_alloc_new W (.cells #[.int .i64 x.kind,.string x.name,.slice xa xn xc,.int .i64 x.frm,.int .i64 x.to,.slice ya x.l.length yc] 31))
   have hWl:=HINV.out.lt
   clear hB1
   refine ⟨HS1.out.kL,fun W4 hs4 hl4 => ?_⟩
   have HS4:=Lib.hid (HS1.out.but hs4 hl4)
   have HA4:=Lib.hid (HA1.out.trans (ql_but hs4))
   have HX4:=Lib.hid ((hs4.block W.heap.size (by omega)).trans HBOX.out)
   clear hs4 hl4 HS1 HA1 HBOX
   obtain ⟨c3,z3⟩:=cell_of_box HS4.out.k3
   have HIR:=Lib.hid (fun (W5:World) (hag:Ag (Ql w.heap.size) W W5) (hb:Below w.heap.size w W5)=>isRight_any q' m _ _ s x W5 (HSW.out W5 hb) (HFX.out.ag (hag.weak fun b hb=>by rw [hq'] at hb;exact ⟨by have:=hb.2;omega,by have:=hb.2;omega,by have:=hb.2;omega⟩)) HKX.out)
   by_cases h40:40 < k + 1
   ·have d40:decide ((40:Int) < (k:Int) + 1)=true:=decide_eq_true (by omega)
    have hR:Fil.run s [(d,x)] k g=none:=by simp [Fil.run,h40]
    have HSX:=Lib.hid (HS4.out.set3 (k + 1) ((k:Int) + 1) (by omega))
    have HAX:=Lib.hid (HA4.out.trans (ql_set3 w.heap.size W4 (.int .i64 ((k:Int) + 1))))
    obtain ⟨c2,z2⟩:=cell_of_box HS4.out.k2
    have g1:=(HV.out.below HS4.out.below).g1
    rw [hR]
    gi_wp2_with (rw [Oper.semAt_eq _ _ _ (fun c h=>by cases h)];go_simp;try go_bits)
    refine ⟨trivial,?_⟩
    gi_wp2_with (rw [Oper.semAt_eq _ _ _ (fun c h=>by cases h)];go_simp;try go_bits)
    refine ⟨(HSX.out.set2 (errV a0 a1 140)).kL,fun W6 hs6 hl6 => ?_⟩
    exact ⟨(HAX.out.trans (ql_set2 _ _ _)).trans (ql_but hs6),rfl,k + 1,(HSX.out.set2 (errV a0 a1 140)).but hs6 hl6⟩
   have d40:decide ((40:Int) < (k:Int) + 1)=false:=decide_eq_false (by omega)
   have h40d:decide (k + 1 > 40)=false:=decide_eq_false (by omega)
   by_cases h6:6 < d
   ·have d6:decide ((6:Int) < (d:Int))=true:=decide_eq_true (by omega)
    have hR:Fil.run s [(d,x)] k g=none:=by simp [Fil.run,h6]
    have HSX:=Lib.hid (HS4.out.set3 (k + 1) ((k:Int) + 1) (by omega))
    have HAX:=Lib.hid (HA4.out.trans (ql_set3 w.heap.size W4 (.int .i64 ((k:Int) + 1))))
    obtain ⟨c2,z2⟩:=cell_of_box HS4.out.k2
    have g1:=(HV.out.below HS4.out.below).g1
    rw [hR]
    gi_wp2_with (rw [Oper.semAt_eq _ _ _ (fun c h=>by cases h)];go_simp;try go_bits)
    refine ⟨trivial,?_⟩
    gi_wp2_with (rw [Oper.semAt_eq _ _ _ (fun c h=>by cases h)];go_simp;try go_bits)
    refine ⟨(HSX.out.set2 (errV a0 a1 140)).kL,fun W6 hs6 hl6 => ?_⟩
    exact ⟨(HAX.out.trans (ql_set2 _ _ _)).trans (ql_but hs6),rfl,k + 1,(HSX.out.set2 (errV a0 a1 140)).but hs6 hl6⟩
   have d6:decide ((6:Int) < (d:Int))=false:=decide_eq_false (by omega)
   have h6d:decide (d > 6)=false:=decide_eq_false (by omega)
   have HSX:=Lib.hid (HS4.out.set3 (k + 1) ((k:Int) + 1) (by omega))
   have HAX:=Lib.hid (HA4.out.trans (ql_set3 w.heap.size W4 (.int .i64 ((k:Int) + 1))))
   have u0:=cell_of_row W4 w.heap.size 0 _ _ _ HS4.out.k0
   have u1:=cell_of_row W4 w.heap.size 1 _ _ _ HS4.out.k0
   have u2:=cell_of_row W4 w.heap.size 2 _ _ _ HS4.out.k0
   rw [HSBX.out] at u0 u1 u2
   have v0:=cell_of_row W4 W.heap.size 0 _ _ _ HX4.out
   have v1:=cell_of_row W4 W.heap.size 1 _ _ _ HX4.out
   have v2:=cell_of_row W4 W.heap.size 2 _ _ _ HX4.out
   have v3:=cell_of_row W4 W.heap.size 3 _ _ _ HX4.out
   have v4:=cell_of_row W4 W.heap.size 4 _ _ _ HX4.out
   have v5:=cell_of_row W4 W.heap.size 5 _ _ _ HX4.out
   simp only [List.getElem?_toArray,List.getElem?_cons_succ,List.getElem?_cons_zero] at u0 u1 u2 v0 v1 v2 v3 v4 v5
   have n1:W.heap.size≠w.heap.size + 3:=by omega
   have n2:w.heap.size≠w.heap.size + 3:=by omega
   cases hown:Fil.own s x
   ·have hR:Fil.run s [(d,x)] k g=none:=by simp [Fil.run,hown]
    rw [hR]
    gi_wp2_with (first | (have hxx:=HSX;clear hxx;refine ⟨trivial,?_⟩;gi_at_call 176;refine (callsIn_wide.2 (HIR.out _ HAX.out HSX.out.below)).mono ?_;rintro e W5 ⟨rfl,hB5⟩;rw [hown];obtain ⟨HSY,HAY,y0,y3,y4,u2',c2,z2,g1,g2⟩:=Ck.after HV.out HSX.out HAX.out HX4.out n1 HSBX.out hB5;clear hB5 HSX HAX) | (rw [Oper.semAt_eq _ _ _ (fun c h=>by cases h)];go_simp;try go_bits))
    refine ⟨(HSY.out.set2 (errV a0 a1 140)).kL,fun W6 hs6 hl6 => ?_⟩
    exact ⟨(HAY.out.trans (ql_set2 _ _ _)).trans (ql_but hs6),rfl,k + 1,(HSY.out.set2 (errV a0 a1 140)).but hs6 hl6⟩
   ·by_cases hk6:x.kind=6
    ·have d66:(x.kind == (6:Int))=true:=by rw [hk6];rfl
     have HFI:=Lib.hid (gFits_any x.frm x.to s.grain)
     cases hsf:Fil.spanFits x.frm x.to s.grain
     ·have hR:Fil.run s [(d,x)] k g=some (k + 1,true):=by simp [Fil.run,hown,h40,h6,Fil.badGrain,hk6,hsf]
      rw [hR]
      rw [hsf] at HFI
      clear hk6
      gi_wp2_with (first | (have hxx:=HSX;clear hxx;refine ⟨trivial,?_⟩;gi_at_call 176;refine (callsIn_wide.2 (HIR.out _ HAX.out HSX.out.below)).mono ?_;rintro e W5 ⟨rfl,hB5⟩;rw [hown];obtain ⟨HSY,HAY,y0,y3,y4,u2',c2,z2,g1,g2⟩:=Ck.after HV.out HSX.out HAX.out HX4.out n1 HSBX.out hB5;clear hB5 HSX HAX) | (rw [Oper.semAt_eq _ _ _ (fun c h=>by cases h)];go_simp;try go_bits))
      refine ⟨trivial,?_⟩
      gi_at_call 177
      refine (callsIn_wide.2 (HFI.out _)).mono ?_
      rintro e W7 ⟨rfl,hB7⟩
      obtain ⟨HSZ,HAZ,c2',z2',g1',g2'⟩:=Ck.fits HSY.out HV.out HAY.out hB7
      gi_wp2_with (rw [Oper.semAt_eq _ _ _ (fun c h=>by cases h)];go_simp;try go_bits)
      refine ⟨(HSZ.out.set2 (errV a0 a1 110)).kL,fun W6 hs6 hl6 => ?_⟩
      exact ⟨(HAZ.out.trans (ql_set2 _ _ _)).trans (ql_but hs6),rfl,by omega,(HSZ.out.set2 (errV a0 a1 110)).but hs6 hl6⟩
     ·have hR:Fil.run s [(d,x)] k g=some (k + 1,g):=by simp [Fil.run,hown,h40,h6,Fil.badGrain,hk6,hsf]
      rw [hR]
      rw [hsf] at HFI
      clear hk6
      gi_wp2_with (first | (have hxx:=HSX;clear hxx;refine ⟨trivial,?_⟩;gi_at_call 176;refine (callsIn_wide.2 (HIR.out _ HAX.out HSX.out.below)).mono ?_;rintro e W5 ⟨rfl,hB5⟩;rw [hown];obtain ⟨HSY,HAY,y0,y3,y4,u2',c2,z2,g1,g2⟩:=Ck.after HV.out HSX.out HAX.out HX4.out n1 HSBX.out hB5;clear hB5 HSX HAX) | (rw [Oper.semAt_eq _ _ _ (fun c h=>by cases h)];go_simp;try go_bits))
      refine ⟨trivial,?_⟩
      gi_at_call 177
      refine (callsIn_wide.2 (HFI.out _)).mono ?_
      rintro e W7 ⟨rfl,hB7⟩
      obtain ⟨HSZ,HAZ,c2',z2',g1',g2'⟩:=Ck.fits HSY.out HV.out HAY.out hB7
      gi_wp2_with (rw [Oper.semAt_eq _ _ _ (fun c h=>by cases h)];go_simp;try go_bits)
      refine ⟨HSZ.out.kL,fun W6 hs6 hl6 => ?_⟩
      exact ⟨HAZ.out.trans (ql_but hs6),rfl,by omega,HSZ.out.but hs6 hl6⟩
    ·have hR:Fil.run s [(d,x)] k g=some (k + 1,g):=by simp [Fil.run,hown,h40,h6,Fil.badGrain,hk6]
     have d66:(x.kind == (6:Int))=false:=by rw [beq_eq_false_iff_ne];exact hk6
     rw [hR]
     gi_wp2_with (first | (have hxx:=HSX;clear hxx;refine ⟨trivial,?_⟩;gi_at_call 176;refine (callsIn_wide.2 (HIR.out _ HAX.out HSX.out.below)).mono ?_;rintro e W5 ⟨rfl,hB5⟩;rw [hown];obtain ⟨HSY,HAY,y0,y3,y4,u2',c2,z2,g1,g2⟩:=Ck.after HV.out HSX.out HAX.out HX4.out n1 HSBX.out hB5;clear hB5 HSX HAX) | (rw [Oper.semAt_eq _ _ _ (fun c h=>by cases h)];go_simp;try go_bits))
     refine ⟨trivial,?_⟩
     gi_wp2_with (rw [Oper.semAt_eq _ _ _ (fun c h=>by cases h)];go_simp;try go_bits)
     refine ⟨HSY.out.kL,fun W6 hs6 hl6 => ?_⟩
     exact ⟨HAY.out.trans (ql_but hs6),rfl,by omega,HSY.out.but hs6 hl6⟩
  ·have h3:=hK
   rw [Fil.allP_eq,Bool.and_eq_true,Bool.and_eq_true,decide_eq_true_iff,decide_eq_true_iff] at h3
   exact ⟨h3.1.1,h3.1.2,hK⟩)
 clear hq' hK
 gi_wp2
 refine ⟨trivial,(callsIn_wide.2 HWALK.out).mono ?_⟩
 have HCHK:=Lib.hid (Fil.chk_run s (Fil.pre 1 f) 0 false)
 clear HWALK
 cases hrun:Fil.run s (Fil.pre 1 f) 0 false with
 | none=>
   rw [hrun] at HCHK
   rintro e W3 ⟨_,rfl,kx,hstop⟩
   have HST:=Lib.hid hstop
   clear hstop
   gi_wp2
   go_end0
   refine ⟨⟨_,rfl⟩,_,HST.out.kL,by simp,?_⟩
   intro W4 hW4
   dsimp only
   obtain ⟨q2,y2⟩:=cell_of_box ((hW4.block (w.heap.size + 2) (by omega)).trans HST.out.k2)
   have hKD:=(hW4.block (w.heap.size + 6) (by omega)).trans HST.out.kD
   have hsz4:w.heap.size + 7 < W4.heap.size:=by rw [hW4.size];exact HST.out.lt
   have HB4:=Lib.hid (HST.out.below.trans (hW4.below (by omega)))
   clear hW4 HST
   gi_wp2
   refine ⟨by simp,.inl ⟨_,_,rfl,run_takeDeferred hKD,?_⟩⟩
   refine ⟨_,results_tmp rfl _ _ _,by rw [HCHK.out];rfl,?_⟩
   exact HB4.out.grown (grownBy_putObj W4 (w.heap.size + 6) (.deferred none)) (by omega) (fun k e=>by cases e;omega)
 | some y=>
   obtain ⟨k9,g9⟩:=y
   rw [hrun] at HCHK
   rintro e W3 ⟨_,rfl,hinv⟩
   have HST:=Lib.hid hinv.2
   clear hinv
   cases g9
   all_goals
    gi_wp2
    go_end0
    refine ⟨⟨_,rfl⟩,_,HST.out.kL,by rw [hst];decide,?_⟩
    intro W4 hW4
    rw [hpe]
    dsimp only
    obtain ⟨q2,y2⟩:=cell_of_box ((hW4.block (w.heap.size + 2) (by omega)).trans HST.out.k2)
    have hKD:=(hW4.block (w.heap.size + 6) (by omega)).trans HST.out.kD
    have hsz4:w.heap.size + 7 < W4.heap.size:=by rw [hW4.size];exact HST.out.lt
    have HB4:=Lib.hid (HST.out.below.trans (hW4.below (by omega)))
    clear hW4 HST
    gi_wp2
    refine ⟨by simp,.inl ⟨_,_,rfl,run_takeDeferred hKD,?_⟩⟩
    refine ⟨_,results_tmp rfl _ _ _,by rw [HCHK.out];rfl,?_⟩
    exact HB4.out.grown (grownBy_putObj W4 (w.heap.size + 6) (.deferred none)) (by omega) (fun k e=>by cases e;omega)
end Go.Proofs.YtaddkkkchkdgkaaGreatDoor
namespace Go.Proofs.YtaddkkkchkdgkaaGreatDoor
open Go.RowKit Go.Sort Go.Shelf
open Tess (Fil)
def kindsOk (f:Fil):Prop:=Fil.allP (fun x=>decide (-9223372036854775808≤x.kind) && decide (x.kind≤9223372036854775807)) f=true
theorem chk_code (s:Tess.Sch) (l:List (Nat×Fil)):∀ n g,Fil.chk s n g l=0∨Fil.chk s n g l=140∨Fil.chk s n g l=110:=by
 induction l with
 | nil=>intro n g;cases g <;> simp [Fil.chk]
 | cons x r ih=>
   intro n g
   obtain ⟨d,x⟩:=x
   simp only [Fil.chk]
   split
   ·exact .inr (.inl rfl)
   ·exact ih _ _
theorem right_cells3 {w w':World} {g:Nat} {x0 x1 x2:Value} {t:TypeId} (hB:Below w.heap.size w w') (hg:w.heap[g]? = some (.cells #[x0,x1,x2] t (0,0))):w'.cell? ⟨g,0,none⟩=some x0∧w'.cell? ⟨g,1,none⟩=some x1∧w'.cell? ⟨g,2,none⟩=some x2:=by
 have hg':=(hB.block _ (Array.getElem?_eq_some_iff.1 hg).1).trans hg
 exact ⟨cell_of_row _ _ 0 _ _ _ hg',cell_of_row _ _ 1 _ _ _ hg',cell_of_row _ _ 2 _ _ _ hg'⟩
theorem right_cells6 {w w':World} {g:Nat} {x0 x1 x2 x3 x4 x5:Value} {t:TypeId} (hB:Below w.heap.size w w') (hg:w.heap[g]? = some (.cells #[x0,x1,x2,x3,x4,x5] t (0,0))):w'.cell? ⟨g,0,none⟩=some x0∧w'.cell? ⟨g,1,none⟩=some x1∧w'.cell? ⟨g,2,none⟩=some x2∧w'.cell? ⟨g,3,none⟩=some x3∧w'.cell? ⟨g,4,none⟩=some x4∧w'.cell? ⟨g,5,none⟩=some x5:=by
 have hg':=(hB.block _ (Array.getElem?_eq_some_iff.1 hg).1).trans hg
 exact ⟨cell_of_row _ _ 0 _ _ _ hg',cell_of_row _ _ 1 _ _ _ hg',cell_of_row _ _ 2 _ _ _ hg',cell_of_row _ _ 3 _ _ _ hg',cell_of_row _ _ 4 _ _ _ hg',cell_of_row _ _ 5 _ _ _ hg'⟩
set_option maxRecDepth 100000 in
theorem check_any (a0 a1:Addr) (p:Nat→Prop) (n:Nat) (vs v:Value) (s:Tess.Sch) (f:Fil) (w:World) (hV:Vars a0 a1 w) (hs:SchAt p w vs s) (hf:FilAt p n w v f) (hn:n≤100) (hK:kindsOk f) :
  Calls Tryz.prog 80 #[vs,v] w fun e w'=>e = .returned (.int .i64 (Fil.checkE s f))∧Below w.heap.size w w':=by
 have HR:=Lib.hid (fun W (hB:Below w.heap.size w W)=>schRight_any vs s p W (hs.ag (Ag.new p hB)))
 have HC:=Lib.hid (fun W (hB:Below w.heap.size w W)=>checked_any a0 a1 p n vs v s f W (hV.below hB) (hs.ag (Ag.new p hB)) (hf.ag (Ag.new p hB)) hn hK)
 have HT:=Lib.hid (fun W (hB:Below w.heap.size w W)=>told_any a0 a1 (Fil.chk s 0 false (Fil.pre 1 f)) W (hV.below hB) (chk_code s _ _ _))
 have HE:RowKit.Hid (Fil.checkE s f=if Tess.schOk s then Fil.chk s 0 false (Fil.pre 1 f) else 100):=Lib.hid rfl
 obtain ⟨vd,vm,rfl,hd,hm,_,_⟩:=hs
 obtain ⟨ad,capd,rfl,_⟩:=slp_len hd
 obtain ⟨am,capm,rfl,_⟩:=slp_len hm
 obtain ⟨wa,wn,wc,za,zc,rfl⟩:=hf.shape6
 clear hd hm hV hf
 obtain ⟨h1,h2,hS0,hB0⟩:=laid2 w (.cells #[.slice ad s.dims.length capd,.slice am s.mets.length capm,.int .i64 s.grain] 24) (.cells #[.int .i64 f.kind,.string f.name,.slice wa wn wc,.int .i64 f.frm,.int .i64 f.to,.slice za f.l.length zc] 31)
 have HB0:=Lib.hid hB0
 have H1:=Lib.hid h1
 have H2:=Lib.hid h2
 clear hB0 h1 h2 hS0
 cases hok:Tess.schOk s
 ·rw [hok] at HR HE
  go_enter Tryz.func80,Tryz.ntmps80
  go_wp2_with (go_at_call 30;refine (HR.out _ HB0.out).mono ?_;rintro e W1 ⟨rfl,hB1⟩;have HB1:=Lib.hid hB1;clear hB1)
  go_ret
  rw [HE.out]
  exact ⟨rfl,Bt HB0.out HB1.out⟩
 ·rw [hok] at HR HE
  go_enter Tryz.func80,Tryz.ntmps80
  go_wp2_with (first | (go_at_call 30;refine (HR.out _ HB0.out).mono ?_;rintro e W1 ⟨rfl,hB1⟩;obtain ⟨y0,y1,y2,y3,y4,y5⟩:=right_cells6 hB1 H2.out;obtain ⟨x0,x1,x2⟩:=right_cells3 hB1 H1.out;have HB1:=Lib.hid hB1;clear hB1) | (go_at_call 130;refine (HC.out _ (Bt HB0.out HB1.out)).mono ?_;rintro e W2 ⟨rfl,hB2⟩;have HB2:=Lib.hid (Bt (Bt HB0.out HB1.out) hB2);clear hB2) | (go_at_call 129;refine (HT.out _ HB2.out).mono ?_;rintro e W3 ⟨rfl,rfl⟩))
  go_ret
  rw [HE.out]
  exact ⟨rfl,HB2.out⟩
end Go.Proofs.YtaddkkkchkdgkaaGreatDoor
namespace Go.Proofs.YtaddkkkchkdgkaaGreatDoor
open Go.RowKit Go.Sort Go.Shelf
open Tess (Fil)
theorem _root_.Tess.bl_lt (a b:ByteArray):Tess.bl a b=decide (a.toList < b.toList):=bytesLess_eq _ _
theorem _root_.Tess.bl_irrefl (a:ByteArray):Tess.bl a a=false:=by rw [Tess.bl_lt];exact decide_eq_false (List.lt_irrefl _)
theorem _root_.Tess.bl_trans {a b c:ByteArray} (h:Tess.bl a b=true) (h':Tess.bl b c=true):Tess.bl a c=true:=by
 rw [Tess.bl_lt] at *;exact decide_eq_true (List.lt_trans (of_decide_eq_true h) (of_decide_eq_true h'))
theorem _root_.Tess.toList_inj {a b:ByteArray} (h:a.toList=b.toList):a=b:=str_eq' (by rw [h];simp)
theorem _root_.Tess.bl_antisymm {a b:ByteArray} (h:Tess.bl a b=false) (h':Tess.bl b a=false):a=b:=by
 rw [Tess.bl_lt] at *
 exact Tess.toList_inj (List.le_antisymm (List.not_lt.1 (of_decide_eq_false h')) (List.not_lt.1 (of_decide_eq_false h)))
theorem leq_not (x p:ByteArray):(Op.bytesLess x.toList p.toList || x.toList == p.toList) = !Tess.bl p x:=by
 cases h:Tess.bl x p
 ·rw [show Op.bytesLess x.toList p.toList=false from h,Bool.false_or]
  cases h2:Tess.bl p x
  ·have:=Tess.bl_antisymm h h2
   subst this
   simp
  ·have hne:x.toList≠p.toList:=fun e=>by rw [Tess.toList_inj e,Tess.bl_irrefl] at h2;cases h2
   simpa using hne
 ·rw [show Op.bytesLess x.toList p.toList=true from h]
  cases h2:Tess.bl p x
  ·rfl
  ·have:=Tess.bl_trans h h2
   rw [Tess.bl_irrefl] at this;cases this
set_option maxRecDepth 100000 in
theorem isWord_any (p:Nat→Prop) (n:Nat) (v:Value) (f:Fil) (x:ByteArray) (w:World) (hf:FilAt p n w v f) (h4:f.kind=4→1≤f.words.length) (h5:f.kind=5→2≤f.words.length) :
  Calls Tryz.prog 188 #[v,.string x] w fun e w'=>e = .returned (.bool (Fil.isWord f x))∧Below w.heap.size w w':=by
 cases n with
 | zero=>exact hf.elim
 | succ n=>
 obtain ⟨vw,za,zc,rfl,_,hw,_,_,_,_⟩:=hf
 have hw:=hw.1
 obtain ⟨wa,wc,rfl,hl,hc⟩:=sls_open hw
 have hB:=(laid1 w (.cells #[.int .i64 f.kind,.string f.name,.slice wa f.words.length wc,.int .i64 f.frm,.int .i64 f.to,.slice za f.l.length zc] 31)).2.2
 have HCELL:RowKit.Hid (∀ k (hk:k < f.words.length),∃ b off,wa=some ⟨b,off,none⟩∧(w.alloc (.cells #[.int .i64 f.kind,.string f.name,.slice wa f.words.length wc,.int .i64 f.frm,.int .i64 f.to,.slice za f.l.length zc] 31)).cell? ⟨b,off + k,none⟩=some (.string (f.words.getD k ByteArray.empty))):=Lib.hid fun k hk=>by
  obtain ⟨b,off,ha,hb,hcl⟩:=hc k hk
  refine ⟨b,off,ha,?_⟩
  rw [hB.cell (p:=⟨b,off + k,none⟩) hb,hcl]
  simp [hk]
 have HC:=Lib.hid (contains_any _ f.words x _ (hw.below hB))
 have HB:=Lib.hid hB
 clear hw hc hB
 by_cases k4:f.kind=4
 ·have hr:Fil.isWord f x=(f.words.getD 0 ByteArray.empty).data.toList.isPrefixOf x.data.toList:=by simp [Fil.isWord,k4]
  have e4:(f.kind == (4:Int))=true:=by rw [k4];rfl
  have hlen:=h4 k4
  clear k4 h4 h5
  rw [hr]
  obtain ⟨b,off,rfl,h0⟩:=HCELL.out 0 hlen
  rw [Nat.add_zero] at h0
  generalize f.words.getD 0 ByteArray.empty=y0 at *
  have HP:=Lib.hid (Tryz.strings_HasPrefix x y0)
  have hz:(0:Int) < (f.words.length:Int):=by omega
  go_enter Tryz.func188,Tryz.ntmps188
  go_wp2_with (go_at_call 218;refine (HP.out _).mono ?_;rintro e W1 ⟨rfl,rfl⟩)
  go_ret
  exact ⟨rfl,HB.out⟩
 have e4:(f.kind == (4:Int))=false:=by rw [beq_eq_false_iff_ne];exact k4
 by_cases k5:f.kind=5
 ·have hr:Fil.isWord f x=(!Tess.bl x (f.words.getD 0 ByteArray.empty) && !Tess.bl (f.words.getD 1 ByteArray.empty) x):=by simp [Fil.isWord,k5]
  have e5:(f.kind == (5:Int))=true:=by rw [k5];rfl
  have hlen:=h5 k5
  clear k4 k5 h4 h5
  rw [hr]
  obtain ⟨b,off,rfl,h0⟩:=HCELL.out 0 (by omega)
  obtain ⟨b',off',hh,h1⟩:=HCELL.out 1 (by omega)
  obtain ⟨rfl,rfl⟩:b'=b∧off'=off:=by cases hh;exact ⟨rfl,rfl⟩
  clear hh
  rw [Nat.add_zero] at h0
  generalize f.words.getD 0 ByteArray.empty=y0 at *
  generalize f.words.getD 1 ByteArray.empty=y1 at *
  have hz:(0:Int) < (f.words.length:Int):=by omega
  have hz1:(1:Int) < (f.words.length:Int):=by omega
  rw [← leq_not x y1]
  cases hA:Tess.bl x y0
  ·have hbl:Op.bytesLess x.toList y0.toList=false:=hA
   clear hA
   go_enter Tryz.func188,Tryz.ntmps188
   go_wp2
   go_ret
   exact ⟨rfl,HB.out⟩
  ·have hbl:Op.bytesLess x.toList y0.toList=true:=hA
   clear hA
   go_enter Tryz.func188,Tryz.ntmps188
   go_wp2
   go_ret
   exact ⟨rfl,HB.out⟩
 have e5:(f.kind == (5:Int))=false:=by rw [beq_eq_false_iff_ne];exact k5
 have hr:Fil.isWord f x=Tess.hasW f.words x:=by simp [Fil.isWord,k4,k5]
 rw [hr]
 clear k4 k5 h4 h5
 go_enter Tryz.func188,Tryz.ntmps188
 go_wp2_with (go_at_call 179;refine HC.out.mono ?_;rintro e W1 ⟨rfl,rfl⟩)
 go_ret
 exact ⟨rfl,HB.out⟩
end Go.Proofs.YtaddkkkchkdgkaaGreatDoor
