/- Joined by mergeK.py: F19, F20, F21, F22, F23, F24 -/
import Derived.Test.YtaddkkkchkdgkaaGreatDoorCC04
import Derived.RegionIn
import Derived.Stop.RegionWithIn
import Derived.OwnWalkIn
import Derived.TacticsInMore
import Derived.LoopNIn
import Derived.LoopIn
import Derived.Shelf.Abstract
import Derived.Shelf.RegionOpen
import Derived.LaidEql
import Derived.Stop.Asserts
import Derived.Test.YtaddkkkchkdgkaaGreatDoorCC02
import Derived.Sort.Walk0
import Derived.Test.YtaddkkkchkdgkaaGreatDoorCC00
namespace Tess
namespace Fil
def run (s:Sch):List (Nat×Fil)→Nat→Bool→Option (Nat×Bool)
 | [],k,g=>some (k,g)
 | (d,x) :: r,k,g=>if k + 1 > 40 || d > 6 || !own s x then none else run s r (k + 1) (g || bG s x)
theorem ra3 (s:Sch) (a b:List (Nat×Fil)):∀ k g,run s (a ++ b) k g=(run s a k g).bind fun x=>run s b x.1 x.2:=by
 induction a with
 | nil=>intro k g;rfl
 | cons x a ih=>
   intro k g
   obtain ⟨d,x⟩:=x
   simp only [List.cons_append,run]
   split
   ·rfl
   ·exact ih _ _
theorem chk_run (s:Sch) (l:List (Nat×Fil)):∀ k g,chk s k g l=match run s l k g with | none=>140 | some (_,g')=>if g' then 110 else 0:=by
 induction l with
 | nil=>intro k g;rfl
 | cons x l ih=>
   intro k g
   obtain ⟨d,x⟩:=x
   simp only [chk,run]
   split
   ·rfl
   ·exact ih _ _
theorem pLt (d:Nat) (q:List Fil) (k:Nat) (h:k < q.length):preL d (q.take (k + 1))=preL d (q.take k) ++ pre d q[k]:=by
 rw [List.take_succ_eq_append_getElem h,pLa];simp [preL]
end Fil
end Tess
namespace Go.Proofs.YtaddkkkchkdgkaaGreatDoor
open Go.RowKit Go.Sort Go.Shelf
open Tess (Fil)
attribute [local go_sem] Oper.semAt_some
theorem rIa {n m:Nat} {P:Program} {l:Nat} {f:FuncId} {tmps:Array Value} {assign body:Code} {w:World} {R:Ending→World→Prop} (h:RoundIn Fence.wide n P l f tmps assign body w R):RoundIn Fence.wide m P l f tmps assign body w R:=
 ⟨h.1,fun c cs _=>h.2 c cs (room_wide _)⟩
def WP (Inv:Nat→Bool→World→Prop) (Stop:World→Prop) (q:Nat→Prop) (r:Option (Nat×Bool)) (W:World) (e:Ending) (W':World):Prop:=
 Ag q W W'∧match r with
  | some (k,g)=>e = .returned (.bool true)∧Inv k g W'
  | none=>e = .returned (.bool false)∧Stop W'
set_option maxRecDepth 100000 in
set_option maxHeartbeats 4000000 in
theorem walk_any (s:Tess.Sch) (l:Nat) (fn0:FuncId) (T:Nat→Value→Array Value) (A B:Code) (Inv:Nat→Bool→World→Prop) (Stop:World→Prop) (p q:Nat→Prop) (N:Nat) (K:Fil→Prop) (hK:∀ f,K f→∀ x ∈ f.l,K x)
  (hpq:∀ b,p b→q b) (hNq:∀ b,N≤b→q b) (hIN:∀ k g W,Inv k g W→N≤W.heap.size) (hIB:∀ k g W W',Inv k g W→Below W.heap.size W W'→Inv k g W')
  (hy:∀ k g W,Inv k g W→∀ (d:Nat) v,(Instr.yield l #[.int .i64 (d:Nat),v]).run Tryz.prog W = .ok (.round l fn0 (T d v) A B) W)
  (hr:∀ k g W,Inv k g W→∀ (d m:Nat) v x,d≤1000→FA2 p m W v x→K x→RoundIn Fence.wide 5 Tryz.prog l fn0 (T d v) A B W (WP Inv Stop q (Fil.run s [(d,x)] k g) W))
  (n:Nat):∀ (v:Value) (f:Fil) (d k:Nat) (g:Bool) (W:World),FA2 p n W v f→K f→Inv k g W→d + n≤1000 →
  Calls Tryz.prog 206 #[v,.int .i64 (d:Nat),.func (.yield l) #[] #[]] W (WP Inv Stop q (Fil.run s (Fil.pre d f) k g) W):=by
 induction n with
 | zero=>intro v f d k g W h;exact h.elim
 | succ n ih=>
   intro v f d k g W hf A4 hI hd
   have HF:=Hd hf
   have HI:=Hd hI
   obtain ⟨vw,a,Az,rfl,_,A9,_,hl,_,hc⟩:=hf
   obtain ⟨wa,wn,wc,rfl⟩:=A9.shape
   have HC:=Hd hc
   have Bm:f.l.length≤9223372036854775807:=by unfold maxLen at hl;omega
   have Bj:=Hd ih
   have A3:=Hd hpq
   have Bd:=Hd hNq
   have Bf:=Hd hIN
   have A5:=Hd hIB
   have HY:=Hd hy
   have HR:=Hd hr
   have A0:=Hd A4
   have HK:=Hd hK
   clear A9 hc hl hI ih hpq hNq hIN hIB hy hr A4 hK
   refine (callsIn_wide (n:=5)).1 ?_
   refine callsIn_of_wp Tryz.func206 rfl trivial ?_ rfl
   simp only [Tryz.ntmps206,List.size_toArray,List.length_cons,List.length_nil,Nat.reduceAdd,Nat.reduceSub,Array.replicate_succ,Array.replicate_zero,List.push_toArray,List.append_toArray,List.nil_append,List.cons_append]
   obtain ⟨W0,At⟩:∃ W0,W.alloc (.cells #[.int .i64 f.kind,.string f.name,.slice wa wn wc,.int .i64 f.frm,.int .i64 f.to,.slice a f.l.length Az] 31)=W0:=⟨_,rfl⟩
   have Ax:Below W.heap.size W W0:=by rw [← At];exact (Below.refl _ _).alloc (Nat.le_refl _) _
   have An:W0.heap[W.heap.size]? = some (.cells #[.int .i64 f.kind,.string f.name,.slice wa wn wc,.int .i64 f.frm,.int .i64 f.to,.slice a f.l.length Az] 31 (0,0)):=by rw [← At];exact heap_alloc_new _ _
   have Av:=A5.out k g W W0 HI.out Ax
   have A1:=HY.out k g W0 Av d (.agg #[.int .i64 f.kind,.string f.name,.slice wa wn wc,.int .i64 f.frm,.int .i64 f.to,.slice a f.l.length Az])
   have Ba:=Hd Av
   have Aj:=Hd Ax
   have Ao:=Hd An
   have A8:=Hd At
   clear Av Ax An At
   rw [← A8.out] at A1
   gi_wp2
   rw [A8.out]
   refine rIa ((HR.out k g W0 Ba.out d (n + 1) _ f (by omega) (HF.out.ag (Ag.new p Aj.out)) A0.out).mono ?_)
   clear A1
   have Bb:N≤W.heap.size:=Bf.out k g W HI.out
   have Ab:RowKit.Hid (Fil.run s (Fil.pre d f) k g=(Fil.run s [(d,f)] k g).bind fun x=>Fil.run s (Fil.preL (d + 1) f.l) x.1 x.2):=Hd (by rw [Fil.pre_eq,← Fil.ra3];rfl)
   cases hres:Fil.run s [(d,f)] k g with
   | none=>
     rw [hres] at Ab
     rintro e w1 ⟨Ae,rfl,Aa⟩
     have HP:=Hd (show WP Inv Stop q (Fil.run s (Fil.pre d f) k g) W (.returned (.bool false)) w1 from by
      rw [Ab.out];exact ⟨(Ag.new q Aj.out).trans Ae,rfl,Aa⟩)
     clear Ae Aa
     gi_wp2
     go_ret
     exact HP.out
   | some x=>
     obtain ⟨k1,g1⟩:=x
     rw [hres] at Ab
     have Ak:RowKit.Hid (Fil.run s (Fil.pre d f) k g=Fil.run s (Fil.preL (d + 1) f.l) k1 g1):=Hd Ab.out
     rintro e w1 ⟨Ae,rfl,hinv⟩
     have Ah:=Hd Ae
     have Ad:=Hd hinv
     have Bg:W.heap.size < W0.heap.size:=(Array.getElem?_eq_some_iff.1 Ao.out).1
     have Ap:=(Ae.2 _ Bg (Bd.out _ Bb)).trans Ao.out
     have c5:=cell_of_row w1 W.heap.size 5 _ _ _ Ap
     simp only [List.getElem?_toArray,List.getElem?_cons_succ,List.getElem?_cons_zero] at c5
     clear Ae hinv Ap Ab
     gi_wp2
     gi_loopw [17] (fun i wr => ∃ (j k2:Nat) (g2:Bool),j≤f.l.length∧i = .int .i64 j∧Fil.run s (Fil.preL (d + 1) (f.l.take j)) k1 g1=some (k2,g2)∧Inv k2 g2 wr∧Ag q W0 wr) (fun i _=>f.l.length - (intOf i).toNat)
     case atStart=>exact ⟨0,k1,g1,Nat.zero_le _,rfl,rfl,Ad.out,Ah.out⟩
     case round=>
      clear c5 Ah Ad
      obtain ⟨j,k2,g2,hj,rfl,Am,hinv,Ae⟩:=hrel
      have As:=Hd Am
      have Ad:=Hd hinv
      have Ah:=Hd Ae
      clear Am hinv Ae
      by_cases hlt:j < f.l.length
      ·obtain ⟨b,Bl,rfl,hb,hp,A2⟩:=HC.out (by omega)
       obtain ⟨e0,e1,e2,e3,e4,e5,Ay,q0,q1,q2,q3,q4,q5⟩:=A2 j hlt
       have Bc:q b:=A3.out b hp
       have Bh:b < W0.heap.size:=Nat.lt_of_lt_of_le hb Aj.out.size
       have Ai:∀ o,wr.cell? ⟨b,o,none⟩=W.cell? ⟨b,o,none⟩:=fun o=>(Ah.out.cell Bh Bc).trans (Aj.out.cell (p:=⟨b,o,none⟩) hb)
       have r0:=(Ai _).trans q0
       have r1:=(Ai _).trans q1
       have r2:=(Ai _).trans q2
       have r3:=(Ai _).trans q3
       have r4:=(Ai _).trans q4
       have r5:=(Ai _).trans q5
       have Bk:(j:Int) < (f.l.length:Int):=by omega
       have Be:=Ay.sh2
       have A6:=Hd (fun (W2:World) (hg:Ag q W0 W2)=>FA2.ag Ay (((Ag.new p Aj.out)).trans (hg.weak A3.out)))
       clear A2 q0 q1 q2 q3 q4 q5 Ay Ai
       obtain ⟨ya,yn,yc,za,zc,A7⟩:=Be
       simp only [Value.agg.injEq,Array.mk.injEq,List.cons.injEq,and_true] at A7
       obtain ⟨rfl,rfl,rfl,rfl,rfl,rfl⟩:=A7
       obtain ⟨x,hx⟩:∃ x,x=f.l[j]:=⟨_,rfl⟩
       rw [← hx] at A6 r0 r1 r3 r4 r5
       have Aq:=Hd (Fil.pLt (d + 1) f.l j hlt)
       rw [← hx] at Aq
       have Bi:=Hd (show K x from by rw [hx];exact HK.out f A0.out _ (List.getElem_mem hlt))
       have Al:=Hd (fun (W2:World) (hb2:Below wr.heap.size wr W2)=>(show ((d + 1:Nat):Int)=(d:Int) + 1 by omega) ▸ Bj.out _ x (d + 1) k2 g2 W2 (A6.out W2 (Ah.out.trans (Ag.new q hb2))) Bi.out (A5.out k2 g2 wr W2 Ad.out hb2) (by omega))
       have HX:=Hd hx
       clear hx
       gi_wp2
       refine ⟨trivial,(callsIn_wide.2 (Al.out _ ((Below.refl _ _).alloc (Nat.le_refl _) _))).mono ?_⟩
       have Au:RowKit.Hid (Fil.run s (Fil.preL (d + 1) (f.l.take (j + 1))) k1 g1=Fil.run s (Fil.pre (d + 1) x) k2 g2):=Hd (by rw [Aq.out,Fil.ra3,As.out];rfl)
       cases hres2:Fil.run s (Fil.pre (d + 1) x) k2 g2 with
       | none=>
         rw [hres2] at Au
         rintro e w3 ⟨Ac,rfl,Aa⟩
         have HP:=Hd (show WP Inv Stop q (Fil.run s (Fil.pre d f) k g) W (.returned (.bool false)) w3 from by
          rw [Ak.out,show f.l=f.l.take (j + 1) ++ f.l.drop (j + 1) from (List.take_append_drop _ _).symm,Fil.pLa,Fil.ra3,Au.out]
          exact ⟨((Ag.new q Aj.out).trans Ah.out).trans ((Ag.new q ((Below.refl _ _).alloc (Nat.le_refl _) _)).trans Ac),rfl,Aa⟩)
         clear Ac Aa
         gi_wp2
         go_ret
         exact HP.out
       | some y=>
         obtain ⟨k3,g3⟩:=y
         rw [hres2] at Au
         rintro e w3 ⟨Ac,rfl,Af⟩
         have Aw:=Hd (Ah.out.trans ((Ag.new q ((Below.refl _ _).alloc (Nat.le_refl _) _)).trans Ac))
         have Ar:=Hd Af
         clear Ac Af
         gi_wp2
         go_roundw
         case rel=>exact ⟨j + 1,k3,g3,by omega,by go_num,Au.out,Ar.out,Aw.out⟩
         case measure=>simp [intOf];omega
      ·have Bk:¬ (j:Int) < (f.l.length:Int):=by omega
       have HE:=Hd (show f.l.take j=f.l from List.take_of_length_le (by omega))
       have HP:=Hd (show WP Inv Stop q (Fil.run s (Fil.pre d f) k g) W (.returned (.bool true)) wr from by
        rw [Ak.out,← HE.out,As.out];exact ⟨(Ag.new q Aj.out).trans Ah.out,rfl,Ad.out⟩)
       gi_wp2
       go_ret
       exact HP.out
end Go.Proofs.YtaddkkkchkdgkaaGreatDoor
namespace Go.Proofs.YtaddkkkchkdgkaaGreatDoor
open Go.RowKit Go.Sort Go.Extern.Stop Go.Stop Go.Extern
def errV (a0 a1:Addr) (code:Nat):Value:=if code=0 then .nilIface else .iface 324 (.pointer (some (if code=140 then a0 else a1)))
structure Vars (a0 a1:Addr) (w:World):Prop where
 ne:a0≠a1
 g1:w.cell? ⟨1,0,none⟩=some (.iface 324 (.pointer (some a0)))
 g2:w.cell? ⟨2,0,none⟩=some (.iface 324 (.pointer (some a1)))
 b0:∃ c0 t0,w.heap[a0.block]? = some (.cells c0 t0 (0,0))
 b1:∃ c1 t1,w.heap[a1.block]? = some (.cells c1 t1 (0,0))
theorem Vars.below {a0 a1:Addr} {w w':World} (h:Vars a0 a1 w) (hb:Below w.heap.size w w'):Vars a0 a1 w':=by
 obtain ⟨c0,t0,h0⟩:=h.b0
 obtain ⟨c1,t1,h1⟩:=h.b1
 exact ⟨h.ne,(hb.cell (p:=⟨1,0,none⟩) (World.block_lt_of_cell? _ _ h.g1)).trans h.g1,(hb.cell (p:=⟨2,0,none⟩) (World.block_lt_of_cell? _ _ h.g2)).trans h.g2,
  ⟨c0,t0,(hb.block _ (Array.getElem?_eq_some_iff.1 h0).1).trans h0⟩,⟨c1,t1,(hb.block _ (Array.getElem?_eq_some_iff.1 h1).1).trans h1⟩⟩
theorem isTypeOf (v:Value) (w:World):(Extern.ReflectliteType.typeOf #[.iface 324 v]).run Tryz.prog w = .ok (.iface 229 (.agg #[.pointer (some ⟨14,324,none⟩)])) w:=by kernel_rfl
def cmpEntry : Array Value → Sem Value := Extern.ReflectliteType.method fun t => do Rtype.noPackHeld "Comparable" t; pure (.bool (← typeInfo t).comparable)
theorem iC (w:World):(cmpEntry #[.agg #[.pointer (some ⟨14,324,none⟩)]]).run Tryz.prog w = .ok (.bool true) w:=by kernel_rfl
theorem iMC (v : Value) (w : World) : (Go.method 455 229 v "Comparable").run Tryz.prog w = .ok (265, v) w := by kernel_rfl
theorem isComp:(Tryz.prog.info? 324).map (·.comparable)=some true:=by kernel_rfl
theorem isSize:(Tryz.prog.info? 344).map (·.size)=some 1:=by kernel_rfl
theorem noIsE (v:Value) (xT:TypeId) (w:World):(Instr.typeAssert (.iface 324 v) xT 303 true).run Tryz.prog w = .ok (.tuple #[.nilIface,.bool false]) w:=run_typeAssert_lacksB Tryz.underlying303 (by kernel_rfl) (by kernel_rfl) v xT w
theorem noUnwrapE (v:Value) (xT:TypeId) (w:World):(Instr.typeAssert (.iface 324 v) xT 237 true).run Tryz.prog w = .ok (.tuple #[.nilIface,.bool false]) w:=run_typeAssert_lacksB Tryz.underlying237 (by kernel_rfl) (by kernel_rfl) v xT w
theorem noUnwrapsE (v:Value) (xT:TypeId) (w:World):(Instr.typeAssert (.iface 324 v) xT 239 true).run Tryz.prog w = .ok (.tuple #[.nilIface,.bool false]) w:=run_typeAssert_lacksB Tryz.underlying239 (by kernel_rfl) (by kernel_rfl) v xT w
theorem is_same (a:Addr) (w:World) :
  Calls Tryz.prog 174 #[.iface 324 (.pointer (some a)),.iface 324 (.pointer (some a))] w fun e w'=>e = .returned (.bool true)∧w'=w:=by
 obtain ⟨i,hi,Aa⟩:=Option.map_eq_some_iff.1 isComp
 obtain ⟨j,hj,Ad⟩:=Option.map_eq_some_iff.1 isSize
 have h8:=@run_callFunc_extern Tryz.prog 155 _ Extern.ReflectliteType.typeOf Tryz.func155 (by kernel_rfl) (by kernel_rfl) (by kernel_rfl) (by kernel_rfl)
 have Ab:=@run_callFunc_extern Tryz.prog 265 _ cmpEntry Tryz.func265 (by kernel_rfl) (by kernel_rfl) (by kernel_rfl) (by kernel_rfl)
 have tT:=isTypeOf
 have cT:=iC
 have mR:=iMC
 have Ac:=run_eql_iface_ptr_same (P:=Tryz.prog) w a Tryz.underlying89 Tryz.underlying324 hi Aa hj
 go_enter Tryz.func174,Tryz.ntmps174
 go_wp2
 refine wp_loop_rounds 1 ?_
 rw [rounds_succ]
 go_wp2
 go_ret
 exact ⟨rfl,rfl⟩
theorem is_nil (b:Addr) (w:World) :
  Calls Tryz.prog 174 #[.nilIface,.iface 324 (.pointer (some b))] w fun e w'=>e = .returned (.bool false)∧w'=w:=by
 have hn:=run_eql_iface_nil_left (P:=Tryz.prog) w 324 (.pointer (some b)) Tryz.underlying89
 go_enter Tryz.func174,Tryz.ntmps174
 go_wp2
 go_ret
 exact ⟨rfl,rfl⟩
theorem is_other (a b:Addr) (ca cb:Array Value) (ta tb:TypeId) (w:World) (hne:a≠b) (ha:w.heap[a.block]? = some (.cells ca ta (0,0))) (hb:w.heap[b.block]? = some (.cells cb tb (0,0))) :
  Calls Tryz.prog 174 #[.iface 324 (.pointer (some a)),.iface 324 (.pointer (some b))] w fun e w'=>e = .returned (.bool false)∧w'=w:=by
 obtain ⟨i,hi,Aa⟩:=Option.map_eq_some_iff.1 isComp
 obtain ⟨j,hj,Ab⟩:=Option.map_eq_some_iff.1 isSize
 have h8:=@run_callFunc_extern Tryz.prog 155 _ Extern.ReflectliteType.typeOf Tryz.func155 (by kernel_rfl) (by kernel_rfl) (by kernel_rfl) (by kernel_rfl)
 have Ac:=@run_callFunc_extern Tryz.prog 265 _ cmpEntry Tryz.func265 (by kernel_rfl) (by kernel_rfl) (by kernel_rfl) (by kernel_rfl)
 have tT:=isTypeOf
 have cT:=iC
 have mR:=iMC
 have nE:=noIsE
 have uE:=noUnwrapE
 have vE:=noUnwrapsE
 have Ad:=run_eql_iface_ptr_other (P:=Tryz.prog) w Tryz.underlying89 Tryz.underlying324 hi Aa hj (by rw [Ab];decide) hne ha hb
 go_enter Tryz.func174,Tryz.ntmps174
 go_wp2
 refine wp_loop_rounds 1 ?_
 rw [rounds_succ]
 go_wp2
 go_ret
 exact ⟨rfl,rfl⟩
set_option maxRecDepth 100000 in
theorem told_any (a0 a1:Addr) (code:Nat) (w:World) (hv:Vars a0 a1 w) (hc:code=0∨code=140∨code=110) :
  Calls Tryz.prog 129 #[errV a0 a1 code] w fun e w'=>e = .returned (.int .i64 (code:Nat))∧w'=w:=by
 have g1:=hv.g1
 have g2:=hv.g2
 obtain ⟨c0,t0,Ab⟩:=hv.b0
 obtain ⟨c1,t1,Aa⟩:=hv.b1
 have i1:=is_nil a0 w
 have i2:=is_nil a1 w
 have i3:=is_same a0 w
 have i4:=is_same a1 w
 have i5:=is_other a1 a0 c1 c0 t1 t0 w hv.ne.symm Aa Ab
 have I1:=Hd i1
 have I2:=Hd i2
 have I3:=Hd i3
 have I4:=Hd i4
 have I5:=Hd i5
 clear i1 i2 i3 i4 i5 hv Ab Aa
 unfold errV
 rcases hc with rfl | rfl | rfl
 ·simp only [if_true]
  go_enter Tryz.func129,Tryz.ntmps129
  go_wp2_with (first
   | (go_at_call 174;with_reducible refine I1.out.mono ?_;rintro e w' ⟨rfl,rfl⟩)
   | (go_at_call 174;with_reducible refine I2.out.mono ?_;rintro e w' ⟨rfl,rfl⟩))
  go_ret
  exact ⟨rfl,rfl⟩
 ·simp only [if_true,if_false,show (140:Nat)≠0 by decide]
  go_enter Tryz.func129,Tryz.ntmps129
  go_wp2_with (go_at_call 174;with_reducible refine I3.out.mono ?_;rintro e w' ⟨rfl,rfl⟩)
  go_ret
  exact ⟨rfl,rfl⟩
 ·simp only [if_false,show (110:Nat)≠0 by decide,show (110:Nat)≠140 by decide]
  go_enter Tryz.func129,Tryz.ntmps129
  go_wp2_with (first
   | (go_at_call 174;with_reducible refine I5.out.mono ?_;rintro e w' ⟨rfl,rfl⟩)
   | (go_at_call 174;with_reducible refine I4.out.mono ?_;rintro e w' ⟨rfl,rfl⟩))
  go_ret
  exact ⟨rfl,rfl⟩
end Go.Proofs.YtaddkkkchkdgkaaGreatDoor
namespace Go.Proofs.YtaddkkkchkdgkaaGreatDoor
open Go.RowKit Go.Sort Go.Shelf
open Tess (Fil)
attribute [local go_sem] Oper.semAt_some
theorem cob {W:World} {B:Nat} {v:Value} {t:TypeId} (h:W.heap[B]? = some (.cells #[v] t (0,0))):W.cell? ⟨B,0,none⟩=some v∧W.frozen? ⟨B,0,none⟩=false:=by
 constructor <;> simp [World.cell?,World.frozen?,h]
theorem gBp (W:World) (l:Nat) (o:Obj):W.grownBy (W.putObj l o) (some l):=
 ⟨rfl,rfl,rfl,by simp,fun k _ hk=>World.putObj_heap_other (fun e=>hk (by rw [e]))⟩
theorem filters_any (v:Value) (d:Nat) (cs:Array Value) (hv:v = .agg cs) (w:World) :
  Calls Tryz.prog 175 #[v,.int .i64 d] w fun e w'=>e = .returned (.func (.func 205) #[] #[.pointer (some ⟨w.heap.size,0,none⟩),.pointer (some ⟨w.heap.size + 1,0,none⟩)])∧(w.alloc (.cells cs 31)).alloc (.cells #[.int .i64 d] 3)=w':=by
 subst hv
 go_enter Tryz.func175,Tryz.ntmps175
 go_wp2
 go_ret
 exact ⟨rfl,rfl⟩
theorem laid6 (w:World) (A B C D E F:Obj):(((((((w.alloc A).alloc B).alloc C).alloc D).alloc E).alloc F)).heap[w.heap.size]? = some A∧(((((((w.alloc A).alloc B).alloc C).alloc D).alloc E).alloc F)).heap[w.heap.size + 2]? = some C∧(((((((w.alloc A).alloc B).alloc C).alloc D).alloc E).alloc F)).heap[w.heap.size + 3]? = some D ∧
  (((((((w.alloc A).alloc B).alloc C).alloc D).alloc E).alloc F)).heap[w.heap.size + 4]? = some E∧(((((((w.alloc A).alloc B).alloc C).alloc D).alloc E).alloc F)).heap[w.heap.size + 5]? = some F∧(((((((w.alloc A).alloc B).alloc C).alloc D).alloc E).alloc F)).heap.size=w.heap.size + 6∧Below w.heap.size w (((((((w.alloc A).alloc B).alloc C).alloc D).alloc E).alloc F)):=by
 obtain ⟨h1,_,h3,h4,h5,h6⟩:=laid4 w A B C D
 obtain ⟨k1,k2,k3,k4⟩:=la3 ((((w.alloc A).alloc B).alloc C).alloc D) E F
 rw [h5] at k1 k2
 exact ⟨(k4.block _ (by omega)).trans h1,(k4.block _ (by omega)).trans h3,(k4.block _ (by omega)).trans h4,k1,k2,by rw [k3,h5],h6.trans (k4.mono (by omega))⟩
structure Ck (w:World) (sbx:Array Value) (rec:Loop) (ev:Value) (k:Nat) (W:World):Prop where
 k0:W.heap[w.heap.size]? = some (.cells sbx 24 (0,0))
 k2:W.heap[w.heap.size + 2]? = some (.cells #[ev] 89 (0,0))
 k3:W.heap[w.heap.size + 3]? = some (.cells #[.int .i64 (k:Nat)] 3 (0,0))
 kD:W.heap[w.heap.size + 6]? = some (.deferred (some []))
 kL:W.heap[w.heap.size + 7]? = some (.loop rec)
 below:Below w.heap.size w W
def Ql (B:Nat) (b:Nat):Prop:=b≠B + 2∧b≠B + 3∧b≠B + 7
section
variable {w W W':World} {sbx:Array Value} {rec rec':Loop} {ev ev':Value} {k k':Nat}
theorem Ck.lt (h:Ck w sbx rec ev k W):w.heap.size + 7 < W.heap.size:=(Array.getElem?_eq_some_iff.1 h.kL).1
theorem Ck.later (h:Ck w sbx rec ev k W) (hb:Below W.heap.size W W'):Ck w sbx rec ev k W':=
 have:=h.lt
 ⟨(hb.block _ (by omega)).trans h.k0,(hb.block _ (by omega)).trans h.k2,(hb.block _ (by omega)).trans h.k3,(hb.block _ (by omega)).trans h.kD,(hb.block _ (by omega)).trans h.kL,Bt h.below hb⟩
theorem Ck.set2 (h:Ck w sbx rec ev k W) (ev':Value):Ck w sbx rec ev' k (W.setCell ⟨w.heap.size + 2,0,none⟩ ev'):=
 ⟨(heap_setCell_other _ _ _ _ (by show _≠w.heap.size + 2;omega)).trans h.k0,heap_setCell_same _ _ _ _ _ _ h.k2,(heap_setCell_other _ _ _ _ (by show _≠w.heap.size + 2;omega)).trans h.k3,(heap_setCell_other _ _ _ _ (by show _≠w.heap.size + 2;omega)).trans h.kD,(heap_setCell_other _ _ _ _ (by show _≠w.heap.size + 2;omega)).trans h.kL,h.below.setCell (by show _≤w.heap.size + 2;omega) _⟩
theorem Ck.set3 (h:Ck w sbx rec ev k W) (k':Nat) (n:Int) (hn:n=(k':Nat)):Ck w sbx rec ev k' (W.setCell ⟨w.heap.size + 3,0,none⟩ (.int .i64 n)):=by
 subst hn
 exact ⟨(heap_setCell_other _ _ _ _ (by show _≠w.heap.size + 3;omega)).trans h.k0,(heap_setCell_other _ _ _ _ (by show _≠w.heap.size + 3;omega)).trans h.k2,heap_setCell_same _ _ _ _ _ _ h.k3,(heap_setCell_other _ _ _ _ (by show _≠w.heap.size + 3;omega)).trans h.kD,(heap_setCell_other _ _ _ _ (by show _≠w.heap.size + 3;omega)).trans h.kL,h.below.setCell (by show _≤w.heap.size + 3;omega) _⟩
theorem Ck.but (h:Ck w sbx rec ev k W) (hs:Rf.SB (w.heap.size + 7) W W') (hl:W'.heap[w.heap.size + 7]? = some (.loop rec')):Ck w sbx rec' ev k W':=
 ⟨(hs.block _ (by omega)).trans h.k0,(hs.block _ (by omega)).trans h.k2,(hs.block _ (by omega)).trans h.k3,(hs.block _ (by omega)).trans h.kD,hl,h.below.trans (hs.below (by omega))⟩
theorem qb2 {B:Nat} (hs:Rf.SB (B + 7) W W'):Ag (Ql B) W W':=⟨by rw [hs.size];exact Nat.le_refl _,fun b _ hq=>hs.block b hq.2.2⟩
theorem ql_set2 (B:Nat) (W:World) (v:Value):Ag (Ql B) W (W.setCell ⟨B + 2,0,none⟩ v):=Ag.set _ _ _ (fun h=>h.1 rfl)
theorem ql_set3 (B:Nat) (W:World) (v:Value):Ag (Ql B) W (W.setCell ⟨B + 3,0,none⟩ v):=Ag.set _ _ _ (fun h=>h.2.1 rfl)
theorem Ck.after {W0 W4 W5:World} {a0 a1:Addr} {X:Nat} {T:TypeId} {n:Int} {a b c d e f s0 s1 s2:Value} (hV:Vars a0 a1 w) (hS:Ck w sbx rec ev k (W4.setCell ⟨w.heap.size + 3,0,none⟩ (.int .i64 n))) (hA:Ag (Ql w.heap.size) W0 (W4.setCell ⟨w.heap.size + 3,0,none⟩ (.int .i64 n)))
  (hX:W4.heap[X]? = some (.cells #[a,b,c,d,e,f] T (0,0))) (hX3:X≠w.heap.size + 3) (hsb:sbx=#[s0,s1,s2]) (hB:Below (W4.setCell ⟨w.heap.size + 3,0,none⟩ (.int .i64 n)).heap.size (W4.setCell ⟨w.heap.size + 3,0,none⟩ (.int .i64 n)) W5) :
  Hid (Ck w sbx rec ev k W5)∧Hid (Ag (Ql w.heap.size) W0 W5)∧W5.cell? ⟨X,0,none⟩=some a∧W5.cell? ⟨X,3,none⟩=some d∧W5.cell? ⟨X,4,none⟩=some e∧W5.cell? ⟨w.heap.size,2,none⟩=some s2 ∧
   W5.cell? ⟨w.heap.size + 2,0,none⟩=some ev∧W5.frozen? ⟨w.heap.size + 2,0,none⟩=false∧W5.cell? ⟨1,0,none⟩=some (.iface 324 (.pointer (some a0)))∧W5.cell? ⟨2,0,none⟩=some (.iface 324 (.pointer (some a1))):=by
 have Aa:=hS.later hB
 have Ac:X < (W4.setCell ⟨w.heap.size + 3,0,none⟩ (.int .i64 n)).heap.size:=by
  have:=(Array.getElem?_eq_some_iff.1 hX).1
  simpa using this
 have Ab:=(hB.block X Ac).trans ((heap_setCell_other _ _ _ _ (by show _≠w.heap.size + 3;exact hX3)).trans hX)
 have y0:=cell_of_row W5 X 0 _ _ _ Ab
 have y3:=cell_of_row W5 X 3 _ _ _ Ab
 have y4:=cell_of_row W5 X 4 _ _ _ Ab
 have u2:=cell_of_row W5 w.heap.size 2 _ _ _ Aa.k0
 rw [hsb] at u2
 obtain ⟨c2,z2⟩:=cob Aa.k2
 have hv:=hV.below Aa.below
 exact ⟨Hd Aa,Hd (hA.trans (Ag.new _ hB)),y0,y3,y4,u2,c2,z2,hv.g1,hv.g2⟩
theorem Ck.fits (hS:Ck w sbx rec ev k W) {a0 a1:Addr} (hV:Vars a0 a1 w) {W0 W5:World} (hA:Ag (Ql w.heap.size) W0 W) (hB:Below W.heap.size W W5) :
  Hid (Ck w sbx rec ev k W5)∧Hid (Ag (Ql w.heap.size) W0 W5)∧W5.cell? ⟨w.heap.size + 2,0,none⟩=some ev∧W5.frozen? ⟨w.heap.size + 2,0,none⟩=false∧W5.cell? ⟨1,0,none⟩=some (.iface 324 (.pointer (some a0)))∧W5.cell? ⟨2,0,none⟩=some (.iface 324 (.pointer (some a1))):=by
 have Aa:=hS.later hB
 obtain ⟨c2,z2⟩:=cob Aa.k2
 have hv:=hV.below Aa.below
 exact ⟨Hd Aa,Hd (hA.trans (Ag.new _ hB)),c2,z2,hv.g1,hv.g2⟩
end
set_option maxRecDepth 100000 in
set_option maxHeartbeats 4000000 in
theorem checked_any (a0 a1:Addr) (p:Nat→Prop) (n:Nat) (vs v:Value) (s:Tess.Sch) (f:Fil) (w:World) (hV:Vars a0 a1 w) (hs:SA p w vs s) (hf:FA2 p n w v f) (hn:n≤100)
  (hK:Fil.allP (fun x=>decide (-9223372036854775808≤x.kind) && decide (x.kind≤9223372036854775807)) f=true) :
  Calls Tryz.prog 130 #[vs,v] w fun e w'=>e = .returned (errV a0 a1 (Fil.chk s 0 false (Fil.pre 1 f)))∧Below w.heap.size w w':=by
 have HS:=Hd hs
 have HF:=Hd hf
 have HV:=Hd hV
 obtain ⟨vd,vm,rfl,hd,hm,_,_⟩:=hs
 obtain ⟨ad,Ap,rfl,_⟩:=sl3 hd
 obtain ⟨am,An,rfl,_⟩:=sl3 hm
 obtain ⟨wa,wn,wc,za,zc,rfl⟩:=hf.sh2
 clear hd hm hV hf
 refine (callsIn_wide (n:=5)).1 ?_
 refine callsIn_of_wp_marks Tryz.func130 rfl trivial ?_ rfl
 simp only [Tryz.ntmps130,List.size_toArray,List.length_cons,List.length_nil,Nat.reduceAdd,Nat.reduceSub,Array.replicate_succ,Array.replicate_zero,List.push_toArray,List.append_toArray,List.nil_append,List.cons_append]
 gi_wp2
 refine Rf.wIs ?_
 gi_wp2
 refine wpIn_label ?_
 gi_wp2_with (refine ⟨trivial,?_⟩;gi_at_call 175;refine (callsIn_wide.2 (filters_any _ 1 _ rfl _)).mono ?_;rintro e w' ⟨rfl,rfl⟩)
 obtain ⟨Ay,Av⟩:∃ Ay:Array Value,Ay=#[.slice ad s.dims.length Ap,.slice am s.mets.length An,.int .i64 s.grain]:=⟨_,rfl⟩
 obtain ⟨W0,A7⟩:∃ W0,(((((((w.alloc (.cells #[.slice ad s.dims.length Ap,.slice am s.mets.length An,.int .i64 s.grain] 24)).alloc (.cells #[.int .i64 f.kind,.string f.name,.slice wa wn wc,.int .i64 f.frm,.int .i64 f.to,.slice za f.l.length zc] 31)).alloc (.cells #[.nilIface] 89)).alloc (.cells #[.int .i64 0] 3)).alloc (.cells #[.int .i64 f.kind,.string f.name,.slice wa wn wc,.int .i64 f.frm,.int .i64 f.to,.slice za f.l.length zc] 31)).alloc (.cells #[.int .i64 1] 3)))=W0:=⟨_,rfl⟩
 obtain ⟨h0,h2,h3,h4,h5,Bl,A8⟩:=laid6 w (.cells #[.slice ad s.dims.length Ap,.slice am s.mets.length An,.int .i64 s.grain] 24) (.cells #[.int .i64 f.kind,.string f.name,.slice wa wn wc,.int .i64 f.frm,.int .i64 f.to,.slice za f.l.length zc] 31) (.cells #[.nilIface] 89) (.cells #[.int .i64 0] 3) (.cells #[.int .i64 f.kind,.string f.name,.slice wa wn wc,.int .i64 f.frm,.int .i64 f.to,.slice za f.l.length zc] 31) (.cells #[.int .i64 1] 3)
 rw [A7] at h0 h2 h3 h4 h5 Bl A8
 rw [← Av] at h0
 simp only [A7,Nat.add_assoc,Nat.reduceAdd]
 have Ai:=Hd Av
 clear A7 Av
 refine Rf.rw2 (gf:=205) (lb:=#[.pointer (some ⟨w.heap.size + 4,0,none⟩),.pointer (some ⟨w.heap.size + 5,0,none⟩)]) rfl (enters_of Tryz.func205 (by kernel_rfl) rfl) ?_
 intro fn W1 hL hD Ah B3
 rw [Bl] at hL hD B3 ⊢
 obtain ⟨Ac,Au,hL⟩:∃ Ac:Loop,Ac=_∧W1.heap[w.heap.size + 6 + 1]? = some (.loop Ac):=⟨_,rfl,hL⟩
 have Bf:=Hd Au
 have Bh:Ac.state = .ready∧Ac.params.size=2∧Ac.pending=none:=by rw [Au];exact ⟨rfl,rfl,rfl⟩
 clear Au
 obtain ⟨Bh,Bx,B2⟩:=Bh
 have hI:Ck w Ay Ac (errV a0 a1 0) 0 W1:=⟨(Ah.block _ (by omega)).trans h0,(Ah.block _ (by omega)).trans h2,(Ah.block _ (by omega)).trans h3,hD,hL,Bt A8 Ah⟩
 have At:=(Ah.block _ (by omega)).trans h4
 have Bs:=(Ah.block _ (by omega)).trans h5
 have HI:=Hd hI
 clear A8 Ah h0 h2 h3 h4 h5 hD hL hI
 refine callsIn_of_wp Tryz.func205 rfl trivial ?_ rfl
 simp only [Tryz.ntmps205,List.size_toArray,List.length_cons,List.length_nil,Nat.reduceAdd,Nat.reduceSub,Array.replicate_succ,Array.replicate_zero,List.push_toArray,List.append_toArray,List.nil_append,List.cons_append]
 have Bp:=cell_of_row W1 (w.heap.size + 4) 0 _ _ _ At
 have Bm:=cell_of_row W1 (w.heap.size + 4) 1 _ _ _ At
 have Bq:=cell_of_row W1 (w.heap.size + 4) 2 _ _ _ At
 have Bo:=cell_of_row W1 (w.heap.size + 4) 3 _ _ _ At
 have Bk:=cell_of_row W1 (w.heap.size + 4) 4 _ _ _ At
 have Bn:=cell_of_row W1 (w.heap.size + 4) 5 _ _ _ At
 have Br:=cell_of_row W1 (w.heap.size + 5) 0 _ _ _ Bs
 simp only [List.getElem?_toArray,List.getElem?_cons_succ,List.getElem?_cons_zero] at Bp Bm Bq Bo Bk Bn Br
 clear At Bs
 obtain ⟨q',A0⟩:∃ q':Nat→Prop,q'=fun b=>p b∧b < w.heap.size:=⟨_,rfl⟩
 have B1:RowKit.Hid (∀ W,Below w.heap.size w W→SA q' W (.agg #[.slice ad s.dims.length Ap,.slice am s.mets.length An,.int .i64 s.grain]) s):=Hd (fun W hB=>by
  rw [A0]
  obtain ⟨vd,vm,e1,e2,e3,e4,e5⟩:=HS.out
  exact SA.ag ⟨vd,vm,e1,e2.lt,e3.lt,e4,e5⟩ (Ag.below _ hB fun b _ hb=>hb.2))
 have B7:RowKit.Hid (∀ W,Below w.heap.size w W→FA2 q' n W (.agg #[.int .i64 f.kind,.string f.name,.slice wa wn wc,.int .i64 f.frm,.int .i64 f.to,.slice za f.l.length zc]) f):=Hd (fun W hB=>by
  rw [A0]
  exact HF.out.lt.ag (Ag.below _ hB fun b _ hb=>hb.2))
 have Ar:RowKit.Hid (Calls Tryz.prog 206 #[.agg #[.int .i64 f.kind,.string f.name,.slice wa wn wc,.int .i64 f.frm,.int .i64 f.to,.slice za f.l.length zc],.int .i64 ((1:Nat):Int),.func (.yield (w.heap.size + 6 + 1)) #[] #[]] W1
   (WP (fun k g W=>k≤40∧Ck w Ay Ac (errV a0 a1 (if g then 110 else 0)) k W) (fun W => ∃ k,Ck w Ay { Ac with state:=.done,pending:=some (.exit 0) } (errV a0 a1 140) k W) (Ql w.heap.size) (Fil.run s (Fil.pre 1 f) 0 false) W1)):=Hd (by
  refine walk_any s (w.heap.size + 6 + 1) Ac.fn (fun d v=>(Ac.params.zip #[.int .i64 (d:Nat),v]).foldl (fun tmps (t,a)=>tmps.setIfInBounds t a) Ac.tmps) Ac.assign Ac.body _ _ q' (Ql w.heap.size) (w.heap.size + 8)
   (fun x => -9223372036854775808≤x.kind∧x.kind≤9223372036854775807∧Fil.allP (fun x=>decide (-9223372036854775808≤x.kind) && decide (x.kind≤9223372036854775807)) x=true) ?_
   (fun b hb=>by rw [A0] at hb;exact ⟨by have:=hb.2;omega,by have:=hb.2;omega,by have:=hb.2;omega⟩) (fun b hb=>⟨by omega,by omega,by omega⟩) (fun k g W h=>by have:=h.2.lt;omega) (fun k g W W' h hb=>⟨h.1,h.2.later hb⟩)
   (fun k g W h d v=>run_yield h.2.kL (by rw [Bx];rfl)) ?_ n _ f 1 0 false W1 (B7.out W1 HI.out.below) ?_ ⟨by omega,HI.out⟩ (by omega)
  ·intro f hf x hx
   have Ax:=hf.2.2
   rw [Fil.aPe,Bool.and_eq_true,List.all_eq_true] at Ax
   have h2:=Ax.2 x hx
   have h3:=h2
   rw [Fil.aPe,Bool.and_eq_true,Bool.and_eq_true,decide_eq_true_iff,decide_eq_true_iff] at h3
   exact ⟨h3.1.1,h3.1.2,h2⟩
  ·intro k g W Ao d m v x hd A9 A5
   obtain ⟨xa,xn,xc,ya,yc,rfl⟩:=A9.sh2
   obtain ⟨B8,Ao⟩:=Ao
   have A1:=Hd Ao
   have B9:=Hd A9
   have B4:=Hd (And.intro A5.1 A5.2.1)
   clear Ao A9 A5
   clear Bp Bm Bq Bo Bk Bn Br
   refine Rf.rw3 (r:=Ac) ?_
   have Bu:=Bf.out
   subst Bu
   dsimp only
   gi_wp2_with (rw [Oper.semAt_eq _ _ _ (fun c h=>by cases h)];go_simp;try go_bits)
   have Ah:=(Below.refl W.heap.size W).alloc (Nat.le_refl _) (.cells #[.int .i64 x.kind,.string x.name,.slice xa xn xc,.int .i64 x.frm,.int .i64 x.to,.slice ya x.l.length yc] 31)
   have Bb:=Hd (A1.out.later Ah)
   have Bj:=Hd (Ag.new (Ql w.heap.size) Ah)
   have Az:=Hd (heap_alloc_new W (.cells #[.int .i64 x.kind,.string x.name,.slice xa xn xc,.int .i64 x.frm,.int .i64 x.to,.slice ya x.l.length yc] 31))
   have Ca:=A1.out.lt
   clear Ah
   refine ⟨Bb.out.kL,fun W4 hs4 hl4 => ?_⟩
   have Aj:=Hd (Bb.out.but hs4 hl4)
   have Bi:=Hd (Bj.out.trans (qb2 hs4))
   have Ak:=Hd ((hs4.block W.heap.size (by omega)).trans Az.out)
   clear hs4 hl4 Bb Bj Az
   obtain ⟨c3,z3⟩:=cob Aj.out.k3
   have A4:=Hd (fun (W5:World) (hag:Ag (Ql w.heap.size) W W5) (hb:Below w.heap.size w W5)=>isRight_any q' m _ _ s x W5 (B1.out W5 hb) (B9.out.ag (hag.weak fun b hb=>by rw [A0] at hb;exact ⟨by have:=hb.2;omega,by have:=hb.2;omega,by have:=hb.2;omega⟩)) B4.out)
   by_cases h40:40 < k + 1
   ·have Bz:decide ((40:Int) < (k:Int) + 1)=true:=decide_eq_true (by omega)
    have hR:Fil.run s [(d,x)] k g=none:=by simp [Fil.run,h40]
    have Aa:=Hd (Aj.out.set3 (k + 1) ((k:Int) + 1) (by omega))
    have Ab:=Hd (Bi.out.trans (ql_set3 w.heap.size W4 (.int .i64 ((k:Int) + 1))))
    obtain ⟨c2,z2⟩:=cob Aj.out.k2
    have g1:=(HV.out.below Aj.out.below).g1
    rw [hR]
    gi_wp2_with (rw [Oper.semAt_eq _ _ _ (fun c h=>by cases h)];go_simp;try go_bits)
    refine ⟨trivial,?_⟩
    gi_wp2_with (rw [Oper.semAt_eq _ _ _ (fun c h=>by cases h)];go_simp;try go_bits)
    refine ⟨(Aa.out.set2 (errV a0 a1 140)).kL,fun W6 hs6 hl6 => ?_⟩
    exact ⟨(Ab.out.trans (ql_set2 _ _ _)).trans (qb2 hs6),rfl,k + 1,(Aa.out.set2 (errV a0 a1 140)).but hs6 hl6⟩
   have Bz:decide ((40:Int) < (k:Int) + 1)=false:=decide_eq_false (by omega)
   have Bw:decide (k + 1 > 40)=false:=decide_eq_false (by omega)
   by_cases h6:6 < d
   ·have d6:decide ((6:Int) < (d:Int))=true:=decide_eq_true (by omega)
    have hR:Fil.run s [(d,x)] k g=none:=by simp [Fil.run,h6]
    have Aa:=Hd (Aj.out.set3 (k + 1) ((k:Int) + 1) (by omega))
    have Ab:=Hd (Bi.out.trans (ql_set3 w.heap.size W4 (.int .i64 ((k:Int) + 1))))
    obtain ⟨c2,z2⟩:=cob Aj.out.k2
    have g1:=(HV.out.below Aj.out.below).g1
    rw [hR]
    gi_wp2_with (rw [Oper.semAt_eq _ _ _ (fun c h=>by cases h)];go_simp;try go_bits)
    refine ⟨trivial,?_⟩
    gi_wp2_with (rw [Oper.semAt_eq _ _ _ (fun c h=>by cases h)];go_simp;try go_bits)
    refine ⟨(Aa.out.set2 (errV a0 a1 140)).kL,fun W6 hs6 hl6 => ?_⟩
    exact ⟨(Ab.out.trans (ql_set2 _ _ _)).trans (qb2 hs6),rfl,k + 1,(Aa.out.set2 (errV a0 a1 140)).but hs6 hl6⟩
   have d6:decide ((6:Int) < (d:Int))=false:=decide_eq_false (by omega)
   have Cb:decide (d > 6)=false:=decide_eq_false (by omega)
   have Aa:=Hd (Aj.out.set3 (k + 1) ((k:Int) + 1) (by omega))
   have Ab:=Hd (Bi.out.trans (ql_set3 w.heap.size W4 (.int .i64 ((k:Int) + 1))))
   have u0:=cell_of_row W4 w.heap.size 0 _ _ _ Aj.out.k0
   have u1:=cell_of_row W4 w.heap.size 1 _ _ _ Aj.out.k0
   have u2:=cell_of_row W4 w.heap.size 2 _ _ _ Aj.out.k0
   rw [Ai.out] at u0 u1 u2
   have v0:=cell_of_row W4 W.heap.size 0 _ _ _ Ak.out
   have v1:=cell_of_row W4 W.heap.size 1 _ _ _ Ak.out
   have v2:=cell_of_row W4 W.heap.size 2 _ _ _ Ak.out
   have v3:=cell_of_row W4 W.heap.size 3 _ _ _ Ak.out
   have v4:=cell_of_row W4 W.heap.size 4 _ _ _ Ak.out
   have v5:=cell_of_row W4 W.heap.size 5 _ _ _ Ak.out
   simp only [List.getElem?_toArray,List.getElem?_cons_succ,List.getElem?_cons_zero] at u0 u1 u2 v0 v1 v2 v3 v4 v5
   have n1:W.heap.size≠w.heap.size + 3:=by omega
   have n2:w.heap.size≠w.heap.size + 3:=by omega
   cases hown:Fil.own s x
   ·have hR:Fil.run s [(d,x)] k g=none:=by simp [Fil.run,hown]
    rw [hR]
    gi_wp2_with (first | (have Aw:=Aa;clear Aw;refine ⟨trivial,?_⟩;gi_at_call 176;refine (callsIn_wide.2 (A4.out _ Ab.out Aa.out.below)).mono ?_;rintro e W5 ⟨rfl,Af⟩;rw [hown];obtain ⟨Am,As,y0,y3,y4,Bg,c2,z2,g1,g2⟩:=Ck.after HV.out Aa.out Ab.out Ak.out n1 Ai.out Af;clear Af Aa Ab) | (rw [Oper.semAt_eq _ _ _ (fun c h=>by cases h)];go_simp;try go_bits))
    refine ⟨(Am.out.set2 (errV a0 a1 140)).kL,fun W6 hs6 hl6 => ?_⟩
    exact ⟨(As.out.trans (ql_set2 _ _ _)).trans (qb2 hs6),rfl,k + 1,(Am.out.set2 (errV a0 a1 140)).but hs6 hl6⟩
   ·by_cases hk6:x.kind=6
    ·have B5:(x.kind == (6:Int))=true:=by rw [hk6];rfl
     have A3:=Hd (gFits_any x.frm x.to s.grain)
     cases hsf:Fil.sF3 x.frm x.to s.grain
     ·have hR:Fil.run s [(d,x)] k g=some (k + 1,true):=by simp [Fil.run,hown,h40,h6,Fil.bG,hk6,hsf]
      rw [hR]
      rw [hsf] at A3
      clear hk6
      gi_wp2_with (first | (have Aw:=Aa;clear Aw;refine ⟨trivial,?_⟩;gi_at_call 176;refine (callsIn_wide.2 (A4.out _ Ab.out Aa.out.below)).mono ?_;rintro e W5 ⟨rfl,Af⟩;rw [hown];obtain ⟨Am,As,y0,y3,y4,Bg,c2,z2,g1,g2⟩:=Ck.after HV.out Aa.out Ab.out Ak.out n1 Ai.out Af;clear Af Aa Ab) | (rw [Oper.semAt_eq _ _ _ (fun c h=>by cases h)];go_simp;try go_bits))
      refine ⟨trivial,?_⟩
      gi_at_call 177
      refine (callsIn_wide.2 (A3.out _)).mono ?_
      rintro e W7 ⟨rfl,Be⟩
      obtain ⟨A2,Bd,Bv,B0,By,B6⟩:=Ck.fits Am.out HV.out As.out Be
      gi_wp2_with (rw [Oper.semAt_eq _ _ _ (fun c h=>by cases h)];go_simp;try go_bits)
      refine ⟨(A2.out.set2 (errV a0 a1 110)).kL,fun W6 hs6 hl6 => ?_⟩
      exact ⟨(Bd.out.trans (ql_set2 _ _ _)).trans (qb2 hs6),rfl,by omega,(A2.out.set2 (errV a0 a1 110)).but hs6 hl6⟩
     ·have hR:Fil.run s [(d,x)] k g=some (k + 1,g):=by simp [Fil.run,hown,h40,h6,Fil.bG,hk6,hsf]
      rw [hR]
      rw [hsf] at A3
      clear hk6
      gi_wp2_with (first | (have Aw:=Aa;clear Aw;refine ⟨trivial,?_⟩;gi_at_call 176;refine (callsIn_wide.2 (A4.out _ Ab.out Aa.out.below)).mono ?_;rintro e W5 ⟨rfl,Af⟩;rw [hown];obtain ⟨Am,As,y0,y3,y4,Bg,c2,z2,g1,g2⟩:=Ck.after HV.out Aa.out Ab.out Ak.out n1 Ai.out Af;clear Af Aa Ab) | (rw [Oper.semAt_eq _ _ _ (fun c h=>by cases h)];go_simp;try go_bits))
      refine ⟨trivial,?_⟩
      gi_at_call 177
      refine (callsIn_wide.2 (A3.out _)).mono ?_
      rintro e W7 ⟨rfl,Be⟩
      obtain ⟨A2,Bd,Bv,B0,By,B6⟩:=Ck.fits Am.out HV.out As.out Be
      gi_wp2_with (rw [Oper.semAt_eq _ _ _ (fun c h=>by cases h)];go_simp;try go_bits)
      refine ⟨A2.out.kL,fun W6 hs6 hl6 => ?_⟩
      exact ⟨Bd.out.trans (qb2 hs6),rfl,by omega,A2.out.but hs6 hl6⟩
    ·have hR:Fil.run s [(d,x)] k g=some (k + 1,g):=by simp [Fil.run,hown,h40,h6,Fil.bG,hk6]
     have B5:(x.kind == (6:Int))=false:=by rw [beq_eq_false_iff_ne];exact hk6
     rw [hR]
     gi_wp2_with (first | (have Aw:=Aa;clear Aw;refine ⟨trivial,?_⟩;gi_at_call 176;refine (callsIn_wide.2 (A4.out _ Ab.out Aa.out.below)).mono ?_;rintro e W5 ⟨rfl,Af⟩;rw [hown];obtain ⟨Am,As,y0,y3,y4,Bg,c2,z2,g1,g2⟩:=Ck.after HV.out Aa.out Ab.out Ak.out n1 Ai.out Af;clear Af Aa Ab) | (rw [Oper.semAt_eq _ _ _ (fun c h=>by cases h)];go_simp;try go_bits))
     refine ⟨trivial,?_⟩
     gi_wp2_with (rw [Oper.semAt_eq _ _ _ (fun c h=>by cases h)];go_simp;try go_bits)
     refine ⟨Am.out.kL,fun W6 hs6 hl6 => ?_⟩
     exact ⟨As.out.trans (qb2 hs6),rfl,by omega,Am.out.but hs6 hl6⟩
  ·have h3:=hK
   rw [Fil.aPe,Bool.and_eq_true,Bool.and_eq_true,decide_eq_true_iff,decide_eq_true_iff] at h3
   exact ⟨h3.1.1,h3.1.2,hK⟩)
 clear A0 hK
 gi_wp2
 refine ⟨trivial,(callsIn_wide.2 Ar.out).mono ?_⟩
 have Al:=Hd (Fil.chk_run s (Fil.pre 1 f) 0 false)
 clear Ar
 cases hrun:Fil.run s (Fil.pre 1 f) 0 false with
 | none=>
   rw [hrun] at Al
   rintro e W3 ⟨_,rfl,kx,Aq⟩
   have Ad:=Hd Aq
   clear Aq
   gi_wp2
   go_end0
   refine ⟨⟨_,rfl⟩,_,Ad.out.kL,by simp,?_⟩
   intro W4 Ae
   dsimp only
   obtain ⟨q2,y2⟩:=cob ((Ae.block (w.heap.size + 2) (by omega)).trans Ad.out.k2)
   have Ba:=(Ae.block (w.heap.size + 6) (by omega)).trans Ad.out.kD
   have A6:w.heap.size + 7 < W4.heap.size:=by rw [Ae.size];exact Ad.out.lt
   have Bc:=Hd (Ad.out.below.trans (Ae.below (by omega)))
   clear Ae Ad
   gi_wp2
   refine ⟨by simp,.inl ⟨_,_,rfl,run_takeDeferred Ba,?_⟩⟩
   refine ⟨_,results_tmp rfl _ _ _,by rw [Al.out];rfl,?_⟩
   exact Bc.out.grown (gBp W4 (w.heap.size + 6) (.deferred none)) (by omega) (fun k e=>by cases e;omega)
 | some y=>
   obtain ⟨k9,g9⟩:=y
   rw [hrun] at Al
   rintro e W3 ⟨_,rfl,hinv⟩
   have Ad:=Hd hinv.2
   clear hinv
   cases g9
   all_goals
    gi_wp2
    go_end0
    refine ⟨⟨_,rfl⟩,_,Ad.out.kL,by rw [Bh];decide,?_⟩
    intro W4 Ae
    rw [B2]
    dsimp only
    obtain ⟨q2,y2⟩:=cob ((Ae.block (w.heap.size + 2) (by omega)).trans Ad.out.k2)
    have Ba:=(Ae.block (w.heap.size + 6) (by omega)).trans Ad.out.kD
    have A6:w.heap.size + 7 < W4.heap.size:=by rw [Ae.size];exact Ad.out.lt
    have Bc:=Hd (Ad.out.below.trans (Ae.below (by omega)))
    clear Ae Ad
    gi_wp2
    refine ⟨by simp,.inl ⟨_,_,rfl,run_takeDeferred Ba,?_⟩⟩
    refine ⟨_,results_tmp rfl _ _ _,by rw [Al.out];rfl,?_⟩
    exact Bc.out.grown (gBp W4 (w.heap.size + 6) (.deferred none)) (by omega) (fun k e=>by cases e;omega)
end Go.Proofs.YtaddkkkchkdgkaaGreatDoor
namespace Go.Proofs.YtaddkkkchkdgkaaGreatDoor
open Go.RowKit Go.Sort Go.Shelf
open Tess (Fil)
def kO2 (f:Fil):Prop:=Fil.allP (fun x=>decide (-9223372036854775808≤x.kind) && decide (x.kind≤9223372036854775807)) f=true
theorem chk_code (s:Tess.Sch) (l:List (Nat×Fil)):∀ n g,Fil.chk s n g l=0∨Fil.chk s n g l=140∨Fil.chk s n g l=110:=by
 induction l with
 | nil=>intro n g;cases g <;> simp [Fil.chk]
 | cons x r ih=>
   intro n g
   obtain ⟨d,x⟩:=x
   simp only [Fil.chk]
   split
   ·exact .inr (.inl rfl)
   ·exact ih _ _
theorem rc2 {w w':World} {g:Nat} {x0 x1 x2:Value} {t:TypeId} (hB:Below w.heap.size w w') (hg:w.heap[g]? = some (.cells #[x0,x1,x2] t (0,0))):w'.cell? ⟨g,0,none⟩=some x0∧w'.cell? ⟨g,1,none⟩=some x1∧w'.cell? ⟨g,2,none⟩=some x2:=by
 have Aa:=(hB.block _ (Array.getElem?_eq_some_iff.1 hg).1).trans hg
 exact ⟨cell_of_row _ _ 0 _ _ _ Aa,cell_of_row _ _ 1 _ _ _ Aa,cell_of_row _ _ 2 _ _ _ Aa⟩
theorem rc4 {w w':World} {g:Nat} {x0 x1 x2 x3 x4 x5:Value} {t:TypeId} (hB:Below w.heap.size w w') (hg:w.heap[g]? = some (.cells #[x0,x1,x2,x3,x4,x5] t (0,0))):w'.cell? ⟨g,0,none⟩=some x0∧w'.cell? ⟨g,1,none⟩=some x1∧w'.cell? ⟨g,2,none⟩=some x2∧w'.cell? ⟨g,3,none⟩=some x3∧w'.cell? ⟨g,4,none⟩=some x4∧w'.cell? ⟨g,5,none⟩=some x5:=by
 have Aa:=(hB.block _ (Array.getElem?_eq_some_iff.1 hg).1).trans hg
 exact ⟨cell_of_row _ _ 0 _ _ _ Aa,cell_of_row _ _ 1 _ _ _ Aa,cell_of_row _ _ 2 _ _ _ Aa,cell_of_row _ _ 3 _ _ _ Aa,cell_of_row _ _ 4 _ _ _ Aa,cell_of_row _ _ 5 _ _ _ Aa⟩
set_option maxRecDepth 100000 in
theorem check_any (a0 a1:Addr) (p:Nat→Prop) (n:Nat) (vs v:Value) (s:Tess.Sch) (f:Fil) (w:World) (hV:Vars a0 a1 w) (hs:SA p w vs s) (hf:FA2 p n w v f) (hn:n≤100) (hK:kO2 f) :
  Calls Tryz.prog 80 #[vs,v] w fun e w'=>e = .returned (.int .i64 (Fil.cE2 s f))∧Below w.heap.size w w':=by
 have HR:=Hd (fun W (hB:Below w.heap.size w W)=>sRa vs s p W (hs.ag (Ag.new p hB)))
 have HC:=Hd (fun W (hB:Below w.heap.size w W)=>checked_any a0 a1 p n vs v s f W (hV.below hB) (hs.ag (Ag.new p hB)) (hf.ag (Ag.new p hB)) hn hK)
 have HT:=Hd (fun W (hB:Below w.heap.size w W)=>told_any a0 a1 (Fil.chk s 0 false (Fil.pre 1 f)) W (hV.below hB) (chk_code s _ _ _))
 have HE:RowKit.Hid (Fil.cE2 s f=if Tess.sO2 s then Fil.chk s 0 false (Fil.pre 1 f) else 100):=Hd rfl
 obtain ⟨vd,vm,rfl,hd,hm,_,_⟩:=hs
 obtain ⟨ad,Ad,rfl,_⟩:=sl3 hd
 obtain ⟨am,Ae,rfl,_⟩:=sl3 hm
 obtain ⟨wa,wn,wc,za,zc,rfl⟩:=hf.sh2
 clear hd hm hV hf
 obtain ⟨h1,h2,Aj,Ah⟩:=la3 w (.cells #[.slice ad s.dims.length Ad,.slice am s.mets.length Ae,.int .i64 s.grain] 24) (.cells #[.int .i64 f.kind,.string f.name,.slice wa wn wc,.int .i64 f.frm,.int .i64 f.to,.slice za f.l.length zc] 31)
 have Ab:=Hd Ah
 have H1:=Hd h1
 have H2:=Hd h2
 clear Ah h1 h2 Aj
 cases hok:Tess.sO2 s
 ·rw [hok] at HR HE
  go_enter Tryz.func80,Tryz.ntmps80
  go_wp2_with (go_at_call 30;refine (HR.out _ Ab.out).mono ?_;rintro e W1 ⟨rfl,Aa⟩;have Ac:=Hd Aa;clear Aa)
  go_ret
  rw [HE.out]
  exact ⟨rfl,Bt Ab.out Ac.out⟩
 ·rw [hok] at HR HE
  go_enter Tryz.func80,Tryz.ntmps80
  go_wp2_with (first | (go_at_call 30;refine (HR.out _ Ab.out).mono ?_;rintro e W1 ⟨rfl,Aa⟩;obtain ⟨y0,y1,y2,y3,y4,y5⟩:=rc4 Aa H2.out;obtain ⟨x0,x1,x2⟩:=rc2 Aa H1.out;have Ac:=Hd Aa;clear Aa) | (go_at_call 130;refine (HC.out _ (Bt Ab.out Ac.out)).mono ?_;rintro e W2 ⟨rfl,Ai⟩;have Af:=Hd (Bt (Bt Ab.out Ac.out) Ai);clear Ai) | (go_at_call 129;refine (HT.out _ Af.out).mono ?_;rintro e W3 ⟨rfl,rfl⟩))
  go_ret
  rw [HE.out]
  exact ⟨rfl,Af.out⟩
end Go.Proofs.YtaddkkkchkdgkaaGreatDoor
namespace Go.Proofs.YtaddkkkchkdgkaaGreatDoor
open Go.RowKit Go.Sort Go.Shelf
open Tess (Fil)
theorem _root_.Tess.bl_lt (a b:ByteArray):Tess.bl a b=decide (a.toList < b.toList):=bytesLess_eq _ _
theorem _root_.Tess.bl_irrefl (a:ByteArray):Tess.bl a a=false:=by rw [Tess.bl_lt];exact decide_eq_false (List.lt_irrefl _)
theorem _root_.Tess.bl_trans {a b c:ByteArray} (h:Tess.bl a b=true) (h':Tess.bl b c=true):Tess.bl a c=true:=by
 rw [Tess.bl_lt] at *;exact decide_eq_true (List.lt_trans (of_decide_eq_true h) (of_decide_eq_true h'))
theorem _root_.Tess.toList_inj {a b:ByteArray} (h:a.toList=b.toList):a=b:=str_eq' (by rw [h];simp)
theorem _root_.Tess.bl_antisymm {a b:ByteArray} (h:Tess.bl a b=false) (h':Tess.bl b a=false):a=b:=by
 rw [Tess.bl_lt] at *
 exact Tess.toList_inj (List.le_antisymm (List.not_lt.1 (of_decide_eq_false h')) (List.not_lt.1 (of_decide_eq_false h)))
theorem leq_not (x p:ByteArray):(Op.bytesLess x.toList p.toList || x.toList == p.toList) = !Tess.bl p x:=by
 cases h:Tess.bl x p
 ·rw [show Op.bytesLess x.toList p.toList=false from h,Bool.false_or]
  cases h2:Tess.bl p x
  ·have:=Tess.bl_antisymm h h2
   subst this
   simp
  ·have Aa:x.toList≠p.toList:=fun e=>by rw [Tess.toList_inj e,Tess.bl_irrefl] at h2;cases h2
   simpa using Aa
 ·rw [show Op.bytesLess x.toList p.toList=true from h]
  cases h2:Tess.bl p x
  ·rfl
  ·have:=Tess.bl_trans h h2
   rw [Tess.bl_irrefl] at this;cases this
set_option maxRecDepth 100000 in
theorem isWord_any (p:Nat→Prop) (n:Nat) (v:Value) (f:Fil) (x:ByteArray) (w:World) (hf:FA2 p n w v f) (h4:f.kind=4→1≤f.words.length) (h5:f.kind=5→2≤f.words.length) :
  Calls Tryz.prog 188 #[v,.string x] w fun e w'=>e = .returned (.bool (Fil.isWord f x))∧Below w.heap.size w w':=by
 cases n with
 | zero=>exact hf.elim
 | succ n=>
 obtain ⟨vw,za,zc,rfl,_,hw,_,_,_,_⟩:=hf
 have hw:=hw.1
 obtain ⟨wa,wc,rfl,hl,hc⟩:=so2 hw
 have hB:=(la2 w (.cells #[.int .i64 f.kind,.string f.name,.slice wa f.words.length wc,.int .i64 f.frm,.int .i64 f.to,.slice za f.l.length zc] 31)).2.2
 have Aa:RowKit.Hid (∀ k (hk:k < f.words.length),∃ b Ab,wa=some ⟨b,Ab,none⟩∧(w.alloc (.cells #[.int .i64 f.kind,.string f.name,.slice wa f.words.length wc,.int .i64 f.frm,.int .i64 f.to,.slice za f.l.length zc] 31)).cell? ⟨b,Ab + k,none⟩=some (.string (f.words.getD k ByteArray.empty))):=Hd fun k hk=>by
  obtain ⟨b,Ab,ha,hb,Ae⟩:=hc k hk
  refine ⟨b,Ab,ha,?_⟩
  rw [hB.cell (p:=⟨b,Ab + k,none⟩) hb,Ae]
  simp [hk]
 have HC:=Hd (ca4 _ f.words x _ (hw.below hB))
 have HB:=Hd hB
 clear hw hc hB
 by_cases k4:f.kind=4
 ·have hr:Fil.isWord f x=(f.words.getD 0 ByteArray.empty).data.toList.isPrefixOf x.data.toList:=by simp [Fil.isWord,k4]
  have e4:(f.kind == (4:Int))=true:=by rw [k4];rfl
  have Ac:=h4 k4
  clear k4 h4 h5
  rw [hr]
  obtain ⟨b,Ab,rfl,h0⟩:=Aa.out 0 Ac
  rw [Nat.add_zero] at h0
  generalize f.words.getD 0 ByteArray.empty=y0 at *
  have HP:=Hd (Tryz.strings_HasPrefix x y0)
  have hz:(0:Int) < (f.words.length:Int):=by omega
  go_enter Tryz.func188,Tryz.ntmps188
  go_wp2_with (go_at_call 218;refine (HP.out _).mono ?_;rintro e W1 ⟨rfl,rfl⟩)
  go_ret
  exact ⟨rfl,HB.out⟩
 have e4:(f.kind == (4:Int))=false:=by rw [beq_eq_false_iff_ne];exact k4
 by_cases k5:f.kind=5
 ·have hr:Fil.isWord f x=(!Tess.bl x (f.words.getD 0 ByteArray.empty) && !Tess.bl (f.words.getD 1 ByteArray.empty) x):=by simp [Fil.isWord,k5]
  have e5:(f.kind == (5:Int))=true:=by rw [k5];rfl
  have Ac:=h5 k5
  clear k4 k5 h4 h5
  rw [hr]
  obtain ⟨b,Ab,rfl,h0⟩:=Aa.out 0 (by omega)
  obtain ⟨b',Ad,hh,h1⟩:=Aa.out 1 (by omega)
  obtain ⟨rfl,rfl⟩:b'=b∧Ad=Ab:=by cases hh;exact ⟨rfl,rfl⟩
  clear hh
  rw [Nat.add_zero] at h0
  generalize f.words.getD 0 ByteArray.empty=y0 at *
  generalize f.words.getD 1 ByteArray.empty=y1 at *
  have hz:(0:Int) < (f.words.length:Int):=by omega
  have Ag:(1:Int) < (f.words.length:Int):=by omega
  rw [← leq_not x y1]
  cases hA:Tess.bl x y0
  ·have Af:Op.bytesLess x.toList y0.toList=false:=hA
   clear hA
   go_enter Tryz.func188,Tryz.ntmps188
   go_wp2
   go_ret
   exact ⟨rfl,HB.out⟩
  ·have Af:Op.bytesLess x.toList y0.toList=true:=hA
   clear hA
   go_enter Tryz.func188,Tryz.ntmps188
   go_wp2
   go_ret
   exact ⟨rfl,HB.out⟩
 have e5:(f.kind == (5:Int))=false:=by rw [beq_eq_false_iff_ne];exact k5
 have hr:Fil.isWord f x=Tess.hasW f.words x:=by simp [Fil.isWord,k4,k5]
 rw [hr]
 clear k4 k5 h4 h5
 go_enter Tryz.func188,Tryz.ntmps188
 go_wp2_with (go_at_call 179;refine HC.out.mono ?_;rintro e W1 ⟨rfl,rfl⟩)
 go_ret
 exact ⟨rfl,HB.out⟩
end Go.Proofs.YtaddkkkchkdgkaaGreatDoor
namespace Go.Proofs.YtaddkkkchkdgkaaGreatDoor
open Go.RowKit Go.Sort
open Tess (Fil)
def isList (q:Fil→Bool) (l:List Fil) (a:Option Addr) (p1 p2 p3:Value) (w:World):Prop:=
 ∀ k (hk:k < l.length),∃ b off,a=some ⟨b,off,none⟩∧b < w.heap.size∧∃ c0 c1 c2 c3 c4 c5,(w.cell? ⟨b,off + k * 6,none⟩=some c0∧w.cell? ⟨b,off + k * 6 + 1,none⟩=some c1∧w.cell? ⟨b,off + k * 6 + 2,none⟩=some c2∧w.cell? ⟨b,off + k * 6 + 3,none⟩=some c3∧w.cell? ⟨b,off + k * 6 + 4,none⟩=some c4∧w.cell? ⟨b,off + k * 6 + 5,none⟩=some c5) ∧
   ∀ W,Below w.heap.size w W→Calls Tryz.prog 184 #[.agg #[c0,c1,c2,c3,c4,c5],p1,p2,p3] W fun e w'=>e = .returned (.bool (q l[k]))∧Below W.heap.size W w'
set_option maxHeartbeats 1000000 in
theorem index_is (q:Fil→Bool) (l:List Fil) (a:Option Addr) (cap:Nat) (p1 p2 p3:Value) (w:World) (hlen:l.length≤maxLen) (hc:isList q l a p1 p2 p3 w) :
  Calls Tryz.prog 217 #[.slice a l.length cap,.func (.func 184) #[] #[p1,p2,p3]] w fun e w' => ∃ i:Int,e = .returned (.int .i64 i)∧decide (0≤i)=l.any q∧Below w.heap.size w w':=by
 have HC:=Hd hc
 have Ag:l.length≤9223372036854775807:=by unfold maxLen at hlen;omega
 clear hc hlen
 go_enter Tryz.func217,Tryz.ntmps217
 go_wp2
 go_loopw [8] (fun i wr => ∃ k:Nat,k≤l.length∧i = .int .i64 k∧(∀ j (hj:j < l.length),j < k→q l[j]=false)∧Below w.heap.size w wr) (fun i _=>l.length - (intOf i).toNat)
 case atStart=>exact ⟨0,Nat.zero_le _,rfl,fun j _ h=>absurd h (Nat.not_lt_zero _),Below.refl _ _⟩
 case round=>
  obtain ⟨k,hk,rfl,Ac,hB⟩:=hrel
  have HA:=Hd Ac
  have HB:=Hd hB
  clear Ac hB
  by_cases hlt:k < l.length
  ·obtain ⟨b,Aa,rfl,hb,c0,c1,c2,c3,c4,c5,⟨g0,g1,g2,g3,g4,g5⟩,Ab⟩:=HC.out k hlt
   have e0:wr.cell? ⟨b,Aa + k * 6,none⟩=some c0:=(HB.out.cell (p:=⟨b,Aa + k * 6,none⟩) hb).trans g0
   have e1:wr.cell? ⟨b,Aa + k * 6 + 1,none⟩=some c1:=(HB.out.cell (p:=⟨b,Aa + k * 6 + 1,none⟩) hb).trans g1
   have e2:wr.cell? ⟨b,Aa + k * 6 + 2,none⟩=some c2:=(HB.out.cell (p:=⟨b,Aa + k * 6 + 2,none⟩) hb).trans g2
   have e3:wr.cell? ⟨b,Aa + k * 6 + 3,none⟩=some c3:=(HB.out.cell (p:=⟨b,Aa + k * 6 + 3,none⟩) hb).trans g3
   have e4:wr.cell? ⟨b,Aa + k * 6 + 4,none⟩=some c4:=(HB.out.cell (p:=⟨b,Aa + k * 6 + 4,none⟩) hb).trans g4
   have e5:wr.cell? ⟨b,Aa + k * 6 + 5,none⟩=some c5:=(HB.out.cell (p:=⟨b,Aa + k * 6 + 5,none⟩) hb).trans g5
   have HX:=Hd Ab
   clear g0 g1 g2 g3 g4 g5 Ab
   have Af:(k:Int) < (l.length:Int):=by omega
   cases hyx:q l[k]
   ·rw [hyx] at HX
    have HY:=Hd hyx
    clear hyx
    go_wp2_with (go_at_call 184;refine (HX.out _ HB.out).mono ?_;rintro e w2 ⟨rfl,Ad⟩;have Ae:=Hd Ad;clear Ad)
    go_roundw
    case rel=>
     refine ⟨k + 1,by omega,by go_num,fun j hj hjk => ?_,Bt HB.out Ae.out⟩
     by_cases hjk':j < k
     ·exact HA.out j hj hjk'
     ·obtain rfl:j=k:=by omega
      exact HY.out
    case measure=>simp [intOf];omega
   ·rw [hyx] at HX
    have HY:=Hd hyx
    clear hyx
    go_wp2_with (go_at_call 184;refine (HX.out _ HB.out).mono ?_;rintro e w2 ⟨rfl,Ad⟩;have Ae:=Hd Ad;clear Ad)
    go_ret
    refine ⟨(k:Int),rfl,?_,Bt HB.out Ae.out⟩
    rw [decide_eq_true (by omega),eq_comm,List.any_eq_true]
    exact ⟨l[k],List.getElem_mem hlt,HY.out⟩
  ·have Af:¬ (k:Int) < (l.length:Int):=by omega
   go_wp2
   go_ret
   refine ⟨-1,rfl,?_,HB.out⟩
   rw [decide_eq_false (by omega),eq_comm,List.any_eq_false]
   intro y hy
   obtain ⟨j,hj,rfl⟩:=List.getElem_of_mem hy
   rw [HA.out j hj (by omega)];simp
theorem contains_is (q:Fil→Bool) (l:List Fil) (a:Option Addr) (cap:Nat) (p1 p2 p3:Value) (w:World) (hlen:l.length≤maxLen) (hc:isList q l a p1 p2 p3 w) :
  Calls Tryz.prog 186 #[.slice a l.length cap,.func (.func 184) #[] #[p1,p2,p3]] w fun e w'=>e = .returned (.bool (l.any q))∧Below w.heap.size w w':=by
 have HI:=Hd (index_is q l a cap p1 p2 p3 w hlen hc)
 clear hc
 go_enter Tryz.func186,Tryz.ntmps186
 go_wp2_with (go_at_call 217;refine HI.out.mono ?_;rintro e w2 ⟨i,rfl,hi,hB⟩;have HH:=Hd hi;have HB:=Hd hB;clear hi hB)
 go_ret
 refine ⟨?_,HB.out⟩
 rw [← HH.out];rfl
def isNotList (q:Fil→Bool) (l:List Fil) (a:Option Addr) (p1:Value) (w:World):Prop:=
 ∀ k (hk:k < l.length),∃ b off,a=some ⟨b,off,none⟩∧b < w.heap.size∧∃ c0 c1 c2 c3 c4 c5,(w.cell? ⟨b,off + k * 6,none⟩=some c0∧w.cell? ⟨b,off + k * 6 + 1,none⟩=some c1∧w.cell? ⟨b,off + k * 6 + 2,none⟩=some c2∧w.cell? ⟨b,off + k * 6 + 3,none⟩=some c3∧w.cell? ⟨b,off + k * 6 + 4,none⟩=some c4∧w.cell? ⟨b,off + k * 6 + 5,none⟩=some c5) ∧
   ∀ W,Below w.heap.size w W→Calls Tryz.prog 185 #[.agg #[c0,c1,c2,c3,c4,c5],p1] W fun e w'=>e = .returned (.bool (q l[k]))∧Below W.heap.size W w'
set_option maxHeartbeats 1000000 in
theorem index_isNot (q:Fil→Bool) (l:List Fil) (a:Option Addr) (cap:Nat) (p1:Value) (w:World) (hlen:l.length≤maxLen) (hc:isNotList q l a p1 w) :
  Calls Tryz.prog 217 #[.slice a l.length cap,.func (.func 185) #[] #[p1]] w fun e w' => ∃ i:Int,e = .returned (.int .i64 i)∧decide (0≤i)=l.any q∧Below w.heap.size w w':=by
 have HC:=Hd hc
 have Ag:l.length≤9223372036854775807:=by unfold maxLen at hlen;omega
 clear hc hlen
 go_enter Tryz.func217,Tryz.ntmps217
 go_wp2
 go_loopw [8] (fun i wr => ∃ k:Nat,k≤l.length∧i = .int .i64 k∧(∀ j (hj:j < l.length),j < k→q l[j]=false)∧Below w.heap.size w wr) (fun i _=>l.length - (intOf i).toNat)
 case atStart=>exact ⟨0,Nat.zero_le _,rfl,fun j _ h=>absurd h (Nat.not_lt_zero _),Below.refl _ _⟩
 case round=>
  obtain ⟨k,hk,rfl,Ac,hB⟩:=hrel
  have HA:=Hd Ac
  have HB:=Hd hB
  clear Ac hB
  by_cases hlt:k < l.length
  ·obtain ⟨b,Aa,rfl,hb,c0,c1,c2,c3,c4,c5,⟨g0,g1,g2,g3,g4,g5⟩,Ab⟩:=HC.out k hlt
   have e0:wr.cell? ⟨b,Aa + k * 6,none⟩=some c0:=(HB.out.cell (p:=⟨b,Aa + k * 6,none⟩) hb).trans g0
   have e1:wr.cell? ⟨b,Aa + k * 6 + 1,none⟩=some c1:=(HB.out.cell (p:=⟨b,Aa + k * 6 + 1,none⟩) hb).trans g1
   have e2:wr.cell? ⟨b,Aa + k * 6 + 2,none⟩=some c2:=(HB.out.cell (p:=⟨b,Aa + k * 6 + 2,none⟩) hb).trans g2
   have e3:wr.cell? ⟨b,Aa + k * 6 + 3,none⟩=some c3:=(HB.out.cell (p:=⟨b,Aa + k * 6 + 3,none⟩) hb).trans g3
   have e4:wr.cell? ⟨b,Aa + k * 6 + 4,none⟩=some c4:=(HB.out.cell (p:=⟨b,Aa + k * 6 + 4,none⟩) hb).trans g4
   have e5:wr.cell? ⟨b,Aa + k * 6 + 5,none⟩=some c5:=(HB.out.cell (p:=⟨b,Aa + k * 6 + 5,none⟩) hb).trans g5
   have HX:=Hd Ab
   clear g0 g1 g2 g3 g4 g5 Ab
   have Af:(k:Int) < (l.length:Int):=by omega
   cases hyx:q l[k]
   ·rw [hyx] at HX
    have HY:=Hd hyx
    clear hyx
    go_wp2_with (go_at_call 185;refine (HX.out _ HB.out).mono ?_;rintro e w2 ⟨rfl,Ad⟩;have Ae:=Hd Ad;clear Ad)
    go_roundw
    case rel=>
     refine ⟨k + 1,by omega,by go_num,fun j hj hjk => ?_,Bt HB.out Ae.out⟩
     by_cases hjk':j < k
     ·exact HA.out j hj hjk'
     ·obtain rfl:j=k:=by omega
      exact HY.out
    case measure=>simp [intOf];omega
   ·rw [hyx] at HX
    have HY:=Hd hyx
    clear hyx
    go_wp2_with (go_at_call 185;refine (HX.out _ HB.out).mono ?_;rintro e w2 ⟨rfl,Ad⟩;have Ae:=Hd Ad;clear Ad)
    go_ret
    refine ⟨(k:Int),rfl,?_,Bt HB.out Ae.out⟩
    rw [decide_eq_true (by omega),eq_comm,List.any_eq_true]
    exact ⟨l[k],List.getElem_mem hlt,HY.out⟩
  ·have Af:¬ (k:Int) < (l.length:Int):=by omega
   go_wp2
   go_ret
   refine ⟨-1,rfl,?_,HB.out⟩
   rw [decide_eq_false (by omega),eq_comm,List.any_eq_false]
   intro y hy
   obtain ⟨j,hj,rfl⟩:=List.getElem_of_mem hy
   rw [HA.out j hj (by omega)];simp
theorem ciN (q:Fil→Bool) (l:List Fil) (a:Option Addr) (cap:Nat) (p1:Value) (w:World) (hlen:l.length≤maxLen) (hc:isNotList q l a p1 w) :
  Calls Tryz.prog 186 #[.slice a l.length cap,.func (.func 185) #[] #[p1]] w fun e w'=>e = .returned (.bool (l.any q))∧Below w.heap.size w w':=by
 have HI:=Hd (index_isNot q l a cap p1 w hlen hc)
 clear hc
 go_enter Tryz.func186,Tryz.ntmps186
 go_wp2_with (go_at_call 217;refine HI.out.mono ?_;rintro e w2 ⟨i,rfl,hi,hB⟩;have HH:=Hd hi;have HB:=Hd hB;clear hi hB)
 go_ret
 refine ⟨?_,HB.out⟩
 rw [← HH.out];rfl
end Go.Proofs.YtaddkkkchkdgkaaGreatDoor
