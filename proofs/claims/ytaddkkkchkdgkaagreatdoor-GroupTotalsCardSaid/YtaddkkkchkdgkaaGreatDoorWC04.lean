/- Joined by mergeK.py: F13, F14, F15, FlR -/
import Derived.Test.YtaddkkkchkdgkaaGreatDoorWC03
import Derived.Still
import Derived.StillTail
import Derived.Below
import Derived.Deep.QuietTactic
import Derived.WalkKit
import Derived.Test.YtaddkkkchkdgkaaGreatDoorWC01
namespace Tess
namespace Fil
def few (f:Fil):Fil:=if 100 < (cut 7 f).count then mk (cut 7 f).kind (cut 7 f).name (cut 7 f).words (cut 7 f).frm (cut 7 f).to [] else cut 7 f
end Fil
end Tess
namespace Go.Proofs.YtaddkkkchkdgkaaGreatDoor
open Go.RowKit Go.Sort
open Tess (Fil)
theorem cut_any (d:Nat) (hd:d≤100):CutC d:=by
 induction d with
 | zero=>exact cut_step 0 hd (.inl rfl)
 | succ d ih=>exact cut_step (d + 1) hd (.inr ⟨d,rfl,ih (by omega)⟩)
set_option maxRecDepth 100000 in
set_option maxHeartbeats 2000000 in
theorem few_any (p:Nat→Prop) (n:Nat) (v:Value) (f:Fil) (w:World) (hv:FilAt p n w v f) :
  Calls Tryz.prog 28 #[v] w fun e w' => ∃ v',e = .returned v'∧FilAt (fun b=>w.heap.size≤b) 8 w' v' (Fil.few f)∧Below w.heap.size w w':=by
 have HV:=Lib.hid hv
 obtain ⟨xw,a,cap,rfl⟩:=hv.shape
 cases n with
 | zero=>exact hv.elim
 | succ n=>
 obtain ⟨vw,a',cap',heq,_,hvw,_⟩:=hv
 obtain ⟨wa,wn,wc,rfl⟩:=hvw.shape
 obtain ⟨rfl,rfl,rfl⟩:xw = .slice wa wn wc∧a=a'∧cap=cap':=by simpa using heq
 clear heq hvw
 obtain ⟨c,hc⟩:∃ c,c=Fil.cut 7 f:=⟨_,rfl⟩
 have hcc:c.count≤1000000000:=by rw [hc];exact Nat.le_trans (Fil.cut_count 7 f) (by decide)
 have HCUT:=Lib.hid (fun W (hB:Below w.heap.size w W)=>hc ▸ cut_any 7 (by omega) p (n + 1) _ f W (HV.out.ag (Ag.new p hB)))
 have HCC:=Lib.hid hcc
 have HFEW:RowKit.Hid (Fil.few f=if 100 < c.count then Fil.mk c.kind c.name c.words c.frm c.to [] else c):=Lib.hid (by rw [hc];rfl)
 clear hc hcc HV
 go_enter Tryz.func28,Tryz.ntmps28
 go_wp2_with fail
 obtain ⟨W0,hW0⟩:∃ W0,(w.alloc (.cells #[.int .i64 f.kind,.string f.name,.slice wa wn wc,.int .i64 f.frm,.int .i64 f.to,.slice a f.l.length cap] 31)).alloc (.cells zeroFil 31)=W0:=⟨_,rfl⟩
 obtain ⟨hk1,hk2,hS0,hB0⟩:W0.heap[w.heap.size]? = some (.cells #[.int .i64 f.kind,.string f.name,.slice wa wn wc,.int .i64 f.frm,.int .i64 f.to,.slice a f.l.length cap] 31 (0,0))∧W0.heap[w.heap.size + 1]? = some (.cells zeroFil 31 (0,0))∧W0.heap.size=w.heap.size + 2∧Below w.heap.size w W0:=by rw [← hW0];exact laid2 w _ _
 rw [hW0]
 clear hW0
 have HS0:=Lib.hid hS0
 have HB0:=Lib.hid hB0
 have HK1:=Lib.hid hk1
 have HK2:=Lib.hid hk2
 clear hS0 hB0 hk1 hk2
 refine (HCUT.out W0 HB0.out).mono ?_
 rintro e1 w1 ⟨v1,rfl,hf1,hB1⟩
 obtain ⟨u2,ua,uc,rfl⟩:=hf1.shape
 obtain ⟨vw1,a1,cap1,heq,_,hvw1,_⟩:=(show FilAt _ (7 + 1) _ _ _ from hf1)
 obtain ⟨va,vn,vc,rfl⟩:=hvw1.shape
 obtain ⟨rfl,rfl,rfl⟩:u2 = .slice va vn vc∧ua=a1∧uc=cap1:=by simpa using heq
 have HF1:=Lib.hid hf1
 have HB1:=Lib.hid hB1
 have hk1:=(hB1.block _ (by have:=HS0.out;omega)).trans HK1.out
 have hk2:=(hB1.block _ (by have:=HS0.out;omega)).trans HK2.out
 have z0:=frozen_of_row w1 w.heap.size 0 _ _ hk1
 have z1:=frozen_of_row w1 w.heap.size 1 _ _ hk1
 have z2:=frozen_of_row w1 w.heap.size 2 _ _ hk1
 have z3:=frozen_of_row w1 w.heap.size 3 _ _ hk1
 have z4:=frozen_of_row w1 w.heap.size 4 _ _ hk1
 have z5:=frozen_of_row w1 w.heap.size 5 _ _ hk1
 have e0:=cell_of_row w1 w.heap.size 0 _ _ _ hk1
 have e1:=cell_of_row w1 w.heap.size 1 _ _ _ hk1
 have e2:=cell_of_row w1 w.heap.size 2 _ _ _ hk1
 have e3:=cell_of_row w1 w.heap.size 3 _ _ _ hk1
 have e4:=cell_of_row w1 w.heap.size 4 _ _ _ hk1
 have e5:=cell_of_row w1 w.heap.size 5 _ _ _ hk1
 simp only [List.getElem?_toArray,List.getElem?_cons_succ,List.getElem?_cons_zero] at e0 e1 e2 e3 e4 e5
 have HK1':=Lib.hid hk1
 have HK2':=Lib.hid hk2
 clear heq hvw1 hf1 hB1 HCUT hk1 hk2 HK1 HK2
 go_wp2_with fail
 clear z0 z1 z2 z3 z4 z5 e0 e1 e2 e3 e4 e5
 obtain ⟨W2,hW2,hk1,hk2,hf2,hB2⟩:∃ W2,((((((w1.setCell ⟨w.heap.size,0,none⟩ (.int .i64 c.kind)).setCell ⟨w.heap.size,1,none⟩ (.string c.name)).setCell ⟨w.heap.size,2,none⟩ (.slice va vn vc)).setCell ⟨w.heap.size,3,none⟩ (.int .i64 c.frm)).setCell ⟨w.heap.size,4,none⟩ (.int .i64 c.to)).setCell ⟨w.heap.size,5,none⟩ (.slice ua c.l.length uc))=W2 ∧
   W2.heap[w.heap.size]? = some (.cells #[.int .i64 c.kind,.string c.name,.slice va vn vc,.int .i64 c.frm,.int .i64 c.to,.slice ua c.l.length uc] 31 (0,0))∧W2.heap[w.heap.size + 1]? = some (.cells zeroFil 31 (0,0)) ∧
   FilAt (fun b=>w.heap.size + 2≤b) 8 W2 (.agg #[.int .i64 c.kind,.string c.name,.slice va vn vc,.int .i64 c.frm,.int .i64 c.to,.slice ua c.l.length uc]) c∧Below w.heap.size w W2:=by
  have:=HS0.out
  refine ⟨_,rfl,set6 _ _ _ _ _ _ HK1'.out,?_,?_,set6_below _ _ _ _ _ _ (HB0.out.trans (HB1.out.mono (by omega))) (Nat.le_refl _)⟩
  ·rw [set6_other _ _ _ _ _ _ (by omega)];exact HK2'.out
  ·rw [← this]
   exact HF1.out.ag (set6_ag _ _ _ _ _ _ _ (by omega))
 rw [hW2]
 clear hW2 HK1' HK2' HB0 HB1 HF1
 have HF2:=Lib.hid hf2
 have HCNT:=Lib.hid (count_any _ 8 _ c W2 hf2 HCC.out)
 have HB2:=Lib.hid hB2
 have HK1:=Lib.hid hk1
 have HK2:=Lib.hid hk2
 clear hf2 hB2 hk1 hk2
 refine HCNT.out.mono ?_
 rintro e3 w3 ⟨rfl,hB3⟩
 have hs1:w.heap.size + 1 < W2.heap.size:=(Array.getElem?_eq_some_iff.1 HK2.out).1
 have hk1:=(hB3.block _ (by omega)).trans HK1.out
 have hk2:=(hB3.block _ (by omega)).trans HK2.out
 have z5:=frozen_of_row w3 w.heap.size 5 _ _ hk1
 have e0:=cell_of_row w3 w.heap.size 0 _ _ _ hk1
 have e1:=cell_of_row w3 w.heap.size 1 _ _ _ hk1
 have e2:=cell_of_row w3 w.heap.size 2 _ _ _ hk1
 have e3:=cell_of_row w3 w.heap.size 3 _ _ _ hk1
 have e4:=cell_of_row w3 w.heap.size 4 _ _ _ hk1
 have e5:=cell_of_row w3 w.heap.size 5 _ _ _ hk1
 have d0:=cell_of_row w3 (w.heap.size + 1) 0 _ _ _ hk2
 have d1:=cell_of_row w3 (w.heap.size + 1) 1 _ _ _ hk2
 have d2:=cell_of_row w3 (w.heap.size + 1) 2 _ _ _ hk2
 have d3:=cell_of_row w3 (w.heap.size + 1) 3 _ _ _ hk2
 have d4:=cell_of_row w3 (w.heap.size + 1) 4 _ _ _ hk2
 have d5:=cell_of_row w3 (w.heap.size + 1) 5 _ _ _ hk2
 have y0:=frozen_of_row w3 (w.heap.size + 1) 0 _ _ hk2
 have y1:=frozen_of_row w3 (w.heap.size + 1) 1 _ _ hk2
 have y2:=frozen_of_row w3 (w.heap.size + 1) 2 _ _ hk2
 have y3:=frozen_of_row w3 (w.heap.size + 1) 3 _ _ hk2
 have y4:=frozen_of_row w3 (w.heap.size + 1) 4 _ _ hk2
 have y5:=frozen_of_row w3 (w.heap.size + 1) 5 _ _ hk2
 simp only [List.getElem?_toArray,List.getElem?_cons_succ,List.getElem?_cons_zero] at e0 e1 e2 e3 e4 e5 d0 d1 d2 d3 d4 d5
 have HB3:=Lib.hid hB3
 have HF3:=Lib.hid (HF2.out.ag (Ag.new _ hB3))
 have hsz:=hB3.size
 clear hB3 hk1 hk2
 by_cases hc:100 < c.count
 ·have hci:(100:Int) < (c.count:Int):=by omega
  go_wp2
  refine bodyPost_ret (v:=.agg #[.int .i64 c.kind,.string c.name,.slice va vn vc,.int .i64 c.frm,.int .i64 c.to,.slice none 0 0]) (by simp [results,Tryz.results28,go_sem,d0,d1,d2,d3,d4,d5]) rfl ⟨_,rfl,?_,set6_below _ _ _ _ _ _ ((Bt HB2.out HB3.out).setCell (Nat.le_refl _) _) (by omega)⟩
  rw [HFEW.out,if_pos hc]
  refine FilAt.weak (p:=fun b=>w.heap.size + 2≤b) (fun b hb=>by omega) ?_
  refine FilAt.ag ?_ ((Ag.set _ _ _ (by show ¬ w.heap.size + 2≤w.heap.size;omega)).trans (set6_ag _ _ _ _ _ _ _ (by omega)))
  obtain ⟨vw,a2,cap2,heq,h1,h2,h3,_⟩:=(show FilAt _ (7 + 1) _ _ _ from HF3.out)
  obtain ⟨rfl,_⟩ : .slice va vn vc=vw∧ua=a2:=by simp at heq;exact ⟨heq.1,heq.2.1⟩
  exact cut_fil rfl h1 h2 h3 (Nat.zero_le _) (fun _=>rfl) (fun h=>absurd h (by simp))
 ·have hci:¬ (100:Int) < (c.count:Int):=by omega
  go_wp2
  refine bodyPost_ret (v:=.agg #[.int .i64 c.kind,.string c.name,.slice va vn vc,.int .i64 c.frm,.int .i64 c.to,.slice ua c.l.length uc]) (by simp [results,Tryz.results28,go_sem,d0,d1,d2,d3,d4,d5]) rfl ⟨_,rfl,?_,set6_below _ _ _ _ _ _ (Bt HB2.out HB3.out) (by omega)⟩
  rw [HFEW.out,if_neg hc]
  refine FilAt.weak (p:=fun b=>w.heap.size + 2≤b) (fun b hb=>by omega) ?_
  exact FilAt.ag HF3.out (set6_ag _ _ _ _ _ _ _ (by omega))
end Go.Proofs.YtaddkkkchkdgkaaGreatDoor
namespace Go
open Go.RowKit
theorem wpList_insert_own {H:Type} {P:Program} (w:World) {ops:Array Oper} {rest:List Oper} {o:Oper} {a:Act} {Q:Exit→Act→World→Prop}
  (hg:o.guard=none) (m x v:Operand) (t:TypeId) (hop:o.op=Op.insert t m x v)
  (k e:TypeId) (K:Maps.Keyed P k) (ht:P.underlying t=some (.map k e)) (R:Value→Option (DataW H×List MemPlace)) (b n:Nat) (D:DataW H)
  (hm:a.eval m = .map (some b)) (hown:w.ownsMap P k R b n D) (hn:n < maxLen) (key val:Value) (kl:Lit) (hx:a.eval x=key) (hv:a.eval v=val) (hkey:keyOf P k key=some kl)
  (d:DataW H) (ps:List MemPlace) (hval:R val=some (d,ps))
  (hK:∀ w',w'.ownsMap P k R b (n + 1) (D.put kl d)→w.grownBy w' (some b)→wpList P ops Q rest (a.put o.dst undef) w') :
  wpList P ops Q (o :: rest) a w:=by
 refine wpList_plain hg fun K' hK' => ?_
 obtain ⟨w',hrun,r1,r2⟩:=hown.update K ht hn hkey hval
 unfold Oper.wp
 simp [execOp,hop,hm,hx,hv,hrun,Result.andThen]
 exact hK' _ _ (hK w' r1 r2)
def asIs (v:Value):Option (DataW Value×List MemPlace):=some (.held v,[])
end Go
namespace Go.Proofs.YtaddkkkchkdgkaaGreatDoor
open Go.RowKit Go.Sort Go.Maps
open Tess (Fil)
def formV (x:Bool×Bool×(Nat×Nat)×(Nat×Nat)):Value:=.agg #[.bool x.1,.bool x.2.1,.int .i64 (x.2.2.1.1:Nat),.int .i64 (x.2.2.1.2:Nat),.int .i64 (x.2.2.2.1:Nat),.int .i64 (x.2.2.2.2:Nat)]
def zeroForm:Bool×Bool×(Nat×Nat)×(Nat×Nat):=(false,false,(0,0),(0,0))
def formsD:DataW Value:=
 (((((((((DataW.map []).put (.int .i64 1) (.held (formV (false,false,(0,0),(0,0))))).put (.int .i64 2) (.held (formV (true,false,(1,8),(0,0))))).put (.int .i64 3) (.held (formV (true,false,(0,0),(0,0))))).put (.int .i64 4) (.held (formV (true,false,(1,1),(0,0))))).put (.int .i64 5) (.held (formV (true,false,(2,2),(0,0))))).put (.int .i64 6) (.held (formV (false,true,(0,0),(0,0))))).put (.int .i64 7) (.held (formV (false,false,(0,0),(1,1))))).put (.int .i64 8) (.held (formV (false,false,(0,0),(2,8))))).put (.int .i64 9) (.held (formV (false,false,(0,0),(2,8))))
theorem lawInt:Keyed Tryz.prog 3:=int_keyed Tryz.underlying3
theorem zeroFormV (w:World):(zeroValue 280).run Tryz.prog w = .ok (formV zeroForm) w:=by kernel_rfl
def FormsAt (w:World) (b:Nat):Prop:=w.ownsMap Tryz.prog 3 asIs b 9 formsD
theorem forms_at (k:Int):formsD.atKey (.int .i64 k) (.held (formV zeroForm)) = .held (formV ((Fil.form k).getD zeroForm))∧Maps.has formsD (.int .i64 k)=(Fil.form k).isSome:=by
 by_cases h1:k=1
 ·subst h1;exact ⟨rfl,rfl⟩
 by_cases h2:k=2
 ·subst h2;exact ⟨rfl,rfl⟩
 by_cases h3:k=3
 ·subst h3;exact ⟨rfl,rfl⟩
 by_cases h4:k=4
 ·subst h4;exact ⟨rfl,rfl⟩
 by_cases h5:k=5
 ·subst h5;exact ⟨rfl,rfl⟩
 by_cases h6:k=6
 ·subst h6;exact ⟨rfl,rfl⟩
 by_cases h7:k=7
 ·subst h7;exact ⟨rfl,rfl⟩
 by_cases h8:k=8
 ·subst h8;exact ⟨rfl,rfl⟩
 by_cases h9:k=9
 ·subst h9;exact ⟨rfl,rfl⟩
 have hf:Fil.form k=none:=by unfold Fil.form;simp [h1,h2,h3,h4,h5,h6,h7,h8,h9]
 have ne:∀ m:Int,k≠m→(Lit.int .i64 k) ≠ .int .i64 m:=fun m h e=>h (by cases e;rfl)
 rw [hf]
 unfold formsD
 constructor
 ·rw [atKey_put_other (ne 9 h9),atKey_put_other (ne 8 h8),atKey_put_other (ne 7 h7),atKey_put_other (ne 6 h6),atKey_put_other (ne 5 h5),atKey_put_other (ne 4 h4),atKey_put_other (ne 3 h3),atKey_put_other (ne 2 h2),atKey_put_other (ne 1 h1)]
  rfl
 ·rw [has_put_other (ne 9 h9),has_put_other (ne 8 h8),has_put_other (ne 7 h7),has_put_other (ne 6 h6),has_put_other (ne 5 h5),has_put_other (ne 4 h4),has_put_other (ne 3 h3),has_put_other (ne 2 h2),has_put_other (ne 1 h1)]
  rfl
theorem FormsAt.look {w:World} {b:Nat} (h:FormsAt w b) (k:Int) (hk : -9223372036854775808≤k∧k≤9223372036854775807) :
  (Instr.lookup 282 (.map (some b)) (.int .i64 k) true).run Tryz.prog w = .ok (.tuple #[formV ((Fil.form k).getD zeroForm),.bool (Fil.form k).isSome]) w:=by
 obtain ⟨v,ps,hrun,hv⟩:=World.ownsMap.look_ok h lawInt Tryz.underlying282 (zeroFormV w) (zd:=.held (formV zeroForm)) (zp:=[]) rfl (keyOf_int_mk Tryz.underlying3 (WalkArith.wf_i64 hk))
 rw [(forms_at k).1] at hv
 rw [(forms_at k).2] at hrun
 unfold asIs at hv
 have:v=formV ((Fil.form k).getD zeroForm):=by simpa using (Prod.ext_iff.1 (Option.some.inj hv)).1
 rw [hrun,this]
set_option maxRecDepth 100000 in
set_option maxHeartbeats 4000000 in
theorem forms_any (w:World) :
  Calls Tryz.prog 207 #[] w fun e w' => ∃ b,e = .returned (.map (some b))∧FormsAt w' b∧Below w.heap.size w w':=by
 have hmm:=@run_makeMap Tryz.prog
 have HO0:=Lib.hid (World.ownsMap_made (H:=Value) (w.alloc (.cells #[.int .i64 2,.int .i64 8] 278)) Tryz.prog 3 asIs)
 have HB0:=Lib.hid (((Below.refl w.heap.size w).alloc (Nat.le_refl _) (.cells #[.int .i64 2,.int .i64 8] 278)).alloc (by simp) (.map #[] 0))
 have HC0:=Lib.hid (show ((w.alloc (.cells #[.int .i64 2,.int .i64 8] 278)).alloc (.map #[] 0)).heap[w.heap.size]? = some (.cells #[.int .i64 2,.int .i64 8] 278 (0,0)) from (laid2 w _ _).1)
 rw [show (w.alloc (.cells #[.int .i64 2,.int .i64 8] 278)).heap.size=w.heap.size + 1 by simp] at HO0
 go_enter Tryz.func207,Tryz.ntmps207
 have HO:=HO0
 have HB:=HB0
 have HC:=HC0
 clear HO0 HB0 HC0
 go_wp2_with (refine wpList_insert_own _ rfl _ _ _ 282 rfl 3 280 lawInt Tryz.underlying282 asIs (w.heap.size + 1) _ _ rfl HO.out (by decide) _ _ _ rfl rfl (keyOf_int_mk Tryz.underlying3 (by decide)) _ _ rfl ?_;intro w1 hown1 hg1;have hc1:=(hg1.block w.heap.size (by have:=HB.out;have:=(Array.getElem?_eq_some_iff.1 HC.out).1;exact this) (by simp)).trans HC.out;have HB':=Lib.hid (HB.out.grown hg1 HB.out.size (fun j e=>by cases e;omega));have HO':=Lib.hid hown1;have HC':=Lib.hid hc1;have q0:=cell_of_row w1 w.heap.size 0 _ _ _ hc1;have q1:=cell_of_row w1 w.heap.size 1 _ _ _ hc1;simp only [List.getElem?_toArray,List.getElem?_cons_succ,List.getElem?_cons_zero] at q0 q1;clear hown1 hg1 hc1 HO HB HC;have HO:=HO';have HB:=HB';have HC:=HC';clear HO' HB' HC')
 go_ret
 exact ⟨_,rfl,HO.out,HB.out⟩
end Go.Proofs.YtaddkkkchkdgkaaGreatDoor
namespace Tess
def isLong (s:ByteArray):Bool:=decide (100 < s.size)
end Tess
namespace Go.Proofs.YtaddkkkchkdgkaaGreatDoor
open Go.RowKit Go.Sort
theorem fwithin_any (n a b:Nat) (w:World):Calls Tryz.prog 209 #[.int .i64 n,.agg #[.int .i64 a,.int .i64 b]] w fun e w'=>e = .returned (.bool (Tess.Fil.inW n (a,b)))∧Below w.heap.size w w':=by
 unfold Tess.Fil.inW
 by_cases h1:a≤n
 ·have h1i:(a:Int)≤(n:Int):=by omega
  have h1d:decide ((a:Int)≤(n:Int))=true:=decide_eq_true h1i
  obtain ⟨r,hr⟩:∃ r,decide (n≤b)=r:=⟨_,rfl⟩
  have hri:decide ((n:Int)≤(b:Int))=r:=by rw [← hr];exact decide_eq_decide.2 (by omega)
  rw [decide_eq_true h1,hr]
  go_enter Tryz.func209,Tryz.ntmps209
  go_wp2
  go_ret
  exact ⟨rfl,(Below.refl _ _).alloc (Nat.le_refl _) _⟩
 ·have h1d:decide ((a:Int)≤(n:Int))=false:=decide_eq_false (by omega)
  rw [decide_eq_false h1,Bool.false_and]
  go_enter Tryz.func209,Tryz.ntmps209
  go_wp2
  go_ret
  exact ⟨rfl,(Below.refl _ _).alloc (Nat.le_refl _) _⟩
theorem long_any (s:ByteArray) (w:World):Calls Tryz.prog 208 #[.string s] w fun e w'=>e = .returned (.bool (Tess.isLong s))∧w=w':=by
 go_enter Tryz.func208,Tryz.ntmps208
 go_wp2
 go_ret
 exact ⟨by unfold Tess.isLong;exact congrArg (fun b=>Ending.returned (Value.bool b)) (decide_eq_decide.2 (by omega)),rfl⟩
set_option maxHeartbeats 1000000 in
theorem index_long (v:Value) (l:List ByteArray) (w:World) (hv:SlOf w v (l.map .string)) :
  Calls Tryz.prog 200 #[v,.func (.func 208) #[] #[]] w fun e w' => ∃ i:Int,e = .returned (.int .i64 i)∧decide (0≤i)=l.any Tess.isLong∧Below w.heap.size w w':=by
 obtain ⟨a,cap,rfl,hlen,hc⟩:=sls_open hv
 have HC:=Lib.hid hc
 clear hc hv
 go_enter Tryz.func200,Tryz.ntmps200
 go_wp2
 go_loopw [8] (fun i wr => ∃ k:Nat,k≤l.length∧i = .int .i64 k∧(∀ j (hj:j < l.length),j < k→Tess.isLong l[j]=false)∧Below w.heap.size w wr) (fun i _=>l.length - (intOf i).toNat)
 case atStart=>exact ⟨0,Nat.zero_le _,rfl,fun j _ h=>absurd h (Nat.not_lt_zero _),Below.refl _ _⟩
 case round=>
  obtain ⟨k,hk,rfl,hall,hB⟩:=hrel
  have HA:=Lib.hid hall
  have HB:=Lib.hid hB
  clear hall hB
  by_cases hlt:k < l.length
  ·obtain ⟨b,off,rfl,hb,hcell⟩:=HC.out k hlt
   have hck:wr.cell? ⟨b,off + k,none⟩=some (.string l[k]):=(HB.out.cell (p:=⟨b,off + k,none⟩) hb).trans hcell
   have hki:(k:Int) < (l.length:Int):=by omega
   obtain ⟨y,hy⟩:∃ y,y=l[k]:=⟨_,rfl⟩
   rw [← hy] at hck
   have HE:=Lib.hid hy
   clear hcell hy
   go_wp2_with (go_at_call 208;refine (long_any y _).mono ?_;rintro e w2 ⟨rfl,rfl⟩;cases hyx:Tess.isLong y)
   ·go_roundw
    case rel=>
     refine ⟨k + 1,by omega,by go_num,fun j hj hjk => ?_,HB.out⟩
     by_cases hjk':j < k
     ·exact HA.out j hj hjk'
     ·obtain rfl:j=k:=by omega
      rw [← HE.out];exact hyx
    case measure=>simp [intOf];omega
   ·go_ret
    refine ⟨(k:Int),rfl,?_,HB.out⟩
    rw [decide_eq_true (by omega),eq_comm,List.any_eq_true]
    exact ⟨l[k],List.getElem_mem hlt,by rw [← HE.out];exact hyx⟩
  ·have hki:¬ (k:Int) < (l.length:Int):=by omega
   go_wp2
   go_ret
   refine ⟨-1,rfl,?_,HB.out⟩
   rw [decide_eq_false (by omega),eq_comm,List.any_eq_false]
   intro y hy
   obtain ⟨j,hj,rfl⟩:=List.getElem_of_mem hy
   rw [HA.out j hj (by omega)];simp
theorem contains_long (v:Value) (l:List ByteArray) (w:World) (hv:SlOf w v (l.map .string)) :
  Calls Tryz.prog 166 #[v,.func (.func 208) #[] #[]] w fun e w'=>e = .returned (.bool (l.any Tess.isLong))∧Below w.heap.size w w':=by
 have HI:=Lib.hid (index_long v l w hv)
 obtain ⟨a,cap,rfl,hlen,hc⟩:=sls_open hv
 clear hc hv
 go_enter Tryz.func166,Tryz.ntmps166
 go_wp2_with (go_at_call 200;refine HI.out.mono ?_;rintro e w2 ⟨i,rfl,hi,hB⟩;have HH:=Lib.hid hi;have HB:=Lib.hid hB;clear hi hB)
 go_ret
 refine ⟨?_,HB.out⟩
 rw [← HH.out];rfl
end Go.Proofs.YtaddkkkchkdgkaaGreatDoor
namespace Go.FlowR
open Go Go.RowKit
structure Rel where
 r:World→World→Prop
 rf:∀ w,r w w
 tr:∀ {a b c},r a b→r b c→r a c
 drew:∀ w:World,r w { w with drawn:=w.drawn + 1 }
abbrev Spec:=Value ⊕ (Value→World→Prop)
def Spec.holds:Spec→Value→World→Prop
 | .inl u,v,_=>v=u
 | .inr V,v,w=>V v w
def Spec.ok:Spec→Value→Prop
 | .inl u,v=>v=u
 | .inr _,_=>True
def Mono (R:Rel) (p:World→Prop):Prop:=∀ w w',p w→R.r w w'→p w'
def Spec.mono (R:Rel) (s:Spec):Prop:=∀ v,Mono R (s.holds v)
theorem mono_inl {R:Rel} (u:Value):Spec.mono R (.inl u):=fun _ _ _ h _=>h
section
variable {R:Rel} {P:Program} {ops:Array Oper}
def yields (P:Program) (o:Oper) (ρ:Operand→Value) (w:World) (R:Value→World→Prop):Prop:=
 match (execOp ρ o).run P w with
 | .ok (.value v) w'=>R v w'
 | .ok .skip w'=>R undef w'
 | .ok (.enter f args) w'=>Calls P f args w' fun e w'' => ∃ v,e = .returned v∧R v w''
 | _=>False
theorem yields_mono {o:Oper} {ρ:Operand→Value} {w:World} {R R':Value→World→Prop} (h:∀ v w,R v w→R' v w) (hy:yields P o ρ w R):yields P o ρ w R':=by
 unfold yields at *
 generalize (execOp ρ o).run P w=r at *
 cases r with
 | ok n w'=>
   cases n <;> first
    | exact h _ _ hy
    | exact Calls.mono hy (fun e w'' ⟨v,he,hr⟩=>⟨v,he,h _ _ hr⟩)
    | exact hy
 | halt x w'=>exact hy
theorem wp_of_yields {o:Oper} {a:Act} {w:World} {K:Act→World→Prop} {Q:Exit→Act→World→Prop} (hy:yields P o a.eval w fun v w'=>K (a.put o.dst v) w'):o.wp P a w K Q:=by
 unfold yields at hy
 unfold Oper.wp
 generalize (execOp a.eval o).run P w=r at *
 cases r with
 | ok n w'=>
   cases n <;> simp only [Oper.upon] <;> first
    | exact hy
    | exact (show False from hy).elim
    | exact Calls.mono hy (fun e w'' ⟨v,he,hr⟩=>by subst he;exact hr)
 | halt x w'=>exact hy.elim
def Runs (R:Rel) (P:Program) (ops:Array Oper) (o:Oper) (s:Spec) (a:Act) (w:World):Prop:=
 if Region.wanted o (yielded ops a.tmps) then yields P o a.eval w (fun v w'=>R.r w w'∧s.holds v w') else s.holds undef w
def dep (o:Oper) (j:Nat):Bool:=o.after.any fun e=>Region.binds .any e && e.on == j
def Runs' (R:Rel) (P:Program) (ops:Array Oper) (w0:World) (o:Oper) (s:Spec) (a:Act) (Γ:Nat→World→Prop):Prop:=
 ∀ w,R.r w0 w→(∀ j,dep o j=true→Γ j w)→Runs R P ops o s a w
def upd (Γ:Nat→World→Prop) (i:Nat) (p:World→Prop):Nat→World→Prop:=fun j=>if j=i then p else Γ j
theorem upd_ne {Γ:Nat→World→Prop} {i j:Nat} {p:World→Prop} (h:j≠i):upd Γ i p j=Γ j:=by simp [upd,h]
theorem upd_same {Γ:Nat→World→Prop} {i:Nat} {p:World→Prop}:upd Γ i p i=p:=by simp [upd]
theorem upd_comm {Γ:Nat→World→Prop} {i j:Nat} {p q:World→Prop} (h:j≠i):upd (upd Γ i p) j q=upd (upd Γ j q) i p:=by
 funext k;unfold upd
 by_cases h1:k=j
 ·subst h1;simp [h]
 ·simp [h1]
def sp (S:Nat→Value→Spec) (σ:Nat→Nat) (i:Nat) (a:Act):Spec:=S i (a.tmps.getD (σ i) undef)
def SpOk (ops:Array Oper) (S:Nat→Value→Spec) (σ:Nat→Nat):Prop:=∀ i oi,ops[i]? = some oi→σ i ∈ oi.looksAt ops∨∀ x y,S i x=S i y
theorem sp_put {S:Nat→Value→Spec} {σ:Nat→Nat} (hS:SpOk ops S σ) {i:Nat} {oi:Oper} (hi:ops[i]? = some oi) (a:Act) (dst:Option Tmp) (v:Value) (h:∀ d,dst=some d→d ∉ oi.looksAt ops):sp S σ i (a.put dst v)=sp S σ i a:=by
 rcases hS i oi hi with h1 | h1
 ·unfold sp
  cases dst with
  | none=>rfl
  | some d=>
    have hne:d≠σ i:=fun e=>h d rfl (e ▸ h1)
    congr 1
    simp [Act.put,hne]
 ·exact h1 _ _
def fOp (R:Rel) (P:Program) (ops:Array Oper) (S:Nat→Value→Spec) (σ:Nat→Nat) (w0:World) (i:Nat) (K:Act→(Nat→World→Prop)→Prop) (a:Act) (Γ:Nat→World→Prop):Prop:=
 match ops[i]? with
 | none=>K a Γ
 | some o=>Runs' R P ops w0 o (sp S σ i a) a Γ∧∀ v,(sp S σ i a).ok v→K (a.put o.dst v) (upd Γ i ((sp S σ i a).holds v))
def anyF (R:Rel) (P:Program) (ops:Array Oper) (S:Nat→Value→Spec) (σ:Nat→Nat) (w0:World) (E:Act→(Nat→World→Prop)→Prop):Nat→Array Bool→Act→(Nat→World→Prop)→Prop
 | 0,listed,a,Γ=>Region.ready .any ops listed=[]∧E a Γ
 | fuel + 1,listed,a,Γ=>
   (Region.ready .any ops listed=[]→E a Γ) ∧
   ∀ i ∈ Region.ready .any ops listed,fOp R P ops S σ w0 i (anyF R P ops S σ w0 E fuel (listed.setIfInBounds i true)) a Γ
theorem wpAny_of_anyF {S:Nat→Value→Spec} {σ:Nat→Nat} {w0:World} (hS:∀ i x,Spec.mono R (S i x)) {E:Act→(Nat→World→Prop)→Prop} {Q:Exit→Act→World→Prop}
  (hE:∀ a Γ w,E a Γ→R.r w0 w→(∀ j,Γ j w)→Q .normal a w):∀ (fuel:Nat) (listed:Array Bool) (a:Act) (Γ:Nat→World→Prop) (w:World),
  anyF R P ops S σ w0 E fuel listed a Γ→R.r w0 w→(∀ j,Γ j w)→(∀ j,Mono R (Γ j))→wpAny P .any ops Q fuel listed a w
 | 0,_,_,_,_,h,hB,hG,_=>⟨h.1,hE _ _ _ h.2 hB hG⟩
 | fuel + 1,listed,a,Γ,w,h,hB,hG,hM=>by
   refine ⟨fun h0=>hE _ _ _ (h.1 h0) hB hG,fun i hi => ?_⟩
   have h1:=h.2 i hi
   unfold fOp at h1
   unfold wpOp
   have hM':∀ v j,Mono R (upd Γ i ((sp S σ i a).holds v) j):=fun v j=>by
    by_cases e:j=i
    ·subst e;rw [upd_same];exact hS j _ v
    ·rw [upd_ne e];exact hM j
   have hG':∀ v w',R.r w w'→(sp S σ i a).holds v w'→∀ j,upd Γ i ((sp S σ i a).holds v) j w':=fun v w' hb hv j=>by
    by_cases e:j=i
    ·subst e;rw [upd_same];exact hv
    ·rw [upd_ne e];exact hM j _ _ (hG j) hb
   have hok:∀ v w',(sp S σ i a).holds v w'→(sp S σ i a).ok v:=fun v w' hv=>by
    cases hs:sp S σ i a with
    | inl u=>rw [hs] at hv;exact hv
    | inr V=>trivial
   split
   ·rename_i ho
    simp only [ho] at h1
    exact wpAny_of_anyF hS hE fuel _ _ _ _ h1 hB hG hM
   ·rename_i o ho
    simp only [ho] at h1
    have h2:=h1.1 w hB (fun j _=>hG j)
    unfold Runs at h2
    split
    ·rename_i hw
     simp only [hw,if_true] at h2
     refine .inl (wp_of_yields (yields_mono ?_ h2))
     intro v w' ⟨hb,hv⟩
     exact wpAny_of_anyF hS hE fuel _ _ _ _ (h1.2 v (hok v w' hv)) (R.tr hB hb) (hG' v w' hb hv) (hM' v)
    ·rename_i hw
     simp only [hw] at h2
     exact wpAny_of_anyF hS hE fuel _ _ _ _ (h1.2 undef (hok _ _ h2)) hB (hG' _ _ (R.rf _) h2) (hM' _)
theorem Runs'.of_same {w0:World} {o:Oper} {s:Spec} {a a':Act} {Γ Γ':Nat→World→Prop} (h:Runs' R P ops w0 o s a Γ) (he:execOp a'.eval o=execOp a.eval o)
  (hw:Region.wanted o (yielded ops a'.tmps)=Region.wanted o (yielded ops a.tmps)) (hg:∀ j,dep o j=true→Γ' j=Γ j):Runs' R P ops w0 o s a' Γ':=by
 intro w hB hG
 have:=h w hB (fun j hj=>by rw [← hg j hj];exact hG j hj)
 unfold Runs yields at *
 rw [he,hw]
 exact this
theorem not_dep {o:Oper} {i:Nat} (h:∀ e ∈ o.after,Region.binds .any e=true→e.on≠i) {j:Nat} (hj:dep o j=true):j≠i:=by
 obtain ⟨e,he,hb⟩:=Array.any_eq_true'.1 hj
 rw [Bool.and_eq_true,beq_iff_eq] at hb
 intro e2
 exact h e he hb.1 (by rw [hb.2,e2])
theorem anyF_first {S:Nat→Value→Spec} {σ:Nat→Nat} {w0:World} {E:Act→(Nat→World→Prop)→Prop} {i:Nat} {oi:Oper} (hSp:SpOk ops S σ) (hi:ops[i]? = some oi) (hsel:∀ (j:Nat) (o:Oper) cs b,ops[j]? = some o→o.op ≠ .select cs b) :
  ∀ (fuel:Nat) (listed:Array Bool) (a:Act) (Γ:Nat→World→Prop),
    (∀ j oj,ops[j]? = some oj→j≠i→listed.getD j true=false→(∀ e ∈ oj.after,Region.binds .any e=true→e.on≠i)→oi.apart ops oj=true) →
    i ∈ Region.ready .any ops listed→Runs' R P ops w0 oi (sp S σ i a) a Γ →
    (∀ v,(sp S σ i a).ok v→anyF R P ops S σ w0 E fuel (listed.setIfInBounds i true) (a.put oi.dst v) (upd Γ i ((sp S σ i a).holds v)))→anyF R P ops S σ w0 E (fuel + 1) listed a Γ:=by
 have hex:∀ a,∃ v,(sp S σ i a).ok v:=fun a=>by
  cases hs:sp S σ i a with
  | inl u=>exact ⟨u,rfl⟩
  | inr V=>exact ⟨undef,trivial⟩
 intro fuel
 induction fuel with
 | zero=>
   intro listed a Γ _ hr hy H
   obtain ⟨v0,hv0⟩:=hex a
   refine ⟨fun h=>(by rw [h] at hr;cases hr),fun j hj => ?_⟩
   by_cases hji:j=i
   ·subst hji
    unfold fOp;simp only [hi];exact ⟨hy,H⟩
   ·have:=ready_mono hj hji
    rw [(H v0 hv0).1] at this
    cases this
 | succ fuel ih=>
   intro listed a Γ hfree hr hy H
   obtain ⟨v0,hv0⟩:=hex a
   refine ⟨fun h=>(by rw [h] at hr;cases hr),fun j hj => ?_⟩
   by_cases hji:j=i
   ·subst hji
    unfold fOp;simp only [hi];exact ⟨hy,H⟩
   ·obtain ⟨hjun,oj,hoj,hall⟩:=mem_ready.1 hj
    have hiun:=(mem_ready.1 hr).1
    have unl:∀ k,listed.getD k true=false→listed.getD k false=true→False:=fun k h1 h0=>by
     rcases Nat.lt_or_ge k listed.size with h' | h'
     ·simp [h'] at h0 h1;rw [h0] at h1;cases h1
     ·simp [Array.getElem?_eq_none h'] at h1
    have hnot:∀ e ∈ oj.after,Region.binds .any e=true→e.on≠i:=fun e he hb heq=>unl i hiun (by rw [← heq];exact hall e he hb)
    have hnoti:∀ e ∈ oi.after,Region.binds .any e=true→e.on≠j:=fun e he hb heq=>by
     obtain ⟨_,o',ho',hall'⟩:=mem_ready.1 hr
     rw [hi] at ho';cases ho'
     exact unl j hjun (by rw [← heq];exact hall' e he hb)
    have hap:=hfree j oj hoj hji hjun hnot
    obtain ⟨h1,h2,h3⟩:=Oper.apart_spec hap
    have hfree':∀ k ok,ops[k]? = some ok→k≠i→(listed.setIfInBounds j true).getD k true=false →
      (∀ e ∈ ok.after,Region.binds .any e=true→e.on≠i)→oi.apart ops ok=true:=fun k ok hk hki hun hno=>by
     refine hfree k ok hk hki ?_ hno
     by_cases hjk:j=k
     ·subst hjk;exact hjun
     ·rw [getD_set_ne true hjk] at hun;exact hun
    have ej:∀ v,sp S σ j (a.put oi.dst v)=sp S σ j a:=fun v=>sp_put hSp hoj a oi.dst v h1
    have ei:∀ u,sp S σ i (a.put oj.dst u)=sp S σ i a:=fun u=>sp_put hSp hi a oj.dst u h3
    have Hj:∀ v,(sp S σ i a).ok v→Runs' R P ops w0 oj (sp S σ j a) (a.put oi.dst v) (upd Γ i ((sp S σ i a).holds v))∧∀ u,(sp S σ j a).ok u →
      anyF R P ops S σ w0 E fuel ((listed.setIfInBounds i true).setIfInBounds j true) ((a.put oi.dst v).put oj.dst u) (upd (upd Γ i ((sp S σ i a).holds v)) j ((sp S σ j a).holds u)):=fun v hv=>by
     have:=(H v hv).2 j (ready_mono hj hji)
     unfold fOp at this
     simpa only [hoj,ej v] using this
    unfold fOp
    simp only [hoj]
    refine ⟨(Hj v0 hv0).1.of_same (execOp_put oj (fun cs b=>hsel j oj cs b hoj) a oi.dst v0 h1).symm (wanted_put oj a oi.dst v0 h1).symm (fun k hk => ?_),fun u hu => ?_⟩
    ·exact (upd_ne (not_dep hnot hk)).symm
    ·refine ih (listed.setIfInBounds j true) _ _ hfree' (ready_mono hr (Ne.symm hji)) ?_ (fun v hv => ?_)
     ·rw [ei u]
      exact hy.of_same (execOp_put oi (fun cs b=>hsel i oi cs b hi) a oj.dst u h3) (wanted_put oi a oj.dst u h3) (fun k hk=>upd_ne (not_dep hnoti hk))
     ·rw [ei u] at hv ⊢
      have:=(Hj v hv).2 u hu
      rw [Array.setIfInBounds_comm _ _ hji,← Act.put_comm a v u h2,← upd_comm hji]
      exact this
def Tree (R:Rel) (P:Program) (ops:Array Oper) (S:Nat→Value→Spec) (σ:Nat→Nat) (w0:World) (E:Act→(Nat→World→Prop)→Prop):List Oper→Nat→Act→(Nat→World→Prop)→Prop
 | [],_,a,Γ=>E a Γ
 | o :: rest,i,a,Γ=>Runs' R P ops w0 o (sp S σ i a) a Γ∧∀ v,(sp S σ i a).ok v→Tree R P ops S σ w0 E rest (i + 1) (a.put o.dst v) (upd Γ i ((sp S σ i a).holds v))
theorem anyF_lex {S:Nat→Value→Spec} {σ:Nat→Nat} {w0:World} {E:Act→(Nat→World→Prop)→Prop} (hSp:SpOk ops S σ) (hs:Region.noSelect ops=true):∀ (l:List Oper) (k:Nat) (listed:Array Bool) (a:Act) (Γ:Nat→World→Prop),(∀ j,l[j]? = ops[k + j]?) →
  Region.lexFrom .any ops l.length k listed=true→Tree R P ops S σ w0 E l k a Γ→anyF R P ops S σ w0 E l.length listed a Γ
 | [],_,_,_,_,_,hB,h=>⟨by simpa [Region.lexFrom] using hB,h⟩
 | o :: l,k,listed,a,Γ,hl,hB,h=>by
   have h0:ops[k]? = some o:=by simpa using (hl 0).symm
   simp only [List.length_cons,Region.lexFrom,Bool.and_eq_true] at hB
   obtain ⟨⟨hr,hf⟩,hB'⟩:=hB
   exact anyF_first hSp h0 (Region.noSelect_spec hs) l.length listed a Γ (Region.free_spec h0 hf) (by simpa using hr) h.1
    (fun v hv=>anyF_lex hSp hs l (k + 1) _ _ _ (fun j=>by have:=hl (j + 1);simpa [Nat.add_assoc,Nat.add_comm 1 j] using this) hB' (h.2 v hv))
theorem wp_region_flow {id:Nat} {Q:Exit→Act→World→Prop} {a:Act} {w:World} {l:List Oper} (S:Nat→Value→Spec) (σ:Nat→Nat) (hSp:SpOk l.toArray S σ) (hm:P.follows .mixedOrders=true) (hB:Region.lexB .any l.toArray=true) (hS:∀ i x,Spec.mono R (S i x))
  (h:Tree R P l.toArray S σ w (fun a' Γ => ∀ w',R.r w w'→(∀ j,Γ j w')→Q .normal a' w') l 0 a (fun _ _=>True)):(Code.region id l.toArray true).wp P Q a w:=by
 simp only [Region.lexB,Bool.and_eq_true] at hB
 refine wp_region_any hm (wpAny_of_anyF (S:=S) (σ:=σ) (w0:=w) (E:=fun a' Γ => ∀ w',R.r w w'→(∀ j,Γ j w')→Q .normal a' w') (Γ:=fun _ _=>True) hS (fun a' Γ w' hE hb hG=>hE w' hb hG) _ _ _ _ ?_ (R.drew _) (fun _=>trivial) (fun _ _ _ _ _=>trivial))
 have:=anyF_lex hSp hB.1 l 0 (Array.replicate l.toArray.size false) a (fun _ _=>True) (by simp) (by simpa using hB.2) h
 simpa using this
theorem tree_nil {S:Nat→Value→Spec} {σ:Nat→Nat} {w0:World} {E:Act→(Nat→World→Prop)→Prop} {i:Nat} {a:Act} {Γ:Nat→World→Prop} (h:E a Γ):Tree R P ops S σ w0 E [] i a Γ:=h
theorem tree_val {S:Nat→Value→Spec} {σ:Nat→Nat} {w0:World} {E:Act→(Nat→World→Prop)→Prop} {o:Oper} {rest:List Oper} {i:Nat} {a:Act} {Γ:Nat→World→Prop} (u:Value) (hs:sp S σ i a = .inl u)
  (hr:∀ w,R.r w0 w→(∀ j,dep o j=true→Γ j w)→Runs R P ops o (.inl u) a w) (h:Tree R P ops S σ w0 E rest (i + 1) (a.put o.dst u) (upd Γ i (fun _=>True))):Tree R P ops S σ w0 E (o :: rest) i a Γ:=by
 refine ⟨by rw [hs];exact hr,fun v hv => ?_⟩
 rw [hs] at hv ⊢
 cases hv
 have:(fun w=>Spec.holds (.inl u) u w)=fun _=>True:=by funext w;simp [Spec.holds]
 rw [show Spec.holds (.inl u) u=fun _=>True from this]
 exact h
theorem tree_var {S:Nat→Value→Spec} {σ:Nat→Nat} {w0:World} {E:Act→(Nat→World→Prop)→Prop} {o:Oper} {rest:List Oper} {i:Nat} {a:Act} {Γ:Nat→World→Prop} (V:Value→World→Prop) (hs:sp S σ i a = .inr V)
  (hr:∀ w,R.r w0 w→(∀ j,dep o j=true→Γ j w)→Runs R P ops o (.inr V) a w) (h:∀ v,Tree R P ops S σ w0 E rest (i + 1) (a.put o.dst v) (upd Γ i (V v))):Tree R P ops S σ w0 E (o :: rest) i a Γ:=by
 refine ⟨by rw [hs];exact hr,fun v _ => ?_⟩
 rw [hs]
 exact h v
@[go_sem] theorem rel_rf (R:Rel) (w:World):R.r w w=True:=eq_true (R.rf w)
def specs (n:Nat) (f:Value→Spec) (l:List Spec):Nat→Value→Spec:=fun i x=>if i=n then f x else l.getD i (.inl undef)
theorem specs_mono {n:Nat} {f:Value→Spec} {l:List Spec} (hf:∀ x,Spec.mono R (f x)) (h:∀ s ∈ l,Spec.mono R s):∀ i x,Spec.mono R (specs n f l i x):=fun i x=>by
 unfold specs
 split
 ·exact hf x
 ·rcases Nat.lt_or_ge i l.length with h' | h'
  ·rw [List.getD_eq_getElem?_getD,List.getElem?_eq_getElem h'];exact h _ (List.getElem_mem h')
  ·rw [List.getD_eq_getElem?_getD,List.getElem?_eq_none h'];exact mono_inl _
theorem specs_ok {n s:Nat} {f:Value→Spec} {l:List Spec} (h:(match ops[n]? with | some o=>(o.looksAt ops).contains s | none=>true)=true):SpOk ops (specs n f l) (fun _=>s):=fun i oi hi=>by
 by_cases e:i=n
 ·subst e
  rw [hi] at h
  exact .inl (by simpa using h)
 ·exact .inr fun x y=>by unfold specs;rw [if_neg e,if_neg e]
theorem runs_ok {o:Oper} {a:Act} {w w':World} {s:Spec} {u:Value} (hw:Region.wanted o (yielded ops a.tmps)=true) (h:(execOp a.eval o).run P w = .ok (.value u) w') (hb:R.r w w') (hv:s.holds u w'):Runs R P ops o s a w:=by
 unfold Runs yields
 rw [if_pos hw,h]
 exact ⟨hb,hv⟩
theorem tree_valK {S:Nat→Value→Spec} {σ:Nat→Nat} {w0:World} {E:Act→(Nat→World→Prop)→Prop} {o:Oper} {rest:List Oper} {i:Nat} {a:Act} {Γ:Nat→World→Prop} {u:Value} (hs:sp S σ i a = .inl u)
  (h:∀ K:Act→Prop,(∀ a',Tree R P ops S σ w0 E rest (i + 1) a' (upd Γ i (fun _=>True))→K a')→(∀ w,R.r w0 w→(∀ j,dep o j=true→Γ j w)→Runs R P ops o (.inl u) a w)∧K (a.put o.dst u)):Tree R P ops S σ w0 E (o :: rest) i a Γ:=
 tree_val u hs (h (fun _=>True) (fun _ _=>trivial)).1 (h _ (fun _ h=>h)).2
theorem tree_varK {S:Nat→Value→Spec} {σ:Nat→Nat} {w0:World} {E:Act→(Nat→World→Prop)→Prop} {o:Oper} {rest:List Oper} {i:Nat} {a:Act} {Γ:Nat→World→Prop} {V:Value→World→Prop} (hs:sp S σ i a = .inr V)
  (h:∀ K:Act→(World→Prop)→Prop,(∀ a' v,Tree R P ops S σ w0 E rest (i + 1) a' (upd Γ i (V v))→K a' (V v))→(∀ w,R.r w0 w→(∀ j,dep o j=true→Γ j w)→Runs R P ops o (.inr V) a w)∧∀ v,K (a.put o.dst v) (V v)):Tree R P ops S σ w0 E (o :: rest) i a Γ:=by
 refine tree_var V hs (h (fun _ _=>True) (fun _ _ _=>trivial)).1 fun v => ?_
 have:=(h (fun a' p=>Tree R P ops S σ w0 E rest (i + 1) a' (upd Γ i p)) (fun _ _ h=>h)).2 v
 exact this
@[go_sem] theorem holds_inl (u v:Value) (w:World):Spec.holds (.inl u) v w=(v=u):=rfl
theorem lmono_nil:∀ s ∈ ([]:List Spec),Spec.mono R s:=fun _ h=>by cases h
theorem lmono_inl {u:Value} {l:List Spec} (h:∀ s ∈ l,Spec.mono R s):∀ s ∈ (.inl u :: l:List Spec),Spec.mono R s:=fun s hs=>by
 rcases List.mem_cons.1 hs with rfl | hs
 ·exact mono_inl u
 ·exact h s hs
theorem lmono_inr {V:Value→World→Prop} {l:List Spec} (hV:Spec.mono R (.inr V)) (h:∀ s ∈ l,Spec.mono R s):∀ s ∈ (.inr V :: l:List Spec),Spec.mono R s:=fun s hs=>by
 rcases List.mem_cons.1 hs with rfl | hs
 ·exact hV
 ·exact h s hs
end
end Go.FlowR
namespace Go.FlowR
open Go Go.RowKit
def once (B:Nat) (t:TypeId) (Z Y:Array Value):Rel where
 r w w':=w'.os=w.os∧w'.tape=w.tape∧w'.output=w.output∧w.heap.size≤w'.heap.size∧(∀ k,k < B→w'.heap[k]? = w.heap[k]?) ∧
   ∀ k,k < w.heap.size→w'.heap[k]? = w.heap[k]? ∨ (w.heap[k]? = some (.cells Z t (0,0))∧w'.heap[k]? = some (.cells Y t (0,0)))
 rf w:=⟨rfl,rfl,rfl,Nat.le_refl _,fun _ _=>rfl,fun _ _ => .inl rfl⟩
 tr:=by
  rintro a b c ⟨h1,h2,h3,h4,h5,h6⟩ ⟨k1,k2,k3,k4,k5,k6⟩
  refine ⟨k1.trans h1,k2.trans h2,k3.trans h3,Nat.le_trans h4 k4,fun k hk=>(k5 k hk).trans (h5 k hk),fun k hk => ?_⟩
  rcases h6 k hk with e1 | ⟨e1,e1'⟩ <;> rcases k6 k (Nat.lt_of_lt_of_le hk h4) with e2 | ⟨e2,e2'⟩
  ·exact .inl (e2.trans e1)
  ·exact .inr ⟨e1 ▸ e2,e2'⟩
  ·exact .inr ⟨e1,e2.trans e1'⟩
  ·exact .inr ⟨e1,e2'⟩
 drew w:=⟨rfl,rfl,rfl,Nat.le_refl _,fun _ _=>rfl,fun _ _ => .inl rfl⟩
section
variable {B:Nat} {t:TypeId} {Z Y:Array Value} {w w':World}
theorem once_below (h:(once B t Z Y).r w w'):Below B w w':=⟨h.1,h.2.1,h.2.2.1,h.2.2.2.1,h.2.2.2.2.1⟩
theorem once_of (h:Below w.heap.size w w') (hB:B≤w.heap.size):(once B t Z Y).r w w':=⟨h.os,h.tape,h.output,h.size,fun k hk=>h.block k (by omega),fun k hk => .inl (h.block k hk)⟩
def One (B:Nat) (t:TypeId) (Z Y:Array Value) (v:Value) (w:World):Prop:=∃ g,v = .pointer (some ⟨g,0,none⟩)∧B≤g∧(w.heap[g]? = some (.cells Z t (0,0))∨w.heap[g]? = some (.cells Y t (0,0)))
def Done (B:Nat) (t:TypeId) (Y:Array Value) (x:Value) (_:Value) (w:World):Prop:=∃ g,x = .pointer (some ⟨g,0,none⟩)∧B≤g∧w.heap[g]? = some (.cells Y t (0,0))
theorem one_mono:Spec.mono (once B t Z Y) (.inr (One B t Z Y)):=by
 rintro v a b ⟨g,h1,h2,h3⟩ hr
 refine ⟨g,h1,h2,?_⟩
 have hlt:g < a.heap.size:=by rcases h3 with h | h <;> exact (Array.getElem?_eq_some_iff.1 h).1
 rcases hr.2.2.2.2.2 g hlt with e | ⟨_,e⟩
 ·rcases h3 with h | h
  ·exact .inl (e.trans h)
  ·exact .inr (e.trans h)
 ·exact .inr e
theorem done_mono (x:Value):Spec.mono (once B t Z Y) (.inr (Done B t Y x)):=by
 rintro v a b ⟨g,h1,h2,h3⟩ hr
 refine ⟨g,h1,h2,?_⟩
 rcases hr.2.2.2.2.2 g (Array.getElem?_eq_some_iff.1 h3).1 with e | ⟨_,e⟩
 ·exact e.trans h3
 ·exact e
end
end Go.FlowR
