/- Joined by mergeQ.py: F21, F22 -/
import Derived.Test.YtbbgjjjeecfnoaaGreatDoorXTB
import Derived.Test.YtbbgjjjeecfnoaaGreatDoorXFB
namespace Go.Proofs.YtbbgjjjeecfnoaaGreatDoor
open Go.RowKit Go.Sort Go.Shelf
open Tess (Fil)
attribute [local go_sem] Oper.semAt_some
theorem cell_of_box {W:World} {B:Nat} {v:Value} {t:TypeId} (h:W.heap[B]? = some (.cells #[v] t (0,0))):W.cell? ⟨B,0,none⟩=some v∧W.frozen? ⟨B,0,none⟩=false:=by
 constructor <;> simp [World.cell?,World.frozen?,h]
theorem grownBy_putObj (W:World) (l:Nat) (o:Obj):W.grownBy (W.putObj l o) (some l):=
 ⟨rfl,rfl,rfl,by simp,fun k _ hk=>World.putObj_heap_other (fun e=>hk (by rw [e]))⟩
theorem filters_any (v:Value) (d:Nat) (cs:Array Value) (hv:v = .agg cs) (w:World) :
  Calls Tryz.prog 191 #[v,.int .i64 d] w fun e w'=>e = .returned (.func (.func 254) #[] #[.pointer (some ⟨w.heap.size,0,none⟩),.pointer (some ⟨w.heap.size + 1,0,none⟩)])∧(w.alloc (.cells cs 31)).alloc (.cells #[.int .i64 d] 3)=w':=by
 subst hv
 go_enter Tryz.func191,Tryz.ntmps191
 go_wp2
 go_ret
 exact ⟨rfl,rfl⟩
theorem laid6 (w:World) (A B C D E F:Obj):(((((((w.alloc A).alloc B).alloc C).alloc D).alloc E).alloc F)).heap[w.heap.size]? = some A∧(((((((w.alloc A).alloc B).alloc C).alloc D).alloc E).alloc F)).heap[w.heap.size + 2]? = some C∧(((((((w.alloc A).alloc B).alloc C).alloc D).alloc E).alloc F)).heap[w.heap.size + 3]? = some D ∧
  (((((((w.alloc A).alloc B).alloc C).alloc D).alloc E).alloc F)).heap[w.heap.size + 4]? = some E∧(((((((w.alloc A).alloc B).alloc C).alloc D).alloc E).alloc F)).heap[w.heap.size + 5]? = some F∧(((((((w.alloc A).alloc B).alloc C).alloc D).alloc E).alloc F)).heap.size=w.heap.size + 6∧Below w.heap.size w (((((((w.alloc A).alloc B).alloc C).alloc D).alloc E).alloc F)):=by
 obtain ⟨h1,_,h3,h4,h5,h6⟩:=laid4 w A B C D
 obtain ⟨k1,k2,k3,k4⟩:=laid2 ((((w.alloc A).alloc B).alloc C).alloc D) E F
 rw [h5] at k1 k2
 exact ⟨(k4.block _ (by omega)).trans h1,(k4.block _ (by omega)).trans h3,(k4.block _ (by omega)).trans h4,k1,k2,by rw [k3,h5],h6.trans (k4.mono (by omega))⟩
structure Ck (w:World) (sbx:Array Value) (rec:Loop) (ev:Value) (k:Nat) (W:World):Prop where
 k0:W.heap[w.heap.size]? = some (.cells sbx 24 (0,0))
 k2:W.heap[w.heap.size + 2]? = some (.cells #[ev] 96 (0,0))
 k3:W.heap[w.heap.size + 3]? = some (.cells #[.int .i64 (k:Nat)] 3 (0,0))
 kD:W.heap[w.heap.size + 6]? = some (.deferred (some []))
 kL:W.heap[w.heap.size + 7]? = some (.loop rec)
 below:Below w.heap.size w W
def Ql (B:Nat) (b:Nat):Prop:=b≠B + 2∧b≠B + 3∧b≠B + 7
section
variable {w W W':World} {sbx:Array Value} {rec rec':Loop} {ev ev':Value} {k k':Nat}
theorem Ck.lt (h:Ck w sbx rec ev k W):w.heap.size + 7 < W.heap.size:=(Array.getElem?_eq_some_iff.1 h.kL).1
theorem Ck.later (h:Ck w sbx rec ev k W) (hb:Below W.heap.size W W'):Ck w sbx rec ev k W':=
 have:=h.lt
 ⟨(hb.block _ (by omega)).trans h.k0,(hb.block _ (by omega)).trans h.k2,(hb.block _ (by omega)).trans h.k3,(hb.block _ (by omega)).trans h.kD,(hb.block _ (by omega)).trans h.kL,Bt h.below hb⟩
theorem Ck.set2 (h:Ck w sbx rec ev k W) (ev':Value):Ck w sbx rec ev' k (W.setCell ⟨w.heap.size + 2,0,none⟩ ev'):=
 ⟨(heap_setCell_other _ _ _ _ (by show _≠w.heap.size + 2;omega)).trans h.k0,heap_setCell_same _ _ _ _ _ _ h.k2,(heap_setCell_other _ _ _ _ (by show _≠w.heap.size + 2;omega)).trans h.k3,(heap_setCell_other _ _ _ _ (by show _≠w.heap.size + 2;omega)).trans h.kD,(heap_setCell_other _ _ _ _ (by show _≠w.heap.size + 2;omega)).trans h.kL,h.below.setCell (by show _≤w.heap.size + 2;omega) _⟩
theorem Ck.set3 (h:Ck w sbx rec ev k W) (k':Nat) (n:Int) (hn:n=(k':Nat)):Ck w sbx rec ev k' (W.setCell ⟨w.heap.size + 3,0,none⟩ (.int .i64 n)):=by
 subst hn
 exact ⟨(heap_setCell_other _ _ _ _ (by show _≠w.heap.size + 3;omega)).trans h.k0,(heap_setCell_other _ _ _ _ (by show _≠w.heap.size + 3;omega)).trans h.k2,heap_setCell_same _ _ _ _ _ _ h.k3,(heap_setCell_other _ _ _ _ (by show _≠w.heap.size + 3;omega)).trans h.kD,(heap_setCell_other _ _ _ _ (by show _≠w.heap.size + 3;omega)).trans h.kL,h.below.setCell (by show _≤w.heap.size + 3;omega) _⟩
theorem Ck.but (h:Ck w sbx rec ev k W) (hs:Rf.SameBut (w.heap.size + 7) W W') (hl:W'.heap[w.heap.size + 7]? = some (.loop rec')):Ck w sbx rec' ev k W':=
 ⟨(hs.block _ (by omega)).trans h.k0,(hs.block _ (by omega)).trans h.k2,(hs.block _ (by omega)).trans h.k3,(hs.block _ (by omega)).trans h.kD,hl,h.below.trans (hs.below (by omega))⟩
theorem ql_but {B:Nat} (hs:Rf.SameBut (B + 7) W W'):Ag (Ql B) W W':=⟨by rw [hs.size];exact Nat.le_refl _,fun b _ hq=>hs.block b hq.2.2⟩
theorem ql_set2 (B:Nat) (W:World) (v:Value):Ag (Ql B) W (W.setCell ⟨B + 2,0,none⟩ v):=Ag.set _ _ _ (fun h=>h.1 rfl)
theorem ql_set3 (B:Nat) (W:World) (v:Value):Ag (Ql B) W (W.setCell ⟨B + 3,0,none⟩ v):=Ag.set _ _ _ (fun h=>h.2.1 rfl)
theorem Ck.after {W0 W4 W5:World} {a0 a1:Addr} {X:Nat} {T:TypeId} {n:Int} {a b c d e f s0 s1 s2:Value} (hV:Vars a0 a1 w) (hS:Ck w sbx rec ev k (W4.setCell ⟨w.heap.size + 3,0,none⟩ (.int .i64 n))) (hA:Ag (Ql w.heap.size) W0 (W4.setCell ⟨w.heap.size + 3,0,none⟩ (.int .i64 n)))
  (hX:W4.heap[X]? = some (.cells #[a,b,c,d,e,f] T (0,0))) (hX3:X≠w.heap.size + 3) (hsb:sbx=#[s0,s1,s2]) (hB:Below (W4.setCell ⟨w.heap.size + 3,0,none⟩ (.int .i64 n)).heap.size (W4.setCell ⟨w.heap.size + 3,0,none⟩ (.int .i64 n)) W5) :
  Hid (Ck w sbx rec ev k W5)∧Hid (Ag (Ql w.heap.size) W0 W5)∧W5.cell? ⟨X,0,none⟩=some a∧W5.cell? ⟨X,3,none⟩=some d∧W5.cell? ⟨X,4,none⟩=some e∧W5.cell? ⟨w.heap.size,2,none⟩=some s2 ∧
   W5.cell? ⟨w.heap.size + 2,0,none⟩=some ev∧W5.frozen? ⟨w.heap.size + 2,0,none⟩=false∧W5.cell? ⟨1,0,none⟩=some (.iface 426 (.pointer (some a0)))∧W5.cell? ⟨2,0,none⟩=some (.iface 426 (.pointer (some a1))):=by
 have hS5:=hS.later hB
 have hlt:X < (W4.setCell ⟨w.heap.size + 3,0,none⟩ (.int .i64 n)).heap.size:=by
  have:=(Array.getElem?_eq_some_iff.1 hX).1
  simpa using this
 have hX5:=(hB.block X hlt).trans ((heap_setCell_other _ _ _ _ (by show _≠w.heap.size + 3;exact hX3)).trans hX)
 have y0:=cell_of_row W5 X 0 _ _ _ hX5
 have y3:=cell_of_row W5 X 3 _ _ _ hX5
 have y4:=cell_of_row W5 X 4 _ _ _ hX5
 have u2:=cell_of_row W5 w.heap.size 2 _ _ _ hS5.k0
 rw [hsb] at u2
 obtain ⟨c2,z2⟩:=cell_of_box hS5.k2
 have hv:=hV.below hS5.below
 exact ⟨Lib.hid hS5,Lib.hid (hA.trans (Ag.new _ hB)),y0,y3,y4,u2,c2,z2,hv.g1,hv.g2⟩
theorem Ck.fits (hS:Ck w sbx rec ev k W) {a0 a1:Addr} (hV:Vars a0 a1 w) {W0 W5:World} (hA:Ag (Ql w.heap.size) W0 W) (hB:Below W.heap.size W W5) :
  Hid (Ck w sbx rec ev k W5)∧Hid (Ag (Ql w.heap.size) W0 W5)∧W5.cell? ⟨w.heap.size + 2,0,none⟩=some ev∧W5.frozen? ⟨w.heap.size + 2,0,none⟩=false∧W5.cell? ⟨1,0,none⟩=some (.iface 426 (.pointer (some a0)))∧W5.cell? ⟨2,0,none⟩=some (.iface 426 (.pointer (some a1))):=by
 have hS5:=hS.later hB
 obtain ⟨c2,z2⟩:=cell_of_box hS5.k2
 have hv:=hV.below hS5.below
 exact ⟨Lib.hid hS5,Lib.hid (hA.trans (Ag.new _ hB)),c2,z2,hv.g1,hv.g2⟩
end
set_option maxRecDepth 100000 in
set_option maxHeartbeats 4000000 in
theorem checked_any (a0 a1:Addr) (p:Nat→Prop) (n:Nat) (vs v:Value) (s:Tess.Sch) (f:Fil) (w:World) (hV:Vars a0 a1 w) (hs:SchAt p w vs s) (hf:FilAt p n w v f) (hn:n≤100)
  (hK:Fil.allP (fun x=>decide (-9223372036854775808≤x.kind) && decide (x.kind≤9223372036854775807)) f=true) :
  Calls Tryz.prog 116 #[vs,v] w fun e w'=>e = .returned (errV a0 a1 (Fil.chk s 0 false (Fil.pre 1 f)))∧Below w.heap.size w w':=by
 have HS:=Lib.hid hs
 have HF:=Lib.hid hf
 have HV:=Lib.hid hV
 obtain ⟨vd,vm,rfl,hd,hm,_,_⟩:=hs
 obtain ⟨ad,capd,rfl,_⟩:=slp_len hd
 obtain ⟨am,capm,rfl,_⟩:=slp_len hm
 obtain ⟨wa,wn,wc,za,zc,rfl⟩:=hf.shape6
 clear hd hm hV hf
 refine (callsIn_wide (n:=5)).1 ?_
 refine callsIn_of_wp_marks Tryz.func116 rfl trivial ?_ rfl
 simp only [Tryz.ntmps116,List.size_toArray,List.length_cons,List.length_nil,Nat.reduceAdd,Nat.reduceSub,Array.replicate_succ,Array.replicate_zero,List.push_toArray,List.append_toArray,List.nil_append,List.cons_append]
 gi_wp2
 refine Rf.wpIn_scope_straight ?_
 gi_wp2
 refine wpIn_label ?_
 gi_wp2_with (refine ⟨trivial,?_⟩;gi_at_call 191;refine (callsIn_wide.2 (filters_any _ 1 _ rfl _)).mono ?_;rintro e w' ⟨rfl,rfl⟩)
 obtain ⟨sbx,hsbx⟩:∃ sbx:Array Value,sbx=#[.slice ad s.dims.length capd,.slice am s.mets.length capm,.int .i64 s.grain]:=⟨_,rfl⟩
 obtain ⟨W0,hW0⟩:∃ W0,(((((((w.alloc (.cells #[.slice ad s.dims.length capd,.slice am s.mets.length capm,.int .i64 s.grain] 24)).alloc (.cells #[.int .i64 f.kind,.string f.name,.slice wa wn wc,.int .i64 f.frm,.int .i64 f.to,.slice za f.l.length zc] 31)).alloc (.cells #[.nilIface] 96)).alloc (.cells #[.int .i64 0] 3)).alloc (.cells #[.int .i64 f.kind,.string f.name,.slice wa wn wc,.int .i64 f.frm,.int .i64 f.to,.slice za f.l.length zc] 31)).alloc (.cells #[.int .i64 1] 3)))=W0:=⟨_,rfl⟩
 obtain ⟨h0,h2,h3,h4,h5,hS0,hB0⟩:=laid6 w (.cells #[.slice ad s.dims.length capd,.slice am s.mets.length capm,.int .i64 s.grain] 24) (.cells #[.int .i64 f.kind,.string f.name,.slice wa wn wc,.int .i64 f.frm,.int .i64 f.to,.slice za f.l.length zc] 31) (.cells #[.nilIface] 96) (.cells #[.int .i64 0] 3) (.cells #[.int .i64 f.kind,.string f.name,.slice wa wn wc,.int .i64 f.frm,.int .i64 f.to,.slice za f.l.length zc] 31) (.cells #[.int .i64 1] 3)
 rw [hW0] at h0 h2 h3 h4 h5 hS0 hB0
 rw [← hsbx] at h0
 simp only [hW0,Nat.add_assoc,Nat.reduceAdd]
 have HSBX:=Lib.hid hsbx
 clear hW0 hsbx
 refine Rf.range_wide (gf:=254) (lb:=#[.pointer (some ⟨w.heap.size + 4,0,none⟩),.pointer (some ⟨w.heap.size + 5,0,none⟩)]) rfl (enters_of Tryz.func254 (by kernel_rfl) rfl) ?_
 intro fn W1 hL hD hB1 hS1
 rw [hS0] at hL hD hS1 ⊢
 obtain ⟨rec,hrec,hL⟩:∃ rec:Loop,rec=_∧W1.heap[w.heap.size + 6 + 1]? = some (.loop rec):=⟨_,rfl,hL⟩
 have HREC:=Lib.hid hrec
 have hst:rec.state = .ready∧rec.params.size=2∧rec.pending=none:=by rw [hrec];exact ⟨rfl,rfl,rfl⟩
 clear hrec
 obtain ⟨hst,hps,hpe⟩:=hst
 have hI:Ck w sbx rec (errV a0 a1 0) 0 W1:=⟨(hB1.block _ (by omega)).trans h0,(hB1.block _ (by omega)).trans h2,(hB1.block _ (by omega)).trans h3,hD,hL,Bt hB0 hB1⟩
 have h4':=(hB1.block _ (by omega)).trans h4
 have h5':=(hB1.block _ (by omega)).trans h5
 have HI:=Lib.hid hI
 clear hB0 hB1 h0 h2 h3 h4 h5 hD hL hI
 refine callsIn_of_wp Tryz.func254 rfl trivial ?_ rfl
 simp only [Tryz.ntmps254,List.size_toArray,List.length_cons,List.length_nil,Nat.reduceAdd,Nat.reduceSub,Array.replicate_succ,Array.replicate_zero,List.push_toArray,List.append_toArray,List.nil_append,List.cons_append]
 have c40:=cell_of_row W1 (w.heap.size + 4) 0 _ _ _ h4'
 have c41:=cell_of_row W1 (w.heap.size + 4) 1 _ _ _ h4'
 have c42:=cell_of_row W1 (w.heap.size + 4) 2 _ _ _ h4'
 have c43:=cell_of_row W1 (w.heap.size + 4) 3 _ _ _ h4'
 have c44:=cell_of_row W1 (w.heap.size + 4) 4 _ _ _ h4'
 have c45:=cell_of_row W1 (w.heap.size + 4) 5 _ _ _ h4'
 have c50:=cell_of_row W1 (w.heap.size + 5) 0 _ _ _ h5'
 simp only [List.getElem?_toArray,List.getElem?_cons_succ,List.getElem?_cons_zero] at c40 c41 c42 c43 c44 c45 c50
 clear h4' h5'
 obtain ⟨q',hq'⟩:∃ q':Nat→Prop,q'=fun b=>p b∧b < w.heap.size:=⟨_,rfl⟩
 have HSW:RowKit.Hid (∀ W,Below w.heap.size w W→SchAt q' W (.agg #[.slice ad s.dims.length capd,.slice am s.mets.length capm,.int .i64 s.grain]) s):=Lib.hid (fun W hB=>by
  rw [hq']
  obtain ⟨vd,vm,e1,e2,e3,e4,e5⟩:=HS.out
  exact SchAt.ag ⟨vd,vm,e1,e2.lt,e3.lt,e4,e5⟩ (Ag.below _ hB fun b _ hb=>hb.2))
 have HFW:RowKit.Hid (∀ W,Below w.heap.size w W→FilAt q' n W (.agg #[.int .i64 f.kind,.string f.name,.slice wa wn wc,.int .i64 f.frm,.int .i64 f.to,.slice za f.l.length zc]) f):=Lib.hid (fun W hB=>by
  rw [hq']
  exact HF.out.lt.ag (Ag.below _ hB fun b _ hb=>hb.2))
 have HWALK:RowKit.Hid (Calls Tryz.prog 255 #[.agg #[.int .i64 f.kind,.string f.name,.slice wa wn wc,.int .i64 f.frm,.int .i64 f.to,.slice za f.l.length zc],.int .i64 ((1:Nat):Int),.func (.yield (w.heap.size + 6 + 1)) #[] #[]] W1
   (WalkPost (fun k g W=>k≤40∧Ck w sbx rec (errV a0 a1 (if g then 110 else 0)) k W) (fun W => ∃ k,Ck w sbx { rec with state:=.done,pending:=some (.exit 0) } (errV a0 a1 140) k W) (Ql w.heap.size) (Fil.run s (Fil.pre 1 f) 0 false) W1)):=Lib.hid (by
  refine walk_any s (w.heap.size + 6 + 1) rec.fn (fun d v=>(rec.params.zip #[.int .i64 (d:Nat),v]).foldl (fun tmps (t,a)=>tmps.setIfInBounds t a) rec.tmps) rec.assign rec.body _ _ q' (Ql w.heap.size) (w.heap.size + 8)
   (fun x => -9223372036854775808≤x.kind∧x.kind≤9223372036854775807∧Fil.allP (fun x=>decide (-9223372036854775808≤x.kind) && decide (x.kind≤9223372036854775807)) x=true) ?_
   (fun b hb=>by rw [hq'] at hb;exact ⟨by have:=hb.2;omega,by have:=hb.2;omega,by have:=hb.2;omega⟩) (fun b hb=>⟨by omega,by omega,by omega⟩) (fun k g W h=>by have:=h.2.lt;omega) (fun k g W W' h hb=>⟨h.1,h.2.later hb⟩)
   (fun k g W h d v=>run_yield h.2.kL (by rw [hps];rfl)) ?_ n _ f 1 0 false W1 (HFW.out W1 HI.out.below) ?_ ⟨by omega,HI.out⟩ (by omega)
  ·intro f hf x hx
   have hall:=hf.2.2
   rw [Fil.allP_eq,Bool.and_eq_true,List.all_eq_true] at hall
   have h2:=hall.2 x hx
   have h3:=h2
   rw [Fil.allP_eq,Bool.and_eq_true,Bool.and_eq_true,decide_eq_true_iff,decide_eq_true_iff] at h3
   exact ⟨h3.1.1,h3.1.2,h2⟩
  ·intro k g W hInv d m v x hd hfx hKx
   obtain ⟨xa,xn,xc,ya,yc,rfl⟩:=hfx.shape6
   obtain ⟨hk40,hInv⟩:=hInv
   have HINV:=Lib.hid hInv
   have HFX:=Lib.hid hfx
   have HKX:=Lib.hid (And.intro hKx.1 hKx.2.1)
   clear hInv hfx hKx
   clear c40 c41 c42 c43 c44 c45 c50
   refine Rf.round_wide (r:=rec) ?_
   have hrr:=HREC.out
   subst hrr
   dsimp only
   gi_wp2_with (rw [Oper.semAt_eq _ _ _ (fun c h=>by cases h)];go_simp;try go_bits)
   have hB1:=(Below.refl W.heap.size W).alloc (Nat.le_refl _) (.cells #[.int .i64 x.kind,.string x.name,.slice xa xn xc,.int .i64 x.frm,.int .i64 x.to,.slice ya x.l.length yc] 31)
   have HS1:=Lib.hid (HINV.out.later hB1)
   have HA1:=Lib.hid (Ag.new (Ql w.heap.size) hB1)
   have HBOX:=Lib.hid (heap_alloc_new W (.cells #[.int .i64 x.kind,.string x.name,.slice xa xn xc,.int .i64 x.frm,.int .i64 x.to,.slice ya x.l.length yc] 31))
   have hWl:=HINV.out.lt
   clear hB1
   refine ⟨HS1.out.kL,fun W4 hs4 hl4 => ?_⟩
   have HS4:=Lib.hid (HS1.out.but hs4 hl4)
   have HA4:=Lib.hid (HA1.out.trans (ql_but hs4))
   have HX4:=Lib.hid ((hs4.block W.heap.size (by omega)).trans HBOX.out)
   clear hs4 hl4 HS1 HA1 HBOX
   obtain ⟨c3,z3⟩:=cell_of_box HS4.out.k3
   have HIR:=Lib.hid (fun (W5:World) (hag:Ag (Ql w.heap.size) W W5) (hb:Below w.heap.size w W5)=>isRight_any q' m _ _ s x W5 (HSW.out W5 hb) (HFX.out.ag (hag.weak fun b hb=>by rw [hq'] at hb;exact ⟨by have:=hb.2;omega,by have:=hb.2;omega,by have:=hb.2;omega⟩)) HKX.out)
   by_cases h40:40 < k + 1
   ·have d40:decide ((40:Int) < (k:Int) + 1)=true:=decide_eq_true (by omega)
    have hR:Fil.run s [(d,x)] k g=none:=by simp [Fil.run,h40]
    have HSX:=Lib.hid (HS4.out.set3 (k + 1) ((k:Int) + 1) (by omega))
    have HAX:=Lib.hid (HA4.out.trans (ql_set3 w.heap.size W4 (.int .i64 ((k:Int) + 1))))
    obtain ⟨c2,z2⟩:=cell_of_box HS4.out.k2
    have g1:=(HV.out.below HS4.out.below).g1
    rw [hR]
    gi_wp2_with (rw [Oper.semAt_eq _ _ _ (fun c h=>by cases h)];go_simp;try go_bits)
    refine ⟨trivial,?_⟩
    gi_wp2_with (rw [Oper.semAt_eq _ _ _ (fun c h=>by cases h)];go_simp;try go_bits)
    refine ⟨(HSX.out.set2 (errV a0 a1 140)).kL,fun W6 hs6 hl6 => ?_⟩
    exact ⟨(HAX.out.trans (ql_set2 _ _ _)).trans (ql_but hs6),rfl,k + 1,(HSX.out.set2 (errV a0 a1 140)).but hs6 hl6⟩
   have d40:decide ((40:Int) < (k:Int) + 1)=false:=decide_eq_false (by omega)
   have h40d:decide (k + 1 > 40)=false:=decide_eq_false (by omega)
   by_cases h6:6 < d
   ·have d6:decide ((6:Int) < (d:Int))=true:=decide_eq_true (by omega)
    have hR:Fil.run s [(d,x)] k g=none:=by simp [Fil.run,h6]
    have HSX:=Lib.hid (HS4.out.set3 (k + 1) ((k:Int) + 1) (by omega))
    have HAX:=Lib.hid (HA4.out.trans (ql_set3 w.heap.size W4 (.int .i64 ((k:Int) + 1))))
    obtain ⟨c2,z2⟩:=cell_of_box HS4.out.k2
    have g1:=(HV.out.below HS4.out.below).g1
    rw [hR]
    gi_wp2_with (rw [Oper.semAt_eq _ _ _ (fun c h=>by cases h)];go_simp;try go_bits)
    refine ⟨trivial,?_⟩
    gi_wp2_with (rw [Oper.semAt_eq _ _ _ (fun c h=>by cases h)];go_simp;try go_bits)
    refine ⟨(HSX.out.set2 (errV a0 a1 140)).kL,fun W6 hs6 hl6 => ?_⟩
    exact ⟨(HAX.out.trans (ql_set2 _ _ _)).trans (ql_but hs6),rfl,k + 1,(HSX.out.set2 (errV a0 a1 140)).but hs6 hl6⟩
   have d6:decide ((6:Int) < (d:Int))=false:=decide_eq_false (by omega)
   have h6d:decide (d > 6)=false:=decide_eq_false (by omega)
   have HSX:=Lib.hid (HS4.out.set3 (k + 1) ((k:Int) + 1) (by omega))
   have HAX:=Lib.hid (HA4.out.trans (ql_set3 w.heap.size W4 (.int .i64 ((k:Int) + 1))))
   have u0:=cell_of_row W4 w.heap.size 0 _ _ _ HS4.out.k0
   have u1:=cell_of_row W4 w.heap.size 1 _ _ _ HS4.out.k0
   have u2:=cell_of_row W4 w.heap.size 2 _ _ _ HS4.out.k0
   rw [HSBX.out] at u0 u1 u2
   have v0:=cell_of_row W4 W.heap.size 0 _ _ _ HX4.out
   have v1:=cell_of_row W4 W.heap.size 1 _ _ _ HX4.out
   have v2:=cell_of_row W4 W.heap.size 2 _ _ _ HX4.out
   have v3:=cell_of_row W4 W.heap.size 3 _ _ _ HX4.out
   have v4:=cell_of_row W4 W.heap.size 4 _ _ _ HX4.out
   have v5:=cell_of_row W4 W.heap.size 5 _ _ _ HX4.out
   simp only [List.getElem?_toArray,List.getElem?_cons_succ,List.getElem?_cons_zero] at u0 u1 u2 v0 v1 v2 v3 v4 v5
   have n1:W.heap.size≠w.heap.size + 3:=by omega
   have n2:w.heap.size≠w.heap.size + 3:=by omega
   cases hown:Fil.own s x
   ·have hR:Fil.run s [(d,x)] k g=none:=by simp [Fil.run,hown]
    rw [hR]
    gi_wp2_with (first | (have hxx:=HSX;clear hxx;refine ⟨trivial,?_⟩;gi_at_call 192;refine (callsIn_wide.2 (HIR.out _ HAX.out HSX.out.below)).mono ?_;rintro e W5 ⟨rfl,hB5⟩;rw [hown];obtain ⟨HSY,HAY,y0,y3,y4,u2',c2,z2,g1,g2⟩:=Ck.after HV.out HSX.out HAX.out HX4.out n1 HSBX.out hB5;clear hB5 HSX HAX) | (rw [Oper.semAt_eq _ _ _ (fun c h=>by cases h)];go_simp;try go_bits))
    refine ⟨(HSY.out.set2 (errV a0 a1 140)).kL,fun W6 hs6 hl6 => ?_⟩
    exact ⟨(HAY.out.trans (ql_set2 _ _ _)).trans (ql_but hs6),rfl,k + 1,(HSY.out.set2 (errV a0 a1 140)).but hs6 hl6⟩
   ·by_cases hk6:x.kind=6
    ·have d66:(x.kind == (6:Int))=true:=by rw [hk6];rfl
     have HFI:=Lib.hid (gFits_any x.frm x.to s.grain)
     cases hsf:Fil.spanFits x.frm x.to s.grain
     ·have hR:Fil.run s [(d,x)] k g=some (k + 1,true):=by simp [Fil.run,hown,h40,h6,Fil.badGrain,hk6,hsf]
      rw [hR]
      rw [hsf] at HFI
      clear hk6
      gi_wp2_with (first | (have hxx:=HSX;clear hxx;refine ⟨trivial,?_⟩;gi_at_call 192;refine (callsIn_wide.2 (HIR.out _ HAX.out HSX.out.below)).mono ?_;rintro e W5 ⟨rfl,hB5⟩;rw [hown];obtain ⟨HSY,HAY,y0,y3,y4,u2',c2,z2,g1,g2⟩:=Ck.after HV.out HSX.out HAX.out HX4.out n1 HSBX.out hB5;clear hB5 HSX HAX) | (rw [Oper.semAt_eq _ _ _ (fun c h=>by cases h)];go_simp;try go_bits))
      refine ⟨trivial,?_⟩
      gi_at_call 193
      refine (callsIn_wide.2 (HFI.out _)).mono ?_
      rintro e W7 ⟨rfl,hB7⟩
      obtain ⟨HSZ,HAZ,c2',z2',g1',g2'⟩:=Ck.fits HSY.out HV.out HAY.out hB7
      gi_wp2_with (rw [Oper.semAt_eq _ _ _ (fun c h=>by cases h)];go_simp;try go_bits)
      refine ⟨(HSZ.out.set2 (errV a0 a1 110)).kL,fun W6 hs6 hl6 => ?_⟩
      exact ⟨(HAZ.out.trans (ql_set2 _ _ _)).trans (ql_but hs6),rfl,by omega,(HSZ.out.set2 (errV a0 a1 110)).but hs6 hl6⟩
     ·have hR:Fil.run s [(d,x)] k g=some (k + 1,g):=by simp [Fil.run,hown,h40,h6,Fil.badGrain,hk6,hsf]
      rw [hR]
      rw [hsf] at HFI
      clear hk6
      gi_wp2_with (first | (have hxx:=HSX;clear hxx;refine ⟨trivial,?_⟩;gi_at_call 192;refine (callsIn_wide.2 (HIR.out _ HAX.out HSX.out.below)).mono ?_;rintro e W5 ⟨rfl,hB5⟩;rw [hown];obtain ⟨HSY,HAY,y0,y3,y4,u2',c2,z2,g1,g2⟩:=Ck.after HV.out HSX.out HAX.out HX4.out n1 HSBX.out hB5;clear hB5 HSX HAX) | (rw [Oper.semAt_eq _ _ _ (fun c h=>by cases h)];go_simp;try go_bits))
      refine ⟨trivial,?_⟩
      gi_at_call 193
      refine (callsIn_wide.2 (HFI.out _)).mono ?_
      rintro e W7 ⟨rfl,hB7⟩
      obtain ⟨HSZ,HAZ,c2',z2',g1',g2'⟩:=Ck.fits HSY.out HV.out HAY.out hB7
      gi_wp2_with (rw [Oper.semAt_eq _ _ _ (fun c h=>by cases h)];go_simp;try go_bits)
      refine ⟨HSZ.out.kL,fun W6 hs6 hl6 => ?_⟩
      exact ⟨HAZ.out.trans (ql_but hs6),rfl,by omega,HSZ.out.but hs6 hl6⟩
    ·have hR:Fil.run s [(d,x)] k g=some (k + 1,g):=by simp [Fil.run,hown,h40,h6,Fil.badGrain,hk6]
     have d66:(x.kind == (6:Int))=false:=by rw [beq_eq_false_iff_ne];exact hk6
     rw [hR]
     gi_wp2_with (first | (have hxx:=HSX;clear hxx;refine ⟨trivial,?_⟩;gi_at_call 192;refine (callsIn_wide.2 (HIR.out _ HAX.out HSX.out.below)).mono ?_;rintro e W5 ⟨rfl,hB5⟩;rw [hown];obtain ⟨HSY,HAY,y0,y3,y4,u2',c2,z2,g1,g2⟩:=Ck.after HV.out HSX.out HAX.out HX4.out n1 HSBX.out hB5;clear hB5 HSX HAX) | (rw [Oper.semAt_eq _ _ _ (fun c h=>by cases h)];go_simp;try go_bits))
     refine ⟨trivial,?_⟩
     gi_wp2_with (rw [Oper.semAt_eq _ _ _ (fun c h=>by cases h)];go_simp;try go_bits)
     refine ⟨HSY.out.kL,fun W6 hs6 hl6 => ?_⟩
     exact ⟨HAY.out.trans (ql_but hs6),rfl,by omega,HSY.out.but hs6 hl6⟩
  ·have h3:=hK
   rw [Fil.allP_eq,Bool.and_eq_true,Bool.and_eq_true,decide_eq_true_iff,decide_eq_true_iff] at h3
   exact ⟨h3.1.1,h3.1.2,hK⟩)
 clear hq' hK
 gi_wp2
 refine ⟨trivial,(callsIn_wide.2 HWALK.out).mono ?_⟩
 have HCHK:=Lib.hid (Fil.chk_run s (Fil.pre 1 f) 0 false)
 clear HWALK
 cases hrun:Fil.run s (Fil.pre 1 f) 0 false with
 | none=>
   rw [hrun] at HCHK
   rintro e W3 ⟨_,rfl,kx,hstop⟩
   have HST:=Lib.hid hstop
   clear hstop
   gi_wp2
   go_end0
   refine ⟨⟨_,rfl⟩,_,HST.out.kL,by simp,?_⟩
   intro W4 hW4
   dsimp only
   obtain ⟨q2,y2⟩:=cell_of_box ((hW4.block (w.heap.size + 2) (by omega)).trans HST.out.k2)
   have hKD:=(hW4.block (w.heap.size + 6) (by omega)).trans HST.out.kD
   have hsz4:w.heap.size + 7 < W4.heap.size:=by rw [hW4.size];exact HST.out.lt
   have HB4:=Lib.hid (HST.out.below.trans (hW4.below (by omega)))
   clear hW4 HST
   gi_wp2
   refine ⟨by simp,.inl ⟨_,_,rfl,run_takeDeferred hKD,?_⟩⟩
   refine ⟨_,results_tmp rfl _ _ _,by rw [HCHK.out];rfl,?_⟩
   exact HB4.out.grown (grownBy_putObj W4 (w.heap.size + 6) (.deferred none)) (by omega) (fun k e=>by cases e;omega)
 | some y=>
   obtain ⟨k9,g9⟩:=y
   rw [hrun] at HCHK
   rintro e W3 ⟨_,rfl,hinv⟩
   have HST:=Lib.hid hinv.2
   clear hinv
   cases g9
   all_goals
    gi_wp2
    go_end0
    refine ⟨⟨_,rfl⟩,_,HST.out.kL,by rw [hst];decide,?_⟩
    intro W4 hW4
    rw [hpe]
    dsimp only
    obtain ⟨q2,y2⟩:=cell_of_box ((hW4.block (w.heap.size + 2) (by omega)).trans HST.out.k2)
    have hKD:=(hW4.block (w.heap.size + 6) (by omega)).trans HST.out.kD
    have hsz4:w.heap.size + 7 < W4.heap.size:=by rw [hW4.size];exact HST.out.lt
    have HB4:=Lib.hid (HST.out.below.trans (hW4.below (by omega)))
    clear hW4 HST
    gi_wp2
    refine ⟨by simp,.inl ⟨_,_,rfl,run_takeDeferred hKD,?_⟩⟩
    refine ⟨_,results_tmp rfl _ _ _,by rw [HCHK.out];rfl,?_⟩
    exact HB4.out.grown (grownBy_putObj W4 (w.heap.size + 6) (.deferred none)) (by omega) (fun k e=>by cases e;omega)
end Go.Proofs.YtbbgjjjeecfnoaaGreatDoor
namespace Go.Proofs.YtbbgjjjeecfnoaaGreatDoor
open Go.RowKit Go.Sort Go.Shelf
open Tess (Fil)
def kindsOk (f:Fil):Prop:=Fil.allP (fun x=>decide (-9223372036854775808≤x.kind) && decide (x.kind≤9223372036854775807)) f=true
theorem chk_code (s:Tess.Sch) (l:List (Nat×Fil)):∀ n g,Fil.chk s n g l=0∨Fil.chk s n g l=140∨Fil.chk s n g l=110:=by
 induction l with
 | nil=>intro n g;cases g <;> simp [Fil.chk]
 | cons x r ih=>
   intro n g
   obtain ⟨d,x⟩:=x
   simp only [Fil.chk]
   split
   ·exact .inr (.inl rfl)
   ·exact ih _ _
theorem right_cells3 {w w':World} {g:Nat} {x0 x1 x2:Value} {t:TypeId} (hB:Below w.heap.size w w') (hg:w.heap[g]? = some (.cells #[x0,x1,x2] t (0,0))):w'.cell? ⟨g,0,none⟩=some x0∧w'.cell? ⟨g,1,none⟩=some x1∧w'.cell? ⟨g,2,none⟩=some x2:=by
 have hg':=(hB.block _ (Array.getElem?_eq_some_iff.1 hg).1).trans hg
 exact ⟨cell_of_row _ _ 0 _ _ _ hg',cell_of_row _ _ 1 _ _ _ hg',cell_of_row _ _ 2 _ _ _ hg'⟩
theorem right_cells6 {w w':World} {g:Nat} {x0 x1 x2 x3 x4 x5:Value} {t:TypeId} (hB:Below w.heap.size w w') (hg:w.heap[g]? = some (.cells #[x0,x1,x2,x3,x4,x5] t (0,0))):w'.cell? ⟨g,0,none⟩=some x0∧w'.cell? ⟨g,1,none⟩=some x1∧w'.cell? ⟨g,2,none⟩=some x2∧w'.cell? ⟨g,3,none⟩=some x3∧w'.cell? ⟨g,4,none⟩=some x4∧w'.cell? ⟨g,5,none⟩=some x5:=by
 have hg':=(hB.block _ (Array.getElem?_eq_some_iff.1 hg).1).trans hg
 exact ⟨cell_of_row _ _ 0 _ _ _ hg',cell_of_row _ _ 1 _ _ _ hg',cell_of_row _ _ 2 _ _ _ hg',cell_of_row _ _ 3 _ _ _ hg',cell_of_row _ _ 4 _ _ _ hg',cell_of_row _ _ 5 _ _ _ hg'⟩
set_option maxRecDepth 100000 in
theorem check_any (a0 a1:Addr) (p:Nat→Prop) (n:Nat) (vs v:Value) (s:Tess.Sch) (f:Fil) (w:World) (hV:Vars a0 a1 w) (hs:SchAt p w vs s) (hf:FilAt p n w v f) (hn:n≤100) (hK:kindsOk f) :
  Calls Tryz.prog 55 #[vs,v] w fun e w'=>e = .returned (.int .i64 (Fil.checkE s f))∧Below w.heap.size w w':=by
 have HR:=Lib.hid (fun W (hB:Below w.heap.size w W)=>schRight_any vs s p W (hs.ag (Ag.new p hB)))
 have HC:=Lib.hid (fun W (hB:Below w.heap.size w W)=>checked_any a0 a1 p n vs v s f W (hV.below hB) (hs.ag (Ag.new p hB)) (hf.ag (Ag.new p hB)) hn hK)
 have HT:=Lib.hid (fun W (hB:Below w.heap.size w W)=>told_any a0 a1 (Fil.chk s 0 false (Fil.pre 1 f)) W (hV.below hB) (chk_code s _ _ _))
 have HE:RowKit.Hid (Fil.checkE s f=if Tess.schOk s then Fil.chk s 0 false (Fil.pre 1 f) else 100):=Lib.hid rfl
 obtain ⟨vd,vm,rfl,hd,hm,_,_⟩:=hs
 obtain ⟨ad,capd,rfl,_⟩:=slp_len hd
 obtain ⟨am,capm,rfl,_⟩:=slp_len hm
 obtain ⟨wa,wn,wc,za,zc,rfl⟩:=hf.shape6
 clear hd hm hV hf
 obtain ⟨h1,h2,hS0,hB0⟩:=laid2 w (.cells #[.slice ad s.dims.length capd,.slice am s.mets.length capm,.int .i64 s.grain] 24) (.cells #[.int .i64 f.kind,.string f.name,.slice wa wn wc,.int .i64 f.frm,.int .i64 f.to,.slice za f.l.length zc] 31)
 have HB0:=Lib.hid hB0
 have H1:=Lib.hid h1
 have H2:=Lib.hid h2
 clear hB0 h1 h2 hS0
 cases hok:Tess.schOk s
 ·rw [hok] at HR HE
  go_enter Tryz.func55,Tryz.ntmps55
  go_wp2_with (go_at_call 36;refine (HR.out _ HB0.out).mono ?_;rintro e W1 ⟨rfl,hB1⟩;have HB1:=Lib.hid hB1;clear hB1)
  go_ret
  rw [HE.out]
  exact ⟨rfl,Bt HB0.out HB1.out⟩
 ·rw [hok] at HR HE
  go_enter Tryz.func55,Tryz.ntmps55
  go_wp2_with (first | (go_at_call 36;refine (HR.out _ HB0.out).mono ?_;rintro e W1 ⟨rfl,hB1⟩;obtain ⟨y0,y1,y2,y3,y4,y5⟩:=right_cells6 hB1 H2.out;obtain ⟨x0,x1,x2⟩:=right_cells3 hB1 H1.out;have HB1:=Lib.hid hB1;clear hB1) | (go_at_call 116;refine (HC.out _ (Bt HB0.out HB1.out)).mono ?_;rintro e W2 ⟨rfl,hB2⟩;have HB2:=Lib.hid (Bt (Bt HB0.out HB1.out) hB2);clear hB2) | (go_at_call 115;refine (HT.out _ HB2.out).mono ?_;rintro e W3 ⟨rfl,rfl⟩))
  go_ret
  rw [HE.out]
  exact ⟨rfl,HB2.out⟩
end Go.Proofs.YtbbgjjjeecfnoaaGreatDoor
