/- Joined by mergeK.py: H17, K64, K73, K65p -/
import Derived.Test.YtaddkkkchkdgkaaGreatDoorWC44
import Derived.Test.YtaddkkkchkdgkaaGreatDoorWC12
import Derived.Test.YtaddkkkchkdgkaaGreatDoorWC43
import Derived.Test.YtaddkkkchkdgkaaGreatDoorWC19
import Derived.Test.YtaddkkkchkdgkaaGreatDoorWC25
import Derived.Lib.LaidPrint
import Derived.Stop.LaidTwo
import Derived.Test.YtaddkkkchkdgkaaGreatDoorRows
import Derived.ChangeSame
import Derived.ChangeVars
import Derived.JoinedOf
import Derived.RowKit
import Derived.RowKitTokens
import Derived.LaidLaws
import Derived.LaidHandle
import Derived.LaidMore
import Derived.PinnedBridge
import Derived.Lib.LaidU8
import Derived.Lay
import Derived.WalkSmall
import Derived.Stop.Joined
import Derived.Stop.LaidErr
import Derived.Stop.ErrReads
import Derived.Test.YtaddkkkchkdgkaaGreatDoorWC35
namespace Tess
open Go
abbrev ab:List ByteArray:=[⟨#[97]⟩,⟨#[98]⟩]
def schAB:Sch:=⟨ab,[],1⟩
end Tess
namespace Go.Proofs.YtaddkkkchkdgkaaGreatDoor
open Go.RowKit Go.Sort
open Tess (Fil Que)
theorem row_at' {q:Nat→Prop} {w:World} {b:Nat} {t:TypeId} (l:List Value) (h:w.heap[b]? = some (.cells l.toArray t (0,0))) (h0:l.length≤maxLen) (hq:q b):SlP q w (.slice (some ⟨b,0,none⟩) l.length l.length) l:=
 ⟨⟨h0,_,_,rfl,fun _=>⟨b,0,rfl,(Array.getElem?_eq_some_iff.1 h).1,fun j hj=>by rw [Nat.zero_add,cell_of_row w b j _ _ _ h];simp [hj]⟩⟩,fun _ c e=>by cases e;exact hq,fun n c e=>by cases e⟩
theorem kindsAB:kindsOk (Fil.mk 1 ⟨#[]⟩ [] 0 0 []):=by
 unfold kindsOk
 rw [Fil.allP_eq]
 simp [Fil.kind,Fil.l]
abbrev schC (B:Nat):Array Value:=#[.slice (some ⟨B,0,none⟩) 2 2,.slice none 0 0,.int .i64 1]
abbrev queC (B:Nat) (mode:Int) (vS:Value):Array Value:=#[.slice (some ⟨B + 1 + 1,0,none⟩) 1 1,.slice (some ⟨B + 1 + 1 + 1,0,none⟩) 2 2,.int .i64 mode,vS,.int .i64 0,.int .i64 1,.string ⟨#[]⟩,.slice none 0 0,.int .i64 0,.int .i64 0,.slice none 0 0,.slice none 0 0,.slice none 0 0,.int .i64 0]
structure Sh (w:World) (mode:Int) (vS:Value) (W:World):Prop where
 kA:W.heap[w.heap.size]? = some (.cells #[.string ⟨#[97]⟩,.string ⟨#[98]⟩] 9 (0,0))
 kS:W.heap[w.heap.size + 1]? = some (.cells (schC w.heap.size) 24 (0,0))
 kG:W.heap[w.heap.size + 1 + 1]? = some (.cells #[.int .i64 1,.string ⟨#[]⟩] 76 (0,0))
 kN:W.heap[w.heap.size + 1 + 1 + 1]? = some (.cells #[.string ⟨#[97]⟩,.string ⟨#[98]⟩] 9 (0,0))
 kQ:W.heap[w.heap.size + 1 + 1 + 1 + 1]? = some (.cells (queC w.heap.size mode vS) 35 (0,0))
 below:Below w.heap.size w W
def Shq (w:World) (b:Nat):Prop:=b≠w.heap.size + 1∧b≠w.heap.size + 1 + 1 + 1 + 1
section
variable {w W W':World} {mode:Int} {vS:Value}
theorem Sh.lt (h:Sh w mode vS W):w.heap.size + 1 + 1 + 1 + 1 < W.heap.size:=(Array.getElem?_eq_some_iff.1 h.kQ).1
theorem Sh.later (h:Sh w mode vS W) (hb:Below W.heap.size W W'):Sh w mode vS W':=
 have:=h.lt
 ⟨(hb.block _ (by omega)).trans h.kA,(hb.block _ (by omega)).trans h.kS,(hb.block _ (by omega)).trans h.kG,(hb.block _ (by omega)).trans h.kN,(hb.block _ (by omega)).trans h.kQ,Bt h.below hb⟩
theorem Sh.set (h:Sh w mode vS W) (i:Nat) (u:Value) (mode':Int) (vS':Value) (e:(queC w.heap.size mode vS).setIfInBounds i u=queC w.heap.size mode' vS'):Sh w mode' vS' (W.setCell ⟨w.heap.size + 1 + 1 + 1 + 1,i,none⟩ u):=
 ⟨(heap_setCell_other _ _ _ _ (by show _≠w.heap.size + 1 + 1 + 1 + 1;omega)).trans h.kA,(heap_setCell_other _ _ _ _ (by show _≠w.heap.size + 1 + 1 + 1 + 1;omega)).trans h.kS,(heap_setCell_other _ _ _ _ (by show _≠w.heap.size + 1 + 1 + 1 + 1;omega)).trans h.kG,
   (heap_setCell_other _ _ _ _ (by show _≠w.heap.size + 1 + 1 + 1 + 1;omega)).trans h.kN,by have:=heap_setCell_same W (w.heap.size + 1 + 1 + 1 + 1) i _ 35 u h.kQ;rw [e] at this;exact this,h.below.setCell (by show _≤w.heap.size + 1 + 1 + 1 + 1;omega) _⟩
theorem Sh.sch (h:Sh w mode vS W):SchAt (Shq w) W (.agg (schC w.heap.size)) Tess.schAB:=
 ⟨_,_,rfl,row_at' [.string ⟨#[97]⟩,.string ⟨#[98]⟩] h.kA (by decide) ⟨by omega,by omega⟩,SlP.nil _ _,(fun x (hx:x ∈ Tess.ab)=>by
   rcases List.mem_cons.1 hx with rfl | hx
   ·exact (by decide:(1:Nat)≤maxLen)
   ·rcases List.mem_cons.1 hx with rfl | hx
    ·exact (by decide:(1:Nat)≤maxLen)
    ·cases hx),fun x (hx:x ∈ ([]:List ByteArray))=>by cases hx⟩
end
end Go.Proofs.YtaddkkkchkdgkaaGreatDoor
namespace Go.Proofs.YtaddkkkchkdgkaaGreatDoor
open Go.RowKit Go.Sort Go.Shelf
open Tess (CK Pay PayOk CelOk CelsOk Que Fil groupsP)
structure Lw (T:Lib.PrintTabs) (a0 a1:Addr) (w:World):Prop where
 vars:Vars a0 a1 w
 vn:∀ w',Below w.heap.size w w'→Vn T w'
 et:w.cell? ⟨0,0,none⟩=some (.iface 229 (.agg #[.pointer (some ⟨14,89,none⟩)]))
theorem Lw.below {T:Lib.PrintTabs} {a0 a1:Addr} {w w':World} (h:Lw T a0 a1 w) (hb:Below w.heap.size w w'):Lw T a0 a1 w':=
 ⟨h.vars.below hb,fun _ hb'=>h.vn _ (Bt hb hb'),(hb.cell (p:=⟨0,0,none⟩) (World.block_lt_of_cell? _ _ h.et)).trans h.et⟩
theorem parts_mk {p:Nat→Prop} {W:World} {vs:List Value} {pts:List (List (CK×Pay))} (hlen:vs.length=pts.length) (hl:pts.length≤maxLen) (h:∀ j (h1:j < vs.length) (h2:j < pts.length),CelsAt p W vs[j] pts[j]) :
  PartsAt (fun b=>p b∨b=W.heap.size) (W.alloc (.cells vs.toArray 41)) (.slice (some ⟨W.heap.size,0,none⟩) vs.length vs.length) pts:=by
 rw [hlen]
 refine ⟨_,_,rfl,hl,Nat.le_refl _,(fun e=>by cases e),fun _=>⟨W.heap.size,0,rfl,by simp,.inr rfl,fun j hj=>⟨[vs[j]'(by omega)],rfl,⟨_,rfl,((h j (by omega) hj).ag (Ag.new _ (laid1 _ _).2.2)).weak fun _ h => .inl h⟩,fun i hi => ?_⟩⟩⟩
 obtain rfl:i=0:=by omega
 rw [cell_of_row _ _ _ _ _ _ (heap_alloc_new _ _),List.getElem?_toArray]
 simp [show j < vs.length by omega]
theorem parts1 {p:Nat→Prop} {W:World} {v:Value} {C:List (CK×Pay)} (h:CelsAt p W v C):PartsAt (fun b=>p b∨b=W.heap.size) (W.alloc (.cells #[v] 41)) (.slice (some ⟨W.heap.size,0,none⟩) 1 1) [C]:=
 parts_mk (vs:=[v]) (pts:=[C]) rfl (by show (1:Nat)≤maxLen;decide) fun j h1 h2=>by
  have h1:j < 1:=h1
  obtain rfl:j=0:=by omega
  exact h
theorem parts2 {p:Nat→Prop} {W:World} {v u:Value} {C D:List (CK×Pay)} (h:CelsAt p W v C) (h':CelsAt p W u D):PartsAt (fun b=>p b∨b=W.heap.size) (W.alloc (.cells #[v,u] 41)) (.slice (some ⟨W.heap.size,0,none⟩) 2 2) [C,D]:=
 parts_mk (vs:=[v,u]) (pts:=[C,D]) rfl (by show (2:Nat)≤maxLen;decide) fun j h1 h2=>by
  have h1:j < 2:=h1
  rcases (show j=0∨j=1 by omega) with rfl | rfl
  ·exact h
  ·exact h'
theorem parts3 {p:Nat→Prop} {W:World} {v u x:Value} {C D E:List (CK×Pay)} (h:CelsAt p W v C) (h':CelsAt p W u D) (h2:CelsAt p W x E):PartsAt (fun b=>p b∨b=W.heap.size) (W.alloc (.cells #[v,u,x] 41)) (.slice (some ⟨W.heap.size,0,none⟩) 3 3) [C,D,E]:=
 parts_mk (vs:=[v,u,x]) (pts:=[C,D,E]) rfl (by show (3:Nat)≤maxLen;decide) fun j h1 h3=>by
  have h1:j < 3:=h1
  rcases (show j=0∨j=1∨j=2 by omega) with rfl | rfl | rfl
  ·exact h
  ·exact h'
  ·exact h2
theorem CelsAt.nilc (p:Nat→Prop) (W:World):CelsAt p W (.slice none 0 0) []:=ListAt.nil _ _ _ _
theorem laid9 (w:World) (A B C D E F G H I:Obj):∃ W,(((((((((w.alloc A).alloc B).alloc C).alloc D).alloc E).alloc F).alloc G).alloc H).alloc I)=W∧W.heap[w.heap.size]? = some A∧W.heap[w.heap.size + 1]? = some B∧W.heap[w.heap.size + 1 + 1]? = some C∧W.heap[w.heap.size + 1 + 1 + 1]? = some D∧W.heap[w.heap.size + 1 + 1 + 1 + 1]? = some E∧W.heap[w.heap.size + 1 + 1 + 1 + 1 + 1]? = some F∧W.heap[w.heap.size + 1 + 1 + 1 + 1 + 1 + 1]? = some G∧W.heap[w.heap.size + 1 + 1 + 1 + 1 + 1 + 1 + 1]? = some H∧W.heap[w.heap.size + 1 + 1 + 1 + 1 + 1 + 1 + 1 + 1]? = some I∧W.heap.size=w.heap.size + 9∧Below w.heap.size w W:=by
 obtain ⟨h0,h1,h2,h3,hS,hB⟩:=laid4 w A B C D
 obtain ⟨k0,k1,k2,k3,k4,kS,kB⟩:=laid5 ((((w.alloc A).alloc B).alloc C).alloc D) E F G H I
 rw [hS] at k0 k1 k2 k3 k4 kS
 refine ⟨_,rfl,(kB.block _ (by omega)).trans h0,(kB.block _ (by omega)).trans h1,(kB.block _ (by omega)).trans h2,(kB.block _ (by omega)).trans h3,k0,k1,k2,k3,k4,kS,Bt hB kB⟩
end Go.Proofs.YtaddkkkchkdgkaaGreatDoor
namespace Go.Proofs.YtaddkkkchkdgkaaGreatDoor
open Go.ChangeShapes Go.WideShapes Go.RowKit Go.Lib
theorem own:ownKnob Tryz.prog.godebug=none:=by kernel_rfl
theorem laidOut:laidOutB Tryz.prog=true:=by kernel_rfl
theorem gEt : Tryz.prog.globalNamed "errors.errorType" = some 0 := by kernel_rfl
theorem gPow : Tryz.prog.globalNamed "internal/strconv.uint64pow10" = some 3 := by kernel_rfl
theorem gNone : Tryz.prog.globalNamed "tesserae/filter.errNone" = some 1 := by kernel_rfl
theorem gGrain : Tryz.prog.globalNamed "tesserae/filter.errGrain" = some 2 := by kernel_rfl
theorem gNoneT:(Tryz.prog.globals[1]?).map (·.type)=some 89:=by kernel_rfl
theorem gGrainT:(Tryz.prog.globals[2]?).map (·.type)=some 89:=by kernel_rfl
theorem gPowT:(Tryz.prog.globals[3]?).map (·.type)=some 298:=by kernel_rfl
theorem gRt : (Tryz.prog.cutTypes.find? (·.1 == "internal/reflectlite.rtype")).map (·.2) = some 229 := by kernel_rfl
theorem gOne:((List.range Tryz.prog.types.size).filter fun t=>Tryz.prog.rowNamed t [101,114,114,111,114])=[89]:=by kernel_rfl
theorem gStar : "*" ++ "errors.errorString" = "*errors.errorString" := by decide
theorem gRow (u : TypeId) (h : Tryz.prog.typeName? 3 u = some "*errors.errorString") : u = 324 :=
 typeName_ptr_named (nm := "errors.errorString") (by rw [gStar]; kernel_rfl) (by kernel_rfl) (by decide) u (by rw [gStar]; exact h)
theorem gCells:Tryz.prog.cellsOf 344=1:=by kernel_rfl
theorem gCells2:Tryz.prog.cellsOf 9=1:=by kernel_rfl
abbrev plainVars : List (String × DataW Unit) := [("math/bits.deBruijn32tab", Rows.laid_math_bits_deBruijn32tab), ("math/bits.deBruijn64tab", Rows.laid_math_bits_deBruijn64tab), ("internal/strconv.uint64pow10", Rows.laid_internal_strconv_uint64pow10), ("unicode/utf8.acceptRanges", Rows.laid_unicode_utf8_acceptRanges), ("tesserae/filter.errNone", Rows.laid_tesserae_filter_errNone), ("tesserae/filter.errGrain", Rows.laid_tesserae_filter_errGrain), ("strconv.isGraphic", Rows.laid_strconv_isGraphic), ("strconv.isNotPrint16", Rows.laid_strconv_isNotPrint16), ("strconv.isNotPrint32", Rows.laid_strconv_isNotPrint32), ("strconv.isPrint16", Rows.laid_strconv_isPrint16), ("strconv.isPrint32", Rows.laid_strconv_isPrint32), ("unicode/utf8.first", Rows.laid_unicode_utf8_first)]
abbrev laidVars : List (String × DataW Unit) := [("math/bits.deBruijn32tab", Rows.laid_math_bits_deBruijn32tab), ("math/bits.deBruijn64tab", Rows.laid_math_bits_deBruijn64tab), ("internal/strconv.uint64pow10", Rows.laid_internal_strconv_uint64pow10), ("unicode/utf8.acceptRanges", Rows.laid_unicode_utf8_acceptRanges), ("errors.errorType", Rows.laid_errors_errorType), ("tesserae/filter.errNone", Rows.laid_tesserae_filter_errNone), ("tesserae/filter.errGrain", Rows.laid_tesserae_filter_errGrain), ("strconv.isGraphic", Rows.laid_strconv_isGraphic), ("strconv.isNotPrint16", Rows.laid_strconv_isNotPrint16), ("strconv.isNotPrint32", Rows.laid_strconv_isNotPrint32), ("strconv.isPrint16", Rows.laid_strconv_isPrint16), ("strconv.isPrint32", Rows.laid_strconv_isPrint32), ("unicode/utf8.first", Rows.laid_unicode_utf8_first)]
theorem split_laid (W : World) : laidMetH Tryz.prog laidVars W ↔ laidMet Tryz.prog plainVars W ∧ handlesMet Tryz.prog [("errors.errorType", Rows.laid_errors_errorType)] W := by
 have e1 : (laidVars.filter fun x => x.2.handleName?.isSome) = [("errors.errorType", Rows.laid_errors_errorType)] := by kernel_rfl
 have e2:(laidVars.filter fun x=>x.2.handleName?.isNone)=plainVars:=by kernel_rfl
 unfold laidMetH
 rw [e1]
 simp only [e2]
theorem pow_eq:(Rows.laid_internal_strconv_uint64pow10:DataW Unit)=tabData .u64 pow10Tab:=by kernel_rfl
theorem acc_eq:(Rows.laid_unicode_utf8_acceptRanges:DataW Unit)=acceptData:=by kernel_rfl
set_option maxRecDepth 100000 in
theorem vars_of_laid {W:World} (h:laidMetH Tryz.prog laidVars W):∃ a0 a1,Lw Lib.goPrintTabs a0 a1 W:=by
 obtain ⟨hp,hh⟩:=(split_laid W).1 h
 obtain ⟨name,u,ty,e1,e2,e3,e4,e5⟩:=hh _ (List.mem_singleton.2 rfl)
 have en:name=[101,114,114,111,114]:=(Option.some.inj e1).symm
 subst en
 obtain rfl:=Option.some.inj (gRt.symm.trans e2)
 have hm:ty ∈ (List.range Tryz.prog.types.size).filter fun t=>Tryz.prog.rowNamed t [101,114,114,111,114]:=List.mem_filter.2 ⟨List.mem_range.2 e3,e4⟩
 rw [gOne] at hm
 obtain rfl:=List.mem_singleton.1 hm
 have hh:typeHandle Tryz.prog 89 = .pointer (some ⟨14,89,none⟩):=by kernel_rfl
 rw [hh] at e5
 have hpow : TabIs Tryz.prog W "internal/strconv.uint64pow10" .u64 pow10Tab := by
  have:=hp.tail.tail
  rw [pow_eq] at this
  exact tabIs_of_head gPow gPowT Tryz.underlying298 Tryz.underlying58 (by kernel_rfl) (by kernel_rfl) this
 have hutf:=Go.Proofs.utf8Tabs_of_reads (ρ:=Tryz.lays177_ren) { Tryz.lays177 with } ⟨by kernel_rfl,by kernel_rfl,by kernel_rfl,by kernel_rfl,by kernel_rfl,by kernel_rfl,by kernel_rfl⟩ (w:=W) (by rw [← Pinned.utf8First_eq];exact laidMet.reads hp (List.mem_of_getElem? (i:=11) rfl)) (by rw [← acc_eq];exact laidMet.reads hp (List.mem_of_getElem? (i:=3) rfl))
 have hprt:=Go.Proofs.printTabs_of_reads (ρ:=Tryz.lays177_ren) { Tryz.lays177 with } ⟨by kernel_rfl,by kernel_rfl,by kernel_rfl,by kernel_rfl,by kernel_rfl,by kernel_rfl,by kernel_rfl,by kernel_rfl,by kernel_rfl,by kernel_rfl⟩ (w:=W) (by rw [← Pinned.isPrint16_eq];exact laidMet.reads hp (List.mem_of_getElem? (i:=9) rfl)) (by rw [← Pinned.isNotPrint16_eq];exact laidMet.reads hp (List.mem_of_getElem? (i:=7) rfl)) (by rw [← Pinned.isPrint32_eq];exact laidMet.reads hp (List.mem_of_getElem? (i:=10) rfl)) (by rw [← Pinned.isNotPrint32_eq];exact laidMet.reads hp (List.mem_of_getElem? (i:=8) rfl))
 obtain ⟨b0,b1,s0,s1,c0,c1,t0,t1,hv0,hv1,_,_,_,_,_,_,hne,hb0,hb1⟩:=laid_sentinels2 hp.tail.tail.tail.tail gNone gNoneT gGrain gGrainT Tryz.underlying89 gRow Tryz.underlying324 Tryz.underlying344 rfl rfl Tryz.underlying9 gCells gCells2
 refine ⟨b0,b1,⟨hne,by simpa using World.var?_cell gNone hv0 0,by simpa using World.var?_cell gGrain hv1 0,⟨c0,t0,hb0⟩,⟨c1,t1,hb1⟩⟩,fun w' hB=>Vn.below (w:=W) ⟨fun w2 h2 => ?_,hprt,hutf⟩ hB,by simpa using World.var?_cell gEt e5 0⟩
 exact var?_below h2 gPow (World.block_lt_of_cell? W ⟨3,0,none⟩ (u:=.int .u64 1) (by simpa [pow10Tab] using World.var?_cell gPow hpow 0)) hpow
noncomputable def world0 (os:Os):World:=
 let w0:=World.holding Tryz.prog os ⟨#[],#[],[]⟩
 { w0 with heap:=w0.heap.modify 0 fun
     | .cells _ t frozen => .cells #[.iface 229 (.agg #[.pointer (some ⟨14,89,none⟩)])] t frozen
     | o=>o }
noncomputable def laidWorld (os:Os):World:=(world0 os).layVars Tryz.prog plainVars
theorem laidWorld_os (os:Os):(laidWorld os).os=os:=World.layVars_os _ _ _
set_option maxRecDepth 100000 in
theorem laidWorld_plain (os:Os):laidMet Tryz.prog plainVars (laidWorld os):=by
 have e1:(plainVars.filter fun x=>(plainVars.map (·.1)).contains x.1)=plainVars:=List.filter_eq_self.2 fun x hx=>List.contains_iff_mem.2 (List.mem_map.2 ⟨x,hx,rfl⟩)
 have e2:(plainVars.filter fun x => !(plainVars.map (·.1)).contains x.1)=[]:=List.filter_eq_nil_iff.2 fun x hx=>by rw [List.contains_iff_mem.2 (List.mem_map.2 ⟨x,hx,rfl⟩)];simp
 exact laidMet_layVars (w0:=world0 os) (plainVars.map (·.1)) [] (by rw [e1];rfl) (by rw [e1];kernel_rfl) (by rw [e1];kernel_rfl) (by rw [e2];exact LaidIn.none)
set_option maxRecDepth 100000 in
theorem laidWorld_et (os : Os) (args : Array Value) : ((laidWorld os).forCall (fun _ _ => 0) ⟨#[], args, []⟩).memory.var? Tryz.prog "errors.errorType" = some #[.iface 229 (.agg #[typeHandle Tryz.prog 89])] := by kernel_rfl
set_option maxRecDepth 100000 in
theorem laidWorld_met (os:Os) (args:Array Value):laidMetH Tryz.prog laidVars ((laidWorld os).forCall (fun _ _=>0) ⟨#[],args,[]⟩).memory:=by
 refine (split_laid _).2 ⟨(laidWorld_plain os).of_heap (by simp [World.memory,World.forCall,Input.heap]),fun x hx => ?_⟩
 obtain rfl:=List.mem_singleton.1 hx
 exact ⟨[101,114,114,111,114],229,89,rfl,gRt,of_decide_eq_true (by kernel_rfl),by kernel_rfl,laidWorld_et os args⟩
set_option maxRecDepth 100000 in
theorem laidWorld_shaped (os:Os) (args:Array Value):((laidWorld os).forCall (fun _ _=>0) ⟨#[],args,[]⟩).Shaped Tryz.prog:=World.shaped_of_ZipB (by kernel_rfl) (by kernel_rfl)
end Go.Proofs.YtaddkkkchkdgkaaGreatDoor
namespace Tess
open Go Kl
abbrev tx:ByteArray:=⟨#[120]⟩
abbrev ty:ByteArray:=⟨#[121]⟩
def sch16:Sch:=⟨[⟨#[97]⟩],[⟨#[110]⟩],1⟩
def rows16:List Row:=[⟨1,[⟨tx,false⟩],[5]⟩,⟨1,[⟨ty,false⟩],[1]⟩,⟨2,[⟨ty,false⟩],[3]⟩]
def que16:Que:=⟨[⟨2,⟨#[110]⟩⟩],[⟨#[97]⟩],1,[],0,.mk 1 ⟨#[]⟩ [] 0 0 [],[],[],0⟩
theorem sch16_ok:schOk sch16=true:=by decide +kernel
theorem rows16_ok:rows16.all (Row.ok sch16)=true:=by decide +kernel
theorem que16_ok:Que.check sch16 que16=0:=by decide +kernel
def cells16:List (CK×Pay):=[((1,[some tx]),⟨1,[5],[5],[5]⟩),((1,[some ty]),⟨1,[1],[1],[1]⟩),((2,[some ty]),⟨1,[3],[3],[3]⟩)]
theorem roll16:rollP 1 rows16=cells16:=by kernel_rfl
theorem groups16:groupsP sch16 que16 0 cells16=[((0,[some tx]),⟨1,[5],[5],[5]⟩),((0,[some ty]),⟨2,[4],[1],[3]⟩)]:=by kernel_rfl
theorem groups16':groupsP sch16 que16 1 cells16=[((0,[none]),⟨3,[9],[1],[5]⟩)]:=by kernel_rfl
end Tess
