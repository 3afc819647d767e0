/- What QueryTyped's listed variables give a walk; a world that meets the condition. -/
import Derived.Test.YtbbgjjjeecfnoaaGreatDoorXQ42
import Derived.Test.YtbbgjjjeecfnoaaGreatDoorXTB
import Derived.Stop.LaidTwo
import Derived.Test.YtbbgjjjeecfnoaaGreatDoorRows
import Derived.ChangeSame
import Derived.ChangeVars
import Derived.JoinedOf
import Derived.RowKit
import Derived.RowKitTokens
import Derived.LaidLaws
import Derived.LaidHandle
import Derived.LaidMore
import Derived.PinnedBridge
import Derived.Lib.LaidU8
import Derived.Lib.LaidCase
import Derived.Lay
import Derived.WalkSmall
import Derived.Stop.Joined
import Derived.Stop.LaidErr
import Derived.Stop.ErrReads
namespace Go.Proofs.YtbbgjjjeecfnoaaGreatDoor
open Go.ChangeShapes Go.WideShapes Go.RowKit Go.Lib
theorem own:ownKnob Tryz.prog.godebug=none:=by kernel_rfl
theorem laidOut:laidOutB Tryz.prog=true:=by kernel_rfl
theorem gEt : Tryz.prog.globalNamed "errors.errorType" = some 0 := by kernel_rfl
theorem gPow : Tryz.prog.globalNamed "internal/strconv.uint64pow10" = some 3 := by kernel_rfl
theorem gSyn : Tryz.prog.globalNamed "strconv.ErrSyntax" = some 5 := by kernel_rfl
theorem gRan : Tryz.prog.globalNamed "strconv.ErrRange" = some 6 := by kernel_rfl
theorem gNone : Tryz.prog.globalNamed "tesserae/filter.errNone" = some 1 := by kernel_rfl
theorem gGrain : Tryz.prog.globalNamed "tesserae/filter.errGrain" = some 2 := by kernel_rfl
theorem gNoneT:(Tryz.prog.globals[1]?).map (·.type)=some 96:=by kernel_rfl
theorem gGrainT:(Tryz.prog.globals[2]?).map (·.type)=some 96:=by kernel_rfl
theorem gPowT:(Tryz.prog.globals[3]?).map (·.type)=some 385:=by kernel_rfl
theorem gSynT:(Tryz.prog.globals[5]?).map (·.type)=some 96:=by kernel_rfl
theorem gRanT:(Tryz.prog.globals[6]?).map (·.type)=some 96:=by kernel_rfl
theorem gRt : (Tryz.prog.cutTypes.find? (·.1 == "internal/reflectlite.rtype")).map (·.2) = some 287 := by kernel_rfl
theorem gOne:((List.range Tryz.prog.types.size).filter fun t=>Tryz.prog.rowNamed t [101,114,114,111,114])=[96]:=by kernel_rfl
theorem gStar : "*" ++ "errors.errorString" = "*errors.errorString" := by decide
theorem gRow (u : TypeId) (h : Tryz.prog.typeName? 3 u = some "*errors.errorString") : u = 426 :=
 typeName_ptr_named (nm := "errors.errorString") (by rw [gStar]; kernel_rfl) (by kernel_rfl) (by decide) u (by rw [gStar]; exact h)
theorem gCells:Tryz.prog.cellsOf 428=1:=by kernel_rfl
theorem gCells2:Tryz.prog.cellsOf 9=1:=by kernel_rfl
abbrev plainVars : List (String × DataW Unit) := [("math/bits.deBruijn32tab", Rows.laid_math_bits_deBruijn32tab), ("math/bits.deBruijn64tab", Rows.laid_math_bits_deBruijn64tab), ("internal/strconv.uint64pow10", Rows.laid_internal_strconv_uint64pow10), ("unicode/utf8.acceptRanges", Rows.laid_unicode_utf8_acceptRanges), ("strconv.ErrRange", Rows.laid_strconv_ErrRange), ("strconv.ErrSyntax", Rows.laid_strconv_ErrSyntax), ("tesserae/filter.errNone", Rows.laid_tesserae_filter_errNone), ("tesserae/filter.errGrain", Rows.laid_tesserae_filter_errGrain), ("unicode.CaseRanges", Rows.laid_unicode_CaseRanges), ("unicode/utf8.first", Rows.laid_unicode_utf8_first)]
abbrev laidVars : List (String × DataW Unit) := [("math/bits.deBruijn32tab", Rows.laid_math_bits_deBruijn32tab), ("math/bits.deBruijn64tab", Rows.laid_math_bits_deBruijn64tab), ("internal/strconv.uint64pow10", Rows.laid_internal_strconv_uint64pow10), ("unicode/utf8.acceptRanges", Rows.laid_unicode_utf8_acceptRanges), ("errors.errorType", Rows.laid_errors_errorType), ("strconv.ErrRange", Rows.laid_strconv_ErrRange), ("strconv.ErrSyntax", Rows.laid_strconv_ErrSyntax), ("tesserae/filter.errNone", Rows.laid_tesserae_filter_errNone), ("tesserae/filter.errGrain", Rows.laid_tesserae_filter_errGrain), ("unicode.CaseRanges", Rows.laid_unicode_CaseRanges), ("unicode/utf8.first", Rows.laid_unicode_utf8_first)]
theorem split_laid (W : World) : laidMetH Tryz.prog laidVars W ↔ laidMet Tryz.prog plainVars W ∧ handlesMet Tryz.prog [("errors.errorType", Rows.laid_errors_errorType)] W := by
 have e1 : (laidVars.filter fun x => x.2.handleName?.isSome) = [("errors.errorType", Rows.laid_errors_errorType)] := by kernel_rfl
 have e2:(laidVars.filter fun x=>x.2.handleName?.isNone)=plainVars:=by kernel_rfl
 unfold laidMetH
 rw [e1]
 simp only [e2]
theorem pow_eq:(Rows.laid_internal_strconv_uint64pow10:DataW Unit)=tabData .u64 pow10Tab:=by kernel_rfl
theorem acc_eq:(Rows.laid_unicode_utf8_acceptRanges:DataW Unit)=acceptData:=by kernel_rfl
theorem l274:Go.Proofs.Lays.n274 Tryz.prog Tryz.lays159_ren:={ Tryz.lays159 with }
theorem caseX:Go.Proofs.CaseExtra Tryz.prog Tryz.lays159_ren:=⟨by kernel_rfl,by kernel_rfl,by kernel_rfl,by kernel_rfl,by kernel_rfl,by kernel_rfl⟩
theorem u8T:Go.Proofs.Lays.n260 Tryz.prog Tryz.lays159_ren:={ Tryz.lays159 with }
theorem u8X:Go.Proofs.U8Extra Tryz.prog Tryz.lays159_ren:=⟨by kernel_rfl,by kernel_rfl,by kernel_rfl,by kernel_rfl,by kernel_rfl,by kernel_rfl,by kernel_rfl⟩
theorem case206:Tryz.prog.underlying (Tryz.lays159_ren.t 206)=some (.array 3 (Tryz.lays159_ren.t 21)):=by kernel_rfl
set_option maxRecDepth 100000 in
theorem vars_of_laid {W:World} (h:laidMetH Tryz.prog laidVars W):Vy W∧∃ a0 a1,Vars a0 a1 W:=by
 obtain ⟨hp,hh⟩:=(split_laid W).1 h
 obtain ⟨name,u,ty,e1,e2,e3,e4,e5⟩:=hh _ (List.mem_singleton.2 rfl)
 have en:name=[101,114,114,111,114]:=(Option.some.inj e1).symm
 subst en
 obtain rfl:=Option.some.inj (gRt.symm.trans e2)
 have hm:ty ∈ (List.range Tryz.prog.types.size).filter fun t=>Tryz.prog.rowNamed t [101,114,114,111,114]:=List.mem_filter.2 ⟨List.mem_range.2 e3,e4⟩
 rw [gOne] at hm
 obtain rfl:=List.mem_singleton.1 hm
 have hh:typeHandle Tryz.prog 96 = .pointer (some ⟨17,96,none⟩):=by kernel_rfl
 rw [hh] at e5
 have hpow : TabIs Tryz.prog W "internal/strconv.uint64pow10" .u64 pow10Tab := by
  have:=hp.tail.tail
  rw [pow_eq] at this
  exact tabIs_of_head gPow gPowT Tryz.underlying385 Tryz.underlying58 (by kernel_rfl) (by kernel_rfl) this
 obtain ⟨a0,s0,v0,_⟩:=laid_sentinel hp.tail.tail.tail.tail gRan gRanT Tryz.underlying96 gRow Tryz.underlying426 Tryz.underlying428 rfl rfl Tryz.underlying9 gCells gCells2
 obtain ⟨a1,s1,v1,_⟩:=laid_sentinel hp.tail.tail.tail.tail.tail gSyn gSynT Tryz.underlying96 gRow Tryz.underlying426 Tryz.underlying428 rfl rfl Tryz.underlying9 gCells gCells2
 have hcas:=Go.Proofs.caseVar_of_reads l274 case206 caseX (w:=W) (by rw [← Pinned.caseRanges_eq];exact laidMet.reads hp (List.mem_of_getElem? (i:=8) rfl))
 have hutf:=Go.Proofs.utf8Tabs_of_reads u8T u8X (w:=W) (by rw [← Pinned.utf8First_eq];exact laidMet.reads hp (List.mem_of_getElem? (i:=9) rfl)) (by rw [← acc_eq];exact laidMet.reads hp (List.mem_of_getElem? (i:=3) rfl))
 obtain ⟨b0,b1,s0,s1,c0,c1,t0,t1,hv0,hv1,_,_,_,_,_,_,hne,hb0,hb1⟩:=laid_sentinels2 hp.tail.tail.tail.tail.tail.tail gNone gNoneT gGrain gGrainT Tryz.underlying96 gRow Tryz.underlying426 Tryz.underlying428 rfl rfl Tryz.underlying9 gCells gCells2
 refine ⟨?_,b0,b1,hne,by simpa using World.var?_cell gNone hv0 0,by simpa using World.var?_cell gGrain hv1 0,⟨c0,t0,hb0⟩,⟨c1,t1,hb1⟩⟩
 refine ⟨⟨⟨_,by simpa using World.var?_cell gSyn v1 0,Or.inr ⟨_,_,rfl⟩⟩,⟨_,by simpa using World.var?_cell gRan v0 0,Or.inr ⟨_,_,rfl⟩⟩,hcas,hutf,fun w2 h2 => ?_⟩,by simpa using World.var?_cell gEt e5 0⟩
 exact var?_below h2 gPow (World.block_lt_of_cell? W ⟨3,0,none⟩ (u:=.int .u64 1) (by simpa [pow10Tab] using World.var?_cell gPow hpow 0)) hpow
noncomputable def world0 (os:Os):World:=
 let w0:=World.holding Tryz.prog os ⟨#[],#[],[]⟩
 { w0 with heap:=w0.heap.modify 0 fun
     | .cells _ t frozen => .cells #[.iface 287 (.agg #[.pointer (some ⟨17,96,none⟩)])] t frozen
     | o=>o }
noncomputable def laidWorld (os:Os):World:=(world0 os).layVars Tryz.prog plainVars
theorem laidWorld_os (os:Os):(laidWorld os).os=os:=World.layVars_os _ _ _
set_option maxRecDepth 100000 in
theorem laidWorld_plain (os:Os):laidMet Tryz.prog plainVars (laidWorld os):=by
 have e1:(plainVars.filter fun x=>(plainVars.map (·.1)).contains x.1)=plainVars:=List.filter_eq_self.2 fun x hx=>List.contains_iff_mem.2 (List.mem_map.2 ⟨x,hx,rfl⟩)
 have e2:(plainVars.filter fun x => !(plainVars.map (·.1)).contains x.1)=[]:=List.filter_eq_nil_iff.2 fun x hx=>by rw [List.contains_iff_mem.2 (List.mem_map.2 ⟨x,hx,rfl⟩)];simp
 exact laidMet_layVars (w0:=world0 os) (plainVars.map (·.1)) [] (by rw [e1];rfl) (by rw [e1];kernel_rfl) (by rw [e1];kernel_rfl) (by rw [e2];exact LaidIn.none)
set_option maxRecDepth 100000 in
theorem laidWorld_et (os : Os) (args : Array Value) : ((laidWorld os).forCall (fun _ _ => 0) ⟨#[], args, []⟩).memory.var? Tryz.prog "errors.errorType" = some #[.iface 287 (.agg #[typeHandle Tryz.prog 96])] := by kernel_rfl
set_option maxRecDepth 100000 in
theorem laidWorld_met (os:Os) (args:Array Value):laidMetH Tryz.prog laidVars ((laidWorld os).forCall (fun _ _=>0) ⟨#[],args,[]⟩).memory:=by
 refine (split_laid _).2 ⟨(laidWorld_plain os).of_heap (by simp [World.memory,World.forCall,Input.heap]),fun x hx => ?_⟩
 obtain rfl:=List.mem_singleton.1 hx
 exact ⟨[101,114,114,111,114],287,96,rfl,gRt,of_decide_eq_true (by kernel_rfl),by kernel_rfl,laidWorld_et os args⟩
set_option maxRecDepth 100000 in
theorem laidWorld_shaped (os:Os) (args:Array Value):((laidWorld os).forCall (fun _ _=>0) ⟨#[],args,[]⟩).Shaped Tryz.prog:=World.shaped_of_ZipB (by kernel_rfl) (by kernel_rfl)
end Go.Proofs.YtbbgjjjeecfnoaaGreatDoor
