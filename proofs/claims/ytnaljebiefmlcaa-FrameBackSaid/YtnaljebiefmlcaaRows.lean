/-
  No cell of these rows narrows 'for every input' (looked for: loops, veiled, ifaces, maps, wideKeys, modest, calm, conditions, laid).
  DERIVED. THE GIVEN ROWS OF THIS SEAT. 7 by the template 'for every input the law returns true; each argument reads behind the call as it read before'; 0 by the template 'total and deterministic' (their statements: YtnaljebiefmlcaaTotals.lean).
  GIVEN WITH THE SEED: the statements are not yours to turn. If you find one false, say at which input.
  Laid BY PROGRAM, IN A SANDBOX (cutbox-rows.mjs): the forced cells as the released guide's own fill.sh prints them over the translation ab024ca720c57937… (all of the seat's roots in one cut). By AI agents, Wed Nov 11 2026. No macro, syntax, notation, axiom, sorry.
-/
import Derived.Test.YtnaljebiefmlcaaChecked
import GoSem.Claim
import GoSem.ClaimJoined
import GoSem.ClaimMapViews
import Derived.JoinedTies
import Derived.KernelRfl
namespace Go.Proofs.Ytnaljebiefmlcaa
/- THE CELL 'sum', in the pinned program and in every row, IS THE sha256 OF THE DUMP (.gsa) THAT YtnaljebiefmlcaaProg.lean LOADS. Nothing in Lean hashes anything: it is a label: what it is worth is what the hold of that sum in a sandbox is worth. -/
noncomputable def Try.pinned : Pinned := { name := "ytnaljebiefmlcaa", sum := "ab024ca720c5793776a8698cd970ac8f312e464ba34412c47dcb98abb2160c69", checked := Try.checked }
namespace Rows
def none {H : Type} : Left H := { results := [], args := [] }

/-- 'tesseraelaw03.FrameMakes': WHATEVER THE INPUT: true; the input reads as it did. -/
def frameMakesSpec : ChangeSpec := { name := "frameMakes", fn := fun _ => fun
  | [d] => { results := [.lit (.bool true)], args := [d] }
  | _ => none }
def frameMakesRow : OpenClaim := { program := "ytnaljebiefmlcaa", sum := "ab024ca720c5793776a8698cd970ac8f312e464ba34412c47dcb98abb2160c69", func := "tesserae/tesseraelaw03.FrameMakes", spec := "frameMakes", apart := false }
def FrameMakesSaid : Prop := frameMakesRow.holds Try.pinned (OpenSpec.ofChange frameMakesSpec)

/-- ITS FALSE NEIGHBOUR: 'it returns false'. Refute it at one input. -/
def frameMakesWrong : ChangeSpec := { name := "frameMakes", fn := fun _ => fun
  | [d] => { results := [.lit (.bool false)], args := [d] }
  | _ => none }
def FrameMakesWrongFalsely : Prop := frameMakesRow.holds Try.pinned (OpenSpec.ofChange frameMakesWrong)

/-- 'tesseraelaw03.FrameFinds': WHATEVER THE INPUT: true; the input reads as it did. -/
def frameFindsSpec : ChangeSpec := { name := "frameFinds", fn := fun _ => fun
  | [d1, d2, d3] => { results := [.lit (.bool true)], args := [d1, d2, d3] }
  | _ => none }
def frameFindsRow : OpenClaim := { program := "ytnaljebiefmlcaa", sum := "ab024ca720c5793776a8698cd970ac8f312e464ba34412c47dcb98abb2160c69", func := "tesserae/tesseraelaw03.FrameFinds", spec := "frameFinds", apart := false }
def FrameFindsSaid : Prop := frameFindsRow.holds Try.pinned (OpenSpec.ofChange frameFindsSpec)

/-- ITS FALSE NEIGHBOUR: 'it returns false'. Refute it at one input. -/
def frameFindsWrong : ChangeSpec := { name := "frameFinds", fn := fun _ => fun
  | [d1, d2, d3] => { results := [.lit (.bool false)], args := [d1, d2, d3] }
  | _ => none }
def FrameFindsWrongFalsely : Prop := frameFindsRow.holds Try.pinned (OpenSpec.ofChange frameFindsWrong)

/-- 'tesseraelaw03.FrameMore': WHATEVER THE INPUT: true; the input reads as it did. -/
def frameMoreSpec : ChangeSpec := { name := "frameMore", fn := fun _ => fun
  | [d1, d2] => { results := [.lit (.bool true)], args := [d1, d2] }
  | _ => none }
def frameMoreRow : OpenClaim := { program := "ytnaljebiefmlcaa", sum := "ab024ca720c5793776a8698cd970ac8f312e464ba34412c47dcb98abb2160c69", func := "tesserae/tesseraelaw03.FrameMore", spec := "frameMore", apart := false }
def FrameMoreSaid : Prop := frameMoreRow.holds Try.pinned (OpenSpec.ofChange frameMoreSpec)

/-- ITS FALSE NEIGHBOUR: 'it returns false'. Refute it at one input. -/
def frameMoreWrong : ChangeSpec := { name := "frameMore", fn := fun _ => fun
  | [d1, d2] => { results := [.lit (.bool false)], args := [d1, d2] }
  | _ => none }
def FrameMoreWrongFalsely : Prop := frameMoreRow.holds Try.pinned (OpenSpec.ofChange frameMoreWrong)

/-- 'tesseraelaw03.FrameLong': WHATEVER THE INPUT: true; the input reads as it did. -/
def frameLongSpec : ChangeSpec := { name := "frameLong", fn := fun _ => fun
  | [d1, d2] => { results := [.lit (.bool true)], args := [d1, d2] }
  | _ => none }
def frameLongRow : OpenClaim := { program := "ytnaljebiefmlcaa", sum := "ab024ca720c5793776a8698cd970ac8f312e464ba34412c47dcb98abb2160c69", func := "tesserae/tesseraelaw03.FrameLong", spec := "frameLong", apart := false }
def FrameLongSaid : Prop := frameLongRow.holds Try.pinned (OpenSpec.ofChange frameLongSpec)

/-- ITS FALSE NEIGHBOUR: 'it returns false'. Refute it at one input. -/
def frameLongWrong : ChangeSpec := { name := "frameLong", fn := fun _ => fun
  | [d1, d2] => { results := [.lit (.bool false)], args := [d1, d2] }
  | _ => none }
def FrameLongWrongFalsely : Prop := frameLongRow.holds Try.pinned (OpenSpec.ofChange frameLongWrong)

/-- 'tesseraelaw03.FrameSums': WHATEVER THE INPUT: true; the input reads as it did. -/
def frameSumsSpec : ChangeSpec := { name := "frameSums", fn := fun _ => fun
  | [d1, d2] => { results := [.lit (.bool true)], args := [d1, d2] }
  | _ => none }
def frameSumsRow : OpenClaim := { program := "ytnaljebiefmlcaa", sum := "ab024ca720c5793776a8698cd970ac8f312e464ba34412c47dcb98abb2160c69", func := "tesserae/tesseraelaw03.FrameSums", spec := "frameSums", apart := false }
def FrameSumsSaid : Prop := frameSumsRow.holds Try.pinned (OpenSpec.ofChange frameSumsSpec)

/-- ITS FALSE NEIGHBOUR: 'it returns false'. Refute it at one input. -/
def frameSumsWrong : ChangeSpec := { name := "frameSums", fn := fun _ => fun
  | [d1, d2] => { results := [.lit (.bool false)], args := [d1, d2] }
  | _ => none }
def FrameSumsWrongFalsely : Prop := frameSumsRow.holds Try.pinned (OpenSpec.ofChange frameSumsWrong)

/-- 'tesseraelaw03.FrameLists': WHATEVER THE INPUT: true; the input reads as it did. -/
def frameListsSpec : ChangeSpec := { name := "frameLists", fn := fun _ => fun
  | [d1, d2] => { results := [.lit (.bool true)], args := [d1, d2] }
  | _ => none }
def frameListsRow : OpenClaim := { program := "ytnaljebiefmlcaa", sum := "ab024ca720c5793776a8698cd970ac8f312e464ba34412c47dcb98abb2160c69", func := "tesserae/tesseraelaw03.FrameLists", spec := "frameLists", unfollowed := true, recurses := true, apart := false }
def FrameListsSaid : Prop := frameListsRow.holds Try.pinned (OpenSpec.ofChange frameListsSpec)

/-- ITS FALSE NEIGHBOUR: 'it returns false'. Refute it at one input. -/
def frameListsWrong : ChangeSpec := { name := "frameLists", fn := fun _ => fun
  | [d1, d2] => { results := [.lit (.bool false)], args := [d1, d2] }
  | _ => none }
def FrameListsWrongFalsely : Prop := frameListsRow.holds Try.pinned (OpenSpec.ofChange frameListsWrong)

/-- 'tesseraelaw03.FrameBack': WHATEVER THE INPUT: true; the input reads as it did. -/
def frameBackSpec : ChangeSpec := { name := "frameBack", fn := fun _ => fun
  | [d1, d2, d3] => { results := [.lit (.bool true)], args := [d1, d2, d3] }
  | _ => none }
def frameBackRow : OpenClaim := { program := "ytnaljebiefmlcaa", sum := "ab024ca720c5793776a8698cd970ac8f312e464ba34412c47dcb98abb2160c69", func := "tesserae/tesseraelaw03.FrameBack", spec := "frameBack", unfollowed := true, recurses := true, apart := false }
def FrameBackSaid : Prop := frameBackRow.holds Try.pinned (OpenSpec.ofChange frameBackSpec)

/-- ITS FALSE NEIGHBOUR: 'it returns false'. Refute it at one input. -/
def frameBackWrong : ChangeSpec := { name := "frameBack", fn := fun _ => fun
  | [d1, d2, d3] => { results := [.lit (.bool false)], args := [d1, d2, d3] }
  | _ => none }
def FrameBackWrongFalsely : Prop := frameBackRow.holds Try.pinned (OpenSpec.ofChange frameBackWrong)

/- THE SECOND FORM. 'bulk': how many values and letters a reading holds, each counted each time it is reached (what is shared counts as often as it is met; a slice's spare places count too). A statement '..UptoSaid' is the law's where the arguments, and the package variables that the reading takes, are together of bulk at most 1048576: NARROWER than '..Said'. Prove '..Said' where nothing that the law and all that it calls make is longer than what came in: it says more and counts as full. Else prove '..UptoSaid'. A law counts once. -/
mutual
def uptoBulk {H : Type} : DataW H → Nat
  | .lit (.string bytes) => bytes.length + 1
  | .lit _ => 1
  | .nil => 1
  | .ptr d => uptoBulk d + 1
  | .slice elems spare => uptoBulkAll elems + uptoBulkAll spare + 1
  | .agg parts => uptoBulkAll parts + 1
  | .iface _ d => uptoBulk d + 1
  | .map entries => uptoBulkEntries entries + 1
  | .held _ => 1
def uptoBulkAll {H : Type} : List (DataW H) → Nat
  | [] => 0
  | d :: r => uptoBulk d + uptoBulkAll r
def uptoBulkEntries {H : Type} : List (Lit × DataW H) → Nat
  | [] => 0
  | x :: r => uptoBulkEntry x + uptoBulkEntries r
def uptoBulkEntry {H : Type} : Lit × DataW H → Nat
  | (.string bytes, d) => bytes.length + uptoBulk d + 1
  | (_, d) => uptoBulk d + 1
 end
def uptoSmall : (H : Type) → List (DataW H) → Bool := fun _ ds => decide (uptoBulkAll ds ≤ 1048576)
def OpenSpec.upto (s : _root_.Go.ChangeSpec) : _root_.Go.OpenSpec := { _root_.Go.OpenSpec.ofChange s with cond := some uptoSmall }

/-- 'tesseraelaw03.FrameMakes', WHERE WHAT IT READS IS OF BULK AT MOST 1048576: true; the input reads as it did. -/
def frameMakesUptoRow : OpenClaim := { program := "ytnaljebiefmlcaa", sum := "ab024ca720c5793776a8698cd970ac8f312e464ba34412c47dcb98abb2160c69", func := "tesserae/tesseraelaw03.FrameMakes", spec := "frameMakes", apart := false, narrowed := true }
def FrameMakesUptoSaid : Prop := frameMakesUptoRow.holds Try.pinned (OpenSpec.upto frameMakesSpec)

/-- 'tesseraelaw03.FrameFinds', WHERE WHAT IT READS IS OF BULK AT MOST 1048576: true; the input reads as it did. -/
def frameFindsUptoRow : OpenClaim := { program := "ytnaljebiefmlcaa", sum := "ab024ca720c5793776a8698cd970ac8f312e464ba34412c47dcb98abb2160c69", func := "tesserae/tesseraelaw03.FrameFinds", spec := "frameFinds", apart := false, narrowed := true }
def FrameFindsUptoSaid : Prop := frameFindsUptoRow.holds Try.pinned (OpenSpec.upto frameFindsSpec)

/-- 'tesseraelaw03.FrameMore', WHERE WHAT IT READS IS OF BULK AT MOST 1048576: true; the input reads as it did. -/
def frameMoreUptoRow : OpenClaim := { program := "ytnaljebiefmlcaa", sum := "ab024ca720c5793776a8698cd970ac8f312e464ba34412c47dcb98abb2160c69", func := "tesserae/tesseraelaw03.FrameMore", spec := "frameMore", apart := false, narrowed := true }
def FrameMoreUptoSaid : Prop := frameMoreUptoRow.holds Try.pinned (OpenSpec.upto frameMoreSpec)

/-- 'tesseraelaw03.FrameLong', WHERE WHAT IT READS IS OF BULK AT MOST 1048576: true; the input reads as it did. -/
def frameLongUptoRow : OpenClaim := { program := "ytnaljebiefmlcaa", sum := "ab024ca720c5793776a8698cd970ac8f312e464ba34412c47dcb98abb2160c69", func := "tesserae/tesseraelaw03.FrameLong", spec := "frameLong", apart := false, narrowed := true }
def FrameLongUptoSaid : Prop := frameLongUptoRow.holds Try.pinned (OpenSpec.upto frameLongSpec)

/-- 'tesseraelaw03.FrameSums', WHERE WHAT IT READS IS OF BULK AT MOST 1048576: true; the input reads as it did. -/
def frameSumsUptoRow : OpenClaim := { program := "ytnaljebiefmlcaa", sum := "ab024ca720c5793776a8698cd970ac8f312e464ba34412c47dcb98abb2160c69", func := "tesserae/tesseraelaw03.FrameSums", spec := "frameSums", apart := false, narrowed := true }
def FrameSumsUptoSaid : Prop := frameSumsUptoRow.holds Try.pinned (OpenSpec.upto frameSumsSpec)

/-- 'tesseraelaw03.FrameLists', WHERE WHAT IT READS IS OF BULK AT MOST 1048576: true; the input reads as it did. -/
def frameListsUptoRow : OpenClaim := { program := "ytnaljebiefmlcaa", sum := "ab024ca720c5793776a8698cd970ac8f312e464ba34412c47dcb98abb2160c69", func := "tesserae/tesseraelaw03.FrameLists", spec := "frameLists", unfollowed := true, recurses := true, apart := false, narrowed := true }
def FrameListsUptoSaid : Prop := frameListsUptoRow.holds Try.pinned (OpenSpec.upto frameListsSpec)

/-- 'tesseraelaw03.FrameBack', WHERE WHAT IT READS IS OF BULK AT MOST 1048576: true; the input reads as it did. -/
def frameBackUptoRow : OpenClaim := { program := "ytnaljebiefmlcaa", sum := "ab024ca720c5793776a8698cd970ac8f312e464ba34412c47dcb98abb2160c69", func := "tesserae/tesseraelaw03.FrameBack", spec := "frameBack", unfollowed := true, recurses := true, apart := false, narrowed := true }
def FrameBackUptoSaid : Prop := frameBackUptoRow.holds Try.pinned (OpenSpec.upto frameBackSpec)

end Rows
end Go.Proofs.Ytnaljebiefmlcaa
