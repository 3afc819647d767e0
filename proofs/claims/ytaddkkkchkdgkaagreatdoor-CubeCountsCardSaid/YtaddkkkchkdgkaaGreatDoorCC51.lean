/- CubeCounts, as its row asks. -/
import Derived.Test.YtaddkkkchkdgkaaGreatDoorCC50
import Derived.Lib.LaidPrint
namespace Go.Proofs.YtaddkkkchkdgkaaGreatDoor
open Go.RowKit Go.Sort
open Tess (Que)
theorem CCW {vs vq vr:Value} {rows0:List Tess.Row} {s0:Tess.Sch} {q0:Que} (w:World) (hV:∃ a0 a1,Lw Lib.goPrintTabs a0 a1 w) (hs:SA (fun _=>True) w vs s0) (hq:QueOk w vq q0) (hr:RowsIn (fun _=>True) w vr rows0) (hrng:∀ r ∈ rows0,r.rng) :
  Calls Tryz.prog 7 #[vs,vq,vr] w fun e w'=>e = .returned (.bool true)∧Below w.heap.size w w':=by
 obtain ⟨a0,a1,hL⟩:=hV
 exact CCa a0 a1 w hL hs hq hr hrng
end Go.Proofs.YtaddkkkchkdgkaaGreatDoor
