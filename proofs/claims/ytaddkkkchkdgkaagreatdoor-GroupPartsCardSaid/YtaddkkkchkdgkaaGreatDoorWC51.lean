/- GroupParts, as its row asks. -/
import Derived.Test.YtaddkkkchkdgkaaGreatDoorWC50
import Derived.Lib.LaidPrint
namespace Go.Proofs.YtaddkkkchkdgkaaGreatDoor
open Go.RowKit Go.Sort
open Tess (Que)
theorem GroupPartsW_any {vs vq vr:Value} {rows0:List Tess.Row} {s0:Tess.Sch} {q0:Que} {P3 P4:Prop} (at0 set:Int) (w:World) (hV:∃ a0 a1,Lw Lib.goPrintTabs a0 a1 w) (hs:SchAt (fun _=>True) w vs s0) (hq:QueOk w vq q0) (hr:RowsIn (fun _=>True) w vr rows0) (hrng:∀ r ∈ rows0,r.rng) (_:P3) (_:P4) :
  Calls Tryz.prog 3 #[vs,vq,vr,.int .i64 at0,.int .i64 set] w fun e w'=>e = .returned (.bool true)∧Below w.heap.size w w':=by
 obtain ⟨a0,a1,hL⟩:=hV
 exact GroupParts_any a0 a1 w hL hs hq hr hrng
end Go.Proofs.YtaddkkkchkdgkaaGreatDoor
