/- Cells put among some: the program's put, walked. -/
import Derived.Test.YtjdccifdkjnknaaGreatDoorZC19
namespace Go.Proofs.Q9
open Go.RowKit Go.Sort
open Tess (CK Pay ckLt PO)
open Tess.Kl (Asc fold ins)
theorem CA3.shapes{p:Nat->Prop}{w:World}{cs:List Value}{x:CK×Pay}(h:CA3 p w cs x):∃ad cd a3 c3 a4 c4 a5 c5,cs=[.int .i64 x.1.1,.slice ad x.1.2.length cd,.int .i64 x.2.n,.slice a3 x.2.sums.length c3,.slice a4 x.2.mins.length c4,.slice a5 x.2.maxs.length c5]/\VC w ad (x.1.2.map Tess.valOf):=by obtain⟨vd,vs,vm,vx,rfl,h1,h2⟩:=h;obtain⟨ad,cd,rfl,_,hc⟩:=h1.cells;obtain⟨a3,c3,rfl⟩:=h2.sums.shape;obtain⟨a4,c4,rfl⟩:=h2.mins.shape;obtain⟨a5,c5,rfl⟩:=h2.maxs.shape;exact⟨ad,cd,a3,c3,a4,c4,a5,c5,by rw[qX],hc⟩
theorem VC.below{w w':World}{a:Option Addr}{l:List Tess.Val}(h:VC w a l)(hb:Below w.heap.size w w'):VC w' a l:=fun j hj=>
 let⟨b,off,ha,hbl,h0,h1⟩:=h j hj;⟨b,off,ha,qF hbl hb.size,(hb.cell (p:=⟨b,off+j*2,none⟩) hbl).trans h0,(hb.cell (p:=⟨b,off+j*2+1,none⟩) hbl).trans h1⟩
theorem iC:(Tryz.prog.info? 56).map (fun i=>(i.zero,i.size,i.bytes))=some (some (.agg #[.int .i64 0,.slice none 0 0,.int .i64 0,.slice none 0 0,.slice none 0 0,.slice none 0 0]),6,112):=by kernel_rfl
