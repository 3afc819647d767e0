/- A list's reader: what is asked of it; names: walked. -/
import Derived.Test.YtmfnhjdeoklnlaaGreatDoorYQA
import Derived.Test.YtmfnhjdeoklnlaaGreatDoorYPB
namespace Go.Proofs.YtmfnhjdeoklnlaaGreatDoor
open Go.RowKit Go.Sort
open Tess (Fil Tok Prs.next Prs.skip Prs.isT Prs.Endd Prs.Keeps)
def restLen (B:Nat) (w:World):Nat:=match w.cell? ⟨B,0,none⟩ with | some (.slice _ n _)=>n | _=>0
theorem PsAt.rest {p:Nat→Prop} {B:Nat} {ts:List Tok} {v:Value} {qs:List Value} {w:World} (h:PsAt p B ts v qs w):restLen B w=ts.length:=by
 obtain ⟨b,off,cap,rfl,_⟩:=h.open
 have cb:=cell_of_row w B 0 _ _ _ h.k
 simp only [List.getElem?_toArray,List.getElem?_cons_zero] at cb
 unfold restLen
 rw [cb]
def Steady (B:Nat) (w0:World) (Ex:List Value→World→Prop):Prop:=∀ qs W W',w0.grownBy W (some B)→Ex qs W→W.grownBy W' (some B)→Ex qs W'
def Reads {α:Type} (g:Nat) (cs:Array Value) (p:Nat→Prop) (B:Nat) (w0:World) (rd:List Tok→Tess.Prs.R α) (Ex:List α→List Value→World→Prop) (Fx:World→Prop) (L:Nat):Prop:=
 ∀ (acc:List α) (ts:List Tok) (v:Value) (qs:List Value) (W:World),PsAt p B ts v qs W→Prs.Endd ts→w0.grownBy W (some B)→Ex acc qs W→acc.length + ts.length≤L →
   Calls Tryz.prog g cs W fun e W'=>w0.grownBy W' (some B) ∧
    ((∃ x r v' qs',rd ts = .ok (x,r)∧e = .returned .nilIface∧PsAt p B r v' qs' W'∧Ex (acc ++ [x]) qs' W')∨(∃ k,rd ts = .error k∧e = .returned (errF k)∧Fx W'∧∃ ts' v' qs',PsAt p B ts' v' qs' W'))
theorem bindR_ok {α β:Type} {x:Tess.Prs.R α} {a:α} {r:List Tok} {k:α→List Tok→Tess.Prs.R β} (h:x = .ok (a,r)):Tess.Prs.bindR x k=k a r:=by rw [h];rfl
theorem bindR_err {α β:Type} {x:Tess.Prs.R α} {n:Nat} {k:α→List Tok→Tess.Prs.R β} (h:x = .error n):Tess.Prs.bindR x k = .error n:=by rw [h];rfl
def ahead {α:Type} (acc:List α) (x:Tess.Prs.R (List α)):Tess.Prs.R (List α):=match x with | .ok (l,r) => .ok (acc ++ l,r) | .error e => .error e
theorem ahead_nil {α:Type} (x:Tess.Prs.R (List α)):ahead [] x=x:=by
 cases x with
 | error e=>rfl
 | ok p=>rfl
section
variable {α:Type} {sign:ByteArray} {rd:List Tok→Tess.Prs.R α} (h:Prs.Keeps rd) {ts:List Tok} (he:Prs.Endd ts) (acc:List α)
include h he
theorem ahead_err {k:Nat} (e:rd ts = .error k):ahead acc (Tess.Prs.list sign rd ts.length ts) = .error k:=by
 rw [Tess.Prs.list_round sign h he,bindR_err e];rfl
theorem ahead_last {x:α} {r:List Tok} (e:rd ts = .ok (x,r)) (ht:Prs.isT [sign] r=none):ahead acc (Tess.Prs.list sign rd ts.length ts) = .ok (acc ++ [x],r):=by
 rw [Tess.Prs.list_round sign h he,bindR_ok e]
 unfold Tess.Prs.isR
 rw [ht];rfl
theorem ahead_more {x:α} {r r':List Tok} (e:rd ts = .ok (x,r)) (ht:Prs.isT [sign] r=some r'):ahead acc (Tess.Prs.list sign rd ts.length ts)=ahead (acc ++ [x]) (Tess.Prs.list sign rd r'.length r'):=by
 rw [Tess.Prs.list_round sign h he,bindR_ok e]
 unfold Tess.Prs.isR
 rw [ht]
 simp only
 cases Tess.Prs.list sign rd r'.length r' with
 | error e=>rfl
 | ok p=>obtain ⟨l,r2⟩:=p;show Except.ok (acc ++ x :: l,r2)=Except.ok (acc ++ [x] ++ l,r2);simp
end
end Go.Proofs.YtmfnhjdeoklnlaaGreatDoor
