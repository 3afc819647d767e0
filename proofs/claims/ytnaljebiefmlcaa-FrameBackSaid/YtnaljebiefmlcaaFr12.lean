/- Frames parted: the reference's. -/
import Derived.Test.YtnaljebiefmlcaaFr11
import Derived.Maps.AppendAt
namespace Go.Proofs.Ytnaljebiefmlcaa
open Go.RowKit Go.Sort

/-- What parting comes to. -/
def SplitPost (s : ByteArray) (w : World) (e : Ending) (w' : World) : Prop :=
  ∃ v, e = .returned (.tuple #[v, .int .i64 ((Tess.splitF s.size [] s).2 : Nat)]) ∧ SlOf w' v ((Tess.splitF s.size [] s).1.map .string) ∧ Below w.heap.size w w'
def strV (l : List ByteArray) : List Value := l.map .string
theorem strV_snoc (l : List ByteArray) (x : ByteArray) : strV l ++ [.string x] = strV (l ++ [x]) := by simp [strV]
theorem size_ne {s : ByteArray} (h : s.size ≠ 0) : s.toList.isEmpty = false := by
  rw [ByteArray.toList_eq]
  have : s.data.size ≠ 0 := h
  cases hs : s.data.toList with
  | nil => exfalso; apply this; rw [← Array.length_toList, hs]; rfl
  | cons a l => rfl
theorem size_nil {s : ByteArray} (h : s.size = 0) : s = ⟨#[]⟩ := by
  apply ByteArray.ext
  exact Array.eq_empty_of_size_eq_zero h

def strLen : Value → Nat | .string x => x.size | _ => 0

set_option maxHeartbeats 1000000 in
theorem rsplit_any (s : ByteArray) (w : World) (hs : s.size ≤ 10000) : Calls Try.prog 22 #[.string s] w (SplitPost s w) := by
  obtain ⟨i0, hi, hz0, hz1, hz2⟩ := info_parts infoStr
  go_enter Try.func22, Try.ntmps22
  go_wp2
  go_loopw [0, 4] (fun c v wr => ∃ (cur : ByteArray) (out : List ByteArray) (f : Nat), c = .string cur ∧ 8 * out.length + cur.size ≤ s.size ∧ cur.size ≤ f ∧ Tess.splitF f out cur = Tess.splitF s.size [] s ∧
    wr.ownsRow w.heap.size 9 1 v out.length (strV out) ∧ Below w.heap.size w wr) (fun c _ _ => strLen c)
  case atStart => exact ⟨s, [], s.size, rfl, by simp, Nat.le_refl _, rfl, World.ownsRow_nil _ _ _ _, Below.refl _ _⟩
  case round =>
    obtain ⟨cur, out, f, rfl, hsz, hf, heq, hown, hB⟩ := hrel
    have HEQ := Lib.hid heq
    have HB := Lib.hid hB
    have HO := Lib.hid hown
    clear heq hB hown
    by_cases h0 : cur.size = 0
    · obtain rfl := size_nil h0
      have HZ := Lib.hid ((Tess.splitF_zero f out _ h0).symm.trans HEQ.out)
      go_wp2
      go_ret2
      exact ⟨_, by rw [← HZ.out]; rfl, by rw [← HZ.out]; exact SlOf.owned HO.out, HB.out⟩
    · have hne := size_ne h0
      by_cases he : (Tess.rd cur).2.2 = 0
      · obtain ⟨f', hf', hst⟩ := Tess.splitF_step f out cur h0 hf he
        obtain ⟨hr1, hr2⟩ := Tess.rd_rest cur he
        have HST := Lib.hid (hst.symm.trans HEQ.out)
        have hrd := rread_any cur wr (by omega)
        unfold RdPost at hrd
        rw [he] at hrd
        generalize (Tess.rd cur).1 = b at *
        generalize (Tess.rd cur).2.1 = rest at *
        have HR := Lib.hid hrd
        clear hrd hst
        go_wp2_with (first
          | (go_at_call 15; refine HR.out.mono ?_; rintro e w2 ⟨rfl, hB2⟩; have HO2 := Lib.hid (owns_below HO.out hB2); have hB3 := Bt HB.out hB2)
          | (at_builtin; refine wpList_append_own _ rfl _ _ 38 rfl w.heap.size 9 i0 (.string ByteArray.empty) 1 16 Try.underlying38 hi hz0 hz1 hz2 rfl (by decide) _ _ _ rfl (HO2.out.alloc _) ⟨w2.heap.size, 0, none⟩ 1 1 [.string b] rfl rfl ?c1 ?c2 ?c3 ?c4 ?c5 ?_))
        case c1 => exact cell_one_new _ _ _
        case c2 => simp [Value.oneCell']
        case c3 => unfold maxLen; omega
        case c4 => omega
        case c5 => have := hB3.size; simp; omega
        intro v' w3 hown3 hgrow _
        have hB4 : Below w.heap.size w w3 := (hB3.alloc hB3.size _).grown hgrow (by have := hB3.size; simp; omega) (fun j e => (HO2.out.lt j e).1)
        rw [strV_snoc] at hown3
        have HO3 := Lib.hid hown3
        have HB4 := Lib.hid hB4
        clear hown3 hgrow hB4 hB3 hB2 HO2
        go_wp2
        go_roundw
        case rel => exact ⟨rest, out ++ [b], f', rfl, by simp; omega, hf', HST.out, by simpa using HO3.out, HB4.out⟩
        case measure => simp [strLen]; omega
      · have HST := Lib.hid ((Tess.splitF_err f out cur h0 hf he).symm.trans HEQ.out)
        have hrd := rread_any cur wr (by omega)
        unfold RdPost at hrd
        have hei : (((Tess.rd cur).2.2 : Nat) : Int) ≠ 0 := by omega
        have hen : ((((Tess.rd cur).2.2 : Nat) : Int) != 0) = true := by rw [bne_iff_ne]; exact hei
        generalize (Tess.rd cur).1 = b at *
        generalize (Tess.rd cur).2.1 = rest at *
        generalize (Tess.rd cur).2.2 = en at *
        have HR := Lib.hid hrd
        clear hrd
        go_wp2_with (go_at_call 15; refine HR.out.mono ?_; rintro e w2 ⟨rfl, hB2⟩; have hB3 := Bt HB.out hB2)
        go_ret2
        exact ⟨_, by rw [← HST.out]; rfl, by rw [← HST.out]; exact SlOf.nil _, hB3⟩
end Go.Proofs.Ytnaljebiefmlcaa
