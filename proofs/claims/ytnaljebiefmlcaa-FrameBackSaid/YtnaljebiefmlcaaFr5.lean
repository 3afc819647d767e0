/- Numbers in four bytes, joined; frames made. -/
import Derived.Test.YtnaljebiefmlcaaFr3
import Derived.Test.YtnaljebiefmlcaaFr4
namespace Go.Proofs.Ytnaljebiefmlcaa
open Go.RowKit

theorem cell_four_new (w : World) (x y z u : Value) (t : TypeId) : ∀ j v, [x, y, z, u][j]? = some v → (w.alloc (.cells #[x, y, z, u] t)).cell? ((⟨w.heap.size, 0, none⟩ : Addr).add j) = some v := by
  intro j v h
  have : j = 0 ∨ j = 1 ∨ j = 2 ∨ j = 3 := by
    rcases Nat.lt_or_ge j 4 with h' | h'
    · omega
    · simp [List.getElem?_eq_none (show [x, y, z, u].length ≤ j by simpa using h')] at h
  rcases this with rfl | rfl | rfl | rfl <;> simp_all [Addr.add]
theorem infoU8 : (Try.prog.info? 5).map (fun i => (i.zero, i.size, i.bytes)) = some (some (.int .u8 0), 1, 1) := by kernel_rfl
/-- Numbers' bytes, as the walk has them. -/
def nb4 (n : Nat) : List Value := (Tess.be4 n).data.toList.map u8v
theorem nb4_eq (n : Nat) (h : n < 4294967296) : nb4 n = [.int .u8 ((n : Int) / 16777216), .int .u8 ((n : Int) / 65536 % 256), .int .u8 ((n : Int) / 256 % 256), .int .u8 ((n : Int) % 256)] := by
  simp only [nb4, Tess.be4, List.map_cons, List.map_nil, u8v, UInt8.toNat_ofNat']
  have : n / 16777216 < 256 := by omega
  simp [Nat.mod_eq_of_lt this]
theorem flat_map (l : List Nat) : l.flatMap nb4 = (l.flatMap fun n => (Tess.be4 n).data.toList).map u8v := by
  rw [List.map_flatMap]; rfl

set_option maxHeartbeats 400000 in
theorem numbers_any (b off : Nat) (l : List Nat) (w : World) (hl : ∀ j, j < l.length → w.cell? ⟨b, off + j, none⟩ = some (.int .u32 ((l.getD j 0 : Nat) : Int))) (hlen : l.length ≤ 1000) (hne : 0 < l.length) (hlt : ∀ x ∈ l, x < 4294967296) :
    Calls Try.prog 24 #[.slice (some ⟨b, off, none⟩) l.length l.length] w fun e w' => e = .returned (.string ⟨(l.flatMap fun n => (Tess.be4 n).data.toList).toArray⟩) ∧ Below w.heap.size w w' := by
  go_enter Try.func24, Try.ntmps24
  go_wp2
  go_loopw [3, 8] (fun v i wr => ∃ k : Nat, k ≤ l.length ∧ i = .int .i64 k ∧ wr.ownsRow w.heap.size 5 1 v (4 * k) ((l.take k).flatMap nb4) ∧ Below w.heap.size w wr) (fun _ i _ => l.length - (intOf i).toNat)
  case atStart => exact ⟨0, Nat.zero_le _, rfl, by simpa using World.ownsRow_nil w w.heap.size 5 1, Below.refl _ _⟩
  case round =>
    obtain ⟨k, hk, rfl, hown, hB⟩ := hrel
    have hlt2 : b < w.heap.size := World.block_lt_of_cell? w ⟨b, off + 0, none⟩ (hl 0 hne)
    by_cases hkl : k < l.length
    · obtain ⟨x, hx⟩ : ∃ x, x = l.getD k 0 := ⟨_, rfl⟩
      have hxb : x < 4294967296 := hlt x (by rw [hx, getD_at _ hkl]; exact List.getElem_mem _)
      have hcell : wr.cell? ⟨b, off + k, none⟩ = some (.int .u32 (x : Int)) := by rw [hB.cell (p := ⟨b, off + k, none⟩) hlt2, hx]; exact hl k hkl
      have HT := Lib.hid (show (l.take (k + 1)).flatMap nb4 = (l.take k).flatMap nb4 ++ nb4 x from by
        rw [List.take_succ_eq_append_getElem hkl, List.flatMap_append, hx, getD_at _ hkl]; simp)
      obtain ⟨i0, hi, hz0, hz1, hz2⟩ := info_parts infoU8
      have HL := Lib.hid hl
      clear hl hx hlt
      go_wp2_with (at_builtin; refine wpList_append_own _ rfl _ _ 32 rfl w.heap.size 5 i0 (.int .u8 0) 1 1 Try.underlying32 hi hz0 hz1 hz2 rfl (by decide) _ _ _ rfl (hown.alloc _) ⟨wr.heap.size, 0, none⟩ 4 4 (nb4 x) rfl (by rw [nb4_eq x hxb]; rfl) ?c1 ?c2 ?c3 ?c4 ?c5 ?_)
      case c1 => rw [nb4_eq x hxb]; exact cell_four_new _ _ _ _ _ _
      case c2 => exact u8v_one _
      case c3 => unfold maxLen; omega
      case c4 => omega
      case c5 => have := hB.size; simp; omega
      intro v' w1 hown1 hgrow _
      have hB1 : Below w.heap.size w w1 := by
        refine (hB.alloc hB.size _).grown hgrow (by have := hB.size; simp; omega) (fun k e => ?_)
        exact (hown.lt k e).1
      rw [← HT.out] at hown1
      have H1 := Lib.hid hown1
      have H2 := Lib.hid hB1
      clear hown1 hB1 hgrow hown hB HT
      go_wp2
      go_roundw
      case rel => exact ⟨k + 1, by omega, by go_num, H1.out, H2.out⟩
      case measure => simp [intOf]; omega
    · obtain rfl : k = l.length := by omega
      rw [List.take_of_length_le (Nat.le_refl _)] at hown
      rw [flat_map] at hown
      have HB := Lib.hid hB
      have HO := Lib.hid hown
      clear hown hB hl
      go_wp2_with (with_reducible refine at_conv 32 9 ?_; refine wpList_bytes_string_own _ _ 5 _ rfl Try.underlying32 Try.underlying5 Try.underlying9 _ _ _ rfl _ HO.out ?_)
      go_ret
      exact ⟨rfl, HB.out⟩
end Go.Proofs.Ytnaljebiefmlcaa
