/- Words that are names, no two the same: the program's, with a set of its own. -/
import Derived.Test.YtdfnolgcdododaaDoorF5
namespace Tess
open Go
theorem distinct_iff (l : List ByteArray) : distinct l = true ↔ l.Nodup := by
  induction l with
  | nil => simp [distinct]
  | cons a r ih => simp [distinct, ih, List.nodup_cons, hasW_not]
theorem namesOk_iff (l : List ByteArray) : namesOk l = true ↔ l.Nodup ∧ ∀ x ∈ l, nameOk x = true := by
  simp [namesOk, distinct_iff]
end Tess
namespace Go.Maps
variable {H : Type}
theorem atKey_fold_not (u z : DataW H) (k : Lit) : ∀ (acc : List Lit) (m : DataW H), k ∉ acc → (acc.foldl (fun m x => m.put x u) m).atKey k z = m.atKey k z
  | [], m, _ => rfl
  | x :: r, m, h => by
    rw [List.foldl_cons, atKey_fold_not u z k r _ (fun e => h (List.mem_cons_of_mem _ e)), atKey_put_other (show k ≠ x from fun e => h (by rw [e]; exact List.mem_cons_self))]
theorem atKey_fold_mem (u z : DataW H) (k : Lit) : ∀ (acc : List Lit) (m : DataW H), IsMap m → WideAt.IsKeyLit k → k ∈ acc → (acc.foldl (fun m x => m.put x u) m).atKey k z = u
  | [], m, _, _, h => by cases h
  | x :: r, m, hm, hk, h => by
    rw [List.foldl_cons]
    by_cases e : k ∈ r
    · exact atKey_fold_mem u z k r _ (hm.put x u) hk e
    · rcases List.mem_cons.1 h with rfl | h
      · rw [atKey_fold_not u z k r _ e, atKey_put_same hm hk]
      · exact absurd h e
end Go.Maps
namespace Go
theorem plainElem_bool_inv {H : Type} {P : Program} {e : TypeId} (he : P.underlying e = some .bool) {v : Value} {z : DataW H × List MemPlace} (h : plainElem P e v = some z) : ∃ c, v = .bool c ∧ z = (.lit (.bool c), []) := by
  unfold plainElem at h
  rw [he] at h
  cases v <;> simp at h
  subst h
  exact ⟨_, rfl, rfl⟩
end Go
namespace Go.Proofs.YtdfnolgcdododaaDoor
open Go.RowKit Go.Sort Go.Maps Go.WideMaps

theorem lawStr : Keyed Tryd.prog 9 := string_keyed Tryd.underlying9
theorem zeroBool (w : World) : (zeroValue 4).run Tryd.prog w = .ok (.bool false) w := by kernel_rfl
def skey (s : ByteArray) : Lit := .string s.data.toList
theorem skey_inj {x y : ByteArray} (h : skey x = skey y) : x = y := by
  unfold skey at h
  exact ByteArray.ext (Array.toList_inj.1 (by simpa using h))
def SeenAt (w : World) (b : Nat) (l : List ByteArray) (k : Nat) : Prop := w.ownsMap Tryd.prog 9 (plainElem (H := Unit) Tryd.prog 4) b k (setOf (.lit (.bool true)) ((l.take k).map skey))
theorem SeenAt.look {w : World} {b : Nat} {l : List ByteArray} {k : Nat} (h : SeenAt w b l k) (x : ByteArray) (hx : x.size ≤ maxLen) :
    (Instr.lookup 124 (.map (some b)) (.string x) false).run Tryd.prog w = .ok (.bool (Tess.hasW (l.take k) x)) w := by
  obtain ⟨v, ps, hrun, hv⟩ := World.ownsMap.lookup h lawStr Tryd.underlying124 (zeroBool w) (plainElem_bool Tryd.underlying4 false) (keyOf_string_mk Tryd.underlying9 hx)
  obtain ⟨c, rfl, hc⟩ := plainElem_bool_inv Tryd.underlying4 hv
  rw [hrun]
  have hat : (setOf (H := Unit) (.lit (.bool true)) ((l.take k).map skey)).atKey (skey x) (.lit (.bool false)) = .lit (.bool c) := (Prod.ext_iff.1 hc).1
  cases hh : Tess.hasW (l.take k) x
  · rw [Tess.hasW_not] at hh
    unfold setOf at hat
    rw [atKey_fold_not _ _ _ _ _ (fun e => by obtain ⟨y, hy, e⟩ := List.mem_map.1 e; exact hh (skey_inj e ▸ hy))] at hat
    have : (DataW.map (H := Unit) []).atKey (skey x) (.lit (.bool false)) = .lit (.bool false) := rfl
    rw [this] at hat
    cases hat; rfl
  · rw [Tess.hasW_iff] at hh
    unfold setOf at hat
    rw [atKey_fold_mem _ _ _ _ _ isMap_empty (by unfold skey WideAt.IsKeyLit; trivial) (List.mem_map.2 ⟨x, hh, rfl⟩)] at hat
    cases hat; rfl

set_option maxRecDepth 100000 in
set_option maxHeartbeats 1000000 in
theorem areNames_any (v : Value) (l : List ByteArray) (w : World) (hv : SlOf w v (l.map .string)) (hs : ∀ x ∈ l, x.size ≤ maxLen) :
    Calls Tryd.prog 51 #[v] w fun e w' => e = .returned (.bool (Tess.namesOk l)) ∧ Below w.heap.size w w' := by
  obtain ⟨a, cap, rfl, hl, hc⟩ := sls_open hv
  have HC := Lib.hid hc
  have HS := Lib.hid hs
  clear hc hv hs
  have hmm := @run_makeMap Tryd.prog
  go_enter Tryd.func51, Tryd.ntmps51
  go_wp2
  go_loopw [9] (fun i wr => ∃ k : Nat, k ≤ l.length ∧ i = .int .i64 k ∧ SeenAt wr w.heap.size l k ∧ (l.take k).Nodup ∧ (∀ x ∈ l.take k, Tess.nameOk x = true) ∧ Below w.heap.size w wr) (fun i _ => l.length - (intOf i).toNat)
  case atStart => exact ⟨0, Nat.zero_le _, rfl, World.ownsMap_made _ _ _ _, by simp, by simp, (Below.refl _ _).alloc (Nat.le_refl _) _⟩
  case round =>
    obtain ⟨k, hk, rfl, hm, hnd, hok, hB⟩ := hrel
    have HM := Lib.hid hm
    have HND := Lib.hid hnd
    have HOK := Lib.hid hok
    have HB := Lib.hid hB
    clear hm hnd hok hB hmm
    by_cases hlt : k < l.length
    · obtain ⟨b, off, rfl, hb, hck⟩ := HC.out k hlt
      have hck' : wr.cell? ⟨b, off + k, none⟩ = some (.string l[k]) := (HB.out.cell (p := ⟨b, off + k, none⟩) hb).trans hck
      have hki : (k : Int) < (l.length : Int) := by omega
      obtain ⟨y, hy⟩ : ∃ y, y = l[k] := ⟨_, rfl⟩
      rw [← hy] at hck'
      have hysz : y.size ≤ maxLen := by rw [hy]; exact HS.out _ (List.getElem_mem hlt)
      have HYS := Lib.hid hysz
      have hlook := SeenAt.look HM.out y hysz
      have HNM := Lib.hid (fun w => isName_any y w hysz)
      have HT := Lib.hid (List.take_succ_eq_append_getElem hlt)
      have HY := Lib.hid hy
      clear hy hck hysz
      cases hhas : Tess.hasW (l.take k) y
      · cases hnm : Tess.nameOk y
        · rw [hhas] at hlook
          go_wp2_with (go_at_call 81; refine (HNM.out _).mono ?_; rintro e w2 ⟨rfl, hB2⟩; rw [hnm]; have HB2 := Lib.hid (Bt HB.out hB2); clear hB2)
          go_ret
          refine ⟨ret_bool' ?_, HB2.out⟩
          rw [eq_comm, Bool.eq_false_iff, ne_eq, Tess.namesOk_iff]
          rintro ⟨_, h⟩
          have := h y (by rw [HY.out]; exact List.getElem_mem hlt)
          rw [hnm] at this; cases this
        · rw [hhas] at hlook
          go_wp2_with (first
            | (go_at_call 81; refine (HNM.out _).mono ?_; rintro e w2 ⟨rfl, hB2⟩; rw [hnm]; have HM2 := Lib.hid (World.ownsMap.kept HM.out (Below.grownNone hB2) (by simp)); have HB2 := Lib.hid (Bt HB.out hB2); clear hB2 hlook)
            | (at_mapUpdate; refine wpList_mapUpdate_own _ rfl _ _ _ 124 rfl 9 4 lawStr Tryd.underlying124 _ w.heap.size k _ rfl HM2.out (by unfold maxLen; omega) _ _ _ rfl rfl (keyOf_string_mk Tryd.underlying9 HYS.out) _ [] (plainElem_bool Tryd.underlying4 true) ?_; intro w3 hown3 hg3; have HM3 := Lib.hid hown3; have HB3 := Lib.hid (HB2.out.grown hg3 HB2.out.size (fun j e => by cases e; exact Nat.le_refl _)); clear hown3 hg3))
          go_roundw
          case rel =>
            refine ⟨k + 1, by omega, by go_num, ?_, ?_, ?_, HB3.out⟩
            · unfold SeenAt
              rw [HT.out, List.map_append, List.map_singleton, setOf_snoc, ← HY.out]
              exact HM3.out
            · rw [HT.out, List.nodup_append]
              refine ⟨HND.out, by simp, fun z hz z' hz' e => ?_⟩
              rw [List.mem_singleton] at hz'
              rw [Tess.hasW_not] at hhas
              exact hhas (by rw [HY.out, ← hz', ← e]; exact hz)
            · intro z hz
              rw [HT.out, List.mem_append, List.mem_singleton] at hz
              rcases hz with hz | rfl
              · exact HOK.out z hz
              · rw [← HY.out]; exact hnm
          case measure => simp [intOf]; omega
      · rw [hhas] at hlook
        go_wp2_with fail
        go_ret
        refine ⟨ret_bool' ?_, HB.out⟩
        rw [eq_comm, Bool.eq_false_iff, ne_eq, Tess.namesOk_iff]
        rintro ⟨h, _⟩
        rw [Tess.hasW_iff] at hhas
        have h1 : (l.take (k + 1)).Nodup := List.Sublist.nodup (List.take_sublist _ _) h
        rw [HT.out, List.nodup_append] at h1
        exact h1.2.2 y hhas y (by rw [HY.out]; simp) rfl
    · have hki : ¬ (k : Int) < (l.length : Int) := by omega
      have e : l.take k = l := List.take_of_length_le (by omega)
      have HE := Lib.hid e
      clear e
      go_wp2
      go_ret
      exact ⟨ret_bool' ((Tess.namesOk_iff l).2 ⟨HE.out ▸ HND.out, HE.out ▸ HOK.out⟩).symm, HB.out⟩
end Go.Proofs.YtdfnolgcdododaaDoor
