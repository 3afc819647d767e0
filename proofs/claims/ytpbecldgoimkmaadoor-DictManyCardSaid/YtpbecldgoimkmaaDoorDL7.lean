/- The law DictMany, walked: whatever the numbers, it returns true. -/
import Derived.Test.YtpbecldgoimkmaaDoorD34
import Derived.Test.YtpbecldgoimkmaaDoorD37p
import Derived.Test.YtpbecldgoimkmaaDoorDL2
import Derived.OpenShut
namespace Tess
open Go
theorem buildW_own (d : List ByteArray) (h : right d = true) : buildW d = (d, 0) := by
  have hs := right_size d h
  have hl := right_len d h
  have e : sortW d = d := up_only _ _ (sortW_up d) (asc_up (right_asc d h)) (sortW_all d)
  have hn : ¬ d.any isLong = true := by
    rw [List.any_eq_true]
    rintro ⟨x, hx, hlx⟩
    obtain ⟨j, hj, rfl⟩ := List.getElem_of_mem hx
    have := hs j hj
    rw [getD_lt d j hj] at this
    have := of_decide_eq_true hlx
    omega
  unfold buildW
  rw [built_sort, if_neg hn, e, if_neg (by omega)]
def manyP (s : Nat) : ByteArray := mk (List.replicate s 0)
def manyX (s i : Nat) : ByteArray := mk (List.replicate s 0 ++ [UInt8.ofNat (i / 256), UInt8.ofNat i])
def many (s n : Nat) : List ByteArray := (List.range n).map (manyX s)
theorem many_len (s n : Nat) : (many s n).length = n := by simp [many]
theorem many_succ (s n : Nat) : many s (n + 1) = many s n ++ [manyX s n] := by unfold many; rw [List.range_succ, List.map_append]; rfl
theorem manyX_size (s i : Nat) : (manyX s i).size = s + 2 := by unfold manyX; rw [mk_size]; simp
theorem manyP_size (s : Nat) : (manyP s).size = s := by unfold manyP; rw [mk_size]; simp
theorem manyX_of (s i : Nat) : manyP s ++ mk [UInt8.ofNat (i / 256), UInt8.ofNat i] = manyX s i := mk_append _ _
theorem lt_append (p u v : List UInt8) (h : u < v) : p ++ u < p ++ v := by
  induction p with
  | nil => exact h
  | cons a p ih => rw [List.cons_append, List.cons_append, List.cons_lt_cons_iff]; exact .inr ⟨rfl, ih⟩
theorem manyX_lt (s i j : Nat) (hij : i < j) (hj : j < 65536) : bl (manyX s i) (manyX s j) = true := by
  rw [bl_lt, tl, tl]
  refine decide_eq_true (lt_append _ _ _ ?_)
  have e : ∀ n, (UInt8.ofNat n).toNat = n % 256 := fun n => by rw [UInt8.toNat_ofNat']
  rw [List.cons_lt_cons_iff]
  by_cases h : i / 256 = j / 256
  · refine .inr ⟨by rw [h], ?_⟩
    rw [List.cons_lt_cons_iff]
    refine .inl ?_
    rw [UInt8.lt_iff_toNat_lt, e, e]
    omega
  · refine .inl ?_
    rw [UInt8.lt_iff_toNat_lt, e, e]
    omega
theorem many_up (s n : Nat) (hn : n ≤ 65536) : Up (many s n) := by
  unfold Up many
  rw [List.pairwise_map]
  exact List.Pairwise.imp_of_mem (fun {i j} _ hj hij => manyX_lt s i j hij (by have := List.mem_range.1 hj; omega)) List.pairwise_lt_range
theorem many_all (s n : Nat) (y : ByteArray) (h : y ∈ many s n) : y.size = s + 2 := by
  unfold many at h
  obtain ⟨i, _, rfl⟩ := List.mem_map.1 h
  exact manyX_size s i
theorem many_right (s n : Nat) (hs : s ≤ 90) (hn : n ≤ 1000) : right (many s n) = true :=
  right_of _ (by rw [many_len]; exact hn) (fun y hy => by rw [many_all s n y hy]; omega) (up_asc (many_up s n (by omega)))
theorem many_wrong (s n : Nat) (hn : 1000 < n) : right (many s n) = false := by
  cases h : right (many s n) with
  | false => rfl
  | true => have := right_len _ h; rw [many_len] at this; omega
theorem many_no (s n : Nat) (hn : 1000 < n) (hn2 : n ≤ 65536) : buildW (many s n) = ([], 50) ∧ encW (many s n) = (⟨#[]⟩, 50) := by
  constructor
  · have e : sortW (many s n) = many s n := up_only _ _ (sortW_up _) (many_up s n hn2) (sortW_all _)
    unfold buildW
    rw [built_sort, e, many_len, if_pos (show 1000 < n from hn)]
    split <;> rfl
  · unfold encW
    rw [many_wrong s n hn]
    rfl
theorem app_nil (s : ByteArray) : s ++ mk [] = s := by
  rw [← mk_of s, mk_append, List.append_nil]
end Tess
namespace Go.Proofs.YtpbecldgoimkmaaDoor
open Go.RowKit Go.Sort Go.Shelf
theorem infoB : (Tryd.prog.info? 5).map (fun i => (i.zero, i.size, i.bytes)) = some (some (.int .u8 0), 1, 1) := by kernel_rfl

set_option maxRecDepth 100000 in
set_option maxHeartbeats 4000000 in
theorem many_ok (a0 a1 : Addr) (n s : Nat) (w : World) (hV : Vars a0 a1 w) (h1 : 990 ≤ n) (h2 : n ≤ 1010) (h3 : s ≤ 90) :
    Calls Tryd.prog 7 #[.int .i64 n, .int .i64 s] w fun e w' => e = .returned (.bool true) ∧ Below w.heap.size w w' := by
  have HSH := Lib.hid (shown_any a0 a1 w hV)
  obtain ⟨i0, hi, hz0, hz1, hz2⟩ := info_parts infoB
  obtain ⟨i1, hj, hy0, hy1, hy2⟩ := info_parts infoStr
  have n1 : ¬ (n : Int) < 990 := by omega
  have n2 : ¬ (1010 : Int) < (n : Int) := by omega
  have n3 : ¬ (s : Int) < 0 := by omega
  have n4 : ¬ (90 : Int) < (s : Int) := by omega
  have hbs : i0.bytes * s ≤ 281474976710656 := by rw [hz2]; omega
  have hms : s ≤ maxLen := by unfold maxLen; omega
  have hst : strOfNums ((List.replicate s (0 : UInt8)).map fun b => (b.toNat : Int)) = Tess.manyP s := strOfNums_list (Tess.manyP s)
  have HST := Lib.hid hst
  clear hst
  go_enter Tryd.func7, Tryd.ntmps7
  go_wp2_with (first
    | (go_at_call 10; refine HSH.out.mono ?_; rintro e w1 ⟨rfl, hB'⟩; have HB := Lib.hid hB'; clear hB')
    | (at_make; refine wpList_make_row _ _ 42 rfl 5 i0 (.int .u8 0) Tryd.underlying42 hi hz0 hz1 rfl .i64 .i64 s rfl rfl hbs hms ?_; intro w2 hB2 hlt hrow; have HB := Lib.hid (Bt HB.out hB2); have HROW := Lib.hid hrow; clear hrow hB2 hlt)
    | (with_reducible refine at_conv 42 9 ?_; refine wpList_bytes_string _ _ 5 _ rfl Tryd.underlying42 Tryd.underlying5 Tryd.underlying9 w1.heap.size 0 s s rfl ((List.replicate s (0 : UInt8)).map fun b => (b.toNat : Int)) ?_ ?_ ?_
       · simp
       · intro i hi; rw [cell_of_row _ _ _ _ _ _ HROW.out]; simp [hi]
       rw [HST.out]))
  have hps := Tess.manyP_size s
  have hx : ∀ k, Tess.manyP s ++ Tess.mk [UInt8.ofNat (k / 256), UInt8.ofNat k] = Tess.manyX s k := Tess.manyX_of s
  have HX := Lib.hid hx
  generalize Tess.manyP s = P at *
  have hov : ¬ 9223372036854775807 < P.size + 2 := by omega
  clear hps hx HST HROW
  go_loopw [6, 8] (fun v i wr => ∃ k : Nat, k ≤ n ∧ i = .int .i64 k ∧ wr.ownsRow w.heap.size 9 1 v k ((Tess.many s k).map .string) ∧ Below w.heap.size w wr) (fun _ i _ => n - (intOf i).toNat)
  case atStart => exact ⟨0, Nat.zero_le _, rfl, World.ownsRow_nil _ w.heap.size 9 1, HB.out⟩
  case round =>
    obtain ⟨k, hk, rfl, hown, hB⟩ := hrel
    have HO := Lib.hid hown
    have HB := Lib.hid hB
    clear hown hB
    by_cases hlt : k < n
    · have hki : (k : Int) < (n : Int) := by omega
      have hk0 : (0 : Int) ≤ (k : Int) := by omega
      have HXX := Lib.hid (HX.out k)
      have HS1 := Lib.hid (show (Tess.many s k).map Value.string ++ [.string (Tess.manyX s k)] = (Tess.many s (k + 1)).map .string by rw [Tess.many_succ, List.map_append]; rfl)
      have hgs : (wr.alloc (Obj.cells #[Value.int .u8 ((k : Int) / 256), Value.int .u8 ((k : Int) % 256)] 5)).heap.size = wr.heap.size + 1 := by simp
      go_wp2_with (first
        | (with_reducible refine at_conv 42 9 ?_; refine wpList_bytes_string _ _ 5 _ rfl Tryd.underlying42 Tryd.underlying5 Tryd.underlying9 wr.heap.size 0 2 2 rfl ([UInt8.ofNat (k / 256), UInt8.ofNat k].map fun b => (b.toNat : Int)) ?_ ?_ ?_
           · simp
           · intro i hi
             have h2 : i = 0 ∨ i = 1 := by omega
             rw [cell_of_row _ _ _ _ _ _ (World.alloc_heap_new _ _)]
             rcases h2 with rfl | rfl <;> simp <;> omega
           rw [strOfNums_u8])
        | (at_builtin; rw [show P ++ (⟨#[UInt8.ofNat (k / 256), UInt8.ofNat k]⟩ : ByteArray) = Tess.manyX s k from HXX.out]; refine wpList_append_own _ rfl _ _ 22 rfl w.heap.size 9 i1 (.string ByteArray.empty) 1 16 Tryd.underlying22 hj hy0 hy1 hy2 rfl (by decide) _ _ _ rfl (owns_below HO.out (((Below.refl _ _).alloc (Nat.le_refl _) _).alloc (by simp) _)) ⟨wr.heap.size + 1, 0, none⟩ 1 1 [.string (Tess.manyX s k)] rfl rfl ?_ ?_ ?_ ?_ ?_ ?_))
      · intro j u hj; rcases j with _ | j <;> simp at hj; subst hj
        rw [addr_add, cell_of_row _ _ _ _ _ _ (heap_alloc2_new _ _ _)]; rfl
      · simp [Value.oneCell']
      · unfold maxLen; omega
      · omega
      · simp; have := HB.out.size; omega
      intro v' w3 hown3 hgrow _
      have hB3 : Below w.heap.size w w3 := ((HB.out.alloc HB.out.size _).alloc (by simp; have := HB.out.size; omega) _).grown hgrow (by simp; have := HB.out.size; omega) (fun j e => (HO.out.lt j e).1)
      have HO3 := Lib.hid (joinl_owned hown3 HS1.out)
      have HB3 := Lib.hid hB3
      clear hown3 hgrow hB3
      go_wp2
      go_roundw
      case rel => exact ⟨k + 1, by omega, by go_num, HO3.out, HB3.out⟩
      case measure => simp [intOf]; omega
    · obtain rfl : k = n := by omega
      have hki : ¬ (k : Int) < (k : Int) := by omega
      have HVL := Lib.hid (SlOf.owned HO.out)
      have hml := Tess.many_len s k
      have hb := fun v W (h : SlOf W v ((Tess.many s k).map .string)) => build_any v (Tess.many s k) W h (by omega)
      have he := fun v W (h : SlOf W v ((Tess.many s k).map .string)) => encode_any v (Tess.many s k) W h
      have hr := fun v W (h : SlOf W v ((Tess.many s k).map .string)) => right_any v (Tess.many s k) W h
      unfold BuildPost at hb
      unfold EncPost at he
      by_cases h1000 : 1000 < k
      · obtain ⟨g1, g2⟩ := Tess.many_no s k h1000 (by omega)
        rw [g1] at hb
        rw [g2] at he
        rw [Tess.many_wrong s k h1000] at hr
        simp only at hb he
        have HBD := Lib.hid hb
        have HE := Lib.hid he
        have HRT := Lib.hid hr
        have h1i : (1000 : Int) < (k : Int) := by omega
        clear hb he hr g1 g2 hml HO HX
        go_wp2_with (first
          | (go_at_call 25; refine (HBD.out _ _ HVL.out).mono ?_; rintro e w3 ⟨va, rfl, hva, hB'⟩; have HVL := Lib.hid (HVL.out.below hB'); have HVA := Lib.hid hva; have HB := Lib.hid (Bt HB.out hB'); clear hB' hva)
          | (go_at_call 12; refine (HE.out _ _ HVL.out).mono ?_; rintro e w4 ⟨rfl, hB'⟩; have HVL := Lib.hid (HVL.out.below hB'); have HVA := Lib.hid (HVA.out.below hB'); have HB := Lib.hid (Bt HB.out hB'); clear hB')
          | (go_at_call 26; refine (HRT.out _ _ HVL.out).mono ?_; rintro e w5 ⟨rfl, hB'⟩; have HB := Lib.hid (Bt HB.out hB'); clear hB')
          | (go_at_call 14; refine (HD.out _ HB.out).mono ?_; rintro e w6 ⟨vd, rfl, hvd, hB'⟩; have HVL := Lib.hid (HVL.out.below hB'); have HVA := Lib.hid (HVA.out.below hB'); have HVD := Lib.hid hvd; have HB := Lib.hid (Bt HB.out hB'); clear hB' hvd)
          | (go_at_call 17; first | (with_reducible refine (texts_any _ _ L L _ HVA.out HVL.out).mono ?_; rintro e w7 ⟨rfl, hB'⟩; have HVL := Lib.hid (HVL.out.below hB'); have HVD := Lib.hid (HVD.out.below hB'); have HB := Lib.hid (Bt HB.out hB'); clear hB'; rw [decide_eq_true rfl]) | (with_reducible refine (texts_any _ _ L L _ HVD.out HVL.out).mono ?_; rintro e w8 ⟨rfl, hB'⟩; have HB := Lib.hid (Bt HB.out hB'); clear hB'; rw [decide_eq_true rfl])))
        go_ret
        exact ⟨by first | rfl | simp, HB.out⟩
      · have g0 := Tess.many_right s k h3 (by omega)
        have g1 := Tess.buildW_own _ g0
        obtain ⟨g2, g3⟩ := Tess.dec_enc _ g0 (Tess.mk [])
        have hes := Tess.encW_size (Tess.many s k)
        rw [Tess.app_nil, show Tess.mk [] = ⟨#[]⟩ from rfl] at g3
        rw [g1] at hb
        generalize Tess.many s k = L at *
        obtain ⟨⟨E, x⟩, heq⟩ : ∃ g, g = Tess.encW L := ⟨_, rfl⟩
        rw [← heq] at g2 g3 he hes
        simp only at g2 g3 he hes hb
        subst g2
        have hd : ∀ W, Below w.heap.size w W → Calls Tryd.prog 14 #[.string E] W (DecPost E W) := fun W hB => decode_any a0 a1 E W (hV.below hB) (by omega)
        unfold DecPost at hd
        rw [g3] at hd
        simp only at hd
        have HBD := Lib.hid hb
        have HE := Lib.hid he
        have HRT := Lib.hid hr
        have HD := Lib.hid hd
        have h1i : ¬ (1000 : Int) < (k : Int) := by omega
        clear hb he hr hd g0 g1 g3 hml HO HX hes heq
        go_wp2_with (first
          | (go_at_call 25; refine (HBD.out _ _ HVL.out).mono ?_; rintro e w3 ⟨va, rfl, hva, hB'⟩; have HVL := Lib.hid (HVL.out.below hB'); have HVA := Lib.hid hva; have HB := Lib.hid (Bt HB.out hB'); clear hB' hva)
          | (go_at_call 12; refine (HE.out _ _ HVL.out).mono ?_; rintro e w4 ⟨rfl, hB'⟩; have HVL := Lib.hid (HVL.out.below hB'); have HVA := Lib.hid (HVA.out.below hB'); have HB := Lib.hid (Bt HB.out hB'); clear hB')
          | (go_at_call 26; refine (HRT.out _ _ HVL.out).mono ?_; rintro e w5 ⟨rfl, hB'⟩; have HB := Lib.hid (Bt HB.out hB'); clear hB')
          | (go_at_call 14; refine (HD.out _ HB.out).mono ?_; rintro e w6 ⟨vd, rfl, hvd, hB'⟩; have HVL := Lib.hid (HVL.out.below hB'); have HVA := Lib.hid (HVA.out.below hB'); have HVD := Lib.hid hvd; have HB := Lib.hid (Bt HB.out hB'); clear hB' hvd)
          | (go_at_call 17; first | (with_reducible refine (texts_any _ _ L L _ HVA.out HVL.out).mono ?_; rintro e w7 ⟨rfl, hB'⟩; have HVL := Lib.hid (HVL.out.below hB'); have HVD := Lib.hid (HVD.out.below hB'); have HB := Lib.hid (Bt HB.out hB'); clear hB'; rw [decide_eq_true rfl]) | (with_reducible refine (texts_any _ _ L L _ HVD.out HVL.out).mono ?_; rintro e w8 ⟨rfl, hB'⟩; have HB := Lib.hid (Bt HB.out hB'); clear hB'; rw [decide_eq_true rfl])))
        go_ret
        exact ⟨by first | rfl | simp, HB.out⟩

set_option maxRecDepth 100000 in
set_option maxHeartbeats 4000000 in
theorem many_no1 (a0 a1 : Addr) (n s : Int) (w : World) (hV : Vars a0 a1 w) (h : n < 990 ∨ 1010 < n ∨ s < 0 ∨ 90 < s) :
    Calls Tryd.prog 7 #[.int .i64 n, .int .i64 s] w fun e w' => e = .returned (.bool true) ∧ Below w.heap.size w w' := by
  have HSH := Lib.hid (shown_any a0 a1 w hV)
  go_enter Tryd.func7, Tryd.ntmps7
  rcases h with h | h | h | h
  all_goals (
    go_wp2_with (go_at_call 10; refine HSH.out.mono ?_; rintro e w1 ⟨rfl, hB'⟩; have HB := Lib.hid hB'; clear hB')
    all_goals (go_ret; exact ⟨by first | rfl | simp, HB.out⟩))
theorem DictMany_any (a0 a1 : Addr) (n s : Int) (w : World) (hV : Vars a0 a1 w) (_ : (Lit.int .i64 n).wf = true) (_ : (Lit.int .i64 s).wf = true) :
    Calls Tryd.prog 7 #[.int .i64 n, .int .i64 s] w fun e w' => e = .returned (.bool true) ∧ Below w.heap.size w w' := by
  by_cases h : n < 990 ∨ 1010 < n ∨ s < 0 ∨ 90 < s
  · exact many_no1 a0 a1 n s w hV h
  · obtain ⟨k, rfl⟩ := Int.eq_ofNat_of_zero_le (show 0 ≤ n by omega)
    obtain ⟨c, rfl⟩ := Int.eq_ofNat_of_zero_le (show 0 ≤ s by omega)
    exact many_ok a0 a1 k c w hV (by omega) (by omega) (by omega)
end Go.Proofs.YtpbecldgoimkmaaDoor
