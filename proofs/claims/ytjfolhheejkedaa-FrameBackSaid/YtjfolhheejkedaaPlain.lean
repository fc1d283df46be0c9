import Derived.Test.YtjfolhheejkedaaShown
set_option linter.unusedVariables false
namespace Go.Proofs.Ytjfolhheejkedaa
open Go.RowKit Go.Shelf Go.Joins Go.Proofs.YtjfolhheejkedaaW.PrintWords Go.Proofs.YtjfolhheejkedaaW.PrintLast Go.Proofs.YtjfolhheejkedaaW.PrintMore

theorem byteAt_nat (x : Int) (i : Nat) : byteAt x i = (((IntKind.u64.wrap x).toNat / 2 ^ (56 - 8 * i) % 256 : Nat) : Int) := by
  have h : 0 ≤ IntKind.u64.wrap x := wrap_u64_nonneg x
  unfold byteAt
  obtain ⟨Y, hY⟩ : ∃ Y : Nat, IntKind.u64.wrap x = (Y : Int) := ⟨_, (Int.toNat_of_nonneg h).symm⟩
  rw [hY, Int.toNat_natCast]
  simp
theorem digits (Y : Nat) (h : Y < 18446744073709551616) : numN ((List.range 8).map fun i => ((Y / 2 ^ (56 - 8 * i) % 256 : Nat) : Int)) = Y := by
  have e : (List.range 8) = [0, 1, 2, 3, 4, 5, 6, 7] := rfl
  rw [e]
  unfold numN
  simp only [List.map_cons, List.map_nil, List.foldl_cons, List.foldl_nil, Int.toNat_natCast]
  simp only [Nat.reduceMul, Nat.reduceSub, Nat.reducePow]
  omega
theorem numberF_eight (x : Int) (h1 : -9223372036854775808 ≤ x) (h2 : x < 9223372036854775808) : numberF (eight x) = x := by
  have e : eight x = (List.range 8).map fun i => (((IntKind.u64.wrap x).toNat / 2 ^ (56 - 8 * i) % 256 : Nat) : Int) := List.map_congr_left fun i _ => byteAt_nat x i
  have hw : IntKind.u64.wrap x = x % 18446744073709551616 := by simp [IntKind.wrap, IntKind.bits, IntKind.signed]
  unfold numberF
  rw [e, digits _ (by rw [hw]; omega), hw]
  unfold wrap64
  omega
theorem openF_seal (b : List Int) : openF (b ++ tailF b) = (b, 0) := by
  have hl : (b ++ tailF b).length - 4 = b.length := by rw [List.length_append, tailF_length]; omega
  unfold openF
  rw [if_neg (by rw [List.length_append, tailF_length]; omega), hl, List.take_left, List.drop_left, if_pos rfl]
theorem flat_length (xs : List Int) : (xs.flatMap eight).length = 8 * xs.length := by
  have := words_length 0 xs
  unfold wordsF at this
  rw [List.length_cons] at this
  omega
theorem flat_part (xs : List Int) : ∀ i, i < xs.length → ((xs.flatMap eight).drop (8 * i)).take 8 = eight (xs[i]?.getD 0) := by
  induction xs with
  | nil => intro i h; simp at h
  | cons x xs ih =>
    intro i h
    rw [List.flatMap_cons]
    have h8 : (eight x).length = 8 := rfl
    cases i with
    | zero => rw [Nat.mul_zero, List.drop_zero, ← h8, List.take_left]; rfl
    | succ i =>
      rw [show 8 * (i + 1) = (eight x).length + 8 * i by omega, List.drop_append, List.drop_of_length_le (by omega), List.nil_append, show (eight x).length + 8 * i - (eight x).length = 8 * i by omega]
      exact ih i (by simp at h; omega)
theorem numsOf_flat (xs : List Int) (h : ∀ x ∈ xs, -9223372036854775808 ≤ x ∧ x < 9223372036854775808) : numsOf (xs.flatMap eight) xs.length = xs := by
  unfold numsOf
  apply List.ext_getElem?
  intro i
  rw [List.getElem?_map]
  by_cases hi : i < xs.length
  · rw [List.getElem?_range hi, Option.map_some, flat_part xs i hi, List.getElem?_eq_getElem hi]
    have := h _ (List.getElem_mem hi)
    rw [Option.getD_some, numberF_eight _ this.1 this.2]
  · rw [List.getElem?_eq_none (by simpa using hi), List.getElem?_eq_none (by omega)]; rfl
theorem right_kind {k : Int} {n : Nat} (h : rightF k n = true) : 0 < longF k ∧ n = longF k ∧ 1 ≤ k ∧ k ≤ 8 := by
  unfold rightF at h
  simp at h
  refine ⟨h.1, h.2, ?_⟩
  apply Classical.byContradiction
  intro hk
  have := longF_no k (by omega)
  omega
/-- what was told in bytes is the frame -/
theorem decF_encF (k : Int) (xs : List Int) (hR : rightF k xs.length = true) (h : ∀ x ∈ xs, -9223372036854775808 ≤ x ∧ x < 9223372036854775808) : decF (encF k xs) = (k, xs, 0) := by
  obtain ⟨h0, hl, h1, h8⟩ := right_kind hR
  have hk : k % 256 = k := by omega
  unfold decF encF
  rw [openF_seal]
  unfold wordsF
  simp only [ne_eq, not_true_eq_false, if_false, hk]
  rw [if_neg (by rw [flat_length]; omega), ← hl, numsOf_flat xs h]
end Go.Proofs.Ytjfolhheejkedaa
