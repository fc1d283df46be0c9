import Derived.Test.YtjfolhheejkedaaBytesW
set_option linter.unusedVariables false
namespace Go.Proofs.Ytjfolhheejkedaa
open Go.RowKit Go.Shelf Go.Joins Go.Proofs.YtjfolhheejkedaaW.PrintWords Go.Proofs.YtjfolhheejkedaaW.PrintLast Go.Proofs.YtjfolhheejkedaaW.PrintMore

/-! ### bytes that are a frame's are told of it (plain) -/
theorem wrap_u64_wrap64 (N : Nat) (h : N < 18446744073709551616) : IntKind.u64.wrap (wrap64 (N : Int)) = N := by
  rw [IntKind.wrap_u64]
  unfold wrap64
  omega
theorem eight_number (l : List Int) (hb : IsBytes l) (h8 : l.length = 8) : eight (numberF l) = l := by
  obtain ⟨a, b, c, d, e, f, g, h, rfl, ha, hb', hc, hd, he, hf, hg, hh⟩ := eight_of l hb h8
  have hn : numN [(a : Int), (b : Int), (c : Int), (d : Int), (e : Int), (f : Int), (g : Int), (h : Int)] = ((((((((0 * 256 + a) * 256 + b) * 256 + c) * 256 + d) * 256 + e) * 256 + f) * 256 + g) * 256 + h) := numN8 a b c d e f g h
  obtain ⟨N, hN⟩ : ∃ N, N = ((((((((0 * 256 + a) * 256 + b) * 256 + c) * 256 + d) * 256 + e) * 256 + f) * 256 + g) * 256 + h) := ⟨_, rfl⟩
  rw [← hN] at hn
  clear hb h8
  have hlt : N < 18446744073709551616 := by omega
  have hw : IntKind.u64.wrap (numberF [(a : Int), (b : Int), (c : Int), (d : Int), (e : Int), (f : Int), (g : Int), (h : Int)]) = (N : Int) := by
    unfold numberF
    rw [hn]
    exact wrap_u64_wrap64 N hlt
  have he' : eight (numberF [(a : Int), (b : Int), (c : Int), (d : Int), (e : Int), (f : Int), (g : Int), (h : Int)]) = (List.range 8).map fun i => ((N / 2 ^ (56 - 8 * i) % 256 : Nat) : Int) := List.map_congr_left fun i _ => by rw [byteAt_nat, hw, Int.toNat_natCast]
  rw [he']
  clear hn hw he'
  have er : (List.range 8) = [0, 1, 2, 3, 4, 5, 6, 7] := rfl
  rw [er]
  simp only [List.map_cons, List.map_nil, Nat.reduceMul, Nat.reduceSub, Nat.reducePow]
  have q0 : N / 72057594037927936 % 256 = a := by omega
  have q1 : N / 281474976710656 % 256 = b := by omega
  have q2 : N / 1099511627776 % 256 = c := by omega
  have q3 : N / 4294967296 % 256 = d := by omega
  have q4 : N / 16777216 % 256 = e := by omega
  have q5 : N / 65536 % 256 = f := by omega
  have q6 : N / 256 % 256 = g := by omega
  have q7 : N / 1 % 256 = h := by omega
  rw [q0, q1, q2, q3, q4, q5, q6, q7]
theorem parts_succ (g : List Int → Int) (t : List Int) (n : Nat) : (List.range (n + 1)).map (fun i => g ((t.drop (8 * i)).take 8)) = g (t.take 8) :: (List.range n).map (fun i => g (((t.drop 8).drop (8 * i)).take 8)) := by
  rw [List.range_succ_eq_map, List.map_cons, List.map_map]
  have h2 : (List.range n).map ((fun i => g ((t.drop (8 * i)).take 8)) ∘ Nat.succ) = (List.range n).map fun i => g (((t.drop 8).drop (8 * i)).take 8) := List.map_congr_left fun i _ => by
    show g ((t.drop (8 * (i + 1))).take 8) = g (((t.drop 8).drop (8 * i)).take 8)
    rw [List.drop_drop, show 8 * (i + 1) = 8 + 8 * i by omega]
  rw [h2, Nat.mul_zero, List.drop_zero]
theorem numsOf_succ (t : List Int) (n : Nat) : numsOf t (n + 1) = numberF (t.take 8) :: numsOf (t.drop 8) n := parts_succ numberF t n
theorem flat_numsOf : ∀ (n : Nat) (t : List Int), IsBytes t → t.length = 8 * n → (numsOf t n).flatMap eight = t := by
  intro n
  induction n with
  | zero => intro t _ h; have : t = [] := List.eq_nil_of_length_eq_zero h; subst this; rfl
  | succ n ih =>
    intro t hb h
    rw [numsOf_succ, List.flatMap_cons, eight_number _ (hb.take 8) (by rw [List.length_take]; omega), ih _ (hb.drop 8) (by rw [List.length_drop]; omega), List.take_append_drop]
theorem decF_ok (bs : List Int) (hb : IsBytes bs) (h : (decF bs).2.2 = 0) : rightF (decF bs).1 (decF bs).2.1.length = true ∧ encF (decF bs).1 (decF bs).2.1 = bs := by
  have hbo := openF_bytes hb
  by_cases h0 : (openF bs).2 ≠ 0
  · exfalso
    unfold decF at h
    rw [if_pos h0] at h
    exact h0 h
  · have h0' : (openF bs).2 = 0 := by simpa using h0
    have hop : bs = (openF bs).1 ++ tailF (openF bs).1 := by
      unfold openF at h0' ⊢
      split at h0'
      · cases h0'
      · rename_i h4
        rw [if_neg h4]
        split at h0'
        · rename_i h5
          rw [if_pos h5]
          show bs = bs.take _ ++ tailF (bs.take _)
          rw [h5, List.take_append_drop]
        · cases h0'
    unfold decF at h ⊢
    rw [if_neg h0] at h ⊢
    generalize (openF bs).1 = y at *
    cases y with
    | nil => cases h
    | cons x t =>
      simp only at h ⊢
      have hx := hbo x (by simp)
      have hbt : IsBytes t := fun z hz => hbo z (by simp [hz])
      by_cases hc : longF x = 0 ∨ t.length ≠ 8 * longF x
      · rw [if_pos hc] at h; cases h
      · rw [if_neg hc]
        have h1 : 0 < longF x := by omega
        have h2 : t.length = 8 * longF x := by omega
        have hl : (numsOf t (longF x)).length = longF x := by simp [numsOf]
        constructor
        · show rightF x (numsOf t (longF x)).length = true
          rw [hl]
          unfold rightF
          simp [h1]
        · show encF x (numsOf t (longF x)) = bs
          unfold encF wordsF
          rw [flat_numsOf _ _ hbt h2, show x % 256 = x by omega]
          exact hop.symm
end Go.Proofs.Ytjfolhheejkedaa
