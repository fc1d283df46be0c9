import Derived.Test.YtebedfcemdpedaaOnes
namespace Go.Proofs.Ytebedfcemdpedaa

/-! ### a delta told as a row: the plain law -/
/-- bit k of a mask -/
def bitOf (mask : List Int) (k : Nat) : Int := mask[k / 60]?.getD 0 / 2 ^ (k % 60) % 2
def dstep (mask : List Int) (k : Nat) (b : Int) (o ws : List Int) : Option (List Int × List Int) :=
  if bitOf mask k = 0 then some (o ++ [b], ws) else match ws with
  | [] => none
  | x :: r => if x = b then none else some (o ++ [x], r)
def drun (mask base words : List Int) : Nat → Option (List Int × List Int)
  | 0 => some ([], words)
  | k + 1 => (drun mask base words k).bind fun (o, ws) => dstep mask k (base[k]?.getD 0) o ws
theorem drun_none (mask base words : List Int) (k : Nat) (h : drun mask base words k = none) : ∀ n, k ≤ n → drun mask base words n = none := by
  intro n hn
  induction n with
  | zero => obtain rfl : k = 0 := by omega
            exact h
  | succ n ih =>
    rcases Nat.lt_or_ge n k with h1 | h1
    · obtain rfl : k = n + 1 := by omega
      exact h
    · simp only [drun, ih h1]; rfl
theorem bitOf_two (mask : List Int) (k : Nat) : bitOf mask k = 0 ∨ bitOf mask k = 1 := by unfold bitOf; omega
/-- how many of the first k bits are 1 -/
def cnt (mask : List Int) : Nat → Nat
  | 0 => 0
  | k + 1 => cnt mask k + if bitOf mask k = 0 then 0 else 1
theorem pc_succ (r x : Nat) : Pop.pc (r + 1) x = Pop.pc r x + x / 2 ^ r % 2 := by
  rw [Pop.pc_add r 1 x]
  have h : ∀ (r x : Nat), Pop.pc r (x % 2 ^ r) = Pop.pc r x := by
    intro r
    induction r with
    | zero => intro x; rfl
    | succ r ih =>
      intro x
      simp only [Pop.pc]
      have e1 : x % 2 ^ (r + 1) % 2 = x % 2 := by rw [Nat.mod_mod_of_dvd]; exact ⟨2 ^ r, by rw [Nat.pow_succ, Nat.mul_comm]⟩
      have e2 : x % 2 ^ (r + 1) / 2 = x / 2 % 2 ^ r := by rw [Nat.pow_succ, Nat.mul_comm, Nat.mod_mul_right_div_self]
      rw [e1, e2, ih]
  rw [h]
  rfl
theorem pc_mono (r s x : Nat) (h : r ≤ s) : Pop.pc r x ≤ Pop.pc s x := by
  obtain ⟨d, rfl⟩ : ∃ d, s = r + d := ⟨s - r, by omega⟩
  induction d with
  | zero => exact Nat.le_refl _
  | succ d ih => rw [← Nat.add_assoc, pc_succ]; have := ih (by omega); omega
theorem uOf_bit (m : Int) (r : Nat) (h : r < 64) : ((uOf m / 2 ^ r % 2 : Nat) : Int) = m / 2 ^ r % 2 := by
  have e : (18446744073709551616 : Int) = 2 ^ r * (2 * 2 ^ (63 - r)) := by
    rw [show (18446744073709551616 : Int) = 2 ^ 64 from rfl, show (2 : Int) * 2 ^ (63 - r) = 2 ^ (64 - r) by rw [show 64 - r = (63 - r) + 1 by omega, Int.pow_succ, Int.mul_comm], ← Int.pow_add, show r + (64 - r) = 64 by omega]
  have hp : (0 : Int) < 2 ^ r := Int.pow_pos (by decide)
  push_cast
  rw [uOf_cast, Int.emod_def m, e, Int.sub_eq_add_neg]
  rw [show m + -(2 ^ r * (2 * 2 ^ (63 - r)) * (m / (2 ^ r * (2 * 2 ^ (63 - r))))) = m + 2 ^ r * (-(2 * 2 ^ (63 - r)) * (m / (2 ^ r * (2 * 2 ^ (63 - r))))) by rw [Int.mul_assoc, Int.neg_mul, Int.mul_neg]]
  rw [Int.add_mul_ediv_left _ _ (by omega), Int.neg_mul, Int.mul_assoc, ← Int.mul_neg, Int.add_mul_emod_self_left]
theorem cnt_eq (mask : List Int) : ∀ k, k ≤ 60 * mask.length → (cnt mask k : Nat) = ((mask.take (k / 60)).map fun x => Pop.pc 60 (uOf x)).sum + Pop.pc (k % 60) (uOf (mask[k / 60]?.getD 0)) := by
  intro k
  induction k with
  | zero => intro _; simp [cnt, Pop.pc]
  | succ k ih =>
    intro hk
    have h1 := ih (by omega)
    have hlt : k / 60 < mask.length := by omega
    have hb : (if bitOf mask k = 0 then 0 else 1) = uOf (mask[k / 60]?.getD 0) / 2 ^ (k % 60) % 2 := by
      have := uOf_bit (mask[k / 60]?.getD 0) (k % 60) (by omega)
      unfold bitOf
      split <;> omega
    simp only [cnt]
    rw [h1, hb, Nat.add_assoc, ← pc_succ]
    by_cases h : k % 60 = 59
    · have e1 : (k + 1) / 60 = k / 60 + 1 := by omega
      have e2 : (k + 1) % 60 = 0 := by omega
      rw [e1, e2, h, List.take_succ_eq_append_getElem hlt, List.map_append, List.sum_append]
      simp [Pop.pc, hlt]
    · have e1 : (k + 1) / 60 = k / 60 := by omega
      have e2 : (k + 1) % 60 = k % 60 + 1 := by omega
      rw [e1, e2]
theorem cnt_le (mask : List Int) (k : Nat) (hk : k ≤ 60 * mask.length) : cnt mask k ≤ onesL mask := by
  rw [cnt_eq mask k hk]
  have hs : ∀ l : List Int, (l.map fun x => Pop.pc 60 (uOf x)).sum ≤ onesL l := by
    intro l
    induction l with
    | nil => simp [onesL]
    | cons x l ih =>
      have := pc_mono 60 64 (uOf x) (by omega)
      simp only [onesL, List.map_cons, List.sum_cons] at ih ⊢
      omega
  by_cases h : k / 60 < mask.length
  · have e : onesL mask = onesL (mask.take (k / 60)) + (Pop.pc 64 (uOf (mask[k / 60]?.getD 0)) + onesL (mask.drop (k / 60 + 1))) := by
      have hm : mask = mask.take (k / 60) ++ (mask[k / 60] :: mask.drop (k / 60 + 1)) := by rw [← List.drop_eq_getElem_cons h, List.take_append_drop]
      conv => lhs; rw [hm]
      rw [onesL_append, List.getElem?_eq_getElem h]
      rfl
    have h2 := hs (mask.take (k / 60))
    have h3 := pc_mono (k % 60) 64 (uOf (mask[k / 60]?.getD 0)) (by omega)
    rw [e]
    exact Nat.add_le_add h2 (Nat.le_trans h3 (Nat.le_add_right _ _))
  · have e : k % 60 = 0 := by omega
    rw [e, List.take_of_length_le (by omega)]
    have := hs mask
    exact this
/-- what is left of the words -/
theorem drun_words (mask base words : List Int) : ∀ k o ws, drun mask base words k = some (o, ws) → o.length = k ∧ ws.length + cnt mask k = words.length := by
  intro k
  induction k with
  | zero => intro o ws h; simp only [drun, Option.some.injEq, Prod.mk.injEq] at h; obtain ⟨rfl, rfl⟩ := h; simp [cnt]
  | succ k ih =>
    intro o ws h
    simp only [drun] at h
    obtain ⟨⟨o', ws'⟩, h1, h2⟩ := Option.bind_eq_some_iff.1 h
    obtain ⟨h3, h4⟩ := ih o' ws' h1
    simp only [dstep] at h2
    simp only [cnt]
    split at h2
    · rename_i hb
      simp only [Option.some.injEq, Prod.mk.injEq] at h2
      obtain ⟨rfl, rfl⟩ := h2
      rw [if_pos hb]
      simp; omega
    · rename_i hb
      rw [if_neg hb]
      split at h2
      · cases h2
      · split at h2
        · cases h2
        · simp only [Option.some.injEq, Prod.mk.injEq] at h2
          obtain ⟨rfl, rfl⟩ := h2
          simp at h4 ⊢; omega
/-- the row of a delta, or why there is none -/
def dapply (base d : List Int) : List Int × Int :=
  if base.length > 600 then ([], 5)
  else if d.length < (base.length + 59) / 60 then ([], 4)
  else if onesL (d.take ((base.length + 59) / 60)) ≠ (d.drop ((base.length + 59) / 60)).length then ([], 2)
  else match drun (d.take ((base.length + 59) / 60)) base (d.drop ((base.length + 59) / 60)) base.length with
  | none => ([], 2)
  | some (o, ws) => if ws = [] then (o, 0) else ([], 2)
end Go.Proofs.Ytebedfcemdpedaa
