import Derived.Test.YtjfolhheejkedaaPlain
set_option linter.unusedVariables false
namespace Go.Proofs.Ytjfolhheejkedaa.Crc
abbrev W := BitVec 32
def mix : W := 0xedb88320#32
/-- one bit -/
def on (c : W) : W := (c >>> 1) ^^^ (if c.getLsbD 0 then mix else 0#32)
def onN : Nat → W → W
  | 0, c => c
  | n + 1, c => onN n (on c)
theorem on_xor (a b : W) : on (a ^^^ b) = on a ^^^ on b := by
  unfold on
  apply BitVec.eq_of_getLsbD_eq
  intro i hi
  simp only [BitVec.getLsbD_xor, BitVec.getLsbD_ushiftRight]
  cases a.getLsbD 0 <;> cases b.getLsbD 0 <;> simp <;> grind
theorem on_zero : on 0#32 = 0#32 := by decide
theorem on_ne {c : W} (h : c ≠ 0#32) : on c ≠ 0#32 := by
  intro h0
  apply h
  have hm : c.getLsbD 0 = false := by
    cases hc : c.getLsbD 0
    · rfl
    · have h31 := congrArg (fun x => x.getLsbD 31) h0
      simp [on, hc, mix] at h31
  apply BitVec.eq_of_getLsbD_eq
  intro i hi
  cases i with
  | zero => simpa using hm
  | succ j =>
    have hj := congrArg (fun x => x.getLsbD j) h0
    unfold on at hj
    rw [hm] at hj
    simp [Nat.add_comm] at hj
    simpa using hj
theorem onN_xor (n : Nat) : ∀ a b : W, onN n (a ^^^ b) = onN n a ^^^ onN n b := by
  induction n with
  | zero => intro a b; rfl
  | succ n ih => intro a b; simp only [onN, on_xor, ih]
theorem onN_zero (n : Nat) : onN n 0#32 = 0#32 := by
  induction n with
  | zero => rfl
  | succ n ih => simp only [onN, on_zero, ih]
theorem onN_ne (n : Nat) : ∀ {c : W}, c ≠ 0#32 → onN n c ≠ 0#32 := by
  induction n with
  | zero => intro c h; exact h
  | succ n ih => intro c h; exact ih (on_ne h)
theorem onN_add (m n : Nat) : ∀ c : W, onN (m + n) c = onN n (onN m c) := by
  induction m with
  | zero => intro c; simp [onN]
  | succ m ih => intro c; rw [Nat.succ_add]; simp only [onN]; exact ih _
theorem on_low {c : W} (h : c.getLsbD 0 = false) : on c = c >>> 1 := by unfold on; rw [h]; simp
theorem onN_low (k : Nat) : ∀ c : W, (∀ j, j < k → c.getLsbD j = false) → onN k c = c >>> k := by
  induction k with
  | zero => intro c _; simp [onN]
  | succ k ih =>
    intro c h
    simp only [onN]
    rw [on_low (h 0 (by omega)), ih]
    · rw [← BitVec.shiftRight_add, Nat.add_comm]
    · intro j hj
      rw [BitVec.getLsbD_ushiftRight]
      exact h (1 + j) (by omega)
theorem on8_shl {y : W} (hy : y.toNat < 2 ^ 24) : onN 8 (y <<< 8) = y := by
  rw [onN_low 8]
  · apply BitVec.eq_of_toNat_eq
    rw [BitVec.toNat_ushiftRight, BitVec.toNat_shiftLeft, Nat.shiftLeft_eq, Nat.shiftRight_eq_div_pow]
    have : y.toNat * 2 ^ 8 < 2 ^ 32 := by omega
    rw [Nat.mod_eq_of_lt this, Nat.mul_div_cancel _ (by decide)]
  · intro j hj
    rw [BitVec.getLsbD_shiftLeft]
    simp; omega
def step (c x : W) : W := onN 8 (c ^^^ x)
def run : W → List W → W
  | c, [] => c
  | c, x :: xs => run (step c x) xs
theorem run_append : ∀ (xs : List W) (c : W) (ys : List W), run c (xs ++ ys) = run (run c xs) ys
  | [], _, _ => rfl
  | _ :: xs, _, ys => run_append xs _ ys
theorem run_xor : ∀ (xs es : List W) (c d : W), xs.length = es.length → run (c ^^^ d) (List.zipWith (· ^^^ ·) xs es) = run c xs ^^^ run d es
  | [], [], _, _, _ => rfl
  | x :: xs, e :: es, c, d, h => by
    simp only [List.zipWith_cons_cons, run]
    have hs : step (c ^^^ d) (x ^^^ e) = step c x ^^^ step d e := by
      unfold step
      rw [← onN_xor]
      congr 1
      ac_rfl
    rw [hs]
    exact run_xor xs es _ _ (by simpa using h)
theorem run_zeros : ∀ m, run 0#32 (List.replicate m 0#32) = 0#32
  | 0 => rfl
  | m + 1 => by
    simp only [List.replicate_succ, run, step]
    rw [show (0#32 ^^^ 0#32 : W) = 0#32 from rfl, onN_zero]
    exact run_zeros m
theorem run_zeros_ne : ∀ (m : Nat) {c : W}, c ≠ 0#32 → run c (List.replicate m 0#32) ≠ 0#32
  | 0, _, h => h
  | m + 1, c, h => by
    simp only [List.replicate_succ, run, step]
    exact run_zeros_ne m (onN_ne 8 (by simpa using h))
/-- four bytes, the least first -/
def le : List W → W
  | [] => 0#32
  | x :: xs => x ^^^ (le xs <<< 8)
theorem le_lt : ∀ (xs : List W), (∀ x ∈ xs, x.toNat < 256) → xs.length ≤ 4 → (le xs).toNat < 2 ^ (8 * xs.length)
  | [], _, _ => by decide
  | x :: xs, h, hl => by
    have hx := h x (by simp)
    have hr := le_lt xs (fun y hy => h y (by simp [hy])) (by simp at hl; omega)
    simp only [le, BitVec.toNat_xor, BitVec.toNat_shiftLeft, List.length_cons, Nat.shiftLeft_eq]
    have e : 2 ^ (8 * (xs.length + 1)) = 2 ^ (8 * xs.length) * 256 := by rw [Nat.mul_add, Nat.pow_add]
    have p : 1 ≤ 2 ^ (8 * xs.length) := Nat.one_le_two_pow
    refine Nat.xor_lt_two_pow ?_ ?_
    · rw [e]; exact Nat.lt_of_lt_of_le hx (by omega)
    · refine Nat.lt_of_le_of_lt (Nat.mod_le _ _) ?_
      rw [e]; show _ * 256 < _; omega
theorem run_le : ∀ (xs : List W) (c : W), (∀ x ∈ xs, x.toNat < 256) → xs.length ≤ 4 → run c xs = onN (8 * xs.length) (c ^^^ le xs)
  | [], c, _, _ => by simp [run, le, onN]
  | x :: xs, c, h, hl => by
    have hx := h x (by simp)
    have hr := le_lt xs (fun y hy => h y (by simp [hy])) (by simp at hl; omega)
    have hlen : xs.length ≤ 3 := by simpa using hl
    simp only [run, step, le, List.length_cons]
    rw [run_le xs _ (fun y hy => h y (by simp [hy])) (by omega), Nat.mul_add, Nat.add_comm, onN_add]
    congr 1
    rw [show c ^^^ (x ^^^ le xs <<< 8) = (c ^^^ x) ^^^ (le xs <<< 8) by ac_rfl, onN_xor 8 (c ^^^ x), on8_shl]
    refine Nat.lt_of_lt_of_le hr ?_
    exact Nat.pow_le_pow_right (by decide) (by omega)
/-- the bytes of the end -/
def good (b t : List W) : Prop := le t = ~~~ run 0xffffffff#32 b
theorem onN_inj (n : Nat) {a b : W} (h : onN n a = onN n b) : a = b := by
  apply Classical.byContradiction
  intro hne
  have : onN n (a ^^^ b) = 0#32 := by rw [onN_xor, h, BitVec.xor_self]
  exact onN_ne n (by simpa using hne) this
theorem good_iff (b t : List W) (ht : t.length = 4) (hb : ∀ x ∈ t, x.toNat < 256) : good b t ↔ run 0xffffffff#32 (b ++ t) = onN 32 0xffffffff#32 := by
  rw [run_append, run_le t _ hb (by omega), ht]
  unfold good
  constructor
  · intro h; rw [h, ← BitVec.xor_allOnes, ← BitVec.xor_assoc, BitVec.xor_self, BitVec.zero_xor]; rfl
  · intro h
    have := onN_inj _ h
    have e : le t = run 0xffffffff#32 b ^^^ 0xffffffff#32 := by
      generalize run 0xffffffff#32 b = r at this ⊢
      rw [← this, ← BitVec.xor_assoc, BitVec.xor_self, BitVec.zero_xor]
    rw [e, show (0xffffffff#32 : W) = BitVec.allOnes 32 by decide, BitVec.xor_allOnes]
/-- a burst: up to four bytes side by side -/
theorem burst (m k : Nat) (es : List W) (hl : es.length ≤ 4) (hb : ∀ x ∈ es, x.toNat < 256) (hne : le es ≠ 0#32) :
    run 0#32 (List.replicate m 0#32 ++ es ++ List.replicate k 0#32) ≠ 0#32 := by
  rw [run_append, run_append, run_zeros, run_le es _ hb hl]
  exact run_zeros_ne k (onN_ne _ (by simpa using hne))
end Go.Proofs.Ytjfolhheejkedaa.Crc
