/- how many bits of a word are 1: the sums side by side are the count -/
set_option linter.unusedVariables false
namespace Go.Proofs.Ytebedfcemdpedaa.Pop
/-- how many of k bits are 1 -/
def pc : Nat → Nat → Nat
  | 0, _ => 0
  | k + 1, x => x % 2 + pc k (x / 2)
theorem pc_le : ∀ (k x : Nat), pc k x ≤ k
  | 0, _ => Nat.le_refl _
  | k + 1, x => by have := pc_le k (x / 2); simp only [pc]; omega
theorem pc_add : ∀ (j k x : Nat), pc (j + k) x = pc j (x % 2 ^ j) + pc k (x / 2 ^ j)
  | 0, k, x => by simp [pc]
  | j + 1, k, x => by
    rw [Nat.succ_add]
    simp only [pc]
    rw [pc_add j k (x / 2)]
    have e1 : x % 2 ^ (j + 1) % 2 = x % 2 := by rw [Nat.mod_mod_of_dvd]; exact ⟨2 ^ j, by rw [Nat.pow_succ, Nat.mul_comm]⟩
    have e2 : x % 2 ^ (j + 1) / 2 = x / 2 % 2 ^ j := by rw [Nat.pow_succ, Nat.mul_comm, Nat.mod_mul_right_div_self]
    have e3 : x / 2 / 2 ^ j = x / 2 ^ (j + 1) := by rw [Nat.div_div_eq_div_mul, Nat.pow_succ, Nat.mul_comm]
    rw [e1, e2, e3]
    omega
theorem and_split (a b c d : Nat) (hb : b < 256) (hd : d < 256) : (256 * a + b) &&& (256 * c + d) = 256 * (a &&& c) + (b &&& d) := by
  apply Nat.eq_of_testBit_eq
  intro i
  have e : ∀ (x y : Nat), y < 256 → (256 * x + y).testBit i = if i < 8 then y.testBit i else x.testBit (i - 8) := fun x y hy => by
    rw [show (256 : Nat) = 2 ^ 8 from rfl, Nat.testBit_two_pow_mul_add _ hy]
  rw [Nat.testBit_and, e _ _ hb, e _ _ hd, e _ _ (Nat.lt_of_le_of_lt Nat.and_le_left hb)]
  split <;> simp
def m0 : Nat → Nat | 0 => 0 | n + 1 => 256 * m0 n + 85
def m1 : Nat → Nat | 0 => 0 | n + 1 => 256 * m1 n + 51
def m2 : Nat → Nat | 0 => 0 | n + 1 => 256 * m2 n + 15
def s1 (n x : Nat) : Nat := (x / 2 &&& m0 n) + (x &&& m0 n)
def s2 (n x : Nat) : Nat := (x / 4 &&& m1 n) + (x &&& m1 n)
def s3 (n x : Nat) : Nat := (x / 16 + x) &&& m2 n
theorem b1 : ∀ a < 2, ∀ b < 128, (128 * a + b) &&& 85 = b &&& 85 := by decide +kernel
theorem b2 : ∀ a < 4, ∀ b < 64, (64 * a + b) &&& 51 = b &&& 51 := by decide +kernel
theorem b3 : ∀ a < 16, ∀ b < 256, ((16 * a + b) % 256) &&& 15 = b &&& 15 := by decide +kernel
theorem s1_split (n h l : Nat) (hl : l < 256) : s1 (n + 1) (256 * h + l) = 256 * s1 n h + ((l / 2 &&& 85) + (l &&& 85)) := by
  unfold s1
  simp only [m0]
  have e : (256 * h + l) / 2 = 256 * (h / 2) + (128 * (h % 2) + l / 2) := by omega
  rw [e, and_split _ _ _ _ (by omega) (by omega), and_split _ _ _ _ hl (by omega), b1 _ (by omega) _ (by omega)]
  omega
theorem s2_split (n h l : Nat) (hl : l < 256) : s2 (n + 1) (256 * h + l) = 256 * s2 n h + ((l / 4 &&& 51) + (l &&& 51)) := by
  unfold s2
  simp only [m1]
  have e : (256 * h + l) / 4 = 256 * (h / 4) + (64 * (h % 4) + l / 4) := by omega
  rw [e, and_split _ _ _ _ (by omega) (by omega), and_split _ _ _ _ hl (by omega), b2 _ (by omega) _ (by omega)]
  omega
/-- where the sum of two digits stays in its byte -/
theorem s3_split (n h l : Nat) (hl : l ≤ 68) (hh : h % 16 ≤ 4) : s3 (n + 1) (256 * h + l) = 256 * s3 n h + ((l / 16 + l) &&& 15) := by
  unfold s3
  simp only [m2]
  have e : (256 * h + l) / 16 + (256 * h + l) = 256 * (h / 16 + h) + (16 * (h % 16) + (l / 16 + l)) := by omega
  have h3 := b3 (h % 16) (by omega) (l / 16 + l) (by omega)
  rw [Nat.mod_eq_of_lt (by omega)] at h3
  rw [e, and_split _ _ _ _ (by omega) (by omega), h3]
def t1 (l : Nat) : Nat := (l / 2 &&& 85) + (l &&& 85)
def t2 (l : Nat) : Nat := (l / 4 &&& 51) + (l &&& 51)
theorem bytes : ∀ l < 256, t1 l < 256 ∧ t2 (t1 l) ≤ 68 ∧ t2 (t1 l) % 16 ≤ 4 ∧ ((t2 (t1 l) / 16 + t2 (t1 l)) &&& 15) = pc 8 l := by decide +kernel
def S (n x : Nat) : Nat := s3 n (s2 n (s1 n x))
theorem s1_byte (n x : Nat) : s1 (n + 1) x = 256 * s1 n (x / 256) + t1 (x % 256) := by
  have := s1_split n (x / 256) (x % 256) (by omega)
  rwa [Nat.div_add_mod] at this
theorem s2_byte (n x : Nat) : s2 (n + 1) (s1 (n + 1) x) = 256 * s2 n (s1 n (x / 256)) + t2 (t1 (x % 256)) := by
  rw [s1_byte, s2_split n _ _ (bytes _ (by omega)).1]
  rfl
theorem low : ∀ (n x : Nat), s2 n (s1 n x) % 16 ≤ 4
  | 0, x => by simp [s2, m1]
  | n + 1, x => by
    rw [s2_byte]
    have := (bytes (x % 256) (by omega)).2.2.1
    omega
theorem S_byte (n x : Nat) : S (n + 1) x = 256 * S n (x / 256) + pc 8 (x % 256) := by
  unfold S
  have hb := bytes (x % 256) (by omega)
  rw [s2_byte, s3_split n _ _ hb.2.1 (low n _), hb.2.2.2]
theorem S_zero (x : Nat) : S 0 x = 0 := by simp [S, s3, m2]
def fin (y : Nat) : Nat :=
  (y + y / 256 + (y + y / 256) / 65536 + (y + y / 256 + (y + y / 256) / 65536) / 4294967296) % 128
theorem fin1 (p0 Y1 : Nat) (h0 : p0 ≤ 8) : (256 * Y1 + p0) / 256 = Y1 := by omega
theorem fin2 (p0 p1 p2 Y2 Y3 : Nat) (h0 : p0 ≤ 8) (h1 : p1 ≤ 8) (h2 : p2 ≤ 8) (e2 : Y2 = 256 * Y3 + p2) : (256 * (256 * Y2 + p1) + p0 + (256 * Y2 + p1)) / 65536 = Y2 + Y3 := by omega
theorem fin3 (p0 p1 p2 p3 p4 p5 p6 Y4 Y5 Y6 Y7 : Nat) (h0 : p0 ≤ 8) (h1 : p1 ≤ 8) (h2 : p2 ≤ 8) (h3 : p3 ≤ 8) (h4 : p4 ≤ 8) (h5 : p5 ≤ 8) (h6 : p6 ≤ 8) (e4 : Y4 = 256 * Y5 + p4) (e5 : Y5 = 256 * Y6 + p5) (e6 : Y6 = 256 * Y7 + p6) :
    (4294967296 * Y4 + (16777216 * p3 + 65536 * p2 + 256 * p1 + p0) + (4294967296 * Y5 + (16777216 * p4 + 65536 * p3 + 256 * p2 + p1)) + (4294967296 * Y6 + (16777216 * p5 + 65536 * p4 + 256 * p3 + p2)) + (4294967296 * Y7 + (16777216 * p6 + 65536 * p5 + 256 * p4 + p3))) / 4294967296 = Y4 + Y5 + Y6 + Y7 := by
  clear e4 e5 e6
  omega
theorem fin4 (p0 p1 p2 p3 p4 p5 p6 p7 Y1 Y2 Y3 Y4 Y5 Y6 Y7 : Nat) (h0 : p0 ≤ 8) (h1 : p1 ≤ 8) (h2 : p2 ≤ 8) (h3 : p3 ≤ 8) (h4 : p4 ≤ 8) (h5 : p5 ≤ 8) (h6 : p6 ≤ 8) (h7 : p7 ≤ 8) :
    (256 * Y1 + p0 + (256 * Y2 + p1) + ((256 * Y3 + p2) + (256 * Y4 + p3)) + ((256 * Y5 + p4) + (256 * Y6 + p5) + (256 * Y7 + p6) + (256 * 0 + p7))) % 128 = p0 + (p1 + (p2 + (p3 + (p4 + (p5 + (p6 + (p7 + 0))))))) := by omega
theorem fin_sum (p0 p1 p2 p3 p4 p5 p6 p7 : Nat) (h0 : p0 ≤ 8) (h1 : p1 ≤ 8) (h2 : p2 ≤ 8) (h3 : p3 ≤ 8) (h4 : p4 ≤ 8) (h5 : p5 ≤ 8) (h6 : p6 ≤ 8) (h7 : p7 ≤ 8) :
    fin (256 * (256 * (256 * (256 * (256 * (256 * (256 * (256 * 0 + p7) + p6) + p5) + p4) + p3) + p2) + p1) + p0) = p0 + (p1 + (p2 + (p3 + (p4 + (p5 + (p6 + (p7 + 0))))))) := by
  have F := fin4 p0 p1 p2 p3 p4 p5 p6 p7 (256 * (256 * (256 * (256 * (256 * (256 * (256 * 0 + p7) + p6) + p5) + p4) + p3) + p2) + p1) (256 * (256 * (256 * (256 * (256 * (256 * 0 + p7) + p6) + p5) + p4) + p3) + p2) (256 * (256 * (256 * (256 * (256 * 0 + p7) + p6) + p5) + p4) + p3) (256 * (256 * (256 * (256 * 0 + p7) + p6) + p5) + p4) (256 * (256 * (256 * 0 + p7) + p6) + p5) (256 * (256 * 0 + p7) + p6) (256 * 0 + p7) h0 h1 h2 h3 h4 h5 h6 h7
  unfold fin
  rw [fin1 _ _ h0, fin2 _ _ p2 _ (256 * (256 * (256 * (256 * (256 * 0 + p7) + p6) + p5) + p4) + p3) h0 h1 h2 rfl]
  have e3 := fin3 p0 p1 p2 p3 p4 p5 p6 (256 * (256 * (256 * (256 * 0 + p7) + p6) + p5) + p4) (256 * (256 * (256 * 0 + p7) + p6) + p5) (256 * (256 * 0 + p7) + p6) (256 * 0 + p7) h0 h1 h2 h3 h4 h5 h6 rfl rfl rfl
  have e4 : (256 * (256 * (256 * (256 * (256 * (256 * (256 * (256 * 0 + p7) + p6) + p5) + p4) + p3) + p2) + p1) + p0 + (256 * (256 * (256 * (256 * (256 * (256 * (256 * 0 + p7) + p6) + p5) + p4) + p3) + p2) + p1) + ((256 * (256 * (256 * (256 * (256 * (256 * 0 + p7) + p6) + p5) + p4) + p3) + p2) + (256 * (256 * (256 * (256 * (256 * 0 + p7) + p6) + p5) + p4) + p3))) = (4294967296 * (256 * (256 * (256 * (256 * 0 + p7) + p6) + p5) + p4) + (16777216 * p3 + 65536 * p2 + 256 * p1 + p0) + (4294967296 * (256 * (256 * (256 * 0 + p7) + p6) + p5) + (16777216 * p4 + 65536 * p3 + 256 * p2 + p1)) + (4294967296 * (256 * (256 * 0 + p7) + p6) + (16777216 * p5 + 65536 * p4 + 256 * p3 + p2)) + (4294967296 * (256 * 0 + p7) + (16777216 * p6 + 65536 * p5 + 256 * p4 + p3))) := by
    clear F e3
    omega
  rw [e4, e3, ← e4]
  exact F
theorem pc8 (k x : Nat) : pc (8 + k) x = pc 8 (x % 256) + pc k (x / 256) := pc_add 8 k x
theorem pop (x : Nat) : fin (S 8 x) = pc 64 x := by
  simp only [S_byte, S_zero]
  rw [fin_sum _ _ _ _ _ _ _ _ (pc_le 8 _) (pc_le 8 _) (pc_le 8 _) (pc_le 8 _) (pc_le 8 _) (pc_le 8 _) (pc_le 8 _) (pc_le 8 _)]
  rw [show (64 : Nat) = 8 + (8 + (8 + (8 + (8 + (8 + (8 + (8 + 0))))))) from rfl]
  simp only [pc8, show ∀ y, pc 0 y = 0 from fun _ => rfl]
theorem S_bound (x : Nat) : S 8 x ≤ 578721382704613384 := by
  simp only [S_byte, S_zero]
  have h := fun y => pc_le 8 y
  have h0 := h (x % 256)
  have h1 := h (x / 256 % 256)
  have h2 := h (x / 256 / 256 % 256)
  have h3 := h (x / 256 / 256 / 256 % 256)
  have h4 := h (x / 256 / 256 / 256 / 256 % 256)
  have h5 := h (x / 256 / 256 / 256 / 256 / 256 % 256)
  have h6 := h (x / 256 / 256 / 256 / 256 / 256 / 256 % 256)
  have h7 := h (x / 256 / 256 / 256 / 256 / 256 / 256 / 256 % 256)
  omega
end Go.Proofs.Ytebedfcemdpedaa.Pop
