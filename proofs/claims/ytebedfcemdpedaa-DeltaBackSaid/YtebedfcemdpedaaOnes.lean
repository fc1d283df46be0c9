import Derived.Test.YtebedfcemdpedaaPop
import Derived.Test.YtebedfcemdpedaaPDeltaBackx
import Derived.Laws.Bits64b
namespace Go.Proofs.Ytebedfcemdpedaa
open Go.RowKit Go.Proofs.YtebedfcemdpedaaW.PrintWords
theorem m0_8 : Pop.m0 8 = 6148914691236517205 := by decide +kernel
theorem m1_8 : Pop.m1 8 = 3689348814741910323 := by decide +kernel
theorem m2_8 : Pop.m2 8 = 1085102592571150095 := by decide +kernel
theorem st1 (x : Nat) (hx : x < 18446744073709551616) : IntKind.u64.wrap ((Go.bits .and .u64 ((x : Int) / 2) 6148914691236517205) + (Go.bits .and .u64 (x : Int) 6148914691236517205)) = ((Pop.s1 8 x : Nat) : Int) := by
  have a1 := bits_and_u64_nat (x / 2) 6148914691236517205 (by omega) (by omega)
  have a2 := bits_and_u64_nat x 6148914691236517205 hx (by omega)
  have b1 : x / 2 &&& 6148914691236517205 ≤ 6148914691236517205 := Nat.and_le_right
  have b2 : x &&& 6148914691236517205 ≤ 6148914691236517205 := Nat.and_le_right
  rw [show ((x : Int) / 2) = ((x / 2 : Nat) : Int) from rfl, show (6148914691236517205 : Int) = ((6148914691236517205 : Nat) : Int) from rfl, a1, a2, IntKind.wrap_u64]
  unfold Pop.s1
  rw [m0_8]
  omega
theorem s1_lt (x : Nat) : Pop.s1 8 x ≤ 12297829382473034410 := by
  unfold Pop.s1
  rw [m0_8]
  have b1 : x / 2 &&& 6148914691236517205 ≤ 6148914691236517205 := Nat.and_le_right
  have b2 : x &&& 6148914691236517205 ≤ 6148914691236517205 := Nat.and_le_right
  omega
theorem st2 (x : Nat) (hx : x < 18446744073709551616) : IntKind.u64.wrap ((Go.bits .and .u64 ((x : Int) / 4) 3689348814741910323) + (Go.bits .and .u64 (x : Int) 3689348814741910323)) = ((Pop.s2 8 x : Nat) : Int) := by
  have a1 := bits_and_u64_nat (x / 4) 3689348814741910323 (by omega) (by omega)
  have a2 := bits_and_u64_nat x 3689348814741910323 hx (by omega)
  have b1 : x / 4 &&& 3689348814741910323 ≤ 3689348814741910323 := Nat.and_le_right
  have b2 : x &&& 3689348814741910323 ≤ 3689348814741910323 := Nat.and_le_right
  rw [show ((x : Int) / 4) = ((x / 4 : Nat) : Int) from rfl, show (3689348814741910323 : Int) = ((3689348814741910323 : Nat) : Int) from rfl, a1, a2, IntKind.wrap_u64]
  unfold Pop.s2
  rw [m1_8]
  omega
theorem s2_lt (x : Nat) : Pop.s2 8 x ≤ 7378697629483820646 := by
  unfold Pop.s2
  rw [m1_8]
  have b1 : x / 4 &&& 3689348814741910323 ≤ 3689348814741910323 := Nat.and_le_right
  have b2 : x &&& 3689348814741910323 ≤ 3689348814741910323 := Nat.and_le_right
  omega
theorem st3 (x : Nat) (hx : x ≤ 7378697629483820646) : Go.bits .and .u64 (IntKind.u64.wrap ((x : Int) / 16 + (x : Int))) 1085102592571150095 = ((Pop.s3 8 x : Nat) : Int) := by
  have e : IntKind.u64.wrap ((x : Int) / 16 + (x : Int)) = ((x / 16 + x : Nat) : Int) := by rw [IntKind.wrap_u64]; omega
  have a1 := bits_and_u64_nat (x / 16 + x) 1085102592571150095 (by omega) (by omega)
  rw [e, show (1085102592571150095 : Int) = ((1085102592571150095 : Nat) : Int) from rfl, a1]
  unfold Pop.s3
  rw [m2_8]
theorem ones64 (x : Nat) (hx : x < 18446744073709551616) : PDeltaBack.bits_OnesCount64.f (x : Int) = some ((Pop.pc 64 x : Nat) : Int) := by
  unfold PDeltaBack.bits_OnesCount64.f
  rw [st1 x hx]
  have h1 := s1_lt x
  rw [st2 _ (by omega)]
  have h2 := s2_lt (Pop.s1 8 x)
  rw [st3 _ h2]
  have hS := Pop.S_bound x
  have hp := Pop.pop x
  unfold Pop.S at hS hp
  generalize Pop.s3 8 (Pop.s2 8 (Pop.s1 8 x)) = y at hS hp ⊢
  clear h1 h2
  unfold Pop.fin at hp
  have w1 : IntKind.u64.wrap ((y : Int) + (y : Int) / 256) = ((y + y / 256 : Nat) : Int) := by rw [IntKind.wrap_u64]; omega
  rw [w1]
  have ha : y + y / 256 ≤ 600000000000000000 := by omega
  generalize y + y / 256 = a at hp ha ⊢
  clear w1 hS
  have w2 : IntKind.u64.wrap ((a : Int) + (a : Int) / 65536) = ((a + a / 65536 : Nat) : Int) := by rw [IntKind.wrap_u64]; omega
  rw [w2]
  have hb : a + a / 65536 ≤ 700000000000000000 := by omega
  generalize a + a / 65536 = b at hp hb ⊢
  clear w2 ha
  have w3 : IntKind.u64.wrap ((b : Int) + (b : Int) / 4294967296) = ((b + b / 4294967296 : Nat) : Int) := by rw [IntKind.wrap_u64]; omega
  rw [w3]
  have hc : b + b / 4294967296 ≤ 800000000000000000 := by omega
  generalize b + b / 4294967296 = c at hp hc ⊢
  clear w3 hb
  have w4 : wrap64 (c : Int) = (c : Int) := by unfold wrap64; omega
  rw [w4]
  have w5 := bits_mask .i64 62 (by decide) (fun n h0 h1 => by rw [IntKind.wrap_i64]; omega) 7 (by decide) (c : Int) (by omega) (by omega)
  rw [show (127 : Int) = 2 ^ 7 - 1 from rfl, w5, ← hp]
  rfl
/-- a word as it is counted -/
def uOf (x : Int) : Nat := (x % 18446744073709551616).toNat
theorem uOf_cast (x : Int) : ((uOf x : Nat) : Int) = x % 18446744073709551616 := by unfold uOf; omega
theorem uOf_lt (x : Int) : uOf x < 18446744073709551616 := by unfold uOf; omega
/-- how many bits of a row of words are 1 -/
def onesL (l : List Int) : Nat := (l.map fun x => Pop.pc 64 (uOf x)).sum
theorem onesL_le : ∀ l : List Int, onesL l ≤ 64 * l.length
  | [] => by simp [onesL]
  | x :: l => by
    have h1 := onesL_le l
    have h2 := Pop.pc_le 64 (uOf x)
    simp only [onesL, List.map_cons, List.sum_cons, List.length_cons] at h1 ⊢
    omega
theorem onesL_append (l r : List Int) : onesL (l ++ r) = onesL l + onesL r := by simp [onesL]
theorem wrap_sum (a b c : Nat) (h : c = a + b) (hc : c ≤ 4611686018427387904) : wrap64 ((a : Int) + (b : Int)) = (c : Int) := by subst h; unfold wrap64; omega
theorem ones_l0 (l : List Int) (hl : l.length ≤ 1152921504606846) : ∀ (d k i : Nat), l.length - i = d → i ≤ l.length → d < k →
    PDeltaBack.delta_ones.l0 k (onesL (l.take i)) l (l.length : Int) (i : Int) = some ((onesL l : Nat) : Int) := by
  intro d
  induction d with
  | zero =>
    intro k i hd hi hk
    obtain ⟨k, rfl⟩ : ∃ m, k = m + 1 := ⟨k - 1, by omega⟩
    simp only [PDeltaBack.delta_ones.l0]
    rw [if_neg (by omega), List.take_of_length_le (by omega)]
  | succ d ih =>
    intro k i hd hi hk
    obtain ⟨k, rfl⟩ : ∃ m, k = m + 1 := ⟨k - 1, by omega⟩
    simp only [PDeltaBack.delta_ones.l0]
    have h1 : i < l.length := by omega
    rw [if_pos (by omega), if_pos (by omega), if_pos (by omega)]
    have e0 : rd l i = l[i] := by simp [rd, List.getD_eq_getElem?_getD, h1]
    have e1 : IntKind.u64.wrap (rd l i) = ((uOf l[i] : Nat) : Int) := by rw [e0, IntKind.wrap_u64, uOf_cast]
    rw [e1, ones64 _ (uOf_lt _)]
    simp only [Option.bind_some]
    have e2 : onesL (l.take (i + 1)) = onesL (l.take i) + Pop.pc 64 (uOf l[i]) := by
      rw [List.take_succ_eq_append_getElem h1, onesL_append]
      simp [onesL]
    have e3 := onesL_le (l.take i)
    have e4 := Pop.pc_le 64 (uOf l[i])
    rw [List.length_take] at e3
    rw [show wrap64 ((i : Int) + 1) = ((i + 1 : Nat) : Int) by unfold wrap64; omega, wrap_sum _ _ _ e2 (by rw [e2]; omega)]
    exact ih k (i + 1) (by omega) (by omega) (by omega)
theorem ones_f (l : List Int) (hl : l.length ≤ 1152921504606846) : PDeltaBack.delta_ones.f (l.length + 1) l = some ((onesL l : Nat) : Int) :=
  ones_l0 l hl l.length _ 0 (by omega) (by omega) (by omega)
theorem ones_any (A : Option Addr) (c : Nat) (l : List Int) (w : World) (hl : l.length ≤ 1152921504606846) (hr : ReadsInt w .i64 A l.length l) (hc : l.length ≤ c) :
    Calls Try.prog 14 #[.slice A l.length c] w fun e w' => e = .returned (.int .i64 ((onesL l : Nat) : Int)) ∧ Drawn0 w w' := by
  have hC : Kd.C (Kd.int .i64) w A l.length l := Kd.C_of_reads (d := 0) hr
  exact PDeltaBack.delta_ones.calls (l.length + 1) A c l ((onesL l : Nat) : Int) w hC hc (ones_f l hl)
end Go.Proofs.Ytebedfcemdpedaa
