import Derived.Test.YtomdneblpdpiiaaMQfix
set_option linter.unusedVariables false
namespace Go.Proofs.Ytomdneblpdpiiaa
open Go.RowKit Go.Joins Go.Proofs.YtomdneblpdpiiaaW.PrintWords Go.Proofs.YtomdneblpdpiiaaW.PrintLast Go.Proofs.YtomdneblpdpiiaaW.PrintMore

theorem turn_any (a : Int) (B : Nat) (below : Bool) (w : World) (hb : w.cell? ⟨B, 0, none⟩ = some (.bool below)) (h1 : -70368744177664 ≤ a) (h2 : a ≤ 70368744177663) :
    Calls Try.prog 28 #[.int .i64 a, .pointer (some ⟨B, 0, none⟩)] w fun e w' => e = .returned (.int .i64 (if below then -a else a)) ∧ w = w' := by
  cases below
  · go_enter Try.func28, Try.ntmps28
    go_wp2
    go_ret
    exact ⟨rfl, rfl⟩
  · go_enter Try.func28, Try.ntmps28
    go_wp2
    go_ret
    exact ⟨rfl, rfl⟩
set_option maxHeartbeats 1000000 in
theorem signed_in (low : Nat) (below : Bool) (w : World) (hl : low ≤ 70368744177663) :
    Calls Try.prog 24 #[.int .u64 0, .int .u64 (low : Nat), .bool below] w fun e w' => e = .returned (.tuple #[.int .i64 (if below then -(low : Int) else (low : Int)), .bool false]) ∧ Below w.heap.size w w' := by
  have hmf : ∀ (fn : Fn) (first cap : Array Value) (w : World), (Instr.makeFunc fn first cap).run Try.prog w = .ok (.func fn first cap) w := fun _ _ _ _ => rfl
  have hk : Blk (w.alloc (.cells #[.bool below] 4)) w.heap.size 4 #[.bool below] := Blk.new w _ _
  have HT := Aside0.mk (turn_any (low : Int) w.heap.size below _ ((hk.cell 0).trans rfl) (by omega) (by omega))
  have HC := Aside0.mk (fun W => clamp_in (if below then -(low : Int) else (low : Int)) W (by split <;> omega) (by split <;> omega))
  have b1 : decide ((70368744177664 : Int) < (low : Int)) = false := decide_eq_false (by omega)
  clear hk
  generalize (if below then -(low : Int) else (low : Int)) = r at HT HC ⊢
  go_enter Try.func24, Try.ntmps24
  go_wp2_with (first
    | (go_at_call 28; refine HT.out.mono ?_; rintro e w' ⟨rfl, rfl⟩)
    | (go_at_call 25; refine (HC.out _).mono ?_; rintro e w' ⟨rfl, rfl⟩))
  go_ret2
  exact ⟨rfl, below_one w _⟩
theorem u64_mask24 (a : Nat) (h : a < 18446744073709551616) : Go.bits .and .u64 (a : Int) 16777215 = ((a % 16777216 : Nat) : Int) := by
  rw [show (16777215 : Int) = ((16777215 : Nat) : Int) from rfl, u64_and_nat a _ h (by decide), show (16777215 : Nat) = 2 ^ 24 - 1 from rfl, Nat.and_two_pow_sub_one_eq_mod]
theorem u64_mask32 (a : Nat) (h : a < 18446744073709551616) : Go.bits .and .u64 (a : Int) 4294967295 = ((a % 4294967296 : Nat) : Int) := by
  rw [show (4294967295 : Int) = ((4294967295 : Nat) : Int) from rfl, u64_and_nat a _ h (by decide), show (4294967295 : Nat) = 2 ^ 32 - 1 from rfl, Nat.and_two_pow_sub_one_eq_mod]
theorem u64_or_zero (a : Nat) (h : a < 18446744073709551616) : Go.bits .or .u64 (a : Int) 0 = (a : Int) := by
  rw [show (0 : Int) = ((0 : Nat) : Int) from rfl, u64_or_nat a 0 h (by decide), Nat.or_zero]
theorem mul64_small (X Y P : Nat) (hX : X ≤ 128) (hY : Y ≤ 128) (hP : X * Y = P) : PMatDiags.bits_Mul64.f ((X * 16777216 : Nat) : Int) ((Y * 16777216 : Nat) : Int) = some (0, ((P * 281474976710656 : Nat) : Int)) := by
  have hP2 : P ≤ 16384 := by rw [← hP]; exact Nat.le_trans (Nat.mul_le_mul hX hY) (by decide)
  have h0 : ∀ Z : Nat, Z ≤ 128 → ((Z * 16777216 : Nat) : Int) / 4294967296 = 0 := fun Z h => by omega
  have ha : ∀ Z : Nat, Z ≤ 128 → Go.bits .and .u64 ((Z * 16777216 : Nat) : Int) 4294967295 = ((Z * 16777216 : Nat) : Int) := fun Z h => by
    rw [u64_mask32 _ (by omega), Nat.mod_eq_of_lt (by omega)]
  have hm : ((X * 16777216 : Nat) : Int) * ((Y * 16777216 : Nat) : Int) = ((P * 281474976710656 : Nat) : Int) := by
    rw [← Int.natCast_mul]
    congr 1
    rw [← hP, Nat.mul_mul_mul_comm]
  have hw : IntKind.u64.wrap ((P * 281474976710656 : Nat) : Int) = ((P * 281474976710656 : Nat) : Int) := by rw [IntKind.wrap_u64]; omega
  have hz : IntKind.u64.wrap 0 = 0 := by decide
  unfold PMatDiags.bits_Mul64.f
  rw [h0 X hX, h0 Y hY, ha X hX, ha Y hY, hm, hw]
  simp only [Int.zero_mul, Int.mul_zero, hz, Int.zero_add]
  have hq : IntKind.u64.wrap (((P * 281474976710656 : Nat) : Int) / 4294967296) = ((P * 65536 : Nat) : Int) := by rw [IntKind.wrap_u64]; omega
  rw [hq]
  have hm2 : Go.bits .and .u64 ((P * 65536 : Nat) : Int) 4294967295 = ((P * 65536 : Nat) : Int) := by
    rw [u64_mask32 _ (by omega), Nat.mod_eq_of_lt (by omega)]
  rw [hm2]
  simp only [Int.add_zero]
  have e2 : IntKind.u64.wrap ((P * 65536 : Nat) : Int) = ((P * 65536 : Nat) : Int) := by rw [IntKind.wrap_u64]; omega
  have e3 : ((P * 65536 : Nat) : Int) / 4294967296 = 0 := by omega
  simp only [e2, e3, hz, Int.add_zero]
theorem mul64_small' (X Y P L : Nat) (hX : X ≤ 128) (hY : Y ≤ 128) (hP : X * Y = P) (hL : P * 281474976710656 = L) : PMatDiags.bits_Mul64.f ((X * 16777216 : Nat) : Int) ((Y * 16777216 : Nat) : Int) = some (0, (L : Int)) := by
  rw [← hL]; exact mul64_small X Y P hX hY hP
set_option maxRecDepth 100000 in
set_option maxHeartbeats 2000000 in
theorem mulQ_walk (a b : Int) (X Y P L Q : Nat) (sa sb : Bool) (w : World) (hX : X ≤ 128) (hY : Y ≤ 128) (hP : X * Y = P) (hL : P * 281474976710656 = L) (hQ : P * 16777216 = Q) (ha : (if a < 0 then -a else a) = ((X * 16777216 : Nat) : Int)) (hb : (if b < 0 then -b else b) = ((Y * 16777216 : Nat) : Int)) (hsa : decide (a < 0) = sa) (hsb : decide (b < 0) = sb)
    (a1 : -70368744177664 ≤ a) (a2 : a ≤ 70368744177663) (b1 : -70368744177664 ≤ b) (b2 : b ≤ 70368744177663) :
    Calls Try.prog 14 #[.int .i64 a, .int .i64 b] w fun e w' => e = .returned (.tuple #[.int .i64 (if (sa != sb) = true then -(Q : Int) else (Q : Int)), .bool false]) ∧ Below w.heap.size w w' := by
  have hP2 : P ≤ 16384 := by rw [← hP]; exact Nat.le_trans (Nat.mul_le_mul hX hY) (by decide)
  have HB := Aside0.mk (fun W => both_in a b W a1 a2 b1 b2)
  have HA1 := Aside0.mk (fun W => ha ▸ size_in a W a1 a2)
  have HA2 := Aside0.mk (fun W => hb ▸ size_in b W b1 b2)
  have HM := Aside0.mk (fun W => PMatDiags.bits_Mul64.calls _ _ _ _ W (mul64_small' X Y P L hX hY hP hL))
  have HS := Aside0.mk (fun W => signed_in Q (sa != sb) W (by omega))
  have HR1 : Aside0 (Go.bits .and .u64 (L : Int) 16777215 = 0) := ⟨by
    rw [u64_mask24 _ (by omega)]
    have : L % 16777216 = 0 := by omega
    rw [this]; rfl⟩
  have HR2 : Aside0 (Go.bits .or .u64 (Q : Int) 0 = (Q : Int)) := ⟨u64_or_zero _ (by omega)⟩
  have HR3 : Aside0 ((L : Int) / 16777216 = (Q : Int)) := ⟨by omega⟩
  generalize (if (sa != sb) = true then -(Q : Int) else (Q : Int)) = R at HS ⊢
  have HSA := Aside0.mk hsa
  have HSB := Aside0.mk hsb
  clear ha hb hP a1 a2 b1 b2 hX hY hP2 hL hQ hsa hsb
  go_enter Try.func14, Try.ntmps14
  go_wp2_with (first
    | (go_at_call 21; refine (HB.out _).mono ?_; rintro e w' ⟨rfl, rfl⟩)
    | (go_at_call 23; (with_reducible refine (HA1.out _).mono ?_); rintro e w' ⟨rfl, rfl⟩)
    | (go_at_call 23; (with_reducible refine (HA2.out _).mono ?_); rintro e w' ⟨rfl, rfl⟩)
    | (go_at_call 22; refine (HM.out _).mono ?_; rintro e w' ⟨rfl, ⟨nd, rfl⟩⟩; have hsa := HSA.out; have hsb := HSB.out; have hr1 := HR1.out; have hr2 := HR2.out; have hr3 := HR3.out)
    | (go_at_call 24; refine (HS.out _).mono ?_; rintro e w' ⟨rfl, hB⟩))
  go_ret2
  exact ⟨rfl, (pw_below_drewN (Below.refl _ _) nd).trans hB⟩
theorem sign_prod (x y : Int) : (if ((decide (x * 16777216 < 0)) != (decide (y * 16777216 < 0))) = true then -((x.natAbs * y.natAbs * 16777216 : Nat) : Int) else ((x.natAbs * y.natAbs * 16777216 : Nat) : Int)) = x * y * 16777216 := by
  by_cases hx : x < 0
  · obtain ⟨X, hX⟩ : ∃ X : Nat, x = -(X : Int) := ⟨x.natAbs, by omega⟩
    subst hX
    have d1 : decide (-(X : Int) * 16777216 < 0) = true := decide_eq_true (by omega)
    rw [d1, Int.natAbs_neg, Int.natAbs_natCast]
    by_cases hy : y < 0
    · obtain ⟨Y, hY⟩ : ∃ Y : Nat, y = -(Y : Int) := ⟨y.natAbs, by omega⟩
      subst hY
      have d2 : decide (-(Y : Int) * 16777216 < 0) = true := decide_eq_true (by omega)
      rw [d2, Int.natAbs_neg, Int.natAbs_natCast, if_neg (by decide), Int.neg_mul_neg]
      simp
    · obtain ⟨Y, hY⟩ : ∃ Y : Nat, y = (Y : Int) := ⟨y.natAbs, by omega⟩
      subst hY
      have d2 : decide ((Y : Int) * 16777216 < 0) = false := decide_eq_false (by omega)
      rw [d2, Int.natAbs_natCast, if_pos (by decide)]
      simp [Int.neg_mul]
  · obtain ⟨X, hX⟩ : ∃ X : Nat, x = (X : Int) := ⟨x.natAbs, by omega⟩
    subst hX
    have d1 : decide ((X : Int) * 16777216 < 0) = false := decide_eq_false (by omega)
    rw [d1, Int.natAbs_natCast]
    by_cases hy : y < 0
    · obtain ⟨Y, hY⟩ : ∃ Y : Nat, y = -(Y : Int) := ⟨y.natAbs, by omega⟩
      subst hY
      have d2 : decide (-(Y : Int) * 16777216 < 0) = true := decide_eq_true (by omega)
      rw [d2, Int.natAbs_neg, Int.natAbs_natCast, if_pos (by decide)]
      simp [Int.neg_mul, Int.mul_neg]
    · obtain ⟨Y, hY⟩ : ∃ Y : Nat, y = (Y : Int) := ⟨y.natAbs, by omega⟩
      subst hY
      have d2 : decide ((Y : Int) * 16777216 < 0) = false := decide_eq_false (by omega)
      rw [d2, Int.natAbs_natCast, if_neg (by decide)]
      simp
theorem abs_mul (x : Int) : (if x * 16777216 < 0 then -(x * 16777216) else x * 16777216) = ((x.natAbs * 16777216 : Nat) : Int) := by
  split <;> omega
theorem mulQ_small (x y : Int) (w : World) (x1 : -128 ≤ x) (x2 : x ≤ 128) (y1 : -128 ≤ y) (y2 : y ≤ 128) :
    Calls Try.prog 14 #[.int .i64 (x * 16777216), .int .i64 (y * 16777216)] w fun e w' => e = .returned (.tuple #[.int .i64 (x * y * 16777216), .bool false]) ∧ Below w.heap.size w w' := by
  have h := mulQ_walk (x * 16777216) (y * 16777216) x.natAbs y.natAbs _ _ _ _ _ w (by omega) (by omega) rfl rfl rfl (abs_mul x) (abs_mul y) rfl rfl (by omega) (by omega) (by omega) (by omega)
  rw [sign_prod] at h
  exact h
end Go.Proofs.Ytomdneblpdpiiaa
