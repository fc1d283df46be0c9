import Derived.Test.YtomdneblpdpiiaaMBase
import Derived.Test.YtomdneblpdpiiaaPMatDiagsx1
set_option linter.unusedVariables false
namespace Go.Proofs.Ytomdneblpdpiiaa
open Go.RowKit Go.Joins Go.Proofs.YtomdneblpdpiiaaW.PrintWords Go.Proofs.YtomdneblpdpiiaaW.PrintLast Go.Proofs.YtomdneblpdpiiaaW.PrintMore
attribute [local go_sem] max2_int min2_int max_two min_two

/-! ### qfix: numbers of 24 bits behind the point, in bounds -/
def InQ (a : Int) : Prop := -70368744177664 ≤ a ∧ a ≤ 70368744177663
set_option maxHeartbeats 1000000 in
theorem clamp_in (a : Int) (w : World) (h1 : -70368744177664 ≤ a) (h2 : a ≤ 70368744177663) : Calls Try.prog 25 #[.int .i64 a] w fun e w' => e = .returned (.tuple #[.int .i64 a, .bool false]) ∧ w = w' := by
  have b1 : ¬ a < -70368744177664 := by omega
  have b2 : ¬ 70368744177663 < a := by omega
  go_enter Try.func25, Try.ntmps25
  go_wp2
  go_ret2
  exact ⟨by simp, rfl⟩
set_option maxHeartbeats 1000000 in
theorem both_in (a b : Int) (w : World) (h1 : -70368744177664 ≤ a) (h2 : a ≤ 70368744177663) (h3 : -70368744177664 ≤ b) (h4 : b ≤ 70368744177663) : Calls Try.prog 21 #[.int .i64 a, .int .i64 b] w fun e w' => e = .returned (.tuple #[.int .i64 a, .int .i64 b, .bool false]) ∧ w = w' := by
  have HA := Aside0.mk (clamp_in a w h1 h2)
  have HB := Aside0.mk (clamp_in b w h3 h4)
  go_enter Try.func21, Try.ntmps21
  go_wp2_with (first
    | (go_at_call 25; (with_reducible refine HA.out.mono ?_); rintro e w' ⟨rfl, rfl⟩)
    | (go_at_call 25; (with_reducible refine HB.out.mono ?_); rintro e w' ⟨rfl, rfl⟩))
  go_ret3
  exact ⟨rfl, rfl⟩
set_option maxHeartbeats 1000000 in
theorem addQ_in (a b : Int) (w : World) (h1 : -70368744177664 ≤ a) (h2 : a ≤ 70368744177663) (h3 : -70368744177664 ≤ b) (h4 : b ≤ 70368744177663) (h5 : -70368744177664 ≤ a + b) (h6 : a + b ≤ 70368744177663) : Calls Try.prog 16 #[.int .i64 a, .int .i64 b] w fun e w' => e = .returned (.tuple #[.int .i64 (a + b), .bool false]) ∧ w = w' := by
  have HA := Aside0.mk (both_in a b w h1 h2 h3 h4)
  have HB := Aside0.mk (clamp_in (a + b) w h5 h6)
  go_enter Try.func16, Try.ntmps16
  go_wp2_with (first
    | (go_at_call 21; (with_reducible refine HA.out.mono ?_); rintro e w' ⟨rfl, rfl⟩)
    | (go_at_call 25; (with_reducible refine HB.out.mono ?_); rintro e w' ⟨rfl, rfl⟩))
  go_ret2
  exact ⟨rfl, rfl⟩
set_option maxHeartbeats 1000000 in
theorem size_in (a : Int) (w : World) (h1 : -70368744177664 ≤ a) (h2 : a ≤ 70368744177663) : Calls Try.prog 23 #[.int .i64 a] w fun e w' => e = .returned (.int .u64 (if a < 0 then -a else a)) ∧ w = w' := by
  by_cases h : a < 0
  · rw [if_pos h]
    go_enter Try.func23, Try.ntmps23
    go_wp2
    go_ret
    exact ⟨by first | rfl | (simp; omega), rfl⟩
  · rw [if_neg h]
    go_enter Try.func23, Try.ntmps23
    go_wp2
    go_ret
    exact ⟨by first | rfl | (simp; omega), rfl⟩
end Go.Proofs.Ytomdneblpdpiiaa
