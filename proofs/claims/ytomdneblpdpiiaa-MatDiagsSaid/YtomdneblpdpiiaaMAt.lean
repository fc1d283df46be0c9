import Derived.Test.YtomdneblpdpiiaaMMade
set_option linter.unusedVariables false
namespace Go.Proofs.Ytomdneblpdpiiaa
open Go.RowKit Go.Joins Go.Proofs.YtomdneblpdpiiaaW.PrintWords Go.Proofs.YtomdneblpdpiiaaW.PrintLast Go.Proofs.YtomdneblpdpiiaaW.PrintMore

/-! ### mat.at: a number of a matrix -/
theorem reads_cell {w : World} {k : IntKind} {A : Option Addr} {n : Nat} {xs : List Int} (h : ReadsInt w k A n xs) (j : Nat) (hj : j < n) : ∃ ad, A = some ad ∧ w.cell? (ad.add j) = some (.int k (xs.getD j 0)) := by
  obtain ⟨_, _, h2⟩ := h
  obtain ⟨ad, e, hc⟩ := h2 (by omega)
  exact ⟨ad, e, hc j hj⟩
set_option maxHeartbeats 1000000 in
theorem at_any (r c i k n cap : Nat) (A : Option Addr) (xs : List Int) (w : World) (hi : i ≤ 100) (hc : c ≤ 100) (hk : k ≤ 100) (hr : ReadsInt w .i64 A n xs) (hlt : i * c + k < n) :
    Calls Try.prog 15 #[.agg #[.int .i64 (r : Nat), .int .i64 (c : Nat), .slice A n cap], .int .i64 (i : Nat), .int .i64 (k : Nat)] w fun e w' => e = .returned (.int .i64 (xs.getD (i * c + k) 0)) ∧ Below w.heap.size w w' := by
  obtain ⟨ad, rfl, hcell⟩ := reads_cell (hr.below (below_one w (.cells #[.int .i64 (r : Nat), .int .i64 (c : Nat), .slice A n cap] 28))) _ hlt
  obtain ⟨m, hm⟩ : ∃ m : Nat, m = i * c := ⟨_, rfl⟩
  have hmul : (i : Int) * (c : Int) = (m : Int) := by rw [hm]; simp
  have hm2 : m ≤ 10000 := by rw [hm]; exact Nat.le_trans (Nat.mul_le_mul hi hc) (by decide)
  rw [← hm] at hcell hlt ⊢
  have hln : n ≤ 9223372036854775807 := hr.2.1
  clear hm hr
  generalize xs.getD (m + k) 0 = x at hcell ⊢
  go_enter Try.func15, Try.ntmps15
  go_wp2
  go_ret
  exact ⟨rfl, (below_one w _)⟩
end Go.Proofs.Ytomdneblpdpiiaa
