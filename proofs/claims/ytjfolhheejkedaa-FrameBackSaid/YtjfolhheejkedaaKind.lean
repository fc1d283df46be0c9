import Derived.Test.YtjfolhheejkedaaOpen
set_option linter.unusedVariables false
namespace Go.Proofs.Ytjfolhheejkedaa
open Go.RowKit Go.Joins Go.Proofs.YtjfolhheejkedaaW.PrintWords Go.Proofs.YtjfolhheejkedaaW.PrintLast Go.Proofs.YtjfolhheejkedaaW.PrintMore

/-- how many numbers a kind has -/
def longF (k : Int) : Nat := if k = 1 then 3 else if k = 2 then 8 else if k = 3 then 8 else if k = 4 then 5 else if k = 5 then 18 else if k = 6 then 4 else if k = 7 then 1 else if k = 8 then 15 else 0
theorem longF_no (k : Int) (h : k < 1 ∨ 8 < k) : longF k = 0 := by
  unfold longF
  repeat rw [if_neg (by omega)]
theorem longF_le (k : Int) : longF k ≤ 18 := by
  unfold longF
  repeat (split; omega)
  omega
def kindsA : Array Value := #[.int .i64 3, .int .i64 8, .int .i64 8, .int .i64 5, .int .i64 18, .int .i64 4, .int .i64 1, .int .i64 15]
set_option maxHeartbeats 1000000 in
theorem long_any (k : Int) (w : World) : Calls Try.prog 12 #[.int .i64 k] w fun e w' => e = .returned (.int .i64 (longF k)) ∧ Drawn0 w w' := by
  by_cases h1 : k < 1
  · rw [longF_no k (.inl h1)]
    have b1 : decide (k < 1) = true := decide_eq_true h1
    clear h1
    go_enter Try.func12, Try.ntmps12
    go_wp2
    go_ret
    exact ⟨rfl, by repeat (first | exact Drawn0.refl _ | apply Drawn0.step)⟩
  · by_cases h8 : 8 < k
    · rw [longF_no k (.inr h8)]
      have b1 : decide (k < 1) = false := decide_eq_false h1
      have b2 : decide (8 < k) = true := decide_eq_true h8
      clear h1 h8
      go_enter Try.func12, Try.ntmps12
      go_wp2
      go_ret
      exact ⟨rfl, by repeat (first | exact Drawn0.refl _ | apply Drawn0.step)⟩
    · obtain rfl | rfl | rfl | rfl | rfl | rfl | rfl | rfl : k = 1 ∨ k = 2 ∨ k = 3 ∨ k = 4 ∨ k = 5 ∨ k = 6 ∨ k = 7 ∨ k = 8 := by omega
      · clear h1 h8
        have hidx : ∀ w, (Instr.index 61 (.agg kindsA) (.int .i64 0)).run Try.prog w = .ok (.int .i64 (longF 1)) w := fun _ => by kernel_rfl
        unfold kindsA at hidx
        go_enter Try.func12, Try.ntmps12
        go_wp2
        go_ret
        exact ⟨rfl, by repeat (first | exact Drawn0.refl _ | apply Drawn0.step)⟩
      · clear h1 h8
        have hidx : ∀ w, (Instr.index 61 (.agg kindsA) (.int .i64 1)).run Try.prog w = .ok (.int .i64 (longF 2)) w := fun _ => by kernel_rfl
        unfold kindsA at hidx
        go_enter Try.func12, Try.ntmps12
        go_wp2
        go_ret
        exact ⟨rfl, by repeat (first | exact Drawn0.refl _ | apply Drawn0.step)⟩
      · clear h1 h8
        have hidx : ∀ w, (Instr.index 61 (.agg kindsA) (.int .i64 2)).run Try.prog w = .ok (.int .i64 (longF 3)) w := fun _ => by kernel_rfl
        unfold kindsA at hidx
        go_enter Try.func12, Try.ntmps12
        go_wp2
        go_ret
        exact ⟨rfl, by repeat (first | exact Drawn0.refl _ | apply Drawn0.step)⟩
      · clear h1 h8
        have hidx : ∀ w, (Instr.index 61 (.agg kindsA) (.int .i64 3)).run Try.prog w = .ok (.int .i64 (longF 4)) w := fun _ => by kernel_rfl
        unfold kindsA at hidx
        go_enter Try.func12, Try.ntmps12
        go_wp2
        go_ret
        exact ⟨rfl, by repeat (first | exact Drawn0.refl _ | apply Drawn0.step)⟩
      · clear h1 h8
        have hidx : ∀ w, (Instr.index 61 (.agg kindsA) (.int .i64 4)).run Try.prog w = .ok (.int .i64 (longF 5)) w := fun _ => by kernel_rfl
        unfold kindsA at hidx
        go_enter Try.func12, Try.ntmps12
        go_wp2
        go_ret
        exact ⟨rfl, by repeat (first | exact Drawn0.refl _ | apply Drawn0.step)⟩
      · clear h1 h8
        have hidx : ∀ w, (Instr.index 61 (.agg kindsA) (.int .i64 5)).run Try.prog w = .ok (.int .i64 (longF 6)) w := fun _ => by kernel_rfl
        unfold kindsA at hidx
        go_enter Try.func12, Try.ntmps12
        go_wp2
        go_ret
        exact ⟨rfl, by repeat (first | exact Drawn0.refl _ | apply Drawn0.step)⟩
      · clear h1 h8
        have hidx : ∀ w, (Instr.index 61 (.agg kindsA) (.int .i64 6)).run Try.prog w = .ok (.int .i64 (longF 7)) w := fun _ => by kernel_rfl
        unfold kindsA at hidx
        go_enter Try.func12, Try.ntmps12
        go_wp2
        go_ret
        exact ⟨rfl, by repeat (first | exact Drawn0.refl _ | apply Drawn0.step)⟩
      · clear h1 h8
        have hidx : ∀ w, (Instr.index 61 (.agg kindsA) (.int .i64 7)).run Try.prog w = .ok (.int .i64 (longF 8)) w := fun _ => by kernel_rfl
        unfold kindsA at hidx
        go_enter Try.func12, Try.ntmps12
        go_wp2
        go_ret
        exact ⟨rfl, by repeat (first | exact Drawn0.refl _ | apply Drawn0.step)⟩

def rightF (k : Int) (n : Nat) : Bool := decide (0 < longF k) && decide (n = longF k)
theorem int_beq (n m : Nat) : ((n : Int) == (m : Int)) = decide (n = m) := by
  by_cases h : n = m
  · subst h; simp
  · rw [decide_eq_false h]; apply Bool.eq_false_iff.2; intro h2; have := eq_of_beq h2; omega
set_option maxHeartbeats 1000000 in
theorem right_any (k : Int) (n : Nat) (A : Option Addr) (c : Nat) (w : World) : Calls Try.prog 17 #[.agg #[.int .i64 k, .slice A n c]] w fun e w' => e = .returned (.bool (rightF k n)) ∧ Below w.heap.size w w' := by
  have hl := long_any k
  have HF : Aside0 (rightF k n = (decide (0 < longF k) && decide (n = longF k))) := ⟨rfl⟩
  have hle := longF_le k
  generalize longF k = m at hl HF hle
  have HL : Aside0 (∀ (w : World), Calls Try.prog 12 #[Value.int IntKind.i64 k] w fun e w' => e = Ending.returned (Value.int IntKind.i64 m) ∧ Drawn0 w w') := ⟨hl⟩
  clear hl
  have hbox : ∀ W : World, (World.alloc W (.cells #[.int .i64 k, .slice A n c] 24)).cell? ⟨W.heap.size, 0, none⟩ = some (.int .i64 k) ∧ (World.alloc W (.cells #[.int .i64 k, .slice A n c] 24)).cell? ⟨W.heap.size, 1, none⟩ = some (.slice A n c) := fun W => ⟨World.cell?_alloc_at _ _ _ _ rfl, World.cell?_alloc_at _ _ _ _ rfl⟩
  have c0 := (hbox w).1
  have c1 := (hbox w).2
  have hu24 := Try.underlying24
  go_enter Try.func17, Try.ntmps17
  have e1 : ((n : Int) == (m : Int)) = decide (n = m) := int_beq n m
  by_cases hm : m = 0
  · subst hm
    clear e1
    go_wp2_with (go_at_call 12; refine (HL.out _).mono ?_; rintro e w' ⟨rfl, ⟨nd, rfl⟩⟩)
    go_ret
    exact ⟨by rw [HF.out]; rfl, by repeat (first | (with_reducible first | exact Below.refl _ _ | apply below_alloc | apply pw_below_drewN | apply below_drew1))⟩
  · have hp : 0 < m := by omega
    have HF2 : Aside0 (rightF k n = decide (n = m)) := ⟨by rw [HF.out, decide_eq_true hp]; rfl⟩
    clear hm
    generalize decide (n = m) = b1 at e1 HF2
    go_wp2_with (go_at_call 12; refine (HL.out _).mono ?_; rintro e w' ⟨rfl, ⟨nd, rfl⟩⟩)
    go_ret
    exact ⟨by rw [HF2.out]; rfl, by repeat (first | (with_reducible first | exact Below.refl _ _ | apply below_alloc | apply pw_below_drewN | apply below_drew1))⟩
end Go.Proofs.Ytjfolhheejkedaa
