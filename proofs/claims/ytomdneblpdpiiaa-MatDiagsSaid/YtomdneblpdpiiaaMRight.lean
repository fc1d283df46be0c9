import Derived.Test.YtomdneblpdpiiaaMDiag
set_option linter.unusedVariables false
namespace Go.Proofs.Ytomdneblpdpiiaa
open Go.RowKit Go.Joins Go.Proofs.YtomdneblpdpiiaaW.PrintWords Go.Proofs.YtomdneblpdpiiaaW.PrintLast Go.Proofs.YtomdneblpdpiiaaW.PrintMore

/-! ### slices.ContainsFunc at numbers; mat.Right -/
def PredQ (g : Nat) (lb : Array Value) (p : Int → Bool) (w0 : World) : Prop :=
  ∀ W x, Below w0.heap.size w0 W → Calls Try.prog g (#[.int .i64 x] ++ lb) W fun e w' => e = .returned (.bool (p x)) ∧ ∃ q, w' = W.drewN q
def IdxPost (p : Int → Bool) (l : List Int) (w : World) (e : Ending) (w' : World) : Prop := ∃ r : Int, e = .returned (.int .i64 r) ∧ decide (0 ≤ r) = l.any p ∧ ∃ q, w' = w.drewN q
theorem any_false_take (p : Int → Bool) (l : List Int) (h : ∀ j, j < l.length → p (l.getD j 0) = false) : l.any p = false := by
  rw [List.any_eq_false]
  intro x hx
  obtain ⟨j, hj, rfl⟩ := List.mem_iff_getElem.1 hx
  have := h j hj
  rw [List.getD_eq_getElem?_getD, List.getElem?_eq_getElem hj] at this
  simpa using this
theorem any_true_at (p : Int → Bool) (l : List Int) (j : Nat) (hj : j < l.length) (h : p (l.getD j 0) = true) : l.any p = true := by
  rw [List.any_eq_true]
  refine ⟨l[j], List.getElem_mem hj, ?_⟩
  rw [List.getD_eq_getElem?_getD, List.getElem?_eq_getElem hj] at h
  simpa using h
set_option maxHeartbeats 1000000 in
theorem indexQ_any (g : Nat) (lb : Array Value) (p : Int → Bool) (A : Option Addr) (n c : Nat) (l : List Int) (w : World) (eg : ∀ args w, (callFunc g args).run Try.prog w = .ok (.enter g args) w) (hp : PredQ g lb p w) (hr : ReadsInt w .i64 A n l) :
    Calls Try.prog 27 #[.slice A n c, .func (.func g) #[] lb] w (IdxPost p l w) := by
  have HP := Aside0.mk hp
  have HR := Aside0.mk hr
  have hln : n ≤ 9223372036854775807 := hr.2.1
  have HL := Aside0.mk hr.1
  clear hp hr
  go_enter Try.func27, Try.ntmps27
  go_wp2
  go_loopw [8] (fun s wr => ∃ k q : Nat, k ≤ n ∧ s = .int .i64 k ∧ wr = w.drewN q ∧ Aside0 (∀ j, j < k → p (l.getD j 0) = false)) (fun s _ => n - (intOf s).toNat)
  case atStart => exact ⟨0, 0, Nat.zero_le _, rfl, rfl, ⟨fun j hj => absurd hj (Nat.not_lt_zero _)⟩⟩
  case round =>
    obtain ⟨k, q, hk, rfl, rfl, HN⟩ := hrel
    by_cases hlt : k < n
    · obtain ⟨ad, rfl, hcell⟩ := reads_cell HR.out k hlt
      have HX : Aside0 (∀ j, j < k → p (l.getD j 0) = false) := HN
      generalize hx : l.getD k 0 = x at hcell
      have HXV := Aside0.mk hx
      clear hx
      have hcall : Calls Try.prog g (#[.int .i64 x] ++ lb) (w.drewN q) _ := HP.out (w.drewN q) x (pw_below_drewN (Below.refl _ _) q)
      cases hq : p x with
      | true =>
        have HQ := Aside0.mk hq
        rw [hq] at hcall
        clear hq
        go_wp2_with (go_at_fn g; refine (hcall).mono ?_; rintro e w' ⟨rfl, q', rfl⟩)
        go_ret
        exact ⟨_, rfl, by rw [any_true_at p l k (by rw [HL.out]; exact hlt) (by rw [HXV.out]; exact HQ.out)]; simp, q + q', rfl⟩
      | false =>
        have HQ := Aside0.mk hq
        rw [hq] at hcall
        clear hq
        go_wp2_with (go_at_fn g; refine (hcall).mono ?_; rintro e w' ⟨rfl, q', rfl⟩)
        go_roundw
        case rel => exact ⟨k + 1, q + q', by omega, by go_num, rfl, ⟨fun j hj => by
          by_cases h : j = k
          · subst h; rw [HXV.out]; exact HQ.out
          · exact HX.out j (by omega)⟩⟩
        case measure => simp [intOf]; omega
    · obtain rfl : k = n := by omega
      go_wp2
      go_ret
      exact ⟨_, rfl, by rw [any_false_take p l (fun j hj => HN.out j (by rw [← HL.out]; exact hj))]; rfl, q, rfl⟩
theorem containsQ_any (g : Nat) (lb : Array Value) (p : Int → Bool) (A : Option Addr) (n c : Nat) (l : List Int) (w : World) (eg : ∀ args w, (callFunc g args).run Try.prog w = .ok (.enter g args) w) (hp : PredQ g lb p w) (hr : ReadsInt w .i64 A n l) :
    Calls Try.prog 20 #[.slice A n c, .func (.func g) #[] lb] w fun e w' => e = .returned (.bool (l.any p)) ∧ ∃ q, w' = w.drewN q := by
  have HI := Aside0.mk (indexQ_any g lb p A n c l w eg hp hr)
  clear hp hr
  go_enter Try.func20, Try.ntmps20
  go_wp2_with (go_at_call 27; refine HI.out.mono ?_; rintro e w' ⟨r, rfl, hr, q, rfl⟩; have HRR := Aside0.mk hr; clear hr)
  go_ret
  exact ⟨by rw [← HRR.out]; rfl, q, rfl⟩
/-- out of bounds -/
def oddQ (x : Int) : Bool := decide (x < -70368744177664) || decide (70368744177663 < x)
set_option maxHeartbeats 1000000 in
theorem odd_any (x : Int) (w : World) : Calls Try.prog 19 #[.int .i64 x] w fun e w' => e = .returned (.bool (oddQ x)) ∧ ∃ q, w' = w.drewN q := by
  unfold oddQ
  by_cases h1 : x < -70368744177664
  · have b1 : decide (x < -70368744177664) = true := decide_eq_true h1
    clear h1
    go_enter Try.func19, Try.ntmps19
    go_wp2
    go_ret
    exact ⟨by rw [b1]; rfl, 0, rfl⟩
  · have b1 : decide (x < -70368744177664) = false := decide_eq_false h1
    clear h1
    go_enter Try.func19, Try.ntmps19
    go_wp2
    go_ret
    exact ⟨by rw [b1]; rfl, 0, rfl⟩
theorem odd_pred (w : World) : PredQ 19 #[] oddQ w := fun W x _ => odd_any x W
theorem odd_enters : ∀ args w, (callFunc 19 args).run Try.prog w = .ok (.enter 19 args) w := enters_of Try.func19 (by kernel_rfl) rfl
def rightM (R C : Int) (l : List Int) : Bool := decide (1 ≤ R) && decide (R ≤ 8) && decide (1 ≤ C) && decide (C ≤ 8) && ((l.length : Int) == R * C) && !l.any oddQ
set_option maxHeartbeats 4000000 in
theorem right_any (R C : Int) (A : Option Addr) (n cap : Nat) (l : List Int) (w : World) (hr : ReadsInt w .i64 A n l) :
    Calls Try.prog 10 #[.agg #[.int .i64 R, .int .i64 C, .slice A n cap]] w fun e w' => e = .returned (.bool (rightM R C l)) ∧ Below w.heap.size w w' := by
  have hl : l.length = n := hr.1
  have hln : n ≤ 9223372036854775807 := hr.2.1
  have hHB := Aside0.mk (below_one w (.cells #[.int .i64 R, .int .i64 C, .slice A n cap] 28))
  have HC := Aside0.mk (containsQ_any 19 #[] oddQ A n cap l _ odd_enters (odd_pred _) (hr.below hHB.out))
  unfold rightM
  rw [hl]
  clear hr hl
  have hu := Try.underlying28
  cases b1 : decide (1 ≤ R)
  · go_enter Try.func10, Try.ntmps10
    go_wp2
    go_ret
    exact ⟨rfl, hHB.out⟩
  cases b2 : decide (R ≤ 8)
  · go_enter Try.func10, Try.ntmps10
    go_wp2
    go_ret
    exact ⟨rfl, hHB.out⟩
  cases b3 : decide (1 ≤ C)
  · go_enter Try.func10, Try.ntmps10
    go_wp2
    go_ret
    exact ⟨rfl, hHB.out⟩
  cases b4 : decide (C ≤ 8)
  · go_enter Try.func10, Try.ntmps10
    go_wp2
    go_ret
    exact ⟨rfl, hHB.out⟩
  have h1 : 1 ≤ R := of_decide_eq_true b1
  have h2 : R ≤ 8 := of_decide_eq_true b2
  have h3 : 1 ≤ C := of_decide_eq_true b3
  have h4 : C ≤ 8 := of_decide_eq_true b4
  obtain ⟨m, hm⟩ : ∃ m : Int, R * C = m := ⟨_, rfl⟩
  have hm1 : 1 ≤ m := by rw [← hm]; exact Int.le_trans h1 (by have := Int.mul_le_mul_of_nonneg_left h3 (by omega : 0 ≤ R); omega)
  have hm2 : m ≤ 64 := by
    rw [← hm]
    have := Int.mul_le_mul h2 h4 (by omega) (by omega)
    omega
  rw [hm]
  clear h1 h2 h3 h4
  cases b5 : ((n : Int) == m)
  · go_enter Try.func10, Try.ntmps10
    go_wp2
    go_ret
    exact ⟨rfl, hHB.out⟩
  · generalize l.any oddQ = oq at HC ⊢
    go_enter Try.func10, Try.ntmps10
    go_wp2_with (go_at_call 20; refine HC.out.mono ?_; rintro e w' ⟨rfl, q, rfl⟩)
    go_ret
    exact ⟨rfl, pw_below_drewN hHB.out q⟩
end Go.Proofs.Ytomdneblpdpiiaa
