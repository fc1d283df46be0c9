import Derived.WalkKit
import Derived.LoopTactic
import Derived.Outline
import Derived.Lib.SmallJoins
import Derived.RangeFuncBox
import Derived.Test.YtebedfcemdpedaaCuts
import Derived.Test.YtebedfcemdpedaaApply
import Derived.Test.YtebedfcemdpedaaDiffF
set_option linter.unusedVariables false
namespace Go.Proofs.Ytebedfcemdpedaa
open Go.RowKit Go.Joins Go.Proofs.YtebedfcemdpedaaW.PrintWords Go.Proofs.YtebedfcemdpedaaW.PrintLast Go.Proofs.YtebedfcemdpedaaW.PrintMore

set_option maxHeartbeats 1000000 in
theorem back_out (A B : Option Addr) (n m c d : Nat) (w : World) (h : n ≠ m ∨ 600 < n) : Calls Try.prog 4 #[.slice A n c, .slice B m d] w (TruePost w) := by
  by_cases h0 : n = m
  · have h1 : ((n : Int) != (m : Int)) = false := by rw [bne_eq_false_iff_eq]; omega
    have h2 : decide (600 < (n : Int)) = true := decide_eq_true (by omega)
    clear h0 h
    go_enter Try.func4, Try.ntmps4
    go_wp2_with (go_at_call 5; refine (shown_any _).mono ?_; rintro e w1 ⟨rfl, hB⟩)
    go_ret
    exact ⟨rfl, hB⟩
  · have h1 : ((n : Int) != (m : Int)) = true := by rw [bne_iff_ne]; omega
    clear h0 h
    go_enter Try.func4, Try.ntmps4
    go_wp2_with (go_at_call 5; refine (shown_any _).mono ?_; rintro e w1 ⟨rfl, hB⟩)
    go_ret
    exact ⟨rfl, hB⟩

theorem same_zero (now : List Int) (j : Nat) (h : j < (dTo now now now.length).length) : (dTo now now now.length)[j]?.getD 0 = 0 := by
  have hl : (dTo now now now.length) = masksL now now now.length ((now.length + 59) / 60) := by
    unfold dTo; rw [diffs_self, List.append_nil]
  have hm : ∀ k i, mval now now k i = 0 := by
    intro k i
    induction k with
    | zero => rfl
    | succ k ih =>
      simp only [mval, ih]
      rw [if_neg (fun hc => by unfold odd at hc; simp at hc)]
  rw [hl] at h ⊢
  rw [masksL_length] at h
  rw [masksL_get _ _ _ _ _ h, hm]
  rfl
theorem same_len (now : List Int) : (dTo now now now.length).length = (now.length + 59) / 60 := by
  unfold dTo; rw [diffs_self, List.append_nil, masksL_length]

set_option maxHeartbeats 2000000 in
theorem back_any (A B : Option Addr) (c0 c1 : Nat) (base now : List Int) (w : World) (hl : base.length = now.length) (hn : now.length ≤ 600) (hr0 : ReadsInt w .i64 A base.length base) (hc0 : base.length ≤ c0) (hr1 : ReadsInt w .i64 B now.length now) (hc1 : now.length ≤ c1) :
    Calls Try.prog 4 #[.slice A base.length c0, .slice B now.length c1] w (TruePost w) := by
  have h1 : ((base.length : Int) != (now.length : Int)) = false := by rw [bne_eq_false_iff_eq]; omega
  have h2 : decide (600 < (base.length : Int)) = false := decide_eq_false (by omega)
  obtain ⟨D, hD⟩ : ∃ D, D = dTo base now now.length := ⟨_, rfl⟩
  have hDl : D.length ≤ 1000 := by have := dTo_len base now now.length (Nat.le_refl _); rw [← hD] at this; omega
  obtain ⟨m, hm⟩ : ∃ m, m = (D.length + 7) / 8 := ⟨_, rfl⟩
  have hmany : (m : Int) = many D.length := by unfold many; split <;> omega
  have hm1 : m ≤ 126 := by omega
  have hm2 : D.length ≤ 8 * m := by omega
  have hDA : dapply base D = (now, 0) := by rw [hD]; exact dapply_back base now hl (by omega)
  have HM := Aside0.mk hm
  have HMM := Aside0.mk hmany
  have HD := Aside0.mk hD
  have HDA := Aside0.mk hDA
  have HL := Aside0.mk hl
  have hne : ((m : Int) == many D.length) = true := beq_iff_eq.2 hmany
  have hmk : (base.length + 59) / 60 ≤ D.length := by rw [hD, dTo, List.length_append, masksL_length, hl]; exact Nat.le_add_right _ _
  clear hm hmany hD hDA hl
  go_enter Try.func4, Try.ntmps4
  go_wp2_with (go_at_call 5; refine (shown_any _).mono ?_; rintro e w1 ⟨rfl, hB⟩)
  have HB1 := Aside0.mk hB
  refine (diff_any A c0 base B c1 now w1 HL.out hn (ReadsInt.below hr0 hB) hc0 (ReadsInt.below hr1 hB) hc1).mono ?_
  rw [← HD.out]
  rintro e w2 ⟨v2, rfl, ho2, hB2⟩
  obtain ⟨A2, k2, rfl⟩ := own_slice ho2
  have HO2 := Aside0.mk ho2
  have HB2 := Aside0.mk (below_step HB1.out hB2)
  clear hB ho2 hB2
  go_wp2_with fail
  refine (parts_any A2 k2 D w2 (own_cap HO2.out) (by omega) (own_reads' HO2.out)).mono ?_
  rw [← HM.out]
  rintro e w3 ⟨v3, rfl, ho3, hB3⟩
  obtain ⟨A3, k3, rfl⟩ := own_slice ho3
  have HO3 := Aside0.mk ho3
  have HB3 := Aside0.mk (below_step HB2.out hB3)
  clear ho3 hB3 HO2
  have HA := Aside0.mk (pads_drop D m)
  have HT := Aside0.mk (pads_take D m hm2)
  go_wp2_with fail
  refine (join_any A3 m k3 D.length (pads D m) HMM.out w3 (flat_of_own D HO3.out (by omega))).mono ?_
  rintro e w4 hJ
  obtain ⟨v4, rfl, ho4⟩ := hJ.get HA.out
  rw [HT.out] at ho4
  have HB4 := Aside0.mk (below_step HB3.out hJ.1)
  obtain ⟨A4, k4, rfl⟩ := own_slice ho4
  have HO4 := Aside0.mk ho4
  clear hJ ho4 HO3
  go_wp2_with fail
  refine (apply_any A A4 c0 k4 base D w4 (by have := HL.out; omega) hmk (by omega) (ReadsInt.below hr0 HB4.out) hc0 (own_reads' HO4.out) (own_cap HO4.out)).mono ?_
  rintro e w5 ⟨v5, rfl, ho5, hB5⟩
  rw [HDA.out] at ho5 ⊢
  obtain ⟨A5, k5, rfl⟩ := own_slice ho5
  have HO5 := Aside0.mk ho5
  have HB5 := Aside0.mk (below_step HB4.out hB5)
  clear ho5 hB5 HO4
  go_wp2_with fail
  refine (diff_any B c1 now B c1 now w5 rfl hn (ReadsInt.below hr1 HB5.out) hc1 (ReadsInt.below hr1 HB5.out) hc1).mono ?_
  rintro e w6 ⟨v6, rfl, ho6, hB6⟩
  obtain ⟨A6, k6, rfl⟩ := own_slice ho6
  have HO6 := Aside0.mk ho6
  have HB6 := Aside0.mk (below_step HB5.out hB6)
  have HO56 := Aside0.mk (pw_own_below HO5.out hB6)
  clear ho6 hB6 HO5
  have HS := Aside0.mk (same_zero now)
  have HSL := Aside0.mk (same_len now)
  generalize dTo now now now.length = Z at HO6 HS HSL ⊢
  go_wp2_with fail
  have hZ : Z.length ≤ 10 := by rw [HSL.out]; omega
  go_loop [15] (fun i => ∃ k : Nat, k ≤ Z.length ∧ i = .int .i64 k) (fun i => Z.length - (intOf i).toNat)
  case atStart => exact ⟨0, Nat.zero_le _, rfl⟩
  case round =>
    obtain ⟨k, hk, rfl⟩ := hrel
    by_cases hlt : k < Z.length
    · obtain ⟨g, cap, hv⟩ := ownsRow_form HO6.out (by omega)
      injection hv with e1 e2 e3
      subst e1
      clear e2
      have hcell : w6.cell? ⟨g, k, none⟩ = some (.int .i64 0) := by
        have := HO6.out.cells (g := g) rfl k (.int .i64 0) (by
          simp only [nums, List.getElem?_map]
          have := HS.out k hlt
          rw [List.getElem?_eq_getElem hlt] at this ⊢
          simp only [Option.getD_some] at this
          rw [this]; rfl)
        rwa [add_plain] at this
      go_wp2
      go_round
      case rel => exact ⟨k + 1, by omega, by go_num⟩
      case measure => simp [intOf]; omega
    · obtain rfl : k = Z.length := by omega
      have hrx : ReadsInt w6 .i64 A5 now.length now := own_reads' HO56.out
      have hcx : now.length ≤ k5 := own_cap HO56.out
      have hrn : ReadsInt w6 .i64 B now.length now := ReadsInt.below hr1 HB6.out
      have hlast : ((Z.length : Int) == ((now.length : Int) + 59) / 60) = true := by rw [beq_iff_eq, HSL.out]; omega
      go_wp2_with fail
      refine (ints_any A5 k5 now B c1 now w6 (by omega) hrx hcx hrn hc1).mono ?_
      rintro e w7 ⟨rfl, hB7⟩
      have HB7 := Aside0.mk (below_step HB6.out hB7)
      have hdec : decide (now = now) = true := decide_eq_true rfl
      rw [hdec]
      clear hB7 hdec
      go_wp2_with fail
      refine (many_any D.length (by omega) (by omega) w7).mono ?_
      rintro e w' ⟨rfl, rfl⟩
      go_wp2_with fail
      go_ret
      exact ⟨rfl, HB7.out⟩
end Go.Proofs.Ytebedfcemdpedaa
