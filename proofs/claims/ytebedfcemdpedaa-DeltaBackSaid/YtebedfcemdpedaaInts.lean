import Derived.Test.YtebedfcemdpedaaPDeltaBackx
namespace Go.Proofs.Ytebedfcemdpedaa
open Go.RowKit Go.Proofs.YtebedfcemdpedaaW.PrintWords
theorem ints_l0 (l0 l1 : List Int) (hl : l0.length = l1.length) (hm : l0.length ≤ 1152921504606846976) : ∀ (d k : Nat) (i : Nat), l0.length - i = d → i ≤ l0.length → d < k → (∀ j, j < i → l0[j]? = l1[j]?) →
    PDeltaBack.alidaderef06_Ints.l0 k l0 l1 (i : Int) = some (decide (l0 = l1)) := by
  intro d
  induction d with
  | zero =>
    intro k i hd hi hk hj
    obtain ⟨k, rfl⟩ : ∃ m, k = m + 1 := ⟨k - 1, by omega⟩
    simp only [PDeltaBack.alidaderef06_Ints.l0]
    rw [if_neg (by omega)]
    have : l0 = l1 := List.ext_getElem? fun j => by
      by_cases h : j < i
      · exact hj j h
      · rw [List.getElem?_eq_none (by omega), List.getElem?_eq_none (by omega)]
    rw [decide_eq_true this]
  | succ d ih =>
    intro k i hd hi hk hj
    obtain ⟨k, rfl⟩ : ∃ m, k = m + 1 := ⟨k - 1, by omega⟩
    simp only [PDeltaBack.alidaderef06_Ints.l0]
    have h1 : i < l0.length := by omega
    rw [if_pos (by omega), if_pos (by omega), if_pos (by omega)]
    have e0 : rd l0 i = l0[i] := by simp [rd, List.getD_eq_getElem?_getD, h1]
    have e1 : rd l1 i = l1[i]'(by omega) := by simp [rd, List.getD_eq_getElem?_getD, show i < l1.length by omega]
    rw [e0, e1]
    by_cases he : l0[i] = l1[i]'(by omega)
    · rw [if_pos he, show wrap64 ((i : Int) + 1) = ((i + 1 : Nat) : Int) by unfold wrap64; omega]
      refine ih k (i + 1) (by omega) (by omega) (by omega) fun j hj' => ?_
      by_cases h : j = i
      · subst h; rw [List.getElem?_eq_getElem h1, List.getElem?_eq_getElem (by omega), he]
      · exact hj j (by omega)
    · rw [if_neg he]
      have : ¬ l0 = l1 := fun h => he (by subst h; rfl)
      rw [decide_eq_false this]
theorem ints_f (l0 l1 : List Int) (hm : l0.length ≤ 1152921504606846976) : PDeltaBack.alidaderef06_Ints.f (l0.length + 1) l0 l1 = some (decide (l0 = l1)) := by
  unfold PDeltaBack.alidaderef06_Ints.f
  by_cases hl : l0.length = l1.length
  · rw [if_pos (by omega)]
    exact ints_l0 l0 l1 hl hm l0.length _ 0 (by omega) (by omega) (by omega) (fun j h => by omega)
  · rw [if_neg (by omega)]
    have : ¬ l0 = l1 := fun h => hl (by rw [h])
    rw [decide_eq_false this]
/-- Ints: are two rows the same? -/
theorem ints_any (A0 : Option Addr) (c0 : Nat) (l0 : List Int) (A1 : Option Addr) (c1 : Nat) (l1 : List Int) (w : World) (hm : l0.length ≤ 1152921504606846976) (hr0 : ReadsInt w .i64 A0 l0.length l0) (hc0 : l0.length ≤ c0) (hr1 : ReadsInt w .i64 A1 l1.length l1) (hc1 : l1.length ≤ c1) :
    Calls Try.prog 9 #[.slice A0 l0.length c0, .slice A1 l1.length c1] w fun e w' => e = .returned (.bool (decide (l0 = l1))) ∧ Below w.heap.size w w' :=
  (PDeltaBack.alidaderef06_Ints.calls _ A0 c0 l0 A1 c1 l1 _ w (Kd.C_of_reads (d := 0) hr0) hc0 (Kd.C_of_reads (d := 0) hr1) hc1 (ints_f l0 l1 hm)).mono fun e w' h => ⟨h.1, by have := h.2; first | exact this | exact this.below⟩
end Go.Proofs.Ytebedfcemdpedaa
