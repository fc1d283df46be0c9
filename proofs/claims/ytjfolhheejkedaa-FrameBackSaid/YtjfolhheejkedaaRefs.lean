import Derived.Test.YtjfolhheejkedaaPlain
import Derived.Test.YtjfolhheejkedaaRef1
set_option linter.unusedVariables false
namespace Go.Proofs.Ytjfolhheejkedaa
open Go.RowKit Go.Proofs.YtjfolhheejkedaaW.PrintWords

theorem ref_long_f (k : Int) : Ref.alidaderef08_Long.f k = some ((longF k : Nat) : Int) := by
  unfold Ref.alidaderef08_Long.f longF
  repeat (first | rfl | (split))
  all_goals first | rfl | omega
theorem ref_right_any (k : Int) (A : Option Addr) (c n : Nat) (l : List Int) (w : World) (hn : l.length = n) (hr : ReadsInt w .i64 A n l) (hc : n ≤ c) :
    Calls Try.prog 8 #[.agg #[.int .i64 k, .slice A n c]] w fun e w' => e = .returned (.bool (rightF k n)) ∧ Below w.heap.size w w' := by
  subst hn
  refine Ref.alidaderef08_Right.calls k A c l _ w (Kd.C_of_reads (d := 0) hr) hc ?_
  unfold Ref.alidaderef08_Right.f
  rw [ref_long_f]
  unfold rightF
  simp only [Option.bind_some]
  by_cases h : longF k = 0
  · rw [h]; simp
  · rw [if_pos (by omega), int_beq, decide_eq_true (by omega : 0 < longF k)]; rfl

theorem ints_l0 (l0 l1 : List Int) (hl : l0.length = l1.length) (hm : l0.length ≤ 1152921504606846976) : ∀ (d k : Nat) (i : Nat), l0.length - i = d → i ≤ l0.length → d < k → (∀ j, j < i → l0[j]? = l1[j]?) →
    Ref.alidaderef06_Ints.l0 k l0 l1 (i : Int) = some (decide (l0 = l1)) := by
  intro d
  induction d with
  | zero =>
    intro k i hd hi hk hj
    obtain ⟨k, rfl⟩ : ∃ m, k = m + 1 := ⟨k - 1, by omega⟩
    simp only [Ref.alidaderef06_Ints.l0]
    rw [if_neg (by omega)]
    have : l0 = l1 := List.ext_getElem? fun j => by
      by_cases h : j < i
      · exact hj j h
      · rw [List.getElem?_eq_none (by omega), List.getElem?_eq_none (by omega)]
    rw [decide_eq_true this]
  | succ d ih =>
    intro k i hd hi hk hj
    obtain ⟨k, rfl⟩ : ∃ m, k = m + 1 := ⟨k - 1, by omega⟩
    simp only [Ref.alidaderef06_Ints.l0]
    have h1 : i < l0.length := by omega
    rw [if_pos (by omega), if_pos (by omega), if_pos (by omega)]
    have e0 : rd l0 i = l0[i] := by simp [rd, List.getD_eq_getElem?_getD, h1]
    have e1 : rd l1 i = l1[i]'(by omega) := by simp [rd, List.getD_eq_getElem?_getD, show i < l1.length by omega]
    rw [e0, e1]
    by_cases he : l0[i] = l1[i]'(by omega)
    · rw [if_pos he, show wrap64 ((i : Int) + 1) = ((i + 1 : Nat) : Int) by unfold wrap64; omega]
      refine ih k (i + 1) (by omega) (by omega) (by omega) fun j hj' => ?_
      by_cases h : j = i
      · subst h; rw [List.getElem?_eq_getElem h1, List.getElem?_eq_getElem (by omega), he]
      · exact hj j (by omega)
    · rw [if_neg he]
      have : ¬ l0 = l1 := fun h => he (by subst h; rfl)
      rw [decide_eq_false this]
theorem ints_f (l0 l1 : List Int) (hm : l0.length ≤ 1152921504606846976) : Ref.alidaderef06_Ints.f (l0.length + 1) l0 l1 = some (decide (l0 = l1)) := by
  unfold Ref.alidaderef06_Ints.f
  by_cases hl : l0.length = l1.length
  · rw [if_pos (by omega)]
    exact ints_l0 l0 l1 hl hm l0.length _ 0 (by omega) (by omega) (by omega) (fun j h => by omega)
  · rw [if_neg (by omega)]
    have : ¬ l0 = l1 := fun h => hl (by rw [h])
    rw [decide_eq_false this]
def sameF (k : Int) (l : List Int) (k' : Int) (l' : List Int) : Bool := decide (l = l') && decide (k = k')
theorem ref_same_any (k0 : Int) (A0 : Option Addr) (c0 n0 : Nat) (l0 : List Int) (k1 : Int) (A1 : Option Addr) (c1 n1 : Nat) (l1 : List Int) (w : World) (h0 : l0.length = n0) (h1 : l1.length = n1) (hm : n0 ≤ 1152921504606846976)
    (hr0 : ReadsInt w .i64 A0 n0 l0) (hc0 : n0 ≤ c0) (hr1 : ReadsInt w .i64 A1 n1 l1) (hc1 : n1 ≤ c1) :
    Calls Try.prog 11 #[.agg #[.int .i64 k0, .slice A0 n0 c0], .agg #[.int .i64 k1, .slice A1 n1 c1]] w fun e w' => e = .returned (.bool (sameF k0 l0 k1 l1)) ∧ Below w.heap.size w w' := by
  subst h0
  subst h1
  refine Ref.alidaderef08_Same.calls (l0.length + 1) k0 A0 c0 l0 k1 A1 c1 l1 _ w (Kd.C_of_reads (d := 0) hr0) hc0 (Kd.C_of_reads (d := 0) hr1) hc1 ?_
  unfold Ref.alidaderef08_Same.f
  rw [ints_f l0 l1 hm]
  unfold sameF
  simp only [Option.bind_some]
  by_cases h : l0 = l1
  · rw [if_pos (decide_eq_true h), decide_eq_true h]
    by_cases hk : k0 = k1
    · subst hk; simp
    · rw [decide_eq_false hk, beq_eq_false_iff_ne.2 hk]; rfl
  · rw [if_neg (by simpa using h), decide_eq_false h]; rfl
end Go.Proofs.Ytjfolhheejkedaa
