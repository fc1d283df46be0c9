import Derived.Test.YtebedfcemdpedaaDelta
set_option linter.unusedVariables false
namespace Go.Proofs.Ytebedfcemdpedaa
open Go.RowKit Go.Proofs.YtebedfcemdpedaaW.PrintWords

/-! ### the plain law of a delta: told, and told back -/
def diffs : List Int → List Int → List Int
  | b :: bs, n :: ns => if n = b then diffs bs ns else n :: diffs bs ns
  | _, _ => []
theorem diffs_snoc : ∀ (bs ns : List Int) (b n : Int), bs.length = ns.length → diffs (bs ++ [b]) (ns ++ [n]) = diffs bs ns ++ if n = b then [] else [n]
  | [], [], b, n, _ => by simp [diffs]
  | x :: bs, y :: ns, b, n, h => by
    simp only [List.cons_append, diffs]
    rw [diffs_snoc bs ns b n (by simpa using h)]
    split <;> simp
theorem diffs_self : ∀ l : List Int, diffs l l = []
  | [] => rfl
  | x :: l => by simp only [diffs, if_true]; exact diffs_self l
theorem diffs_le : ∀ (bs ns : List Int), (diffs bs ns).length ≤ ns.length
  | [], _ => by simp [diffs]
  | _ :: _, [] => by simp [diffs]
  | b :: bs, n :: ns => by
    have := diffs_le bs ns
    simp only [diffs]
    split <;> simp <;> omega
/-- place k is another one -/
def odd (base now : List Int) (k : Nat) : Bool := now[k]?.getD 0 != base[k]?.getD 0
/-- word j of the mask, when k places have been looked at -/
def mval (base now : List Int) : Nat → Nat → Nat
  | 0, _ => 0
  | k + 1, j => mval base now k j + if j = k / 60 ∧ odd base now k = true then 2 ^ (k % 60) else 0
theorem mval_bound (base now : List Int) : ∀ k j, mval base now k j < 2 ^ (if k ≤ 60 * j then 0 else if k ≤ 60 * j + 60 then k - 60 * j else 60) := by
  intro k
  induction k with
  | zero => intro j; simp [mval]
  | succ k ih =>
    intro j
    have h := ih j
    simp only [mval]
    by_cases hj : j = k / 60
    · have e1 : (if k ≤ 60 * j then 0 else if k ≤ 60 * j + 60 then k - 60 * j else 60) = k % 60 := by split <;> (try split) <;> omega
      have e2 : (if k + 1 ≤ 60 * j then 0 else if k + 1 ≤ 60 * j + 60 then k + 1 - 60 * j else 60) = k % 60 + 1 := by split <;> (try split) <;> omega
      rw [e1] at h
      rw [e2, Nat.pow_succ]
      split <;> omega
    · rw [if_neg (fun hc => hj hc.1), Nat.add_zero]
      refine Nat.lt_of_lt_of_le h (Nat.pow_le_pow_right (by decide) ?_)
      split <;> split <;> (try split) <;> (try split) <;> omega
theorem mval_here (base now : List Int) (k : Nat) : mval base now k (k / 60) < 2 ^ (k % 60) := by
  have h := mval_bound base now k (k / 60)
  have e1 : (if k ≤ 60 * (k / 60) then 0 else if k ≤ 60 * (k / 60) + 60 then k - 60 * (k / 60) else 60) = k % 60 := by split <;> (try split) <;> omega
  rwa [e1] at h
theorem mval_lt (base now : List Int) (k j : Nat) : mval base now k j < 2 ^ 60 := by
  refine Nat.lt_of_lt_of_le (mval_bound base now k j) (Nat.pow_le_pow_right (by decide) ?_)
  split <;> (try split) <;> omega
theorem mval_bit (base now : List Int) : ∀ k i, i < k → mval base now k (i / 60) / 2 ^ (i % 60) % 2 = if odd base now i = true then 1 else 0 := by
  intro k
  induction k with
  | zero => intro i h; omega
  | succ k ih =>
    intro i hi
    simp only [mval]
    by_cases h1 : i = k
    · subst h1
      have hb := mval_here base now i
      by_cases ho : odd base now i = true
      · rw [if_pos ⟨rfl, ho⟩, if_pos ho, Nat.add_div_right _ (Nat.two_pow_pos _), Nat.div_eq_of_lt hb]
      · rw [if_neg (fun hc => ho hc.2), if_neg ho, Nat.add_zero, Nat.div_eq_of_lt hb]
    · have h2 := ih i (by omega)
      by_cases h3 : i / 60 = k / 60 ∧ odd base now k = true
      · rw [if_pos h3]
        obtain ⟨d, hd⟩ : ∃ d, k % 60 = i % 60 + (d + 1) := ⟨k % 60 - i % 60 - 1, by omega⟩
        rw [hd, Nat.pow_add, Nat.pow_succ, Nat.add_mul_div_left _ _ (Nat.two_pow_pos _), Nat.add_mod, Nat.mul_mod_left, Nat.add_zero, Nat.mod_mod]
        exact h2
      · rw [if_neg h3, Nat.add_zero]
        exact h2
/-- the mask -/
def masksL (base now : List Int) (k m : Nat) : List Int := (List.range m).map fun j => ((mval base now k j : Nat) : Int)
theorem masksL_length (base now : List Int) (k m : Nat) : (masksL base now k m).length = m := by simp [masksL]
theorem masksL_get (base now : List Int) (k m j : Nat) (h : j < m) : (masksL base now k m)[j]? = some ((mval base now k j : Nat) : Int) := by
  unfold masksL
  rw [List.getElem?_map, List.getElem?_range h]
  rfl
/-- the whole delta, when k places have been looked at -/
def dTo (base now : List Int) (k : Nat) : List Int := masksL base now k ((now.length + 59) / 60) ++ diffs (base.take k) (now.take k)
theorem pc_zero : ∀ k, Pop.pc k 0 = 0
  | 0 => rfl
  | k + 1 => by simp only [Pop.pc, Nat.zero_mod, Nat.zero_div, pc_zero k]
theorem pc_pow (K s a : Nat) (hs : s < K) (ha : a < 2 ^ s) : Pop.pc K (a + 2 ^ s) = Pop.pc K a + 1 := by
  obtain ⟨d, rfl⟩ : ∃ d, K = s + (d + 1) := ⟨K - s - 1, by omega⟩
  rw [Pop.pc_add s (d + 1) (a + 2 ^ s), Pop.pc_add s (d + 1) a, Nat.add_mod_right, Nat.mod_eq_of_lt ha, Nat.add_div_right _ (Nat.two_pow_pos _), Nat.div_eq_of_lt ha, pc_zero]
  have : Pop.pc (d + 1) (0 + 1) = 1 := by simp only [Pop.pc]; rw [show (0 + 1) / 2 = 0 from rfl, pc_zero]
  rw [this]
theorem uOf_nat (n : Nat) (h : n < 18446744073709551616) : uOf (n : Int) = n := by unfold uOf; omega
theorem getD_take_snoc (l : List Int) (k : Nat) (h : k < l.length) : l.take (k + 1) = l.take k ++ [l[k]?.getD 0] := by
  rw [List.take_succ_eq_append_getElem h, List.getElem?_eq_getElem h]; rfl
theorem diffs_take (base now : List Int) (k : Nat) (hl : base.length = now.length) (h : k < now.length) :
    diffs (base.take (k + 1)) (now.take (k + 1)) = diffs (base.take k) (now.take k) ++ if odd base now k = true then [now[k]?.getD 0] else [] := by
  rw [getD_take_snoc _ _ (by omega), getD_take_snoc _ _ h, diffs_snoc _ _ _ _ (by simp; omega)]
  unfold odd
  by_cases e : now[k]?.getD 0 = base[k]?.getD 0
  · rw [if_pos e, if_neg (by rw [e]; simp)]
  · rw [if_neg e, if_pos (by rw [bne_iff_ne]; exact e)]
attribute [local irreducible] Pop.pc uOf
/-- all ones of the mask are places that are another one -/
theorem ones_masks (base now : List Int) (hl : base.length = now.length) (m : Nat) : ∀ k, k ≤ now.length → k ≤ 60 * m → onesL (masksL base now k m) = (diffs (base.take k) (now.take k)).length := by
  have gen : ∀ k, onesL (masksL base now k m) = ((List.range m).map fun j => Pop.pc 64 (mval base now k j)).sum := by
    intro k
    unfold onesL masksL
    rw [List.map_map]
    congr 1
    apply List.map_congr_left
    intro j _
    have hu : uOf ((mval base now k j : Nat) : Int) = mval base now k j := uOf_nat _ (Nat.lt_trans (mval_lt base now k j) (by decide))
    exact congrArg (Pop.pc 64) hu
  have step : ∀ (l : List Nat) (k : Nat), l.Nodup → (l.map fun j => Pop.pc 64 (mval base now (k + 1) j)).sum = (l.map fun j => Pop.pc 64 (mval base now k j)).sum + if k / 60 ∈ l ∧ odd base now k = true then 1 else 0 := by
    intro l k
    induction l with
    | nil => intro _; simp
    | cons j l ih =>
      intro hn
      rw [List.nodup_cons] at hn
      have h1 := ih hn.2
      simp only [List.map_cons, List.sum_cons]
      rw [h1]
      by_cases hj : j = k / 60 ∧ odd base now k = true
      · obtain ⟨rfl, ho⟩ := hj
        have e : mval base now (k + 1) (k / 60) = mval base now k (k / 60) + 2 ^ (k % 60) := by simp only [mval]; rw [if_pos ⟨trivial, ho⟩]
        rw [e, pc_pow 64 (k % 60) _ (by omega) (mval_here base now k), if_neg (fun hc => hn.1 hc.1), if_pos ⟨by simp, ho⟩]
        omega
      · have e : mval base now (k + 1) j = mval base now k j := by simp only [mval]; rw [if_neg hj, Nat.add_zero]
        rw [e]
        by_cases h2 : k / 60 ∈ l ∧ odd base now k = true
        · rw [if_pos h2, if_pos ⟨List.mem_cons_of_mem _ h2.1, h2.2⟩, Nat.add_assoc]
        · rw [if_neg h2, if_neg (fun hc => by
            rcases List.mem_cons.1 hc.1 with h3 | h3
            · exact hj ⟨h3.symm, hc.2⟩
            · exact h2 ⟨h3, hc.2⟩), Nat.add_assoc]
  intro k
  induction k with
  | zero =>
    intro _ _
    rw [gen]
    simp only [mval, pc_zero, List.take_zero, diffs, List.length_nil]
    have hz : ∀ l : List Nat, (l.map fun _ => 0).sum = 0 := fun l => by induction l with
      | nil => rfl
      | cons x l ih => simpa using ih
    exact hz _
  | succ k ih =>
    intro hk hm
    have h1 := ih (by omega) (by omega)
    rw [gen] at h1 ⊢
    rw [step _ _ List.nodup_range, h1, diffs_take base now k hl (by omega), List.length_append]
    have hmem : k / 60 ∈ List.range m := List.mem_range.2 (by omega)
    by_cases ho : odd base now k = true
    · rw [if_pos ⟨hmem, ho⟩, if_pos ho]; rfl
    · rw [if_neg (fun hc => ho hc.2), if_neg ho]; rfl
theorem bit_masks (base now : List Int) (n i : Nat) (h : i < n) : bitOf (masksL base now n ((n + 59) / 60)) i = if odd base now i = true then 1 else 0 := by
  unfold bitOf
  rw [masksL_get _ _ _ _ _ (by omega), Option.getD_some]
  have := mval_bit base now n i h
  have h2 : ((mval base now n (i / 60) / 2 ^ (i % 60) % 2 : Nat) : Int) = ((if odd base now i = true then 1 else 0 : Nat) : Int) := by rw [this]
  push_cast at h2
  rw [h2]
  split <;> rfl
theorem diffs_drop (base now : List Int) (k : Nat) (hl : base.length = now.length) (h : k < now.length) :
    diffs (base.drop k) (now.drop k) = (if odd base now k = true then [now[k]?.getD 0] else []) ++ diffs (base.drop (k + 1)) (now.drop (k + 1)) := by
  rw [List.drop_eq_getElem_cons (by omega : k < base.length), List.drop_eq_getElem_cons h]
  simp only [diffs]
  unfold odd
  rw [List.getElem?_eq_getElem h, List.getElem?_eq_getElem (by omega : k < base.length), Option.getD_some, Option.getD_some]
  by_cases e : now[k] = base[k]'(by omega)
  · rw [if_pos e, if_neg (by rw [e]; simp)]; rfl
  · rw [if_neg e, if_pos (by rw [bne_iff_ne]; exact e)]; rfl
theorem drun_back (base now : List Int) (hl : base.length = now.length) : ∀ k, k ≤ now.length → drun (masksL base now now.length ((now.length + 59) / 60)) base (diffs base now) k = some (now.take k, diffs (base.drop k) (now.drop k)) := by
  intro k
  induction k with
  | zero => intro _; rfl
  | succ k ih =>
    intro hk
    simp only [drun, ih (by omega), Option.bind_some]
    unfold dstep
    rw [bit_masks base now now.length k (by omega), diffs_drop base now k hl (by omega), getD_take_snoc now k (by omega)]
    by_cases ho : odd base now k = true
    · rw [if_pos ho, if_neg (by decide), if_pos ho]
      have hne : ¬ now[k]?.getD 0 = base[k]?.getD 0 := by unfold odd at ho; exact bne_iff_ne.1 ho
      simp only [List.cons_append, List.nil_append]
      rw [if_neg hne]
    · have he : now[k]?.getD 0 = base[k]?.getD 0 := by
        unfold odd at ho
        exact Classical.byContradiction fun hc => ho (bne_iff_ne.2 hc)
      rw [if_neg ho, if_pos rfl, if_neg ho, he]
      rfl
theorem dapply_back (base now : List Int) (hl : base.length = now.length) (h : base.length ≤ 600) : dapply base (dTo base now now.length) = (now, 0) := by
  unfold dapply dTo
  have hm : (base.length + 59) / 60 = (now.length + 59) / 60 := by rw [hl]
  have e1 : base.take now.length = base := by rw [List.take_of_length_le (by omega)]
  have e2 : now.take now.length = now := by rw [List.take_of_length_le (by omega)]
  rw [e1, e2, if_neg (by omega), if_neg (by rw [List.length_append, masksL_length]; omega), hm, List.take_left' (masksL_length _ _ _ _), List.drop_left' (masksL_length _ _ _ _), if_neg, hl, drun_back base now hl now.length (Nat.le_refl _)]
  · simp only [e2, List.drop_length]
    rw [← hl, List.drop_length]
    rfl
  · have := ones_masks base now hl ((now.length + 59) / 60) now.length (Nat.le_refl _) (by omega)
    rw [e1, e2] at this
    simp [this]
end Go.Proofs.Ytebedfcemdpedaa
