import Derived.Test.YtebedfcemdpedaaDiffLaw
import Derived.Test.YtebedfcemdpedaaPDeltaBackx
import Derived.Laws.BitsLemmas
set_option linter.unusedVariables false
namespace Go.Proofs.Ytebedfcemdpedaa
open Go.RowKit Go.Proofs.YtebedfcemdpedaaW.PrintWords Go.Proofs.YtebedfcemdpedaaW.PrintLast
theorem shl_one (r : Nat) (h : r < 60) : shl .i64 1 (r : Int) = ((2 ^ r : Nat) : Int) := by
  have hp : 2 ^ r < 2 ^ 60 := Nat.pow_lt_pow_right (by decide) h
  have hc : ((2 : Int) ^ r) = ((2 ^ r : Nat) : Int) := by push_cast; rfl
  unfold shl
  rw [Int.toNat_natCast, Nat.min_eq_left (show r ≤ IntKind.i64.bits by show r ≤ 64; omega), IntKind.wrap_i64, hc]
  generalize 2 ^ r = p at hp
  omega
theorem or_join (a r : Nat) (ha : a < 2 ^ r) (h : r < 60) : Go.bits .or .i64 (a : Int) ((2 ^ r : Nat) : Int) = ((a + 2 ^ r : Nat) : Int) := by
  have hp : 2 ^ r < 2 ^ 60 := Nat.pow_lt_pow_right (by decide) h
  rw [(bits_nat .i64 62 (by decide) (fun n h0 h1 => by rw [IntKind.wrap_i64]; omega) a (2 ^ r) (by omega) (by omega)).2]
  have := Nat.two_pow_add_eq_or_of_lt ha 1
  rw [Nat.mul_one] at this
  rw [Nat.or_comm, ← this, Nat.add_comm]
theorem masks_set (base now : List Int) (k m : Nat) (hm : k / 60 < m) (ho : odd base now k = true) :
    (masksL base now k m).set (k / 60) (((mval base now k (k / 60) + 2 ^ (k % 60) : Nat)) : Int) = masksL base now (k + 1) m := by
  apply List.ext_getElem?
  intro j
  rw [List.getElem?_set]
  by_cases hj : j < m
  · rw [masksL_get _ _ _ _ _ hj]
    by_cases e : k / 60 = j
    · rw [if_pos e, if_pos (by rw [masksL_length]; omega)]
      subst e
      have : mval base now (k + 1) (k / 60) = mval base now k (k / 60) + 2 ^ (k % 60) := by simp only [mval]; rw [if_pos ⟨trivial, ho⟩]
      rw [masksL_get _ _ _ _ _ hm, this]
    · rw [if_neg e, masksL_get _ _ _ _ _ hj]
      simp only [mval]
      rw [if_neg (fun hc => e hc.1.symm), Nat.add_zero]
  · rw [if_neg (by omega), List.getElem?_eq_none (by rw [masksL_length]; omega), List.getElem?_eq_none (by rw [masksL_length]; omega)]
theorem masks_same (base now : List Int) (k m : Nat) (ho : ¬ odd base now k = true) : masksL base now (k + 1) m = masksL base now k m := by
  unfold masksL
  apply List.map_congr_left
  intro j _
  simp only [mval]
  rw [if_neg (fun hc => ho hc.2), Nat.add_zero]
theorem dTo_odd (base now : List Int) (k : Nat) (hl : base.length = now.length) (h : k < now.length) (ho : odd base now k = true) :
    (dTo base now k).set (k / 60) (((mval base now k (k / 60) + 2 ^ (k % 60) : Nat)) : Int) ++ [now[k]?.getD 0] = dTo base now (k + 1) := by
  unfold dTo
  rw [List.set_append_left _ _ (by rw [masksL_length]; omega), masks_set _ _ _ _ (by omega) ho, diffs_take base now k hl h, if_pos ho, List.append_assoc]
theorem dTo_same (base now : List Int) (k : Nat) (hl : base.length = now.length) (h : k < now.length) (ho : ¬ odd base now k = true) : dTo base now (k + 1) = dTo base now k := by
  unfold dTo
  rw [masks_same _ _ _ _ ho, diffs_take base now k hl h, if_neg ho, List.append_nil]
theorem dTo_zero (base now : List Int) : dTo base now 0 = List.replicate ((now.length + 59) / 60) 0 := by
  unfold dTo masksL
  simp only [mval, List.take_zero, diffs, List.append_nil]
  apply List.ext_getElem?
  intro j
  rw [List.getElem?_map, List.getElem?_replicate]
  by_cases h : j < (now.length + 59) / 60
  · rw [List.getElem?_range h, if_pos h]; rfl
  · rw [if_neg h, List.getElem?_eq_none (by simp; omega)]; rfl
theorem dTo_len (base now : List Int) (k : Nat) (hk : k ≤ now.length) : (dTo base now k).length ≤ (now.length + 59) / 60 + k := by
  unfold dTo
  rw [List.length_append, masksL_length]
  have := diffs_le (base.take k) (now.take k)
  rw [List.length_take] at this
  omega
theorem wrap_succ (i : Nat) (h : i ≤ 4611686018427387904) : wrap64 ((i : Int) + 1) = ((i + 1 : Nat) : Int) := by unfold wrap64; omega
theorem wrap_div60 (i : Nat) (h : i ≤ 4611686018427387904) : wrap64 (Int.tdiv (i : Int) 60) = ((i / 60 : Nat) : Int) := by rw [Int.tdiv_eq_ediv_of_nonneg (by omega)]; unfold wrap64; omega
theorem mod60 (i : Nat) : Int.tmod (i : Int) 60 = ((i % 60 : Nat) : Int) := by rw [Int.tmod_eq_emod_of_nonneg (by omega)]; omega
theorem diff_l0 (base now : List Int) (hl : base.length = now.length) (hn : now.length ≤ 600) : ∀ (d k i : Nat), now.length - i = d → i ≤ now.length → d < k →
    PDeltaBack.delta_Diff.l0 k base (dTo base now i) now (now.length : Int) (i : Int) = some (dTo base now now.length, 0) := by
  intro d
  induction d with
  | zero =>
    intro k i hd hi hk
    obtain ⟨k, rfl⟩ : ∃ m, k = m + 1 := ⟨k - 1, by omega⟩
    simp only [PDeltaBack.delta_Diff.l0]
    rw [if_neg (by omega), show i = now.length by omega]
  | succ d ih =>
    intro k i hd hi hk
    obtain ⟨k, rfl⟩ : ∃ m, k = m + 1 := ⟨k - 1, by omega⟩
    simp only [PDeltaBack.delta_Diff.l0]
    have h1 : i < now.length := by omega
    rw [if_pos (by omega), if_pos (by omega), if_pos (by omega), if_pos (by omega)]
    have e0 : rd now i = now[i]?.getD 0 := by unfold rd; rw [Int.toNat_natCast, List.getD_eq_getElem?_getD]
    have e1 : rd base i = base[i]?.getD 0 := by unfold rd; rw [Int.toNat_natCast, List.getD_eq_getElem?_getD]
    have hI := ih k (i + 1) (by omega) (by omega) (by omega)
    rw [e0, e1, wrap_succ i (by omega)]
    by_cases ho : odd base now i = true
    · have hne : ¬ now[i]?.getD 0 = base[i]?.getD 0 := by unfold odd at ho; exact bne_iff_ne.1 ho
      have hdl : i / 60 < (dTo base now i).length := by unfold dTo; rw [List.length_append, masksL_length]; omega
      rw [if_neg hne, wrap_div60 i (by omega), mod60, if_pos (by omega), if_pos (by omega), if_pos (by omega)]
      have e2 : rd (dTo base now i) ((i / 60 : Nat) : Int) = ((mval base now i (i / 60) : Nat) : Int) := by
        unfold rd dTo
        rw [Int.toNat_natCast, List.getD_eq_getElem?_getD, List.getElem?_append_left (by rw [masksL_length]; omega), masksL_get _ _ _ _ _ (by omega)]
        rfl
      rw [e2, shl_one _ (by omega), or_join _ _ (mval_here base now i) (by omega), Int.toNat_natCast]
      simp only [Option.bind_some]
      have hlen := dTo_len base now i hi
      rw [if_pos (by rw [List.length_set]; omega), dTo_odd base now i hl h1 ho]
      exact hI
    · have he : now[i]?.getD 0 = base[i]?.getD 0 := by
        unfold odd at ho
        exact Classical.byContradiction fun hc => ho (bne_iff_ne.2 hc)
      rw [if_pos he, ← dTo_same base now i hl h1 ho]
      exact hI
theorem masks_f (n : Nat) (h : n ≤ 1152921504606846976) : PDeltaBack.delta_masks.f (n : Int) = some (((n + 59) / 60 : Nat) : Int) := by
  unfold PDeltaBack.delta_masks.f
  rw [Int.tdiv_eq_ediv_of_nonneg (by unfold wrap64; omega)]
  congr 1
  unfold wrap64
  omega
theorem diff_f (base now : List Int) (hl : base.length = now.length) (hn : now.length ≤ 600) : PDeltaBack.delta_Diff.f (now.length + 1) base now = some (dTo base now now.length, 0) := by
  unfold PDeltaBack.delta_Diff.f
  rw [if_pos (by omega), if_neg (by omega), masks_f _ (by omega)]
  simp only [Option.bind_some]
  rw [if_pos (by omega), if_pos (by omega), Int.toNat_natCast, ← dTo_zero base now]
  exact diff_l0 base now hl hn now.length _ 0 (by omega) (by omega) (by omega)
/-- Diff of two rows that are as long, told by the law -/
theorem diff_any (A0 : Option Addr) (c0 : Nat) (base : List Int) (A1 : Option Addr) (c1 : Nat) (now : List Int) (w : World) (hl : base.length = now.length) (hn : now.length ≤ 600) (hr0 : ReadsInt w .i64 A0 base.length base) (hc0 : base.length ≤ c0) (hr1 : ReadsInt w .i64 A1 now.length now) (hc1 : now.length ≤ c1) :
    Calls Try.prog 10 #[.slice A0 base.length c0, .slice A1 now.length c1] w fun e w' => ∃ v, e = .returned (.tuple #[v, .int .i64 0]) ∧ w'.ownsRow w.heap.size 2 1 v (dTo base now now.length).length (nums .i64 (dTo base now now.length)) ∧ Below w.heap.size w w' := by
  have hC0 : Kd.C (Kd.int .i64) w A0 base.length base := Kd.C_of_reads (d := 0) hr0
  have hC1 : Kd.C (Kd.int .i64) w A1 now.length now := Kd.C_of_reads (d := 0) hr1
  refine (PDeltaBack.delta_Diff.calls _ A0 c0 base A1 c1 now _ _ w hC0 hc0 hC1 hc1 (diff_f base now hl hn)).mono ?_
  rintro e w' ⟨v, rfl, hR, hB⟩
  exact ⟨v, rfl, Kd.own_of_R hR, hB⟩
end Go.Proofs.Ytebedfcemdpedaa
