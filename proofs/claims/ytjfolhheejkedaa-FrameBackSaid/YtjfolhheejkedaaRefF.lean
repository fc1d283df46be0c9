import Derived.Test.YtjfolhheejkedaaRef2
import Derived.Test.YtjfolhheejkedaaRefs
set_option linter.unusedVariables false
namespace Go.Proofs.Ytjfolhheejkedaa
open Go.RowKit Go.Proofs.YtjfolhheejkedaaW.PrintWords Go.Proofs.YtjfolhheejkedaaW.PrintLast Go.Proofs.YtjfolhheejkedaaW.PrintMore

/-! ### the document's sum is the sum -/
theorem ref_on_f (c : Nat) (h : c < 4294967296) : Ref.alidaderef07_on.f (c : Int) = some ((bitStep c : Nat) : Int) := by
  have e1 : Int.tmod (c : Int) 2 = ((c % 2 : Nat) : Int) := by rw [Int.tmod_eq_emod_of_nonneg (by omega)]; rfl
  have e2 : Int.tdiv (c : Int) 2 % 4294967296 = ((c / 2 : Nat) : Int) := by rw [Int.tdiv_eq_ediv_of_nonneg (by omega)]; omega
  unfold Ref.alidaderef07_on.f bitStep
  rw [e1, e2]
  by_cases h1 : c % 2 = 1
  · rw [if_pos (by omega), if_pos h1, show (3988292384 : Int) = ((3988292384 : Nat) : Int) from rfl, u32_xor_nat _ _ (by omega) (by omega)]
  · rw [if_neg (by omega), if_neg h1]
theorem bitSteps_in (n : Nat) : ∀ c, bitSteps n (bitStep c) = bitStep (bitSteps n c) := by
  induction n with
  | zero => intro c; rfl
  | succ n ih => intro c; simp only [bitSteps]; rw [ih]
theorem bitSteps_succ (n c : Nat) : bitSteps (n + 1) c = bitStep (bitSteps n c) := rfl
theorem wrap8 (r : Nat) (h : r + 1 ≤ 8) : wrap64 (((8 - (r + 1) : Nat) : Int) + 1) = ((8 - r : Nat) : Int) := by
  unfold wrap64; omega
theorem lt8 (r : Nat) (h : r + 1 ≤ 8) : ((8 - (r + 1) : Nat) : Int) < 8 := by omega
theorem ref_l1_on (c : Nat) (l : List Int) (i : Nat) (k s : Nat) (x7 y7 : Int) (h7 : x7 < 8) (hy : wrap64 (x7 + 1) = y7) (hs : s < 4294967296) :
    Ref.alidaderef07_More.l1 (k + 1) (c : Int) l (i : Int) (s : Int) x7 = Ref.alidaderef07_More.l1 k (c : Int) l (i : Int) ((bitStep s : Nat) : Int) y7 := by
  rw [Ref.alidaderef07_More.l1, if_pos h7, ref_on_f s hs, Option.bind_some, hy]
theorem ref_l1_end (c : Nat) (hc : c < 4294967296) (l : List Int) (i : Nat) (k s : Nat) (hs : s < 4294967296) :
    Ref.alidaderef07_More.l1 (k + 1) (c : Int) l (i : Int) (s : Int) 8 = Ref.alidaderef07_More.l0 k (((c / 256) ^^^ s : Nat) : Int) l (wrap64 ((i : Int) + 1)) := by
  rw [Ref.alidaderef07_More.l1, if_neg (by omega)]
  have e : (Int.tdiv (c : Int) 256) % 4294967296 = ((c / 256 : Nat) : Int) := by rw [Int.tdiv_eq_ediv_of_nonneg (by omega)]; omega
  rw [e, u32_xor_nat _ _ (by omega) hs]
theorem ref_more_l1 (c : Nat) (hc : c < 4294967296) (l : List Int) (i : Nat) (k : Nat) (s : Nat) (hs : s < 4294967296) :
    Ref.alidaderef07_More.l1 (k + 8 + 1) (c : Int) l (i : Int) (s : Int) 0 = Ref.alidaderef07_More.l0 k (((c / 256) ^^^ bitSteps 8 s : Nat) : Int) l (wrap64 ((i : Int) + 1)) := by
  have h0 := bitSteps_lt 0 s hs
  have h1 := bitSteps_lt 1 s hs
  have h2 := bitSteps_lt 2 s hs
  have h3 := bitSteps_lt 3 s hs
  have h4 := bitSteps_lt 4 s hs
  have h5 := bitSteps_lt 5 s hs
  have h6 := bitSteps_lt 6 s hs
  have h7 := bitSteps_lt 7 s hs
  have h8 := bitSteps_lt 8 s hs
  rw [show (s : Int) = ((bitSteps 0 s : Nat) : Int) from rfl]
  rw [ref_l1_on c l i (k + 8) _ 0 1 (by decide) (by unfold wrap64; omega) h0, ← bitSteps_succ,
    ref_l1_on c l i (k + 7) _ 1 2 (by decide) (by unfold wrap64; omega) h1, ← bitSteps_succ,
    ref_l1_on c l i (k + 6) _ 2 3 (by decide) (by unfold wrap64; omega) h2, ← bitSteps_succ,
    ref_l1_on c l i (k + 5) _ 3 4 (by decide) (by unfold wrap64; omega) h3, ← bitSteps_succ,
    ref_l1_on c l i (k + 4) _ 4 5 (by decide) (by unfold wrap64; omega) h4, ← bitSteps_succ,
    ref_l1_on c l i (k + 3) _ 5 6 (by decide) (by unfold wrap64; omega) h5, ← bitSteps_succ,
    ref_l1_on c l i (k + 2) _ 6 7 (by decide) (by unfold wrap64; omega) h6, ← bitSteps_succ,
    ref_l1_on c l i (k + 1) _ 7 8 (by decide) (by unfold wrap64; omega) h7, ← bitSteps_succ,
    ref_l1_end c hc l i k _ h8]
theorem ref_more_l0 (l : List Int) (hb : IsBytes l) (hm : l.length ≤ 1152921504606846976) : ∀ (d : Nat) (i c : Nat), l.length - i = d → i ≤ l.length → c < 4294967296 →
    Ref.alidaderef07_More.l0 (10 * d + 1) (c : Int) l (i : Int) = some ((moreF c (l.drop i) : Nat) : Int) := by
  intro d
  induction d with
  | zero =>
    intro i c hd hi hc
    show Ref.alidaderef07_More.l0 (0 + 1) (c : Int) l (i : Int) = _
    rw [Ref.alidaderef07_More.l0, if_neg (by omega), List.drop_of_length_le (by omega)]
    rfl
  | succ d ih =>
    intro i c hd hi hc
    have hlt : i < l.length := by omega
    have hx := hb _ (List.getElem_mem hlt)
    have er : rd l (i : Int) = l[i] := by simp [rd, List.getD_eq_getElem?_getD, hlt]
    rw [show 10 * (d + 1) + 1 = (10 * d + 1 + 8 + 1) + 1 by omega, Ref.alidaderef07_More.l0, if_pos (by omega), if_pos (by omega), er]
    have em : Int.tmod (c : Int) 256 = ((c % 256 : Nat) : Int) := by rw [Int.tmod_eq_emod_of_nonneg (by omega)]; rfl
    have ex : l[i] % 4294967296 = ((l[i].toNat : Nat) : Int) := by omega
    rw [em, ex, u32_xor_nat _ _ (by omega) (by omega)]
    have hxb := xor_byte c l[i] hx.1 hx.2
    have h1 := ref_more_l1 c hc l i (10 * d + 1) ((c % 256) ^^^ l[i].toNat) (by omega)
    rw [h1, show wrap64 ((i : Int) + 1) = ((i + 1 : Nat) : Int) by unfold wrap64; omega]
    have hs := moreStep_lt c l[i] hc hx.1 hx.2
    have e9 : (c / 256) ^^^ bitSteps 8 ((c % 256) ^^^ l[i].toNat) = moreStep c l[i] := rfl
    rw [e9, ih (i + 1) _ (by omega) (by omega) hs, List.drop_eq_getElem_cons hlt]
    simp only [moreF, List.foldl_cons]
theorem ref_of_f (l : List Int) (hb : IsBytes l) (hm : l.length ≤ 1152921504606846976) : Ref.alidaderef07_Of.f (10 * l.length + 1) l = some ((ofF l : Nat) : Int) := by
  unfold Ref.alidaderef07_Of.f Ref.alidaderef07_More.f
  have h := ref_more_l0 l hb hm l.length 0 4294967295 (by omega) (by omega) (by decide)
  rw [show ((0 : Nat) : Int) = 0 from rfl, show ((4294967295 : Nat) : Int) = 4294967295 from rfl, List.drop_zero] at h
  rw [h]
  simp only [Option.bind_some, Option.some.injEq]
  have := moreF_lt l 4294967295 (by decide) hb
  unfold ofF
  omega
end Go.Proofs.Ytjfolhheejkedaa
namespace Go.Proofs.Ytjfolhheejkedaa
open Go.RowKit Go.Proofs.YtjfolhheejkedaaW.PrintWords Go.Proofs.YtjfolhheejkedaaW.PrintLast Go.Proofs.YtjfolhheejkedaaW.PrintMore
theorem leO_up {α : Type} {f : Nat → Option α} (h : ∀ k, LeO (f k) (f (k + 1))) (a b : Nat) (hab : a ≤ b) {r : α} (hr : f a = some r) : f b = some r := by
  obtain ⟨d, rfl⟩ := Nat.le.dest hab
  induction d with
  | zero => exact hr
  | succ d ih => exact h _ _ (ih (by omega))
theorem ref_of_up (l : List Int) (hb : IsBytes l) (hm : l.length ≤ 1152921504606846976) (k : Nat) (hk : 10 * l.length + 1 ≤ k) : Ref.alidaderef07_Of.f k l = some ((ofF l : Nat) : Int) :=
  leO_up (f := fun k => Ref.alidaderef07_Of.f k l) (fun k => Ref.alidaderef07_Of.mono l k) _ _ hk (ref_of_f l hb hm)
end Go.Proofs.Ytjfolhheejkedaa
namespace Go.Proofs.Ytjfolhheejkedaa
open Go.RowKit Go.Proofs.YtjfolhheejkedaaW.PrintWords Go.Proofs.YtjfolhheejkedaaW.PrintLast Go.Proofs.YtjfolhheejkedaaW.PrintMore
theorem ref_seal_l0 (k : Nat) (y : List Int) (s : Nat) (hs : s < 4294967296) (hy : y.length ≤ 100000000000) :
    Ref.alidaderef07_Seal.l0 (k + 5) y (s : Int) 0 = some (y ++ [tb s 0 4, tb s 1 4, tb s 2 4, tb s 3 4]) := by
  have em : ∀ c : Nat, Int.tmod (c : Int) 256 % 256 = ((c % 256 : Nat) : Int) := fun c => by rw [Int.tmod_eq_emod_of_nonneg (by omega)]; omega
  have ed : ∀ c : Nat, c < 4294967296 → (Int.tdiv (c : Int) 256) % 4294967296 = ((c / 256 : Nat) : Int) := fun c hc => by rw [Int.tdiv_eq_ediv_of_nonneg (by omega)]; omega
  rw [Ref.alidaderef07_Seal.l0, if_pos (by decide), if_pos (by omega), em, ed _ hs, show wrap64 (0 + 1) = 1 by unfold wrap64; omega]
  rw [Ref.alidaderef07_Seal.l0, if_pos (by decide), if_pos (by simp; omega), em, ed _ (by omega), show wrap64 (1 + 1) = 2 by unfold wrap64; omega]
  rw [Ref.alidaderef07_Seal.l0, if_pos (by decide), if_pos (by simp; omega), em, ed _ (by omega), show wrap64 (2 + 1) = 3 by unfold wrap64; omega]
  rw [Ref.alidaderef07_Seal.l0, if_pos (by decide), if_pos (by simp; omega), em, ed _ (by omega), show wrap64 (3 + 1) = 4 by unfold wrap64; omega]
  rw [Ref.alidaderef07_Seal.l0, if_neg (by decide)]
  simp [tb, Nat.div_div_eq_div_mul]
end Go.Proofs.Ytjfolhheejkedaa
namespace Go.Proofs.Ytjfolhheejkedaa
open Go.RowKit Go.Proofs.YtjfolhheejkedaaW.PrintWords Go.Proofs.YtjfolhheejkedaaW.PrintLast Go.Proofs.YtjfolhheejkedaaW.PrintMore
theorem ref_seal_f (l : List Int) (hb : IsBytes l) (hm : l.length ≤ 100000000000) (k : Nat) (hk : 10 * l.length + 5 ≤ k) : Ref.alidaderef07_Seal.f k l = some (l ++ tailF l) := by
  unfold Ref.alidaderef07_Seal.f
  rw [Option.bind_some, if_pos (by simp; omega), ref_of_up l hb (by omega) k (by omega), Option.bind_some, List.nil_append]
  obtain ⟨k', rfl⟩ : ∃ m, k = m + 5 := ⟨k - 5, by omega⟩
  exact ref_seal_l0 k' l (ofF l) (ofF_lt l hb) hm
theorem ref07_same_l0 (l0 l1 : List Int) (hl : l0.length = l1.length) (hm : l0.length ≤ 1152921504606846976) : ∀ (d k : Nat) (i : Nat), l0.length - i = d → i ≤ l0.length → d < k → (∀ j, j < i → l0[j]? = l1[j]?) →
    Ref.alidaderef07_Same.l0 k l0 l1 (i : Int) = some (decide (l0 = l1)) := by
  intro d
  induction d with
  | zero =>
    intro k i hd hi hk hj
    obtain ⟨k, rfl⟩ : ∃ m, k = m + 1 := ⟨k - 1, by omega⟩
    simp only [Ref.alidaderef07_Same.l0]
    rw [if_neg (by omega)]
    have : l0 = l1 := List.ext_getElem? fun j => by
      by_cases h : j < i
      · exact hj j h
      · rw [List.getElem?_eq_none (by omega), List.getElem?_eq_none (by omega)]
    rw [decide_eq_true this]
  | succ d ih =>
    intro k i hd hi hk hj
    obtain ⟨k, rfl⟩ : ∃ m, k = m + 1 := ⟨k - 1, by omega⟩
    simp only [Ref.alidaderef07_Same.l0]
    have h1 : i < l0.length := by omega
    rw [if_pos (by omega), if_pos (by omega), if_pos (by omega)]
    have e0 : rd l0 i = l0[i] := by simp [rd, List.getD_eq_getElem?_getD, h1]
    have e1 : rd l1 i = l1[i]'(by omega) := by simp [rd, List.getD_eq_getElem?_getD, show i < l1.length by omega]
    rw [e0, e1]
    by_cases he : l0[i] = l1[i]'(by omega)
    · rw [if_pos he, show wrap64 ((i : Int) + 1) = ((i + 1 : Nat) : Int) by unfold wrap64; omega]
      refine ih k (i + 1) (by omega) (by omega) (by omega) fun j hj' => ?_
      by_cases h : j = i
      · subst h; rw [List.getElem?_eq_getElem h1, List.getElem?_eq_getElem (by omega), he]
      · exact hj j (by omega)
    · rw [if_neg he]
      have : ¬ l0 = l1 := fun h => he (by subst h; rfl)
      rw [decide_eq_false this]
theorem ref07_same_f (l0 l1 : List Int) (hm : l0.length ≤ 1152921504606846976) (k : Nat) (hk : l0.length < k) : Ref.alidaderef07_Same.f k l0 l1 = some (decide (l0 = l1)) := by
  unfold Ref.alidaderef07_Same.f
  by_cases hl : l0.length = l1.length
  · rw [if_pos (by omega)]
    exact ref07_same_l0 l0 l1 hl hm l0.length _ 0 (by omega) (by omega) (by omega) (fun j h => by omega)
  · rw [if_neg (by omega)]
    have : ¬ l0 = l1 := fun h => hl (by rw [h])
    rw [decide_eq_false this]
end Go.Proofs.Ytjfolhheejkedaa
namespace Go.Proofs.Ytjfolhheejkedaa
open Go.RowKit Go.Proofs.YtjfolhheejkedaaW.PrintWords Go.Proofs.YtjfolhheejkedaaW.PrintLast Go.Proofs.YtjfolhheejkedaaW.PrintMore
theorem ref_open_f (l : List Int) (hb : IsBytes l) (hm : l.length ≤ 10000000000) (k : Nat) (hk : 10 * l.length + 5 ≤ k) : Ref.alidaderef07_Open.f k l = some (openF l) := by
  unfold Ref.alidaderef07_Open.f openF
  by_cases h4 : l.length < 4
  · rw [if_pos (by omega), if_pos h4]
  · obtain ⟨m, hm4⟩ : ∃ m, l.length = m + 4 := ⟨l.length - 4, by omega⟩
    have hw : wrap64 ((l.length : Int) - 4) = (m : Int) := by unfold wrap64; omega
    have hlt : (l.take m).length = m := by rw [List.length_take]; omega
    rw [if_neg (by omega), if_neg h4, Option.bind_some, hw, if_pos (by omega), if_pos (by omega), Int.toNat_natCast, if_pos (by rw [hlt]; simp; omega), Option.bind_some, List.nil_append,
      ref_seal_f _ (hb.take m) (by omega) k (by omega), Option.bind_some, ref07_same_f _ _ (by rw [List.length_append, hlt, tailF_length]; omega) k (by rw [List.length_append, hlt, tailF_length]; omega), Option.bind_some, hm4, Nat.add_sub_cancel]
    by_cases he : tailF (l.take m) = l.drop m
    · have e : l.take m ++ tailF (l.take m) = l := by rw [he, List.take_append_drop]
      rw [if_pos (decide_eq_true e), if_pos he]
    · have e : ¬ l.take m ++ tailF (l.take m) = l := fun h => he (by
        have h2 : l.take m ++ tailF (l.take m) = l.take m ++ l.drop m := by rw [h, List.take_append_drop]
        exact List.append_cancel_left h2)
      rw [if_neg (by simpa using e), if_neg he]
end Go.Proofs.Ytjfolhheejkedaa
