import Derived.Test.YtjfolhheejkedaaRef3
import Derived.Test.YtjfolhheejkedaaRefE
set_option linter.unusedVariables false
namespace Go.Proofs.Ytjfolhheejkedaa
open Go.RowKit Go.Proofs.YtjfolhheejkedaaW.PrintWords Go.Proofs.YtjfolhheejkedaaW.PrintLast Go.Proofs.YtjfolhheejkedaaW.PrintMore

/-! ### Decode of the document -/
theorem ref_dec_step (k : Nat) (y : List Int) (n i : Int) (X B Y : Nat) (x10 y10 : Int) (ix : Nat) (kind : Int) (N : List Int) (h10 : x10 < 8) (hw : wrap64 (x10 + 1) = y10)
    (hix : wrap64 ((wrap64 (1 + (wrap64 (8 * i)))) + x10) = (ix : Int)) (hb : y[ix]? = some (B : Int)) (hB : B < 256) (hX : X * 256 + B = Y) (hY : Y < 18446744073709551616) :
    Ref.alidaderef08_Decode.l1 (k + 1) y n i (X : Int) x10 kind N = Ref.alidaderef08_Decode.l1 k y n i (Y : Int) y10 kind N := by
  have hlt : ix < y.length := (List.getElem?_eq_some_iff.1 hb).1
  have er : rd y (ix : Int) = (B : Int) := by simp [rd, List.getD_eq_getElem?_getD, hb]
  rw [Ref.alidaderef08_Decode.l1, if_pos h10, hix, if_pos (by omega), if_pos (by omega), er, hw]
  have e1 : IntKind.u64.wrap (B : Int) = (B : Int) := by rw [IntKind.wrap_u64]; omega
  have e2 : IntKind.u64.wrap ((X : Int) * 256) = (X : Int) * 256 := by rw [IntKind.wrap_u64]; omega
  have e3 : IntKind.u64.wrap ((X : Int) * 256 + (B : Int)) = (Y : Int) := by rw [IntKind.wrap_u64]; omega
  rw [e1, e2, e3]
theorem wrap64_id (x : Int) (h1 : -9223372036854775808 ≤ x) (h2 : x < 9223372036854775808) : wrap64 x = x := by unfold wrap64; omega
theorem numN8 (a b c d e f g h : Nat) : numN [(a : Int), (b : Int), (c : Int), (d : Int), (e : Int), (f : Int), (g : Int), (h : Int)] = ((((((((0 * 256 + a) * 256 + b) * 256 + c) * 256 + d) * 256 + e) * 256 + f) * 256 + g) * 256 + h) := rfl
theorem eight_of (t : List Int) (hb : IsBytes t) (h8 : t.length = 8) : ∃ a b c d e f g h : Nat, t = [(a : Int), (b : Int), (c : Int), (d : Int), (e : Int), (f : Int), (g : Int), (h : Int)] ∧ a < 256 ∧ b < 256 ∧ c < 256 ∧ d < 256 ∧ e < 256 ∧ f < 256 ∧ g < 256 ∧ h < 256 := by
  match t, h8 with
  | [a, b, c, d, e, f, g, h], _ =>
    have ha := hb a (by simp)
    have hb' := hb b (by simp)
    have hc := hb c (by simp)
    have hd := hb d (by simp)
    have he := hb e (by simp)
    have hf := hb f (by simp)
    have hg := hb g (by simp)
    have hh := hb h (by simp)
    exact ⟨a.toNat, b.toNat, c.toNat, d.toNat, e.toNat, f.toNat, g.toNat, h.toNat, by
      rw [Int.toNat_of_nonneg ha.1, Int.toNat_of_nonneg hb'.1, Int.toNat_of_nonneg hc.1, Int.toNat_of_nonneg hd.1, Int.toNat_of_nonneg he.1, Int.toNat_of_nonneg hf.1, Int.toNat_of_nonneg hg.1, Int.toNat_of_nonneg hh.1],
      by omega, by omega, by omega, by omega, by omega, by omega, by omega, by omega⟩
theorem part_get (x : Int) (t : List Int) (i j : Nat) (l : List Int) (hl : (t.drop (8 * i)).take 8 = l) (hj : j < 8) (v : Int) (hv : l[j]? = some v) : (x :: t)[1 + 8 * i + j]? = some v := by
  rw [show 1 + 8 * i + j = (8 * i + j) + 1 by omega, List.getElem?_cons_succ, ← hv, ← hl, List.getElem?_take_of_lt hj, List.getElem?_drop]
set_option maxHeartbeats 1000000 in
theorem ref_dec_eight (k : Nat) (x : Int) (t : List Int) (n : Int) (i : Nat) (hi : i ≤ 1000) (kind : Int) (N : List Int) (hb : IsBytes t) (ht : 8 * i + 8 ≤ t.length) (hN : N.length ≤ 1000) :
    Ref.alidaderef08_Decode.l1 (k + 8 + 1) (x :: t) n (i : Int) 0 0 kind N = Ref.alidaderef08_Decode.l0 k (x :: t) n (wrap64 ((i : Int) + 1)) kind (N ++ [numberF ((t.drop (8 * i)).take 8)]) := by
  obtain ⟨a, b, c, d, e, f, g, h, hl, ha, hb', hc, hd, he, hf, hg, hh⟩ := eight_of ((t.drop (8 * i)).take 8) ((hb.drop _).take _) (by rw [List.length_take, List.length_drop]; omega)
  have hp := fun j hj v hv => part_get x t i j _ hl hj v hv
  have hz : (0 : Int) = ((0 : Nat) : Int) := rfl
  have hix : ∀ j : Nat, j < 8 → wrap64 ((wrap64 (1 + (wrap64 (8 * (i : Int))))) + (j : Int)) = ((1 + 8 * i + j : Nat) : Int) := fun j hj => by
    rw [wrap64_id (8 * (i : Int)) (by omega) (by omega), wrap64_id (1 + 8 * (i : Int)) (by omega) (by omega), wrap64_id _ (by omega) (by omega)]
    omega
  have hnf : numberF ((t.drop (8 * i)).take 8) = wrap64 (((((((((0 * 256 + a) * 256 + b) * 256 + c) * 256 + d) * 256 + e) * 256 + f) * 256 + g) * 256 + h : Nat) : Int) := by
    rw [hl]; unfold numberF; rw [numN8]
  rw [hnf]
  clear hnf hl
  rw [show Ref.alidaderef08_Decode.l1 (k + 8 + 1) (x :: t) n (i : Int) 0 0 kind N = Ref.alidaderef08_Decode.l1 (k + 8 + 1) (x :: t) n (i : Int) ((0 : Nat) : Int) 0 kind N from rfl]
  rw [ref_dec_step (k + 8) _ n i 0 a (0 * 256 + a) 0 1 _ kind N (by decide) (by unfold wrap64; omega) (hix 0 (by decide)) (hp 0 (by decide) _ rfl) ha rfl (by omega)]
  rw [ref_dec_step (k + 7) _ n i _ b ((0 * 256 + a) * 256 + b) 1 2 _ kind N (by decide) (by unfold wrap64; omega) (hix 1 (by decide)) (hp 1 (by decide) _ rfl) hb' rfl (by omega)]
  rw [ref_dec_step (k + 6) _ n i _ c (((0 * 256 + a) * 256 + b) * 256 + c) 2 3 _ kind N (by decide) (by unfold wrap64; omega) (hix 2 (by decide)) (hp 2 (by decide) _ rfl) hc rfl (by omega)]
  rw [ref_dec_step (k + 5) _ n i _ d ((((0 * 256 + a) * 256 + b) * 256 + c) * 256 + d) 3 4 _ kind N (by decide) (by unfold wrap64; omega) (hix 3 (by decide)) (hp 3 (by decide) _ rfl) hd rfl (by omega)]
  rw [ref_dec_step (k + 4) _ n i _ e (((((0 * 256 + a) * 256 + b) * 256 + c) * 256 + d) * 256 + e) 4 5 _ kind N (by decide) (by unfold wrap64; omega) (hix 4 (by decide)) (hp 4 (by decide) _ rfl) he rfl (by omega)]
  rw [ref_dec_step (k + 3) _ n i _ f ((((((0 * 256 + a) * 256 + b) * 256 + c) * 256 + d) * 256 + e) * 256 + f) 5 6 _ kind N (by decide) (by unfold wrap64; omega) (hix 5 (by decide)) (hp 5 (by decide) _ rfl) hf rfl (by omega)]
  rw [ref_dec_step (k + 2) _ n i _ g (((((((0 * 256 + a) * 256 + b) * 256 + c) * 256 + d) * 256 + e) * 256 + f) * 256 + g) 6 7 _ kind N (by decide) (by unfold wrap64; omega) (hix 6 (by decide)) (hp 6 (by decide) _ rfl) hg rfl (by omega)]
  rw [ref_dec_step (k + 1) _ n i _ h ((((((((0 * 256 + a) * 256 + b) * 256 + c) * 256 + d) * 256 + e) * 256 + f) * 256 + g) * 256 + h) 7 8 _ kind N (by decide) (by unfold wrap64; omega) (hix 7 (by decide)) (hp 7 (by decide) _ rfl) hh rfl (by omega)]
  rw [Ref.alidaderef08_Decode.l1, if_neg (by decide), if_pos (by omega)]
theorem ref_dec_l0 (x : Int) (t : List Int) (kind : Int) (n : Nat) (hn : n ≤ 100) (hb : IsBytes t) (ht : t.length = 8 * n) : ∀ (d i : Nat), n - i = d → i ≤ n →
    Ref.alidaderef08_Decode.l0 (10 * d + 1) (x :: t) (n : Int) (i : Int) kind (numsOf t i) = some (kind, numsOf t n, 0) := by
  intro d
  induction d with
  | zero =>
    intro i hd hi
    obtain rfl : i = n := by omega
    show Ref.alidaderef08_Decode.l0 (0 + 1) _ _ _ _ _ = _
    rw [Ref.alidaderef08_Decode.l0, if_neg (by omega)]
  | succ d ih =>
    intro i hd hi
    rw [show 10 * (d + 1) + 1 = (10 * d + 1 + 8 + 1) + 1 by omega, Ref.alidaderef08_Decode.l0, if_pos (by omega), ref_dec_eight _ x t n i (by omega) kind _ hb (by omega) (by unfold numsOf; simp; omega),
      show wrap64 ((i : Int) + 1) = ((i + 1 : Nat) : Int) by unfold wrap64; omega]
    have e : numsOf t i ++ [numberF ((t.drop (8 * i)).take 8)] = numsOf t (i + 1) := by unfold numsOf; rw [List.range_succ, List.map_append]; rfl
    rw [e, ih (i + 1) (by omega) (by omega)]
theorem ref_dec_up (l : List Int) (k : Nat) (r : Int × List Int × Int) (k' : Nat) (hk : k ≤ k') (h : Ref.alidaderef08_Decode.f k l = some r) : Ref.alidaderef08_Decode.f k' l = some r :=
  leO_up (f := fun k => Ref.alidaderef08_Decode.f k l) (fun k => Ref.alidaderef08_Decode.mono l k) _ _ hk h
theorem ref_dec_f (l : List Int) (hb : IsBytes l) (hm : l.length ≤ 10000000000) (k : Nat) (hk : k = 10 * l.length + 5 + 200) : Ref.alidaderef08_Decode.f k l = some (decF l) := by
  have hbo := openF_bytes hb
  unfold Ref.alidaderef08_Decode.f decF
  rw [ref_open_f l hb hm k (by omega), Option.bind_some]
  by_cases h0 : (openF l).2 = 0
  · rw [if_pos h0, if_neg (show ¬ (openF l).2 ≠ 0 from fun h => h h0)]
    generalize (openF l).1 = y at hbo
    cases y with
    | nil => rfl
    | cons x t =>
      have hx := hbo x (by simp)
      have hbt : IsBytes t := fun z hz => hbo z (by simp [hz])
      have hw : wrap64 (rd (x :: t) 0) = x := by show wrap64 x = x; unfold wrap64; omega
      rw [if_neg (by simp; omega), if_pos (by simp), hw, ref_long_f, Option.bind_some]
      obtain ⟨k', rfl⟩ : ∃ m, k = m + 1 := ⟨k - 1, by omega⟩
      by_cases hl : longF x = 0
      · rw [if_pos (by omega)]
        show Ref.alidaderef08_Decode.j0 (k' + 1) _ _ _ _ = some (if longF x = 0 ∨ t.length ≠ 8 * longF x then (0, [], 2) else _)
        rw [Ref.alidaderef08_Decode.j0, if_pos rfl, if_pos (Or.inl hl)]
      · rw [if_neg (by omega)]
        show Ref.alidaderef08_Decode.j0 (k' + 1) _ _ _ _ = some (if longF x = 0 ∨ t.length ≠ 8 * longF x then (0, [], 2) else _)
        have hle := longF_le x
        have hw2 : wrap64 (1 + wrap64 (8 * (longF x : Int))) = 1 + 8 * (longF x : Int) := by unfold wrap64; omega
        rw [Ref.alidaderef08_Decode.j0, hw2]
        by_cases ht : t.length = 8 * longF x
        · rw [if_neg (by simp; omega), if_neg (by omega)]
          have h := ref_dec_l0 x t x (longF x) (by omega) hbt ht (longF x) 0 (by omega) (by omega)
          have hup : ∀ a b : Nat, a ≤ b → ∀ r, Ref.alidaderef08_Decode.l0 a (x :: t) (longF x : Int) 0 x [] = some r → Ref.alidaderef08_Decode.l0 b (x :: t) (longF x : Int) 0 x [] = some r := fun a b hab r hr =>
            leO_up (f := fun k => Ref.alidaderef08_Decode.l0 k (x :: t) (longF x : Int) 0 x []) (fun k => (Ref.alidaderef08_Decode.mono_l k).2.1 _ _ _ _ _) _ _ hab hr
          exact hup _ _ (by omega) _ h
        · rw [if_pos (by simp; omega), if_pos (Or.inr ht)]
  · rw [if_neg h0, if_pos h0]

/-! ### frame.Same -/
theorem eq_l0 (l0 l1 : List Int) (hl : l0.length = l1.length) (hm : l0.length ≤ 1152921504606846976) : ∀ (d k : Nat) (i : Nat), l0.length - i = d → i ≤ l0.length → d < k → (∀ j, j < i → l0[j]? = l1[j]?) →
    Ref.slices_Equal_int64_int64.l0 k l0 l1 (l0.length : Int) (i : Int) = some (decide (l0 = l1)) := by
  intro d
  induction d with
  | zero =>
    intro k i hd hi hk hj
    obtain ⟨k, rfl⟩ : ∃ m, k = m + 1 := ⟨k - 1, by omega⟩
    simp only [Ref.slices_Equal_int64_int64.l0]
    rw [if_neg (by omega)]
    have : l0 = l1 := List.ext_getElem? fun j => by
      by_cases h : j < i
      · exact hj j h
      · rw [List.getElem?_eq_none (by omega), List.getElem?_eq_none (by omega)]
    rw [decide_eq_true this]
  | succ d ih =>
    intro k i hd hi hk hj
    obtain ⟨k, rfl⟩ : ∃ m, k = m + 1 := ⟨k - 1, by omega⟩
    simp only [Ref.slices_Equal_int64_int64.l0]
    have h1 : i < l0.length := by omega
    rw [if_pos (by omega), if_pos (by omega), if_pos (by omega), if_pos (by omega)]
    have e0 : rd l0 i = l0[i] := by simp [rd, List.getD_eq_getElem?_getD, h1]
    have e1 : rd l1 i = l1[i]'(by omega) := by simp [rd, List.getD_eq_getElem?_getD, show i < l1.length by omega]
    rw [e0, e1]
    by_cases he : l0[i] = l1[i]'(by omega)
    · rw [if_pos he, show wrap64 ((i : Int) + 1) = ((i + 1 : Nat) : Int) by unfold wrap64; omega]
      refine ih k (i + 1) (by omega) (by omega) (by omega) fun j hj' => ?_
      by_cases h : j = i
      · subst h; rw [List.getElem?_eq_getElem h1, List.getElem?_eq_getElem (by omega), he]
      · exact hj j (by omega)
    · rw [if_neg he]
      have : ¬ l0 = l1 := fun h => he (by subst h; rfl)
      rw [decide_eq_false this]
theorem equal_f (l0 l1 : List Int) (hm : l0.length ≤ 1152921504606846976) : Ref.slices_Equal_int64_int64.f (l0.length + 1) l0 l1 = some (decide (l0 = l1)) := by
  unfold Ref.slices_Equal_int64_int64.f
  by_cases hl : l0.length = l1.length
  · rw [if_pos (by omega)]
    exact eq_l0 l0 l1 hl hm l0.length _ 0 (by omega) (by omega) (by omega) (fun j h => by omega)
  · rw [if_neg (by omega)]
    have : ¬ l0 = l1 := fun h => hl (by rw [h])
    rw [decide_eq_false this]
theorem same_f (k0 : Int) (l0 : List Int) (k1 : Int) (l1 : List Int) (hm : l0.length ≤ 1152921504606846976) : Ref.frame_Same.f (l0.length + 1) k0 l0 k1 l1 = some (sameF k0 l0 k1 l1) := by
  unfold Ref.frame_Same.f sameF
  rw [equal_f l0 l1 hm]
  by_cases hk : k0 = k1
  · rw [if_pos hk, Option.bind_some, decide_eq_true hk, Bool.and_true]
  · rw [if_neg hk, decide_eq_false hk, Bool.and_false]
end Go.Proofs.Ytjfolhheejkedaa
