import Derived.Test.YtjfolhheejkedaaCrc
set_option linter.unusedVariables false
namespace Go.Proofs.Ytjfolhheejkedaa
open Crc

theorem on_nat (c : W) : (on c).toNat = bitStep c.toNat := by
  have h : c.getLsbD 0 = decide (c.toNat % 2 = 1) := by simp [BitVec.getLsbD]
  unfold on bitStep
  by_cases h1 : c.toNat % 2 = 1
  · rw [if_pos h1, h, decide_eq_true h1, if_pos rfl, BitVec.toNat_xor, BitVec.toNat_ushiftRight, Nat.shiftRight_eq_div_pow]
    rfl
  · rw [if_neg h1, h, decide_eq_false h1, if_neg (by decide), BitVec.toNat_xor, BitVec.toNat_ushiftRight, Nat.shiftRight_eq_div_pow]
    simp
theorem onN_on (n : Nat) : ∀ c : W, onN n (on c) = on (onN n c) := by
  induction n with
  | zero => intro c; rfl
  | succ n ih => intro c; simp only [onN]; rw [ih]
theorem onN_nat (n : Nat) (c : W) : (onN n c).toNat = bitSteps n c.toNat := by
  induction n with
  | zero => rfl
  | succ n ih => simp only [onN, bitSteps]; rw [onN_on, on_nat, ih]
theorem bits255 : ∀ i : Fin 32, (255#32).getLsbD i.val = decide (i.val < 8) := by decide
theorem split8 (c : W) : c = ((c >>> 8) <<< 8) ^^^ (c &&& 255#32) := by
  apply BitVec.eq_of_getLsbD_eq
  intro i hi
  rw [BitVec.getLsbD_xor, BitVec.getLsbD_and, bits255 ⟨i, hi⟩, BitVec.getLsbD_shiftLeft, BitVec.getLsbD_ushiftRight]
  by_cases h : i < 8
  · simp [h]
  · simp [h, hi, show 8 + (i - 8) = i by omega]
theorem step_nat (c x : W) : (Crc.step c x).toNat = (c.toNat / 256) ^^^ tabF ((c.toNat % 256) ^^^ x.toNat) := by
  unfold Crc.step
  have h24 : (c >>> 8).toNat < 2 ^ 24 := by
    rw [BitVec.toNat_ushiftRight, Nat.shiftRight_eq_div_pow]
    have := c.isLt
    omega
  have hand : (c &&& 255#32).toNat = c.toNat % 256 := by
    rw [BitVec.toNat_and]
    exact Nat.and_two_pow_sub_one_eq_mod c.toNat 8
  conv => lhs; rw [split8 c]
  rw [show ((c >>> 8) <<< 8) ^^^ (c &&& 255#32) ^^^ x = ((c >>> 8) <<< 8) ^^^ ((c &&& 255#32) ^^^ x) by ac_rfl, onN_xor, on8_shl h24, BitVec.toNat_xor, onN_nat, BitVec.toNat_xor, hand, BitVec.toNat_ushiftRight, Nat.shiftRight_eq_div_pow]
  rfl
def toW (x : Int) : W := BitVec.ofNat 32 x.toNat
theorem toW_nat {x : Int} (h0 : 0 ≤ x) (h1 : x < 256) : (toW x).toNat = x.toNat := by
  unfold toW
  rw [BitVec.toNat_ofNat]
  omega
theorem run_nat : ∀ (xs : List Int) (c : W), IsBytes xs → (run c (xs.map toW)).toNat = moreF c.toNat xs
  | [], _, _ => rfl
  | x :: xs, c, h => by
    have hx := h x (by simp)
    have ih := run_nat xs (Crc.step c (toW x)) (fun y hy => h y (by simp [hy]))
    rw [List.map_cons]
    show (run (Crc.step c (toW x)) (xs.map toW)).toNat = moreF (moreStep c.toNat x) xs
    rw [ih, step_nat, toW_nat hx.1 hx.2]
    rfl
theorem of_nat (xs : List Int) (h : IsBytes xs) : ofF xs = (~~~ run 0xffffffff#32 (xs.map toW)).toNat := by
  rw [BitVec.toNat_not, run_nat xs _ h]
  rfl
theorem xor_add (x y : Nat) (h : x < 256) : x ^^^ (y * 256) = x + y * 256 := by
  have h1 : (x ^^^ (y * 256)) % 2 ^ 8 = x := by
    rw [Nat.xor_mod_two_pow, show y * 256 % 2 ^ 8 = 0 by omega, Nat.xor_zero]; omega
  have h2 : (x ^^^ (y * 256)) / 2 ^ 8 = y := by
    rw [Nat.xor_div_two_pow, show y * 256 / 2 ^ 8 = y by omega, show x / 2 ^ 8 = 0 by omega, Nat.zero_xor]
  omega
def leN : List Int → Nat
  | [] => 0
  | x :: xs => x.toNat + leN xs * 256
theorem le_nat : ∀ (xs : List Int), IsBytes xs → xs.length ≤ 4 → (le (xs.map toW)).toNat = leN xs
  | [], _, _ => rfl
  | x :: xs, h, hl => by
    have hx := h x (by simp)
    have hb : IsBytes xs := fun y hy => h y (by simp [hy])
    have hl3 : xs.length ≤ 3 := by simpa using hl
    have ih := le_nat xs hb (by omega)
    have hlt := le_lt (xs.map toW) (fun y hy => by
      obtain ⟨z, hz, rfl⟩ := List.mem_map.1 hy
      have := hb z hz
      rw [toW_nat this.1 this.2]; omega) (by rw [List.length_map]; omega)
    rw [List.length_map] at hlt
    have hp : 2 ^ (8 * xs.length) ≤ 2 ^ 24 := Nat.pow_le_pow_right (by decide) (by omega)
    rw [List.map_cons]
    simp only [le, leN, BitVec.toNat_xor, BitVec.toNat_shiftLeft, Nat.shiftLeft_eq]
    rw [toW_nat hx.1 hx.2, Nat.mod_eq_of_lt (by omega), show (2 : Nat) ^ 8 = 256 from rfl, xor_add _ _ (by omega), ih]
theorem leN_zero : ∀ (xs : List Int), IsBytes xs → leN xs = 0 → ∀ x ∈ xs, x = 0
  | [], _, _, x, hx => by cases hx
  | y :: xs, h, h0, x, hx => by
    have hy := h y (by simp)
    simp only [leN] at h0
    rcases List.mem_cons.1 hx with rfl | hx
    · omega
    · exact leN_zero xs (fun z hz => h z (by simp [hz])) (by omega) x hx
theorem good_tail (b t : List Int) (hb : IsBytes b) (ht : IsBytes t) (hl : t.length = 4) : good (b.map toW) (t.map toW) ↔ tailF b = t := by
  have h1 : good (b.map toW) (t.map toW) ↔ leN t = ofF b := by
    unfold good
    rw [of_nat b hb, ← le_nat t ht (by omega)]
    exact ⟨fun h => by rw [h], fun h => BitVec.eq_of_toNat_eq h⟩
  rw [h1]
  match t, hl with
  | [t0, t1, t2, t3], _ =>
    have h0 := ht t0 (by simp)
    have h1 := ht t1 (by simp)
    have h2 := ht t2 (by simp)
    have h3 := ht t3 (by simp)
    have hlt := ofF_lt b hb
    unfold tailF
    generalize ofF b = s at hlt ⊢
    simp only [leN, tb, if_true, Nat.reduceLT, Nat.reducePow, List.cons.injEq, and_true]
    constructor
    · intro h; refine ⟨?_, ?_, ?_, ?_⟩ <;> omega
    · rintro ⟨e0, e1, e2, e3⟩; omega
end Go.Proofs.Ytjfolhheejkedaa
namespace Go.Proofs.Ytjfolhheejkedaa
open Crc
def xorB (a b : Int) : Int := ((a.toNat ^^^ b.toNat : Nat) : Int)
/-- what stands there when i bytes were changed -/
def burstL (L : List Int) (p : Nat) (by_ : List Int) (i : Nat) : List Int := (List.range L.length).map fun j => if p ≤ j ∧ j < p + i then xorB (L[j]?.getD 0) (by_[j - p]?.getD 0) else L[j]?.getD 0
/-- was something changed? -/
def someF (n p : Nat) (by_ : List Int) (i : Nat) : Bool := (List.range i).any fun q => decide (p + q < n) && (by_[q]?.getD 0 != 0)
theorem burstL_length (L : List Int) (p : Nat) (by_ : List Int) (i : Nat) : (burstL L p by_ i).length = L.length := by simp [burstL]
theorem burstL_get (L : List Int) (p : Nat) (by_ : List Int) (i j : Nat) (h : j < L.length) : (burstL L p by_ i)[j]? = some (if p ≤ j ∧ j < p + i then xorB (L[j]?.getD 0) (by_[j - p]?.getD 0) else L[j]?.getD 0) := by
  unfold burstL
  rw [List.getElem?_map, List.getElem?_range h]
  rfl
theorem burstL_zero (L : List Int) (p : Nat) (by_ : List Int) : burstL L p by_ 0 = L := by
  apply List.ext_getElem?
  intro j
  by_cases h : j < L.length
  · rw [burstL_get L p by_ 0 j h, if_neg (by omega), List.getElem?_eq_getElem h]; rfl
  · rw [List.getElem?_eq_none (by rw [burstL_length]; omega), List.getElem?_eq_none (by omega)]
theorem burstL_out (L : List Int) (p : Nat) (by_ : List Int) (i : Nat) (h : L.length ≤ p + i) : burstL L p by_ (i + 1) = burstL L p by_ i := by
  apply List.ext_getElem?
  intro j
  by_cases hj : j < L.length
  · rw [burstL_get _ _ _ _ _ hj, burstL_get _ _ _ _ _ hj]
    congr 1
    by_cases h2 : p ≤ j ∧ j < p + i
    · rw [if_pos h2, if_pos (by omega)]
    · rw [if_neg h2, if_neg (by omega)]
  · rw [List.getElem?_eq_none (by rw [burstL_length]; omega), List.getElem?_eq_none (by rw [burstL_length]; omega)]
theorem burstL_in (L : List Int) (p : Nat) (by_ : List Int) (i : Nat) (h : p + i < L.length) : burstL L p by_ (i + 1) = (burstL L p by_ i).set (p + i) (xorB ((burstL L p by_ i)[p + i]?.getD 0) (by_[i]?.getD 0)) := by
  apply List.ext_getElem?
  intro j
  rw [List.getElem?_set, burstL_length]
  by_cases hj : j < L.length
  · rw [burstL_get _ _ _ _ _ hj, burstL_get _ _ _ _ _ hj, burstL_get _ _ _ _ _ h]
    by_cases h2 : p + i = j
    · subst h2
      rw [if_pos (by omega), if_pos rfl, if_pos h, Option.getD_some, if_neg (by omega), show p + i - p = i by omega]
    · rw [if_neg h2]
      congr 1
      by_cases h3 : p ≤ j ∧ j < p + i
      · rw [if_pos h3, if_pos (by omega)]
      · rw [if_neg h3, if_neg (by omega)]
  · rw [if_neg (by omega), List.getElem?_eq_none (by rw [burstL_length]; omega), List.getElem?_eq_none (by rw [burstL_length]; omega)]
theorem someF_succ (n p : Nat) (by_ : List Int) (i : Nat) : someF n p by_ (i + 1) = (someF n p by_ i || (decide (p + i < n) && (by_[i]?.getD 0 != 0))) := by
  unfold someF
  rw [List.range_succ, List.any_append]
  simp
theorem xorB_range {a b : Int} (h0 : 0 ≤ a) (h1 : a < 256) (h2 : 0 ≤ b) (h3 : b < 256) : 0 ≤ xorB a b ∧ xorB a b < 256 := by
  have : a.toNat ^^^ b.toNat < 256 := Nat.xor_lt_two_pow (n := 8) (by omega) (by omega)
  unfold xorB
  omega
theorem burstL_bytes {L by_ : List Int} (hL : IsBytes L) (hb : IsBytes by_) (p i : Nat) : IsBytes (burstL L p by_ i) := fun y hy => by
  unfold burstL at hy
  obtain ⟨j, _, rfl⟩ := List.mem_map.1 hy
  have h1 := hL.get j
  have h2 := hb.get (j - p)
  split
  · exact xorB_range h1.1 h1.2 h2.1 h2.2
  · exact h1
theorem burstL_same {L by_ : List Int} (hL : IsBytes L) (p : Nat) (h : someF L.length p by_ 4 = false) : burstL L p by_ 4 = L := by
  apply List.ext_getElem?
  intro j
  by_cases hj : j < L.length
  · rw [burstL_get _ _ _ _ _ hj]
    by_cases h2 : p ≤ j ∧ j < p + 4
    · rw [if_pos h2]
      unfold someF at h
      rw [List.any_eq_false] at h
      have h3 := h (j - p) (List.mem_range.2 (by omega))
      rw [show p + (j - p) = j by omega, decide_eq_true hj] at h3
      have h4 : by_[j - p]?.getD 0 = 0 := by simpa using h3
      rw [h4, List.getElem?_eq_getElem hj]
      have := hL _ (List.getElem_mem hj)
      unfold xorB
      simp
      omega
    · rw [if_neg h2, List.getElem?_eq_getElem hj]; rfl
  · rw [List.getElem?_eq_none (by rw [burstL_length]; omega), List.getElem?_eq_none (by omega)]
theorem toW_xor {a b : Int} (h0 : 0 ≤ a) (h1 : a < 256) (h2 : 0 ≤ b) (h3 : b < 256) : toW (xorB a b) = toW a ^^^ toW b := by
  apply BitVec.eq_of_toNat_eq
  have hx := xorB_range h0 h1 h2 h3
  rw [BitVec.toNat_xor, toW_nat h0 h1, toW_nat h2 h3, toW_nat hx.1 hx.2]
  rfl
/-- what is laid over it -/
def overE (n p : Nat) (by_ : List Int) : List W := List.replicate p 0#32 ++ (by_.take (n - p)).map toW ++ List.replicate (n - p - 4) 0#32
theorem overE_length (n p : Nat) (by_ : List Int) (hl : by_.length = 4) (h : p ≤ n) : (overE n p by_).length = n := by
  unfold overE
  simp [hl]
  omega
theorem overE_get (n p : Nat) (by_ : List Int) (hl : by_.length = 4) (h : p ≤ n) (j : Nat) (hj : j < n) : (overE n p by_)[j]? = some (if p ≤ j ∧ j < p + 4 then toW (by_[j - p]?.getD 0) else 0#32) := by
  unfold overE
  rw [List.append_assoc, List.getElem?_append, List.length_replicate]
  by_cases h1 : j < p
  · rw [if_pos h1, if_neg (by omega), List.getElem?_replicate, if_pos h1]
  · rw [if_neg h1, List.getElem?_append, List.length_map, List.length_take, hl]
    by_cases h2 : j < p + 4
    · rw [if_pos (by omega), if_pos (by omega), List.getElem?_map, List.getElem?_take, if_pos (by omega), List.getElem?_eq_getElem (by omega)]
      rfl
    · rw [if_neg (by omega), if_neg (by omega), List.getElem?_replicate, if_pos (by omega)]
theorem burst_over {L by_ : List Int} (hL : IsBytes L) (hb : IsBytes by_) (hl : by_.length = 4) (p : Nat) (h : p ≤ L.length) : (burstL L p by_ 4).map toW = List.zipWith (· ^^^ ·) (L.map toW) (overE L.length p by_) := by
  apply List.ext_getElem?
  intro j
  rw [List.getElem?_zipWith, List.getElem?_map, List.getElem?_map]
  by_cases hj : j < L.length
  · rw [burstL_get _ _ _ _ _ hj, overE_get _ _ _ hl h _ hj, List.getElem?_eq_getElem hj]
    have h1 := hL _ (List.getElem_mem hj)
    have h2 := hb.get (j - p)
    simp only [Option.map_some, Option.getD_some]
    by_cases h3 : p ≤ j ∧ j < p + 4
    · rw [if_pos h3, if_pos h3, toW_xor h1.1 h1.2 h2.1 h2.2]
    · rw [if_neg h3, if_neg h3, BitVec.xor_zero]
  · rw [List.getElem?_eq_none (l := burstL _ _ _ _) (by rw [burstL_length]; omega), List.getElem?_eq_none (l := L) (by omega)]; rfl
theorem openF_ok_run (L : List Int) (hL : IsBytes L) (h4 : 4 ≤ L.length) : tailF (L.take (L.length - 4)) = L.drop (L.length - 4) ↔ run 0xffffffff#32 (L.map toW) = onN 32 0xffffffff#32 := by
  have hd : (L.drop (L.length - 4)).length = 4 := by rw [List.length_drop]; omega
  rw [← good_tail _ _ (hL.take _) (hL.drop _) hd, good_iff _ _ (by rw [List.length_map]; exact hd) (fun x hx => by
    obtain ⟨z, hz, rfl⟩ := List.mem_map.1 hx
    have := hL z (List.mem_of_mem_drop hz)
    rw [toW_nat this.1 this.2]; omega), ← List.map_append, List.take_append_drop]
/-- a right row of which up to four bytes side by side were changed is none -/
theorem burst_none {L by_ : List Int} (hL : IsBytes L) (hb : IsBytes by_) (hl : by_.length = 4) (h4 : 4 ≤ L.length) (hok : (openF L).2 = 0) (p : Nat) (hs : someF L.length p by_ 4 = true) : openF (burstL L p by_ 4) = ([], 3) := by
  have hp : p < L.length := by
    unfold someF at hs
    obtain ⟨q, _, hq⟩ := List.any_eq_true.1 hs
    simp at hq
    omega
  have hg : tailF (L.take (L.length - 4)) = L.drop (L.length - 4) := by
    apply Classical.byContradiction
    intro h
    unfold openF at hok
    rw [if_neg (by omega), if_neg h] at hok
    simp at hok
  rw [openF_ok_run L hL h4] at hg
  unfold openF
  rw [burstL_length, if_neg (by omega), if_neg]
  intro h
  have h' := (openF_ok_run _ (burstL_bytes hL hb p 4) (by rw [burstL_length]; exact h4)).1 (by rw [burstL_length]; exact h)
  rw [burst_over hL hb hl p (by omega)] at h'
  have hx := run_xor (L.map toW) (overE L.length p by_) 0xffffffff#32 0#32 (by rw [List.length_map, overE_length _ _ _ hl (by omega)])
  rw [BitVec.xor_zero, h', hg] at hx
  have h0 : run 0#32 (overE L.length p by_) = 0#32 := by
    have : onN 32 0xffffffff#32 ^^^ onN 32 0xffffffff#32 = onN 32 0xffffffff#32 ^^^ (onN 32 0xffffffff#32 ^^^ run 0#32 (overE L.length p by_)) := by rw [← hx]
    rw [BitVec.xor_self, ← BitVec.xor_assoc, BitVec.xor_self, BitVec.zero_xor] at this
    exact this.symm
  have hes : IsBytes (by_.take (L.length - p)) := hb.take _
  refine burst p (L.length - p - 4) ((by_.take (L.length - p)).map toW) (by simp [hl]; omega) (fun x hx => ?_) (fun hz => ?_) h0
  · obtain ⟨z, hz, rfl⟩ := List.mem_map.1 hx
    have := hes z hz
    rw [toW_nat this.1 this.2]; omega
  · have hz2 := le_nat _ hes (by rw [List.length_take]; omega)
    rw [hz] at hz2
    have hall := leN_zero _ hes hz2.symm
    unfold someF at hs
    obtain ⟨q, hq4, hq⟩ := List.any_eq_true.1 hs
    have hq4' := List.mem_range.1 hq4
    simp only [Bool.and_eq_true, decide_eq_true_eq, bne_iff_ne, ne_eq] at hq
    refine hq.2 ?_
    rw [List.getElem?_eq_getElem (by omega)]
    have hm : (by_.take (L.length - p))[q]'(by rw [List.length_take]; omega) = by_[q] := by simp
    exact hall _ (hm ▸ List.getElem_mem _)
end Go.Proofs.Ytjfolhheejkedaa
