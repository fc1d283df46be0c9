import Derived.Test.YtjfolhheejkedaaRefF
set_option linter.unusedVariables false
namespace Go.Proofs.Ytjfolhheejkedaa
open Go.RowKit Go.Proofs.YtjfolhheejkedaaW.PrintWords Go.Proofs.YtjfolhheejkedaaW.PrintLast Go.Proofs.YtjfolhheejkedaaW.PrintMore
theorem ref_enc_step (k : Nat) (y : List Int) (x6 : Int) (X D E : Nat) (x9 y9 : Int) (a : Int) (l : List Int) (h9 : x9 < 8) (hw : wrap64 (x9 + 1) = y9) (hX : X < 18446744073709551616) (hD : 0 < D) (hD2 : D < 18446744073709551616) (hE : D / 256 = E) (hy : y.length ≤ 100000000000) :
    Ref.alidaderef08_Encode.l1 (k + 1) y x6 (X : Int) (D : Int) x9 a l = Ref.alidaderef08_Encode.l1 k (y ++ [((X / D % 256 : Nat) : Int)]) x6 (X : Int) (E : Int) y9 a l := by
  have hle : X / D ≤ X := Nat.div_le_self X D
  have e1 : (Int.tmod (IntKind.u64.wrap (Int.tdiv (X : Int) (D : Int))) 256) % 256 = ((X / D % 256 : Nat) : Int) := by
    rw [Int.tdiv_eq_ediv_of_nonneg (by omega), show (X : Int) / (D : Int) = ((X / D : Nat) : Int) from rfl, IntKind.wrap_u64]
    generalize X / D = q at hle
    rw [Int.tmod_eq_emod_of_nonneg (by omega)]
    omega
  have e2 : IntKind.u64.wrap (Int.tdiv (D : Int) 256) = (E : Int) := by
    rw [Int.tdiv_eq_ediv_of_nonneg (by omega), IntKind.wrap_u64]
    omega
  rw [Ref.alidaderef08_Encode.l1, if_pos h9, if_neg (by omega), if_pos (by omega), e1, e2, hw]
end Go.Proofs.Ytjfolhheejkedaa
namespace Go.Proofs.Ytjfolhheejkedaa
open Go.RowKit Go.Proofs.YtjfolhheejkedaaW.PrintWords Go.Proofs.YtjfolhheejkedaaW.PrintLast Go.Proofs.YtjfolhheejkedaaW.PrintMore
theorem ref_enc_eight (k : Nat) (y : List Int) (x6 : Int) (x a : Int) (l : List Int) (hy : y.length ≤ 10000000000) :
    Ref.alidaderef08_Encode.l1 (k + 8 + 1) y x6 (IntKind.u64.wrap x) 72057594037927936 0 a l = Ref.alidaderef08_Encode.l0 k (y ++ eight x) (wrap64 (x6 + 1)) a l := by
  have h0 : 0 ≤ IntKind.u64.wrap x := wrap_u64_nonneg x
  have h1 : IntKind.u64.wrap x < 18446744073709551616 := by rw [IntKind.wrap_u64]; omega
  have he : eight x = (List.range 8).map fun i => (((IntKind.u64.wrap x).toNat / 2 ^ (56 - 8 * i) % 256 : Nat) : Int) := List.map_congr_left fun i _ => byteAt_nat x i
  rw [he]
  obtain ⟨X, hX⟩ : ∃ X : Nat, IntKind.u64.wrap x = (X : Int) := ⟨_, (Int.toNat_of_nonneg h0).symm⟩
  rw [hX] at h1 ⊢
  rw [Int.toNat_natCast]
  have hX2 : X < 18446744073709551616 := by omega
  rw [show (72057594037927936 : Int) = ((72057594037927936 : Nat) : Int) from rfl]
  rw [ref_enc_step (k + 8) _ x6 X 72057594037927936 281474976710656 0 1 a l (by decide) (by unfold wrap64; omega) hX2 (by decide) (by decide) (by decide) (by omega),
    ref_enc_step (k + 7) _ x6 X 281474976710656 1099511627776 1 2 a l (by decide) (by unfold wrap64; omega) hX2 (by decide) (by decide) (by decide) (by simp; omega),
    ref_enc_step (k + 6) _ x6 X 1099511627776 4294967296 2 3 a l (by decide) (by unfold wrap64; omega) hX2 (by decide) (by decide) (by decide) (by simp; omega),
    ref_enc_step (k + 5) _ x6 X 4294967296 16777216 3 4 a l (by decide) (by unfold wrap64; omega) hX2 (by decide) (by decide) (by decide) (by simp; omega),
    ref_enc_step (k + 4) _ x6 X 16777216 65536 4 5 a l (by decide) (by unfold wrap64; omega) hX2 (by decide) (by decide) (by decide) (by simp; omega),
    ref_enc_step (k + 3) _ x6 X 65536 256 5 6 a l (by decide) (by unfold wrap64; omega) hX2 (by decide) (by decide) (by decide) (by simp; omega),
    ref_enc_step (k + 2) _ x6 X 256 1 6 7 a l (by decide) (by unfold wrap64; omega) hX2 (by decide) (by decide) (by decide) (by simp; omega),
    ref_enc_step (k + 1) _ x6 X 1 0 7 8 a l (by decide) (by unfold wrap64; omega) hX2 (by decide) (by decide) (by decide) (by simp; omega),
    Ref.alidaderef08_Encode.l1, if_neg (by decide)]
  congr 1
  simp [List.range, List.range.loop]
end Go.Proofs.Ytjfolhheejkedaa
namespace Go.Proofs.Ytjfolhheejkedaa
open Go.RowKit Go.Proofs.YtjfolhheejkedaaW.PrintWords Go.Proofs.YtjfolhheejkedaaW.PrintLast Go.Proofs.YtjfolhheejkedaaW.PrintMore
theorem ref_enc_l0 (l : List Int) (a : Int) (K : Nat) (hl : l.length ≤ 100) : ∀ (d i : Nat) (y : List Int), l.length - i = d → i ≤ l.length → IsBytes y → y.length = 1 + 8 * i → 10 * (1 + 8 * l.length) + 5 ≤ K →
    Ref.alidaderef08_Encode.l0 (10 * d + K + 1) y (i : Int) a l = some ((y ++ (l.drop i).flatMap eight) ++ tailF (y ++ (l.drop i).flatMap eight), 0) := by
  intro d
  induction d with
  | zero =>
    intro i y hd hi hb hy hK
    rw [show 10 * 0 + K + 1 = K + 1 by omega, Ref.alidaderef08_Encode.l0, if_neg (by omega), List.drop_of_length_le (by omega), List.flatMap_nil, List.append_nil]
    obtain ⟨K', rfl⟩ : ∃ m, K = m := ⟨K, rfl⟩
    rw [ref_seal_f y hb (by omega) K (by omega)]
    rfl
  | succ d ih =>
    intro i y hd hi hb hy hK
    have hlt : i < l.length := by omega
    have er : rd l (i : Int) = l[i] := by simp [rd, List.getD_eq_getElem?_getD, hlt]
    rw [show 10 * (d + 1) + K + 1 = (10 * d + K + 1 + 8 + 1) + 1 by omega, Ref.alidaderef08_Encode.l0, if_pos (by omega), if_pos (by omega), er, ref_enc_eight _ _ _ _ _ _ (by omega),
      show wrap64 ((i : Int) + 1) = ((i + 1 : Nat) : Int) by unfold wrap64; omega, ih (i + 1) _ (by omega) (by omega) (hb.append (eight_bytes _)) (by rw [List.length_append, show (eight l[i]).length = 8 from rfl]; omega) hK,
      List.drop_eq_getElem_cons hlt, List.flatMap_cons]
    simp only [List.append_assoc]
end Go.Proofs.Ytjfolhheejkedaa
namespace Go.Proofs.Ytjfolhheejkedaa
open Go.RowKit Go.Proofs.YtjfolhheejkedaaW.PrintWords Go.Proofs.YtjfolhheejkedaaW.PrintLast Go.Proofs.YtjfolhheejkedaaW.PrintMore
theorem ref_right_f (k : Int) (l : List Int) : Ref.alidaderef08_Right.f k l = some (rightF k l.length) := by
  unfold Ref.alidaderef08_Right.f
  rw [ref_long_f]
  unfold rightF
  simp only [Option.bind_some]
  by_cases h : longF k = 0
  · rw [h]; simp
  · rw [if_pos (by omega), int_beq, decide_eq_true (by omega : 0 < longF k)]; rfl
theorem ref_enc_f (a : Int) (l : List Int) (hl : l.length ≤ 100) (k : Nat) (hk : k = 10 * l.length + (10 * (1 + 8 * l.length) + 5) + 1) :
    Ref.alidaderef08_Encode.f k a l = some (if rightF a l.length = true then (encF a l, 0) else ([], 1)) := by
  subst hk
  unfold Ref.alidaderef08_Encode.f
  rw [ref_right_f, Option.bind_some]
  by_cases hR : rightF a l.length = true
  · rw [if_pos hR, if_pos hR]
    have hb : IsBytes [a % 256] := fun x hx => by
      have := List.mem_singleton.1 hx
      subst this
      omega
    have h := ref_enc_l0 l a (10 * (1 + 8 * l.length) + 5) hl l.length 0 [a % 256] (by omega) (by omega) hb rfl (Nat.le_refl _)
    rw [show ((0 : Nat) : Int) = 0 from rfl, List.drop_zero] at h
    rw [h]
    rfl
  · rw [if_neg hR, if_neg hR]
end Go.Proofs.Ytjfolhheejkedaa
