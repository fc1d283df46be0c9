import Derived.Test.YtjfolhheejkedaaDok
set_option linter.unusedVariables false
namespace Go.Proofs.Ytjfolhheejkedaa
open Go.RowKit Go.Shelf Go.Joins Go.Proofs.YtjfolhheejkedaaW.PrintWords Go.Proofs.YtjfolhheejkedaaW.PrintLast Go.Proofs.YtjfolhheejkedaaW.PrintMore

theorem decode_any (A : Option Addr) (c n : Nat) (bs : List Int) (w : World) (hn : bs.length = n) (hb : IsBytes bs) (hx : n ≤ 100000000000) (hr : ReadsInt w .u8 A n bs) (hc : n ≤ c) :
    Calls Try.prog 10 #[.slice A n c] w (DecPost w (decF bs)) := by
  subst hn
  by_cases h : (openF bs).2 = 0
  · by_cases h2 : (openF bs).1 = [] ∨ ∃ x t, (openF bs).1 = x :: t ∧ (longF x = 0 ∨ t.length ≠ 8 * longF x)
    · exact decode_form A c bs w hb hx hr hc h h2
    · obtain ⟨x, t, he⟩ : ∃ x t, (openF bs).1 = x :: t := by
        cases he : (openF bs).1 with
        | nil => exact absurd (.inl he) h2
        | cons x t => exact ⟨x, t, rfl⟩
      have h3 : ¬ (longF x = 0 ∨ t.length ≠ 8 * longF x) := fun h3 => h2 (.inr ⟨x, t, he, h3⟩)
      have h4 : longF x ≠ 0 := fun h => h3 (.inl h)
      have h5 : t.length = 8 * longF x := Classical.byContradiction fun h => h3 (.inr h)
      exact decode_ok A c bs w hb hx hr hc h x t he _ rfl (by omega) h5
  · exact decode_err A c bs w hb hx hr hc h

theorem eight5 : eight 5 = [0, 0, 0, 0, 0, 0, 0, 5] := by decide
theorem encF5 : encF 7 [5] = 7 :: 0 :: 0 :: 0 :: 0 :: 0 :: 0 :: 0 :: 5 :: tailF [7, 0, 0, 0, 0, 0, 0, 0, 5] := by
  unfold encF wordsF
  simp [eight5]
set_option maxHeartbeats 2000000 in
theorem shown_any (w : World) : Calls Try.prog 7 #[] w fun e w' => e = .returned (.bool true) ∧ Below w.heap.size w w' := by
  have hq : ∀ W : World, ReadsInt (W.alloc (.cells #[.int .i64 5] 2)) .i64 (some ⟨W.heap.size, 0, none⟩) 1 [5] := fun W => reads_one W .i64 5 2
  have HQ := Aside0.mk hq
  clear hq
  have hl8 : longF 8 = 15 := by decide
  have HL8 := Aside0.mk hl8
  clear hl8
  have HB0 := Aside0.mk ((Below.refl _ w).alloc (Nat.le_refl _) (.cells #[.int .i64 5] 2))
  go_enter Try.func7, Try.ntmps7
  go_wp2_with (first | (go_at_call 9; refine (encode_any 7 (some ⟨w.heap.size, 0, none⟩) 1 [5] _ (HQ.out w)).mono ?_; rintro e w2 ⟨hB, h⟩; rw [if_pos (by decide)] at h; obtain ⟨v, rfl, ho⟩ := h; obtain ⟨A', c', rfl⟩ := own_slice ho; rw [encF5] at ho; obtain ⟨ad, rfl, hcx⟩ := own_head ho; obtain ⟨_, _, hall⟩ := own_reads' ho; obtain ⟨ad', e9, hall⟩ := hall (by decide); obtain rfl := Option.some.inj e9; have hc1 : w2.cell? { block := ad.block, off := ad.off + 1 } = some (.int .u8 0) := hall 1 (by decide); have hc8 : w2.cell? { block := ad.block, off := ad.off + 8 } = some (.int .u8 5) := hall 8 (by decide); have HB := Aside0.mk (below_step HB0.out hB); clear hB ho hall) | (go_at_call 12; refine (long_any 8 _).mono ?_; rintro e w' ⟨rfl, ⟨nd, rfl⟩⟩))
  go_ret
  exact ⟨by rw [HL8.out]; rfl, pw_below_drewN HB.out _⟩
end Go.Proofs.Ytjfolhheejkedaa
