import Derived.Test.YtjfolhheejkedaaPlain
set_option linter.unusedVariables false
namespace Go.Proofs.Ytjfolhheejkedaa
open Go.RowKit Go.Shelf Go.Joins Go.Proofs.YtjfolhheejkedaaW.PrintWords Go.Proofs.YtjfolhheejkedaaW.PrintLast Go.Proofs.YtjfolhheejkedaaW.PrintMore

def TruePost (w : World) (e : Ending) (w' : World) : Prop := e = .returned (.bool true) ∧ Below w.heap.size w w'
theorem encode_any2 (k : Int) (A : Option Addr) (c n : Nat) (xs : List Int) (w : World) (hn : xs.length = n) (hr : ReadsInt w .i64 A n xs) :
    Calls Try.prog 9 #[.agg #[.int .i64 k, .slice A n c]] w (EncPost w k xs) := by
  subst hn
  exact encode_any k A c xs w hr
theorem encF_length (k : Int) (xs : List Int) : (encF k xs).length = 5 + 8 * xs.length := by
  unfold encF
  rw [List.length_append, words_length, tailF_length]
  omega
theorem encF_bytes (k : Int) (xs : List Int) : IsBytes (encF k xs) := (words_bytes k xs).append (tailF_bytes _)
set_option maxHeartbeats 2000000 in
theorem kinds_out (k : Int) (w : World) (hk : k < 1 ∨ 8 < k) : Calls Try.prog 4 #[.int .i64 k] w (TruePost w) := by
  have hL := long_any k
  rw [longF_no k hk] at hL
  have HL := Aside0.mk hL
  clear hL
  by_cases h1 : k < 1
  · have b1 : decide (k < 1) = true := decide_eq_true h1
    clear hk h1
    go_enter Try.func4, Try.ntmps4
    go_wp2_with (first | (go_at_call 7; refine (shown_any _).mono ?_; rintro e w1 ⟨rfl, hB⟩; have HB := Aside0.mk hB; clear hB) | (go_at_call 12; refine (HL.out _).mono ?_; rintro e w' ⟨rfl, ⟨nd, rfl⟩⟩))
    go_ret
    exact ⟨rfl, pw_below_drewN HB.out _⟩
  · have b1 : decide (k < 1) = false := decide_eq_false h1
    have b2 : decide (8 < k) = true := decide_eq_true (by omega)
    clear hk h1
    go_enter Try.func4, Try.ntmps4
    go_wp2_with (first | (go_at_call 7; refine (shown_any _).mono ?_; rintro e w1 ⟨rfl, hB⟩; have HB := Aside0.mk hB; clear hB) | (go_at_call 12; refine (HL.out _).mono ?_; rintro e w' ⟨rfl, ⟨nd, rfl⟩⟩))
    go_ret
    exact ⟨rfl, pw_below_drewN HB.out _⟩

theorem reads_one2 (w : World) (o : Obj) (x : Int) : ReadsInt ((w.alloc o).alloc (.cells #[.int .i64 x] 2)) .i64 (some ⟨w.heap.size + 1, 0, none⟩) 1 [x] := by
  have := reads_one (w.alloc o) .i64 x 2
  rwa [World.size_alloc] at this
theorem below_two {w w6 : World} (h : Below w.heap.size w w6) (o o' : Obj) : Below w.heap.size w ((w6.alloc o).alloc o') := (h.alloc h.size o).alloc (by have := h.size; simp; omega) o'
theorem frames_kept (w6 w7 : World) (g3 b g2 m : Nat) (k : Int) (A6 : Option Addr) (n6 c6 : Nat) (ns : List Int) (hF : Framed w6 g3 k (.slice (some ⟨g2, 0, none⟩) m m)) (ho : w6.ownsRow b 2 1 (.slice (some ⟨g2, 0, none⟩) m m) m (nums .i64 ns))
    (hg : ((w6.alloc (.cells #[.int .i64 k, .slice A6 n6 c6] 24)).alloc (.cells #[.int .i64 0] 2)).grownBy w7 (Value.slice (some ⟨g2, 0, none⟩) m m).ownBlock) :
    Framed w7 g3 k (.slice (some ⟨g2, 0, none⟩) m m) ∧ Framed w7 w6.heap.size k (.slice A6 n6 c6) := by
  have h6 : Framed (w6.alloc (.cells #[.int .i64 k, .slice A6 n6 c6] 24)) w6.heap.size k (.slice A6 n6 c6) := heap_alloc_new w6 _
  exact ⟨((hF.alloc _).alloc _).kept hg (hF.not_row (by decide) ho), (h6.alloc _).kept hg (h6.not_row (by decide) (ho.alloc _))⟩
set_option maxHeartbeats 2000000 in
theorem kinds_in (k : Int) (w : World) (h1 : 1 ≤ k) (h8 : k ≤ 8) : Calls Try.prog 4 #[.int .i64 k] w (TruePost w) := by
  have hL := long_any k
  have hpos : 0 < longF k := by
    obtain rfl | rfl | rfl | rfl | rfl | rfl | rfl | rfl : k = 1 ∨ k = 2 ∨ k = 3 ∨ k = 4 ∨ k = 5 ∨ k = 6 ∨ k = 7 ∨ k = 8 := by omega
    all_goals decide
  have hle := longF_le k
  have hR : rightF k (List.replicate (longF k) (0 : Int)).length = true := by
    rw [List.length_replicate]; unfold rightF; rw [decide_eq_true hpos, decide_eq_true rfl]; rfl
  have hR2 : rightF k (List.replicate (longF k + 1) (0 : Int)).length = false := by
    rw [List.length_replicate]; unfold rightF; rw [decide_eq_false (by omega : ¬ longF k + 1 = longF k)]; simp
  generalize longF k = m at hL hpos hle hR hR2
  have HL := Aside0.mk hL
  have HR := Aside0.mk hR
  have HR2 := Aside0.mk hR2
  clear hL hR hR2
  have b1 : decide (k < 1) = false := decide_eq_false (by omega)
  have b2 : decide (8 < k) = false := decide_eq_false (by omega)
  have hmk := print_make (P := Try.prog) 22 2 .i64 8 Try.underlying22 info2 (by decide) m (by omega)
  have hu24 := Try.underlying24
  go_enter Try.func4, Try.ntmps4
  go_wp2_with (first | (go_at_call 7; refine (shown_any _).mono ?_; rintro e w1 ⟨rfl, hB⟩; have HB := Aside0.mk hB; clear hB) | (go_at_call 12; refine (HL.out _).mono ?_; rintro e w' ⟨rfl, ⟨nd, rfl⟩⟩))
  have hB1 := pw_below_drewN HB.out nd
  have hs1 : (w1.drewN nd).heap.size = w1.heap.size := rfl
  rw [← hs1]
  generalize w1.drewN nd = w2 at hB1
  clear HB hs1 w1 hmk
  have ho := own_made' w2 w.heap.size 2 .i64 m hB1.size (by omega)
  have hB2 := hB1.alloc hB1.size (.cells (madeCells #[.int .i64 0] m) 2)
  have hs2 : (w2.alloc (.cells (madeCells #[.int .i64 0] m) 2)).heap.size = w2.heap.size + 1 := World.size_alloc _ _
  generalize w2.alloc (.cells (madeCells #[.int .i64 0] m) 2) = w3 at ho hB2 hs2
  rw [← hs2]
  have hF3 : Framed (w3.alloc (.cells #[.int .i64 k, .slice (some ⟨w2.heap.size, 0, none⟩) m m] 24)) w3.heap.size k (.slice (some ⟨w2.heap.size, 0, none⟩) m m) := heap_alloc_new w3 _
  have ho3 := ho.alloc (.cells #[.int .i64 k, .slice (some ⟨w2.heap.size, 0, none⟩) m m] 24)
  have hB3 := hB2.alloc hB2.size (.cells #[.int .i64 k, .slice (some ⟨w2.heap.size, 0, none⟩) m m] 24)
  have hg3 : w.heap.size ≤ w3.heap.size := hB2.size
  generalize w3.alloc (.cells #[.int .i64 k, .slice (some ⟨w2.heap.size, 0, none⟩) m m] 24) = w4 at hF3 ho3 hB3
  generalize w3.heap.size = g3 at hF3 hg3 hs2 ⊢
  generalize w2.heap.size = g2 at hF3 ho3 hs2 ⊢
  clear hs2 ho hB1 hB2 w3 w2
  have hz : ∀ x ∈ List.replicate m (0 : Int), -9223372036854775808 ≤ x ∧ x < 9223372036854775808 := fun x hx => by
    rw [List.eq_of_mem_replicate hx]; decide
  have HD := Aside0.mk (decF_encF k (List.replicate m 0) HR.out hz)
  have HEL : Aside0 ((encF k (List.replicate m 0)).length = 5 + 8 * m) := ⟨by rw [encF_length, List.length_replicate]⟩
  have HEB := Aside0.mk (encF_bytes k (List.replicate m 0))
  clear hz
  rw [List.length_replicate] at ho3
  have HRd := Aside0.mk (own_reads' ho3)
  have HO3 := Aside0.mk ho3
  have HF3 := Aside0.mk hF3
  have HB3 := Aside0.mk hB3
  clear ho3 hF3 hB3
  go_wp2_with (go_at_call 9; refine (encode_any2 k (some ⟨g2, 0, none⟩) m m (List.replicate m 0) w4 List.length_replicate HRd.out).mono ?_; rintro e w5 ⟨hB, h⟩; rw [if_pos HR.out] at h; obtain ⟨v, rfl, hv⟩ := h; obtain ⟨A5, c5, rfl⟩ := own_slice hv; have HF5 : Aside0 (Framed w5 g3 k (.slice (some ⟨g2, 0, none⟩) m m)) := ⟨blk_below HF3.out hB⟩; have HO5 := Aside0.mk (pw_own_below HO3.out hB); have HV5 := Aside0.mk hv; have HB5 := Aside0.mk (below_step HB3.out hB); clear hB hv HF3 HO3 HB3 HRd)
  rw [List.length_replicate] at HV5
  go_wp2_with (first | (go_at_call 10; refine (decode_any A5 c5 _ (encF k (List.replicate m 0)) w5 HEL.out HEB.out (by omega) (own_reads' HV5.out) (own_cap HV5.out)).mono ?_; rintro e w6 ⟨v, rfl, hv, hB⟩; rw [HD.out] at hv ⊢; obtain ⟨A6, c6, rfl⟩ := own_slice hv; rw [List.length_replicate] at hv ⊢; have HF6 : Aside0 (Framed w6 g3 k (.slice (some ⟨g2, 0, none⟩) m m)) := ⟨blk_below HF5.out hB⟩; have HO6 := Aside0.mk (pw_own_below HO5.out hB); have HB6 := Aside0.mk (below_step HB5.out hB); have hc1 := (HF6.out.alloc (.cells #[.int .i64 k, .slice A6 m c6] 24)).cell; clear hB hv HF5 HO5 HB5 HV5) | (at_builtin; refine print_append_row (w0 := w) w.heap.size rfl _ _ 22 2 .i64 8 rfl Try.underlying22 info2 (by decide) _ (List.replicate m 0) [0] (some ⟨w6.heap.size + 1, 0, none⟩) 1 1 rfl rfl (by rw [List.length_replicate]; exact (HO6.out.alloc _).alloc _) (reads_one2 w6 _ 0) (below_two HB6.out _ _) (by have := HB6.out.size; simp; omega) (by rw [List.length_replicate]; omega) ?_; intro v7 w7 ho7 hB7 hg7 _; have HP := Aside0.mk (frames_kept w6 w7 g3 w.heap.size g2 m k A6 m c6 _ HF6.out HO6.out hg7); have HO7 := Aside0.mk ho7; have HB7 := Aside0.mk hB7; have hc7 := HP.out.1.cell; have hc70 := HP.out.1.cell0; have hf7 : w7.frozen? ⟨g3, 1, none⟩ = false := blk_frozen HP.out.1 1; obtain ⟨A7, c7, rfl⟩ := own_slice ho7; clear ho7 hB7 hg7 hc1))
  have hne : g3 ≠ w6.heap.size := fun e => by have := HF6.out.lt; omega
  have hF8 : Framed (w7.setCell ⟨g3, 1, none⟩ (.slice A7 (m + 1) c7)) w6.heap.size k (.slice A6 m c6) := HP.out.2.kept (grownBy_setCell1 w7 g3 1 _) (by intro e; injection e with e; exact hne e.symm)
  have ho8 := HO7.out.kept (grownBy_setCell1 w7 g3 1 (.slice A7 (m + 1) c7)) (.inr (HP.out.1.not_row (by decide) HO7.out).symm)
  have hB8 := HB7.out.setCell (p := ⟨g3, 1, none⟩) hg3 (.slice A7 (m + 1) c7)
  have hl8 : (List.replicate m (0 : Int) ++ [0]).length = m + 1 := by simp
  rw [hl8] at ho8
  have hR8 : rightF k (List.replicate m (0 : Int) ++ [0]).length = false := by
    have := HR2.out
    rw [List.length_replicate] at this
    rw [hl8]; exact this
  generalize w7.setCell ⟨g3, 1, none⟩ (.slice A7 (m + 1) c7) = w8 at hF8 ho8 hB8 ⊢
  generalize w6.heap.size = g6 at hF8 ⊢
  clear hc7 hc70 hf7 hne HP HO7 HB7 HF6 HO6 HB6
  have HF8 := Aside0.mk hF8
  have HO8 := Aside0.mk ho8
  have HB8 := Aside0.mk hB8
  have HL8 := Aside0.mk hl8
  have HR8 := Aside0.mk hR8
  clear hF8 ho8 hB8 hl8 hR8
  go_wp2_with (go_at_call 9; refine (encode_any2 k A7 c7 (m + 1) (List.replicate m 0 ++ [0]) w8 HL8.out (own_reads' HO8.out)).mono ?_; rintro e w9 ⟨hB, h⟩; rw [if_neg (by rw [HR8.out]; decide)] at h; subst h; have hF9 : Framed w9 g6 k (.slice A6 m c6) := blk_below HF8.out hB; have hc9 := hF9.cell; have HB9 := Aside0.mk (below_step HB8.out hB); clear hB hF9)
  go_ret
  exact ⟨rfl, HB9.out⟩
theorem kinds_any (k : Int) (w : World) : Calls Try.prog 4 #[.int .i64 k] w (TruePost w) := by
  by_cases h : k < 1 ∨ 8 < k
  · exact kinds_out k w h
  · exact kinds_in k w (by omega) (by omega)
end Go.Proofs.Ytjfolhheejkedaa
