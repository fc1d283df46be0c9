import Derived.Test.YtjfolhheejkedaaKinds
import Derived.Test.YtjfolhheejkedaaBurst
import Derived.Test.YtjfolhheejkedaaRefs
set_option linter.unusedVariables false
namespace Go.Proofs.Ytjfolhheejkedaa
open Go.RowKit Go.Shelf Go.Joins Go.Proofs.YtjfolhheejkedaaW.PrintWords Go.Proofs.YtjfolhheejkedaaW.PrintLast Go.Proofs.YtjfolhheejkedaaW.PrintMore

/-- the two boxes: a frame's and four bytes' -/
def Four (W : World) (B : Nat) (b0 b1 b2 b3 : Int) : Prop := W.heap[B]? = some (.cells #[.int .u8 b0, .int .u8 b1, .int .u8 b2, .int .u8 b3] 25 (0, 0))
theorem boxes_two (w : World) (k : Int) (A : Option Addr) (n c : Nat) (b0 b1 b2 b3 : Int) :
    Framed ((w.alloc (.cells #[.int .i64 k, .slice A n c] 24)).alloc (.cells #[.int .u8 b0, .int .u8 b1, .int .u8 b2, .int .u8 b3] 25)) w.heap.size k (.slice A n c) ∧
    Four ((w.alloc (.cells #[.int .i64 k, .slice A n c] 24)).alloc (.cells #[.int .u8 b0, .int .u8 b1, .int .u8 b2, .int .u8 b3] 25)) (w.heap.size + 1) b0 b1 b2 b3 :=
  ⟨blk_alloc (heap_alloc_new w _) _, by
    have := heap_alloc_new (w.alloc (.cells #[.int .i64 k, .slice A n c] 24)) (.cells #[.int .u8 b0, .int .u8 b1, .int .u8 b2, .int .u8 b3] 25)
    rwa [World.size_alloc] at this⟩
set_option maxHeartbeats 2000000 in
theorem bursts_out (k p b0 b1 b2 b3 : Int) (A : Option Addr) (n c : Nat) (w : World) (hn : 100 < n) (hm : n ≤ 9223372036854775807) :
    Calls Try.prog 3 #[.agg #[.int .i64 k, .slice A n c], .int .i64 p, .agg #[.int .u8 b0, .int .u8 b1, .int .u8 b2, .int .u8 b3]] w (TruePost w) := by
  obtain ⟨hF, h4⟩ := boxes_two w k A n c b0 b1 b2 b3
  have HF := Aside0.mk hF
  have HB0 := Aside0.mk (below_two (Below.refl w.heap.size w) (.cells #[.int .i64 k, .slice A n c] 24) (.cells #[.int .u8 b0, .int .u8 b1, .int .u8 b2, .int .u8 b3] 25))
  clear hF h4
  have hg : decide ((100 : Int) < (n : Int)) = true := decide_eq_true (by omega)
  have hu24 := Try.underlying24
  go_enter Try.func3, Try.ntmps3
  go_wp2_with (go_at_call 7; refine (shown_any _).mono ?_; rintro e w1 ⟨rfl, hB⟩; have hc := (show Framed w1 w.heap.size k (.slice A n c) from blk_below HF.out hB).cell; have HB := Aside0.mk (below_step HB0.out hB); clear hB)
  go_ret
  exact ⟨rfl, HB.out⟩
set_option maxHeartbeats 2000000 in
theorem bursts_not (k p b0 b1 b2 b3 : Int) (A : Option Addr) (n c : Nat) (xs : List Int) (w : World) (hn : n ≤ 100) (hl : xs.length = n) (hr : ReadsInt w .i64 A n xs) (hc : n ≤ c) (hR : rightF k n = false) :
    Calls Try.prog 3 #[.agg #[.int .i64 k, .slice A n c], .int .i64 p, .agg #[.int .u8 b0, .int .u8 b1, .int .u8 b2, .int .u8 b3]] w (TruePost w) := by
  obtain ⟨hF, h4⟩ := boxes_two w k A n c b0 b1 b2 b3
  have HF := Aside0.mk hF
  have HB0 := Aside0.mk (below_two (Below.refl w.heap.size w) (.cells #[.int .i64 k, .slice A n c] 24) (.cells #[.int .u8 b0, .int .u8 b1, .int .u8 b2, .int .u8 b3] 25))
  clear hF h4
  have hg : decide ((100 : Int) < (n : Int)) = false := decide_eq_false (by omega)
  have hu24 := Try.underlying24
  have HR := Aside0.mk hR
  have HRD := Aside0.mk hr
  have HL := Aside0.mk hl
  clear hR hr hl
  go_enter Try.func3, Try.ntmps3
  go_wp2_with (first | (go_at_call 7; refine (shown_any _).mono ?_; rintro e w1 ⟨rfl, hB⟩; have hc0 := (show Framed w1 w.heap.size k (.slice A n c) from blk_below HF.out hB).cell0; have hc1 := (show Framed w1 w.heap.size k (.slice A n c) from blk_below HF.out hB).cell; have HB := Aside0.mk (below_step HB0.out hB); clear hB) | (go_at_call 8; refine (ref_right_any k A c n xs _ HL.out (HRD.out.below HB.out) hc).mono ?_; rintro e w2 ⟨rfl, hB⟩; rw [HR.out]; have HB := Aside0.mk (below_step HB.out hB); clear hB))
  go_ret
  exact ⟨rfl, HB.out⟩
theorem Four.cells {W : World} {B : Nat} {b0 b1 b2 b3 : Int} (h : Four W B b0 b1 b2 b3) (q : Nat) (hq : q < 4) : W.cell? ⟨B, q, none⟩ = some (.int .u8 ([b0, b1, b2, b3][q]?.getD 0)) := by
  rw [blk_cell h q]
  obtain rfl | rfl | rfl | rfl : q = 0 ∨ q = 1 ∨ q = 2 ∨ q = 3 := by omega
  all_goals rfl
theorem own_cell_at {W : World} {base g n c : Nat} {e : TypeId} {k : IntKind} {xs : List Int} (h : W.ownsRow base e 1 (.slice (some ⟨g, 0, none⟩) n c) n (nums k xs)) (j : Nat) (hj : j < n) : W.cell? ⟨g, j, none⟩ = some (.int k (xs[j]?.getD 0)) := by
  obtain ⟨_, _, h2⟩ := own_reads' h
  obtain ⟨ad, e1, h3⟩ := h2 (by omega)
  obtain rfl := Option.some.inj e1
  have := h3 j hj
  rw [List.getD_eq_getElem?_getD] at this
  rw [← this]
  unfold Addr.add
  split
  · rename_i h0; subst h0; rfl
  · simp
theorem own_frozen_at {W : World} {base g n c : Nat} {e : TypeId} {xs : List Value} (h : W.ownsRow base e 1 (.slice (some ⟨g, 0, none⟩) n c) n xs) (hn : 0 < n) (j : Nat) : W.frozen? ⟨g, j, none⟩ = false := by
  rcases h.2 with ⟨h1, h2⟩ | ⟨g', cap, cur, h1, _, hh, _⟩
  · omega
  · injection h1 with h1
    have := Option.some.inj h1
    injection this with hb
    subst hb
    exact blk_frozen hh j
theorem own_set_at {W : World} {base g n c : Nat} {e : TypeId} {k : IntKind} {xs : List Int} (h : W.ownsRow base e 1 (.slice (some ⟨g, 0, none⟩) n c) n (nums k xs)) (j : Nat) (z : Int) :
    (W.drew.setCell ⟨g, j, none⟩ (.int k z)).ownsRow base e 1 (.slice (some ⟨g, 0, none⟩) n c) n (nums k (xs.set j z)) := by
  have hl := own_len h
  subst hl
  have := own_put (W := W.drew) h.drew (j : Int) z
  rw [Int.toNat_natCast, List.length_set] at this
  exact this
theorem Four.not_row {W : World} {B : Nat} {e : TypeId} {b0 b1 b2 b3 : Int} (h : Four W B b0 b1 b2 b3) (hte : 25 ≠ e) {base size n : Nat} {v : Value} {xs : List Value} (hr : W.ownsRow base e size v n xs) : some B ≠ v.ownBlock := by
  rcases hr.2 with ⟨rfl, _⟩ | ⟨g, cap, cur, rfl, _, hgb, _⟩
  · simp [Value.ownBlock]
  · intro e'
    obtain rfl : B = g := by simpa [Value.ownBlock] using e'
    have := (show W.heap[B]? = _ from h).symm.trans hgb
    simp at this
    exact hte this.2
theorem Four.kept {W W' : World} {row : Option Nat} {B : Nat} {b0 b1 b2 b3 : Int} (h : Four W B b0 b1 b2 b3) (hg : W.grownBy W' row) (hne : some B ≠ row) : Four W' B b0 b1 b2 b3 := (hg.block B (blk_lt h) hne).trans h
theorem burst_step {w W : World} {b g n c g3 g4 : Nat} {xs : List Int} {kd : Int} {v : Value} {b0 b1 b2 b3 : Int} (h : W.ownsRow b 5 1 (.slice (some ⟨g, 0, none⟩) n c) n (nums .u8 xs)) (hF : Framed W g3 kd v) (h4 : Four W g4 b0 b1 b2 b3) (hB : Below b w W) (j : Nat) (z : Int) :
    (W.setCell ⟨g, j, none⟩ (.int .u8 z)).drew.ownsRow b 5 1 (.slice (some ⟨g, 0, none⟩) n c) n (nums .u8 (xs.set j z)) ∧ Framed (W.setCell ⟨g, j, none⟩ (.int .u8 z)).drew g3 kd v ∧ Four (W.setCell ⟨g, j, none⟩ (.int .u8 z)).drew g4 b0 b1 b2 b3 ∧ Below b w (W.setCell ⟨g, j, none⟩ (.int .u8 z)).drew := by
  have hg := grownBy_setCell1 W.drew g j (.int .u8 z)
  exact ⟨own_set_at h j z, Framed.kept (W := W.drew) hF hg (hF.not_row (by decide) h), Four.kept (W := W.drew) h4 hg (h4.not_row (by decide) h), hB.drew.setCell (p := ⟨g, j, none⟩) (own_base h g rfl) _⟩
theorem xorB_bits (x y : Int) (h0 : 0 ≤ x) (h1 : x < 256) (h2 : 0 ≤ y) (h3 : y < 256) : bits .xor .u8 x y = xorB x y := by
  have := u8_xor_nat x.toNat y.toNat (by omega) (by omega)
  rwa [Int.toNat_of_nonneg h0, Int.toNat_of_nonneg h2] at this
theorem below_step' {w W w2 : World} {g : Nat} (hg : w.heap.size = g) (h : Below g w W) (k : Below W.heap.size W w2) : Below w.heap.size w w2 := by
  subst hg
  exact below_step h k
set_option maxRecDepth 100000 in
set_option maxHeartbeats 4000000 in
theorem bursts_in (k p b0 b1 b2 b3 : Int) (A : Option Addr) (n c : Nat) (xs : List Int) (w : World) (hn : n ≤ 100) (hl : xs.length = n) (hr : ReadsInt w .i64 A n xs) (hc : n ≤ c) (hR : rightF k n = true) (hx : ∀ x ∈ xs, -9223372036854775808 ≤ x ∧ x < 9223372036854775808)
    (hb : IsBytes [b0, b1, b2, b3]) (hp : p < 9223372036854775808) :
    Calls Try.prog 3 #[.agg #[.int .i64 k, .slice A n c], .int .i64 p, .agg #[.int .u8 b0, .int .u8 b1, .int .u8 b2, .int .u8 b3]] w (TruePost w) := by
  obtain ⟨hF, h4⟩ := boxes_two w k A n c b0 b1 b2 b3
  have HF := Aside0.mk hF
  have H4 := Aside0.mk h4
  have HB0 := Aside0.mk (below_two (Below.refl w.heap.size w) (.cells #[.int .i64 k, .slice A n c] 24) (.cells #[.int .u8 b0, .int .u8 b1, .int .u8 b2, .int .u8 b3] 25))
  clear hF h4
  have hg : decide ((100 : Int) < (n : Int)) = false := decide_eq_false (by omega)
  have hu24 := Try.underlying24
  have HRI := Aside0.mk hR
  have hR' : rightF k xs.length = true := by rw [hl]; exact hR
  have HRR := Aside0.mk hR'
  have HRD := Aside0.mk hr
  have HL := Aside0.mk hl
  obtain ⟨L, hL⟩ : ∃ L, L = encF k xs := ⟨_, rfl⟩
  have HD : Aside0 (decF L = (k, xs, 0)) := ⟨by rw [hL]; exact decF_encF k xs hR' hx⟩
  have hLb : IsBytes L := by rw [hL]; exact encF_bytes k xs
  have hLl : L.length = 5 + 8 * n := by rw [hL, encF_length, hl]
  have hok : (openF L).2 = 0 := by rw [hL]; unfold encF; rw [openF_seal]
  have HLE := Aside0.mk hL
  obtain ⟨N, hN⟩ : ∃ N, N = 5 + 8 * n := ⟨_, rfl⟩
  have hN4 : 4 ≤ N := by omega
  have hN9 : N ≤ 1000 := by omega
  have hz1 : ((N : Int) == 0) = false := beq_eq_false_iff_ne.2 (by omega)
  have HNE := Aside0.mk hN
  rw [← hN] at hLl
  clear hR hR' hr hl hx hL hN
  go_enter Try.func3, Try.ntmps3
  go_wp2_with (first | (go_at_call 7; refine (shown_any _).mono ?_; rintro e w1 ⟨rfl, hB⟩; have HF1 : Aside0 (Framed w1 w.heap.size k (.slice A n c)) := ⟨blk_below HF.out hB⟩; have H41 : Aside0 (Four w1 (w.heap.size + 1) b0 b1 b2 b3) := ⟨blk_below H4.out hB⟩; have hc0 := HF1.out.cell0; have hc1 := HF1.out.cell; have HB := Aside0.mk (below_step HB0.out hB); clear hB HF H4 HB0) | (go_at_call 8; refine (ref_right_any k A c n xs _ HL.out (HRD.out.below HB.out) hc).mono ?_; rintro e w2 ⟨rfl, hB⟩; rw [HRI.out]; have HF2 : Aside0 (Framed w2 w.heap.size k (.slice A n c)) := ⟨blk_below HF1.out hB⟩; have H42 : Aside0 (Four w2 (w.heap.size + 1) b0 b1 b2 b3) := ⟨blk_below H41.out hB⟩; clear hc0 hc1; have hc0 := HF2.out.cell0; have hc1 := HF2.out.cell; have HB2 := Aside0.mk (below_step HB.out hB); clear hB HB HF1 H41) | (go_at_call 9; refine (encode_any2 k A c n xs _ HL.out (HRD.out.below HB2.out)).mono ?_; rintro e w3 ⟨hB, h⟩; rw [if_pos HRR.out] at h; obtain ⟨v, rfl, hv⟩ := h; rw [HL.out, ← HLE.out, ← HNE.out] at hv; obtain ⟨A5, c5, rfl⟩ := own_slice hv; have HF3 : Aside0 (Framed w3 w.heap.size k (.slice A n c)) := ⟨blk_below HF2.out hB⟩; have H43 : Aside0 (Four w3 (w.heap.size + 1) b0 b1 b2 b3) := ⟨blk_below H42.out hB⟩; have HV := Aside0.mk (own_less hv HB2.out.size); have HB3 := Aside0.mk (below_step HB2.out hB); clear hB hv HB2 HF2 H42 hc0 hc1))
  clear hz1
  -- the place, as a number
  obtain ⟨P, hP⟩ : ∃ P : Nat, P = if 0 ≤ p then p.toNat else N := ⟨_, rfl⟩
  have HP := Aside0.mk hP
  clear hP
  obtain ⟨g8, rfl⟩ : ∃ g8, A5 = some ⟨g8, 0, none⟩ := by
    rcases ownsRow_forms HV.out with ⟨h, h0⟩ | ⟨g8, cap, h⟩
    · omega
    · injection h with h1; exact ⟨g8, h1⟩
  generalize hg3 : w.heap.size = g3 at *
  go_loopw [10, 11] (fun s i wr => ∃ q : Nat, q ≤ 4 ∧ i = .int .i64 q ∧ s = .bool (someF N P [b0, b1, b2, b3] q) ∧ Aside0 (wr.ownsRow g3 5 1 (.slice (some ⟨g8, 0, none⟩) N c5) N (nums .u8 (burstL L P [b0, b1, b2, b3] q))) ∧ Aside0 (Framed wr g3 k (.slice A n c)) ∧ Aside0 (Four wr (g3 + 1) b0 b1 b2 b3) ∧ Aside0 (Below g3 w wr)) (fun _ i _ => 4 - (intOf i).toNat)
  case atStart => exact ⟨0, Nat.zero_le _, rfl, rfl, ⟨by rw [burstL_zero]; exact HV.out⟩, HF3, H43, HB3⟩
  case round =>
    obtain ⟨q, hq, rfl, rfl, HV4, HF4, H44, HB4⟩ := hrel
    by_cases hq4 : q < 4
    · have hy := hb.get q
      have hcy := H44.out.cells q hq4
      have HSS := Aside0.mk (someF_succ N P [b0, b1, b2, b3] q)
      generalize hyy : [b0, b1, b2, b3][q]?.getD 0 = y at hy hcy HSS
      have hyy := Aside0.mk hyy
      by_cases hin : P + q < N
      · have hpP : p = (P : Int) := by
          have := HP.out
          split at this <;> omega
        subst hpP
        have hBS : Aside0 (burstL L P [b0, b1, b2, b3] (q + 1) = (burstL L P [b0, b1, b2, b3] q).set (P + q) (xorB ((burstL L P [b0, b1, b2, b3] q)[P + q]?.getD 0) ([b0, b1, b2, b3][q]?.getD 0))) := ⟨burstL_in L P [b0, b1, b2, b3] q (by rw [hLl]; exact hin)⟩
        have hbb := (burstL_bytes hLb hb P q).get (P + q)
        have hcx : wr.cell? ⟨g8, P + q, none⟩ = some (.int .u8 ((burstL L P [b0, b1, b2, b3] q)[P + q]?.getD 0)) := own_cell_at HV4.out _ hin
        have hfx : wr.frozen? ⟨g8, P + q, none⟩ = false := own_frozen_at HV4.out (by omega) _
        rw [hyy.out] at hBS
        generalize (burstL L P [b0, b1, b2, b3] q)[P + q]?.getD 0 = x at hBS hbb hcx
        have HBSX := hBS
        generalize someF N P [b0, b1, b2, b3] q = sm at HSS ⊢
        have hxor := xorB_bits x y hbb.1 hbb.2 hy.1 hy.2
        have hl1 : decide ((P : Int) < (N : Int) - (q : Int)) = true := decide_eq_true (by omega)
        clear hg hc hb hok hLb hLl
        clear hn hp
        go_wp2
        go_region
        obtain ⟨k1, k2, k3, k4⟩ := burst_step HV4.out HF4.out H44.out HB4.out (P + q) (xorB x y)
        have hcy5 : ((wr.setCell ⟨g8, P + q, none⟩ (.int .u8 (xorB x y))).drew).cell? ⟨g3 + 1, q, none⟩ = some (.int .u8 y) := by rw [k3.cells q hq4, hyy.out]
        have HV5 := Aside0.mk k1
        have HF5 := Aside0.mk k2
        have H45 := Aside0.mk k3
        have HB5 := Aside0.mk k4
        clear k1 k2 k3 k4 hcy hcx hfx hxor
        generalize (wr.setCell ⟨g8, P + q, none⟩ (.int .u8 (xorB x y))).drew = W5 at hcy5 HV5 HF5 H45 HB5 ⊢
        have HNX : Aside0 (burstL L P [b0, b1, b2, b3] (q + 1) = (burstL L P [b0, b1, b2, b3] q).set (P + q) (xorB x y)) := HBSX
        have HSX : Aside0 (someF N P [b0, b1, b2, b3] (q + 1) = (sm || (y != 0))) := ⟨by rw [HSS.out, decide_eq_true hin]; rfl⟩
        cases sm
        · go_wp2
          go_roundw
          case rel => exact ⟨q + 1, by omega, by go_num, by rw [HSX.out]; rfl, by rw [HNX.out]; exact HV5, HF5, H45, HB5⟩
          case measure => simp [intOf]; omega
        · go_wp2
          go_roundw
          case rel => exact ⟨q + 1, by omega, by go_num, by rw [HSX.out]; rfl, by rw [HNX.out]; exact HV5, HF5, H45, HB5⟩
          case measure => simp [intOf]; omega
      · have HNX : Aside0 (burstL L P [b0, b1, b2, b3] (q + 1) = burstL L P [b0, b1, b2, b3] q) := ⟨burstL_out L P _ q (by rw [hLl]; omega)⟩
        have HSX : Aside0 (someF N P [b0, b1, b2, b3] (q + 1) = someF N P [b0, b1, b2, b3] q) := ⟨by rw [HSS.out, decide_eq_false hin]; simp⟩
        have hpc : decide (0 ≤ p) = false ∨ (decide (0 ≤ p) = true ∧ decide (p < (N : Int) - (q : Int)) = false) := by
          by_cases h0 : 0 ≤ p
          · have := HP.out
            rw [if_pos h0] at this
            exact .inr ⟨decide_eq_true h0, decide_eq_false (by omega)⟩
          · exact .inl (decide_eq_false h0)
        rcases hpc with hp0 | ⟨hp0, hp1⟩
        · clear hn hp
          go_wp2
          go_roundw
          case rel => exact ⟨q + 1, by omega, by go_num, by rw [HSX.out], by rw [HNX.out]; exact HV4, HF4, H44, HB4⟩
          case measure => simp [intOf]; omega
        · clear hn hp
          go_wp2
          go_roundw
          case rel => exact ⟨q + 1, by omega, by go_num, by rw [HSX.out], by rw [HNX.out]; exact HV4, HF4, H44, HB4⟩
          case measure => simp [intOf]; omega
    · obtain rfl : q = 4 := by omega
      have hL4b := burstL_bytes hLb hb P 4
      have hL4l : (burstL L P [b0, b1, b2, b3] 4).length = N := by rw [burstL_length, hLl]
      by_cases hs : someF N P [b0, b1, b2, b3] 4 = true
      · have HD4 : Aside0 (decF (burstL L P [b0, b1, b2, b3] 4) = (0, [], 3)) := ⟨by
          unfold decF
          rw [burst_none hLb hb rfl (by omega) hok P (by rw [hLl]; exact hs)]
          rfl⟩
        have HDC := Aside0.mk (decode_any (some ⟨g8, 0, none⟩) c5 N (burstL L P [b0, b1, b2, b3] 4) wr hL4l hL4b (by omega) (own_reads' HV4.out) (own_cap HV4.out))
        clear hL4b hL4l hLb hok hb hg hn hp
        rw [hs]
        go_wp2_with (go_at_call 10; refine HDC.out.mono ?_; rintro e w6 ⟨v, rfl, hv, hB⟩; rw [HD4.out] at hv ⊢; obtain ⟨A6, c6, rfl⟩ := own_slice hv; have HB6 := Aside0.mk (below_step' hg3 HB4.out hB); clear hB hv)
        go_ret
        exact ⟨rfl, HB6.out.alloc HB6.out.size _⟩
      · have hs' : someF N P [b0, b1, b2, b3] 4 = false := by simpa using hs
        have hsame : burstL L P [b0, b1, b2, b3] 4 = L := burstL_same hLb P (by rw [hLl]; exact hs')
        rw [hsame] at HV4
        have HDC := Aside0.mk (decode_any (some ⟨g8, 0, none⟩) c5 N L wr hLl hLb (by omega) (own_reads' HV4.out) (own_cap HV4.out))
        clear hL4b hL4l hLb hok hb hg hp hs hsame
        rw [hs']
        go_wp2_with (go_at_call 10; refine HDC.out.mono ?_; rintro e w6 ⟨v, rfl, hv, hB⟩; rw [HD.out] at hv ⊢; obtain ⟨A6, c6, rfl⟩ := own_slice hv; rw [HL.out] at hv ⊢; have HB6 := Aside0.mk (below_step' hg3 HB4.out hB); have HF6 : Aside0 (Framed w6 g3 k (.slice A n c)) := ⟨blk_below HF4.out hB⟩; have HV6 := Aside0.mk hv; have hc0 := (HF6.out.alloc (.cells #[.int .i64 k, .slice A6 n c6] 24)).cell0; have hc1 := (HF6.out.alloc (.cells #[.int .i64 k, .slice A6 n c6] 24)).cell; clear hB hv)
        have HBA := Aside0.mk (HB6.out.alloc HB6.out.size (.cells #[.int .i64 k, .slice A6 n c6] 24))
        have HSF : Aside0 (sameF k xs k xs = true) := ⟨by simp [sameF]⟩
        go_wp2_with (go_at_call 11; refine (ref_same_any k A6 c6 n xs k A c n xs _ HL.out HL.out (by omega) (own_reads' (HV6.out.alloc _)) (own_cap HV6.out) (HRD.out.below HBA.out) hc).mono ?_; rintro e w7 ⟨rfl, hB⟩; rw [HSF.out]; have HB7 := Aside0.mk (below_step HBA.out hB); clear hB)
        go_ret
        exact ⟨rfl, HB7.out⟩
theorem bursts_any (k p b0 b1 b2 b3 : Int) (A : Option Addr) (n c : Nat) (xs : List Int) (w : World) (hl : xs.length = n) (hr : ReadsInt w .i64 A n xs) (hc : n ≤ c) (hx : ∀ x ∈ xs, -9223372036854775808 ≤ x ∧ x < 9223372036854775808)
    (hb : IsBytes [b0, b1, b2, b3]) (hp : p < 9223372036854775808) :
    Calls Try.prog 3 #[.agg #[.int .i64 k, .slice A n c], .int .i64 p, .agg #[.int .u8 b0, .int .u8 b1, .int .u8 b2, .int .u8 b3]] w (TruePost w) := by
  by_cases hn : n ≤ 100
  · cases hR : rightF k n with
    | true => exact bursts_in k p b0 b1 b2 b3 A n c xs w hn hl hr hc hR hx hb hp
    | false => exact bursts_not k p b0 b1 b2 b3 A n c xs w hn hl hr hc hR
  · exact bursts_out k p b0 b1 b2 b3 A n c w (by omega) hr.2.1
end Go.Proofs.Ytjfolhheejkedaa
