import Derived.Test.YtjfolhheejkedaaBurstsW
import Derived.Test.YtjfolhheejkedaaRefG
import Derived.Deep.RegionHeld3
set_option linter.unusedVariables false
namespace Go.Proofs.Ytjfolhheejkedaa
open Go.RowKit Go.Shelf Go.Joins Go.Proofs.YtjfolhheejkedaaW.PrintWords Go.Proofs.YtjfolhheejkedaaW.PrintLast Go.Proofs.YtjfolhheejkedaaW.PrintMore

/-! ### the callees, in one form each -/
def encR (k : Int) (xs : List Int) : List Int × Int := if rightF k xs.length = true then (encF k xs, 0) else ([], 1)
theorem encR_bytes (k : Int) (xs : List Int) : IsBytes (encR k xs).1 := by
  unfold encR
  split
  · exact encF_bytes k xs
  · intro x hx; cases hx
theorem encR_length (k : Int) (xs : List Int) : (encR k xs).1.length ≤ 5 + 8 * xs.length := by
  unfold encR
  split
  · rw [encF_length]; omega
  · simp
theorem encode_o (k : Int) (A : Option Addr) (c n : Nat) (xs : List Int) (w : World) (hn : xs.length = n) (hr : ReadsInt w .i64 A n xs) :
    Calls Try.prog 9 #[.agg #[.int .i64 k, .slice A n c]] w (OPost w (encR k xs)) := by
  refine (encode_any2 k A c n xs w hn hr).mono ?_
  rintro e w' ⟨hB, h⟩
  unfold encR
  by_cases hR : rightF k xs.length = true
  · rw [if_pos hR] at h ⊢
    obtain ⟨v, rfl, ho⟩ := h
    exact ⟨v, rfl, by rw [encF_length]; exact ho, hB⟩
  · rw [if_neg hR] at h ⊢
    subst h
    exact ⟨_, rfl, own_nil _ _ _ _, hB⟩
theorem ref_encode_o (k : Int) (A : Option Addr) (c n : Nat) (xs : List Int) (w : World) (hn : xs.length = n) (h100 : n ≤ 100) (hc : n ≤ c) (hr : ReadsInt w .i64 A n xs) :
    Calls Try.prog 13 #[.agg #[.int .i64 k, .slice A n c]] w (OPost w (encR k xs)) := by
  subst hn
  refine (Ref.alidaderef08_Encode.calls _ k A c xs (encR k xs).1 (encR k xs).2 w (Kd.C_of_reads (d := 0) hr) hc (ref_enc_f k xs h100 _ rfl)).mono ?_
  rintro e w' ⟨v, rfl, hR, hB⟩
  exact ⟨v, rfl, Kd.own_of_R hR, hB⟩
theorem ref_decode_d (A : Option Addr) (c n : Nat) (bs : List Int) (w : World) (hn : bs.length = n) (hb : IsBytes bs) (hx : n ≤ 10000000000) (hr : ReadsInt w .u8 A n bs) (hc : n ≤ c) :
    Calls Try.prog 14 #[.slice A n c] w (DecPost w (decF bs)) := by
  subst hn
  refine (Ref.alidaderef08_Decode.calls _ A c bs (decF bs).1 (decF bs).2.1 (decF bs).2.2 w (Kd.C_of_reads (d := 0) hr) hc (ref_dec_f bs hb hx _ rfl)).mono ?_
  rintro e w' h
  obtain ⟨v, rfl, hR, hB⟩ := h
  exact ⟨v, rfl, Kd.own_of_R hR, hB⟩
theorem ref07_same_any (A0 : Option Addr) (c0 n0 : Nat) (l0 : List Int) (A1 : Option Addr) (c1 n1 : Nat) (l1 : List Int) (w : World) (h0 : l0.length = n0) (h1 : l1.length = n1) (hm : n0 ≤ 1152921504606846976)
    (hr0 : ReadsInt w .u8 A0 n0 l0) (hc0 : n0 ≤ c0) (hr1 : ReadsInt w .u8 A1 n1 l1) (hc1 : n1 ≤ c1) :
    Calls Try.prog 15 #[.slice A0 n0 c0, .slice A1 n1 c1] w fun e w' => e = .returned (.bool (decide (l0 = l1))) ∧ Below w.heap.size w w' :=
  Ref.same_own (n0 + 1) A0 c0 n0 l0 A1 c1 n1 l1 _ w h0 h1 hr0 hc0 hr1 hc1 (ref07_same_f l0 l1 (by omega) _ (by omega))
theorem frame_same_any (k0 : Int) (A0 : Option Addr) (c0 n0 : Nat) (l0 : List Int) (k1 : Int) (A1 : Option Addr) (c1 n1 : Nat) (l1 : List Int) (w : World) (h0 : l0.length = n0) (h1 : l1.length = n1) (hm : n0 ≤ 1152921504606846976)
    (hr0 : ReadsInt w .i64 A0 n0 l0) (hc0 : n0 ≤ c0) (hr1 : ReadsInt w .i64 A1 n1 l1) (hc1 : n1 ≤ c1) :
    Calls Try.prog 18 #[.agg #[.int .i64 k0, .slice A0 n0 c0], .agg #[.int .i64 k1, .slice A1 n1 c1]] w fun e w' => e = .returned (.bool (sameF k0 l0 k1 l1)) ∧ Below w.heap.size w w' := by
  subst h0
  subst h1
  refine (Ref.frame_Same.calls (l0.length + 1) k0 A0 c0 l0 k1 A1 c1 l1 _ w (Kd.C_of_reads (d := 0) hr0) hc0 (Kd.C_of_reads (d := 0) hr1) hc1 (same_f k0 l0 k1 l1 hm)).mono ?_
  rintro e w' ⟨rfl, hB⟩
  exact ⟨rfl, by first | exact hB | exact hB.below⟩
theorem long_below (k : Int) (w : World) : Calls Try.prog 12 #[.int .i64 k] w fun e w' => e = .returned (.int .i64 (longF k)) ∧ Below w.heap.size w w' := by
  refine (long_any k w).mono ?_
  rintro e w' ⟨rfl, ⟨nd, rfl⟩⟩
  exact ⟨rfl, pw_below_drewN (Below.refl _ _) nd⟩
theorem ref_long_below (k : Int) (w : World) : Calls Try.prog 16 #[.int .i64 k] w fun e w' => e = .returned (.int .i64 (longF k)) ∧ Below w.heap.size w w' := by
  refine (Ref.alidaderef08_Long.calls k _ w (ref_long_f k)).mono ?_
  rintro e w' ⟨rfl, hB⟩
  exact ⟨rfl, by first | exact hB | exact hB.below | (subst hB; exact Below.refl _ _)⟩

/-! ### the walk -/
def fbox (k : Int) (A : Option Addr) (n c : Nat) : Obj := .cells #[.int .i64 k, .slice A n c] 24
theorem frames_two (w : World) (k : Int) (A : Option Addr) (n c : Nat) (k' : Int) (A' : Option Addr) (n' c' : Nat) :
    Framed ((w.alloc (.cells #[.int .i64 k, .slice A n c] 24)).alloc (.cells #[.int .i64 k', .slice A' n' c'] 24)) w.heap.size k (.slice A n c) ∧
    Framed ((w.alloc (.cells #[.int .i64 k, .slice A n c] 24)).alloc (.cells #[.int .i64 k', .slice A' n' c'] 24)) (w.heap.size + 1) k' (.slice A' n' c') :=
  ⟨blk_alloc (heap_alloc_new w _) _, by
    have := heap_alloc_new (w.alloc (.cells #[.int .i64 k, .slice A n c] 24)) (.cells #[.int .i64 k', .slice A' n' c'] 24)
    rwa [World.size_alloc] at this⟩
set_option maxHeartbeats 2000000 in
theorem bytes_long (k k' : Int) (A A' B : Option Addr) (n c n' c' m d : Nat) (w : World) (hn : 100 < n + n') (hm : n ≤ 1152921504606846976) (hm' : n' ≤ 1152921504606846976) :
    Calls Try.prog 5 #[.agg #[.int .i64 k, .slice A n c], .agg #[.int .i64 k', .slice A' n' c'], .slice B m d] w (TruePost w) := by
  obtain ⟨hF, hG⟩ := frames_two w k A n c k' A' n' c'
  have HF := Aside0.mk hF
  have HG := Aside0.mk hG
  have HB0 := Aside0.mk (below_two (Below.refl w.heap.size w) (.cells #[.int .i64 k, .slice A n c] 24) (.cells #[.int .i64 k', .slice A' n' c'] 24))
  clear hF hG
  have hg : decide ((100 : Int) < (n : Int) + (n' : Int)) = true := decide_eq_true (by omega)
  have hu24 := Try.underlying24
  go_enter Try.func5, Try.ntmps5
  go_wp2_with (go_at_call 7; refine (shown_any _).mono ?_; rintro e w1 ⟨rfl, hB⟩; have hc := (show Framed w1 w.heap.size k (.slice A n c) from blk_below HF.out hB).cell; have hc' := (show Framed w1 (w.heap.size + 1) k' (.slice A' n' c') from blk_below HG.out hB).cell; have HB := Aside0.mk (below_step HB0.out hB); clear hB)
  go_ret
  exact ⟨rfl, HB.out⟩
set_option maxHeartbeats 2000000 in
theorem bytes_long2 (k k' : Int) (A A' B : Option Addr) (n c n' c' m d : Nat) (w : World) (hn : n + n' ≤ 100) (hmm : 500 < m) :
    Calls Try.prog 5 #[.agg #[.int .i64 k, .slice A n c], .agg #[.int .i64 k', .slice A' n' c'], .slice B m d] w (TruePost w) := by
  obtain ⟨hF, hG⟩ := frames_two w k A n c k' A' n' c'
  have HF := Aside0.mk hF
  have HG := Aside0.mk hG
  have HB0 := Aside0.mk (below_two (Below.refl w.heap.size w) (.cells #[.int .i64 k, .slice A n c] 24) (.cells #[.int .i64 k', .slice A' n' c'] 24))
  clear hF hG
  have hg : decide ((100 : Int) < (n : Int) + (n' : Int)) = false := decide_eq_false (by omega)
  have hg2 : decide ((500 : Int) < (m : Int)) = true := decide_eq_true (by omega)
  have hu24 := Try.underlying24
  go_enter Try.func5, Try.ntmps5
  go_wp2_with (go_at_call 7; refine (shown_any _).mono ?_; rintro e w1 ⟨rfl, hB⟩; have hc := (show Framed w1 w.heap.size k (.slice A n c) from blk_below HF.out hB).cell; have hc' := (show Framed w1 (w.heap.size + 1) k' (.slice A' n' c') from blk_below HG.out hB).cell; have HB := Aside0.mk (below_step HB0.out hB); clear hB)
  go_ret
  exact ⟨rfl, HB.out⟩

theorem decF_length (bs : List Int) : (decF bs).2.1.length ≤ 1000 := by
  unfold decF
  split
  · simp
  · split
    · simp
    · split
      · simp
      · rename_i x t _ _
        have := longF_le x
        simp [numsOf]
        omega
/-- what stays while the document is asked -/
def Kept2 (w : World) (g : Nat) (k : Int) (v : Value) (k' : Int) (v' : Value) (W : World) : Prop := Framed W g k v ∧ Framed W (g + 1) k' v' ∧ Below g w W
theorem Kept2.below {w W W' : World} {g : Nat} {k k' : Int} {v v' : Value} (h : Kept2 w g k v k' v' W) (hg : g ≤ W.heap.size) (hB : Below W.heap.size W W') : Kept2 w g k v k' v' W' :=
  ⟨blk_below h.1 hB, blk_below h.2.1 hB, h.2.2.trans (below_mono hB hg)⟩
theorem Kept2.alloc {w W : World} {k k' : Int} {v v' : Value} (h : Kept2 w w.heap.size k v k' v' W) (o : Obj) : Kept2 w w.heap.size k v k' v' (W.alloc o) :=
  ⟨h.1.alloc o, h.2.1.alloc o, h.2.2.alloc h.2.2.size o⟩
theorem Kept2.drew {w W : World} {g : Nat} {k k' : Int} {v v' : Value} (h : Kept2 w g k v k' v' W) : Kept2 w g k v k' v' W.drew := ⟨h.1, h.2.1, h.2.2.drew⟩
theorem Kept2.all {w W : World} {g : Nat} {k k' : Int} {v v' : Value} (h : Aside0 (Kept2 w g k v k' v' W)) :
    W.cell? ⟨g, 0, none⟩ = some (.int .i64 k) ∧ W.cell? ⟨g, 1, none⟩ = some v ∧ W.cell? ⟨g + 1, 0, none⟩ = some (.int .i64 k') ∧ W.cell? ⟨g + 1, 1, none⟩ = some v' ∧ Aside0 (Kept2 w g k v k' v' W) :=
  ⟨h.out.1.cell0, h.out.1.cell, h.out.2.1.cell0, h.out.2.1.cell, h⟩
theorem sameF_self (k : Int) (l : List Int) : sameF k l k l = true := by simp [sameF]
set_option maxRecDepth 100000 in
set_option maxHeartbeats 4000000 in
theorem bytes_in (k k' : Int) (A A' B : Option Addr) (n c n' c' m d : Nat) (xs ys bs : List Int) (w : World) (hn : n + n' ≤ 100) (hmm : m ≤ 500) (hl : xs.length = n) (hr : ReadsInt w .i64 A n xs) (hc : n ≤ c)
    (hl' : ys.length = n') (hr' : ReadsInt w .i64 A' n' ys) (hc' : n' ≤ c') (hlb : bs.length = m) (hrb : ReadsInt w .u8 B m bs) (hcb : m ≤ d) (hb : IsBytes bs) :
    Calls Try.prog 5 #[.agg #[.int .i64 k, .slice A n c], .agg #[.int .i64 k', .slice A' n' c'], .slice B m d] w (TruePost w) := by
  obtain ⟨hF, hG⟩ := frames_two w k A n c k' A' n' c'
  have HK0 : Aside0 (Kept2 w w.heap.size k (.slice A n c) k' (.slice A' n' c') ((w.alloc (.cells #[.int .i64 k, .slice A n c] 24)).alloc (.cells #[.int .i64 k', .slice A' n' c'] 24))) := ⟨⟨hF, hG, below_two (Below.refl w.heap.size w) (.cells #[.int .i64 k, .slice A n c] 24) (.cells #[.int .i64 k', .slice A' n' c'] 24)⟩⟩
  clear hF hG
  have hg : decide ((100 : Int) < (n : Int) + (n' : Int)) = false := decide_eq_false (by omega)
  have hg2 : decide ((500 : Int) < (m : Int)) = false := decide_eq_false (by omega)
  have hu24 := Try.underlying24
  obtain ⟨q, hq⟩ : ∃ q, q = encR k xs := ⟨_, rfl⟩
  obtain ⟨r, hr0⟩ : ∃ r, r = decF bs := ⟨_, rfl⟩
  have H9 : Aside0 (∀ W, ReadsInt W .i64 A n xs → Calls Try.prog 9 #[.agg #[.int .i64 k, .slice A n c]] W (OPost W q)) := ⟨fun W h => hq ▸ encode_o k A c n xs W hl h⟩
  have H13 : Aside0 (∀ W, ReadsInt W .i64 A n xs → Calls Try.prog 13 #[.agg #[.int .i64 k, .slice A n c]] W (OPost W q)) := ⟨fun W h => hq ▸ ref_encode_o k A c n xs W hl (by omega) hc h⟩
  have H10 : Aside0 (∀ W, ReadsInt W .u8 B m bs → Calls Try.prog 10 #[.slice B m d] W (DecPost W r)) := ⟨fun W h => hr0 ▸ decode_any B d m bs W hlb hb (by omega) h hcb⟩
  have H14 : Aside0 (∀ W, ReadsInt W .u8 B m bs → Calls Try.prog 14 #[.slice B m d] W (DecPost W r)) := ⟨fun W h => hr0 ▸ ref_decode_d B d m bs W hlb hb (by omega) h hcb⟩
  have H16 : Aside0 (∀ W, Calls Try.prog 16 #[.int .i64 k] W fun e w' => e = .returned (.int .i64 (longF k)) ∧ Below W.heap.size W w') := ⟨fun W => ref_long_below k W⟩
  have H12 : Aside0 (∀ W, Calls Try.prog 12 #[.int .i64 k] W fun e w' => e = .returned (.int .i64 (longF k)) ∧ Below W.heap.size W w') := ⟨fun W => long_below k W⟩
  have H17 : Aside0 (∀ W, Calls Try.prog 17 #[.agg #[.int .i64 k, .slice A n c]] W fun e w' => e = .returned (.bool (rightF k n)) ∧ Below W.heap.size W w') := ⟨fun W => right_any k n A c W⟩
  have H8 : Aside0 (∀ W, ReadsInt W .i64 A n xs → Calls Try.prog 8 #[.agg #[.int .i64 k, .slice A n c]] W fun e w' => e = .returned (.bool (rightF k n)) ∧ Below W.heap.size W w') := ⟨fun W h => ref_right_any k A c n xs W hl h hc⟩
  have H18 : Aside0 (∀ W, ReadsInt W .i64 A n xs → ReadsInt W .i64 A' n' ys → Calls Try.prog 18 #[.agg #[.int .i64 k, .slice A n c], .agg #[.int .i64 k', .slice A' n' c']] W fun e w' => e = .returned (.bool (sameF k xs k' ys)) ∧ Below W.heap.size W w') := ⟨fun W h h' => frame_same_any k A c n xs k' A' c' n' ys W hl hl' (by omega) h hc h' hc'⟩
  have H11 : Aside0 (∀ W, ReadsInt W .i64 A n xs → ReadsInt W .i64 A' n' ys → Calls Try.prog 11 #[.agg #[.int .i64 k, .slice A n c], .agg #[.int .i64 k', .slice A' n' c']] W fun e w' => e = .returned (.bool (sameF k xs k' ys)) ∧ Below W.heap.size W w') := ⟨fun W h h' => ref_same_any k A c n xs k' A' c' n' ys W hl hl' (by omega) h hc h' hc'⟩
  have HRX := Aside0.mk hr
  have HRY := Aside0.mk hr'
  have HRB := Aside0.mk hrb
  have HQL : Aside0 (q.1.length ≤ 1000) := ⟨by rw [hq]; have := encR_length k xs; omega⟩
  have HRL : Aside0 (r.2.1.length ≤ 1000) := ⟨by rw [hr0]; exact decF_length bs⟩
  clear hq hr0 hr hr' hrb hl hl' hlb hb hc hc' hcb
  generalize longF k = L at *
  generalize rightF k n = R at *
  generalize sameF k xs k' ys = S at *
  go_enter Try.func5, Try.ntmps5
  go_wp2_with (first | (go_at_call 7; refine (shown_any _).mono ?_; rintro e w1 ⟨rfl, hB⟩; have HK1 := Aside0.mk (HK0.out.below (by simp; omega) hB); have hc0 := HK1.out.1.cell0; have hc1 := HK1.out.1.cell; have hd0 := HK1.out.2.1.cell0; have hd1 := HK1.out.2.1.cell; have hz1 := Aside0.mk HK1.out.2.2.size; clear hB) | (go_at_call 9; refine (H9.out _ (HRX.out.below (HK1.out.2.2))).mono ?_; rintro e w2 ⟨v2, rfl, ho, hB⟩; obtain ⟨A2, c2, rfl⟩ := own_slice ho; have HX2 := Aside0.mk ho; have HK2 := Aside0.mk (HK1.out.below HK1.out.2.2.size hB); clear hc0 hc1 hd0 hd1; have hc0 := HK2.out.1.cell0; have hc1 := HK2.out.1.cell; have hd0 := HK2.out.2.1.cell0; have hd1 := HK2.out.2.1.cell; clear hB ho) | (go_at_call 13; refine (H13.out _ (HRX.out.below (HK2.out.2.2))).mono ?_; rintro e w3 ⟨v3, rfl, ho, hB⟩; obtain ⟨A3, c3, rfl⟩ := own_slice ho; have HX3 := Aside0.mk (pw_own_below HX2.out hB); have HY3 := Aside0.mk ho; have HK3 := Aside0.mk (HK2.out.below HK2.out.2.2.size hB); clear hc0 hc1 hd0 hd1 hB ho) | (go_at_call 10; refine (H10.out _ (HRB.out.below (HK3.out.2.2))).mono ?_; rintro e w4 ⟨v4, rfl, ho, hB⟩; obtain ⟨A4, c4, rfl⟩ := own_slice ho; have HX4 := Aside0.mk (pw_own_below HX3.out hB); have HY4 := Aside0.mk (pw_own_below HY3.out hB); have HU4 := Aside0.mk ho; have HK4 := Aside0.mk (HK3.out.below HK3.out.2.2.size hB); clear hB ho) | (go_at_call 14; refine (H14.out _ (HRB.out.below (HK4.out.alloc _).2.2)).mono ?_; rintro e w5 ⟨v5, rfl, ho, hB⟩; obtain ⟨A5, c5, rfl⟩ := own_slice ho; have HX5 := Aside0.mk (pw_own_below (HX4.out.alloc _) hB); have HY5 := Aside0.mk (pw_own_below (HY4.out.alloc _) hB); have HU5 := Aside0.mk (pw_own_below (HU4.out.alloc _) hB); have HV5 := Aside0.mk ho; have HK5 := Aside0.mk ((HK4.out.alloc _).below (HK4.out.alloc _).2.2.size hB); have HUF5 := Aside0.mk (show Framed w5 w4.heap.size _ _ from blk_below (heap_alloc_new w4 _) hB); clear hB ho) | (go_at_call 15; refine (ref07_same_any A2 c2 q.1.length q.1 A3 c3 q.1.length q.1 _ rfl rfl (Nat.le_trans HQL.out (by decide)) (own_reads' (HX5.out.alloc _)) (own_cap HX5.out) (own_reads' (HY5.out.alloc _)) (own_cap HY5.out)).mono ?_; rintro e w6 ⟨rfl, hB⟩; rw [decide_eq_true rfl]; have HU6 := Aside0.mk (pw_own_below (HU5.out.alloc _) hB); have HV6 := Aside0.mk (pw_own_below (HV5.out.alloc _) hB); have HK6 := Aside0.mk ((HK5.out.alloc _).below (HK5.out.alloc _).2.2.size hB); have HUF6 := Aside0.mk (show Framed w6 w4.heap.size _ _ from blk_below (HUF5.out.alloc _) hB); have HVF6 := Aside0.mk (show Framed w6 w5.heap.size _ _ from blk_below (heap_alloc_new w5 _) hB); have hu0 := HUF6.out.cell0; have hu1 := HUF6.out.cell; have hv0 := HVF6.out.cell0; have hv1 := HVF6.out.cell; clear hB) | (go_at_call 11; refine (ref_same_any r.1 A4 c4 r.2.1.length r.2.1 r.1 A5 c5 r.2.1.length r.2.1 _ rfl rfl (Nat.le_trans HRL.out (by decide)) (own_reads' HU6.out) (own_cap HU6.out) (own_reads' HV6.out) (own_cap HV6.out)).mono ?_; rintro e w7 ⟨rfl, hB⟩; rw [sameF_self]; have HK7 := Aside0.mk (HK6.out.below HK6.out.2.2.size hB); clear hu0 hu1 hv0 hv1 hB))
  have HK7d := Aside0.mk HK7.out.drew
  go_region_held3 (fun W => W.cell? ⟨w.heap.size, 0, none⟩ = some (.int .i64 k) ∧ W.cell? ⟨w.heap.size, 1, none⟩ = some (.slice A n c) ∧ W.cell? ⟨w.heap.size + 1, 0, none⟩ = some (.int .i64 k') ∧ W.cell? ⟨w.heap.size + 1, 1, none⟩ = some (.slice A' n' c') ∧ Aside0 (Kept2 w w.heap.size k (.slice A n c) k' (.slice A' n' c') W)) (exact Kept2.all (by assumption))
    (first
      | (go_at_call 12; have hkk := (show Aside0 (Kept2 w w.heap.size k (.slice A n c) k' (.slice A' n' c') _) from by assumption); refine (H12.out _).mono ?_; rintro e w' ⟨rfl, hB⟩; have HKN := Aside0.mk (hkk.out.below hkk.out.2.2.size hB); clear hB hkk)
      | (go_at_call 16; have hkk := (show Aside0 (Kept2 w w.heap.size k (.slice A n c) k' (.slice A' n' c') _) from by assumption); refine (H16.out _).mono ?_; rintro e w' ⟨rfl, hB⟩; have HKN := Aside0.mk (hkk.out.below hkk.out.2.2.size hB); clear hB hkk)
      | (go_at_call 17; have hkk := (show Aside0 (Kept2 w w.heap.size k (.slice A n c) k' (.slice A' n' c') _) from by assumption); refine (H17.out _).mono ?_; rintro e w' ⟨rfl, hB⟩; have HKN := Aside0.mk (hkk.out.below hkk.out.2.2.size hB); clear hB hkk)
      | (go_at_call 8; have hkk := (show Aside0 (Kept2 w w.heap.size k (.slice A n c) k' (.slice A' n' c') _) from by assumption); refine (H8.out _ (HRX.out.below hkk.out.2.2)).mono ?_; rintro e w' ⟨rfl, hB⟩; have HKN := Aside0.mk (hkk.out.below hkk.out.2.2.size hB); clear hB hkk)
      | (go_at_call 18; have hkk := (show Aside0 (Kept2 w w.heap.size k (.slice A n c) k' (.slice A' n' c') _) from by assumption); refine (H18.out _ (HRX.out.below hkk.out.2.2) (HRY.out.below hkk.out.2.2)).mono ?_; rintro e w' ⟨rfl, hB⟩; have HKN := Aside0.mk (hkk.out.below hkk.out.2.2.size hB); clear hB hkk)
      | (go_at_call 11; have hkk := (show Aside0 (Kept2 w w.heap.size k (.slice A n c) k' (.slice A' n' c') _) from by assumption); refine (H11.out _ (HRX.out.below hkk.out.2.2) (HRY.out.below hkk.out.2.2)).mono ?_; rintro e w' ⟨rfl, hB⟩; have HKN := Aside0.mk (hkk.out.below hkk.out.2.2.size hB); clear hB hkk))
  all_goals
    go_wp2
    go_ret
    exact ⟨rfl, (show Aside0 (Kept2 w w.heap.size k (.slice A n c) k' (.slice A' n' c') _) from by assumption).out.2.2⟩
theorem bytes_any (k k' : Int) (A A' B : Option Addr) (n c n' c' m d : Nat) (xs ys bs : List Int) (w : World) (hl : xs.length = n) (hr : ReadsInt w .i64 A n xs) (hc : n ≤ c)
    (hl' : ys.length = n') (hr' : ReadsInt w .i64 A' n' ys) (hc' : n' ≤ c') (hlb : bs.length = m) (hrb : ReadsInt w .u8 B m bs) (hcb : m ≤ d) (hb : IsBytes bs) (hm : n ≤ 1152921504606846976) (hm' : n' ≤ 1152921504606846976) :
    Calls Try.prog 5 #[.agg #[.int .i64 k, .slice A n c], .agg #[.int .i64 k', .slice A' n' c'], .slice B m d] w (TruePost w) := by
  by_cases h1 : 100 < n + n'
  · exact bytes_long k k' A A' B n c n' c' m d w h1 hm hm'
  · by_cases h2 : 500 < m
    · exact bytes_long2 k k' A A' B n c n' c' m d w (by omega) h2
    · exact bytes_in k k' A A' B n c n' c' m d xs ys bs w (by omega) (by omega) hl hr hc hl' hr' hc' hlb hrb hcb hb
end Go.Proofs.Ytjfolhheejkedaa
