import Derived.Test.YtjfolhheejkedaaUnp
import Derived.Test.YtjfolhheejkedaaBackL
import Derived.Test.YtjfolhheejkedaaEqArr
set_option linter.unusedVariables false
namespace Go.Proofs.Ytjfolhheejkedaa
open Go.RowKit Go.Shelf Go.Joins Go.Proofs.YtjfolhheejkedaaW.PrintWords Go.Proofs.YtjfolhheejkedaaW.PrintLast Go.Proofs.YtjfolhheejkedaaW.PrintMore

/-- what stays: the frame's box and the sample's -/
def Kept3 (w : World) (g : Nat) (k : Int) (v : Value) (m : Bool) (g0 g1 g2 a0 a1 a2 : Int) (hb : Bool) (b : Int) (hg : Bool) (n0 n1 n2 : Int) (W : World) : Prop := Framed W g k v ∧ Sampled W (g + 1) m g0 g1 g2 a0 a1 a2 hb b hg n0 n1 n2 ∧ Below g w W
theorem Kept3.below {w W W' : World} {g : Nat} {k : Int} {v : Value} {m : Bool} {g0 g1 g2 a0 a1 a2 : Int} {hb : Bool} {b : Int} {hg : Bool} {n0 n1 n2 : Int} (h : Kept3 w g k v m g0 g1 g2 a0 a1 a2 hb b hg n0 n1 n2 W) (hg' : g ≤ W.heap.size) (hB : Below W.heap.size W W') : Kept3 w g k v m g0 g1 g2 a0 a1 a2 hb b hg n0 n1 n2 W' :=
  ⟨blk_below h.1 hB, blk_below h.2.1 hB, h.2.2.trans (below_mono hB hg')⟩
theorem Kept3.alloc {w W : World} {k : Int} {v : Value} {m : Bool} {g0 g1 g2 a0 a1 a2 : Int} {hb : Bool} {b : Int} {hg : Bool} {n0 n1 n2 : Int} (h : Kept3 w w.heap.size k v m g0 g1 g2 a0 a1 a2 hb b hg n0 n1 n2 W) (o : Obj) : Kept3 w w.heap.size k v m g0 g1 g2 a0 a1 a2 hb b hg n0 n1 n2 (W.alloc o) :=
  ⟨h.1.alloc o, blk_alloc h.2.1 o, h.2.2.alloc h.2.2.size o⟩
theorem Kept3.start (w : World) (k : Int) (A : Option Addr) (n c : Nat) (m : Bool) (g0 g1 g2 a0 a1 a2 : Int) (hb : Bool) (b : Int) (hg : Bool) (n0 n1 n2 : Int) : Kept3 w w.heap.size k (.slice A n c) m g0 g1 g2 a0 a1 a2 hb b hg n0 n1 n2 ((w.alloc (.cells #[.int .i64 k, .slice A n c] 24)).alloc (.cells #[.bool m, .int .i64 g0, .int .i64 g1, .int .i64 g2, .int .i64 a0, .int .i64 a1, .int .i64 a2, .bool hb, .int .i64 b, .bool hg, .int .i64 n0, .int .i64 n1, .int .i64 n2] 48)) :=
  ⟨blk_alloc (heap_alloc_new w _) _, by
    have := heap_alloc_new (w.alloc (.cells #[.int .i64 k, .slice A n c] 24)) (.cells #[.bool m, .int .i64 g0, .int .i64 g1, .int .i64 g2, .int .i64 a0, .int .i64 a1, .int .i64 a2, .bool hb, .int .i64 b, .bool hg, .int .i64 n0, .int .i64 n1, .int .i64 n2] 48)
    rwa [World.size_alloc] at this, below_two (Below.refl w.heap.size w) _ _⟩
theorem Kept3.bel {w W : World} {g : Nat} {k : Int} {v : Value} {m : Bool} {g0 g1 g2 a0 a1 a2 : Int} {hb : Bool} {b : Int} {hg : Bool} {n0 n1 n2 : Int} (h : Kept3 w g k v m g0 g1 g2 a0 a1 a2 hb b hg n0 n1 n2 W) : Below g w W := h.2.2
theorem Sampled.cells {W : World} {p : Nat} {m : Bool} {g0 g1 g2 a0 a1 a2 : Int} {hb : Bool} {b : Int} {hg : Bool} {n0 n1 n2 : Int} (h : Sampled W p m g0 g1 g2 a0 a1 a2 hb b hg n0 n1 n2) : W.cell? ⟨p, 0, none⟩ = some (.bool m) ∧ W.cell? ⟨p, 1, none⟩ = some (.int .i64 g0) ∧ W.cell? ⟨p, 2, none⟩ = some (.int .i64 g1) ∧ W.cell? ⟨p, 3, none⟩ = some (.int .i64 g2) ∧ W.cell? ⟨p, 4, none⟩ = some (.int .i64 a0) ∧ W.cell? ⟨p, 5, none⟩ = some (.int .i64 a1) ∧ W.cell? ⟨p, 6, none⟩ = some (.int .i64 a2) ∧ W.cell? ⟨p, 7, none⟩ = some (.bool hb) ∧ W.cell? ⟨p, 8, none⟩ = some (.int .i64 b) ∧ W.cell? ⟨p, 9, none⟩ = some (.bool hg) ∧ W.cell? ⟨p, 10, none⟩ = some (.int .i64 n0) ∧ W.cell? ⟨p, 11, none⟩ = some (.int .i64 n1) ∧ W.cell? ⟨p, 12, none⟩ = some (.int .i64 n2) :=
  ⟨blk_cell h 0, blk_cell h 1, blk_cell h 2, blk_cell h 3, blk_cell h 4, blk_cell h 5, blk_cell h 6, blk_cell h 7, blk_cell h 8, blk_cell h 9, blk_cell h 10, blk_cell h 11, blk_cell h 12⟩
set_option maxHeartbeats 2000000 in
theorem back_long (k : Int) (A B : Option Addr) (n c e d : Nat) (m : Bool) (g0 g1 g2 a0 a1 a2 : Int) (hb : Bool) (b : Int) (hg : Bool) (n0 n1 n2 : Int) (w : World) (hn : 100 < n ∨ 500 < e) (hm : n ≤ 1152921504606846976) :
    Calls Try.prog 6 #[.agg #[.int .i64 k, .slice A n c], .agg #[.bool m, .int .i64 g0, .int .i64 g1, .int .i64 g2, .int .i64 a0, .int .i64 a1, .int .i64 a2, .bool hb, .int .i64 b, .bool hg, .int .i64 n0, .int .i64 n1, .int .i64 n2], .slice B e d] w (TruePost w) := by
  have HK0 := Aside0.mk (Kept3.start w k A n c m g0 g1 g2 a0 a1 a2 hb b hg n0 n1 n2)
  have hu24 := Try.underlying24
  have hor : (decide ((100 : Int) < (n : Int)) = true) ∨ (decide ((100 : Int) < (n : Int)) = false ∧ decide ((500 : Int) < (e : Int)) = true) := by
    by_cases h : 100 < n
    · exact .inl (decide_eq_true (by omega))
    · exact .inr ⟨decide_eq_false (by omega), decide_eq_true (by omega)⟩
  clear hn
  rcases hor with h1 | ⟨h1, h2⟩
  all_goals
    go_enter Try.func6, Try.ntmps6
    go_wp2_with (go_at_call 7; refine (shown_any _).mono ?_; rintro e' w1 ⟨rfl, hB⟩; have HK1 := Aside0.mk (HK0.out.below (by simp; omega) hB); have hc0 := HK1.out.1.cell0; have hc1 := HK1.out.1.cell; clear hB)
    go_ret
    exact ⟨rfl, HK1.out.2.2⟩

def EncIs (W : World) (e9 : Int) (L : List Int) (N : Nat) (e : Ending) (w' : World) : Prop :=
  ∃ A2 c2, e = .returned (.tuple #[.slice A2 N c2, .int .i64 e9]) ∧ w'.ownsRow W.heap.size 5 1 (.slice A2 N c2) N (nums .u8 L) ∧ Below W.heap.size W w'
def DecIs (W : World) (k3 : Int) (l3 : List Int) (n3 : Nat) (e3 : Int) (e : Ending) (w' : World) : Prop :=
  ∃ A3 c3, e = .returned (.tuple #[.agg #[.int .i64 k3, .slice A3 n3 c3], .int .i64 e3]) ∧ w'.ownsRow W.heap.size 2 1 (.slice A3 n3 c3) n3 (nums .i64 l3) ∧ Below W.heap.size W w'
theorem encode_is (k : Int) (A : Option Addr) (c n : Nat) (xs : List Int) (w : World) (hn : xs.length = n) (hr : ReadsInt w .i64 A n xs) (L : List Int) (e9 : Int) (hq : encR k xs = (L, e9)) (N : Nat) (hN : L.length = N) :
    Calls Try.prog 9 #[.agg #[.int .i64 k, .slice A n c]] w (EncIs w e9 L N) := by
  subst hN
  refine (encode_o k A c n xs w hn hr).mono ?_
  rw [hq]
  rintro e w' ⟨v, rfl, ho, hB⟩
  obtain ⟨A2, c2, rfl⟩ := own_slice ho
  exact ⟨A2, c2, rfl, ho, hB⟩
theorem decode_is (A : Option Addr) (c n : Nat) (bs : List Int) (w : World) (hn : bs.length = n) (hb : IsBytes bs) (hx : n ≤ 100000000000) (hr : ReadsInt w .u8 A n bs) (hc : n ≤ c) (k3 : Int) (l3 : List Int) (e3 : Int) (hq : decF bs = (k3, l3, e3)) (n3 : Nat) (hN : l3.length = n3) :
    Calls Try.prog 10 #[.slice A n c] w (DecIs w k3 l3 n3 e3) := by
  subst hN
  refine (decode_any A c n bs w hn hb hx hr hc).mono ?_
  rw [hq]
  rintro e w' ⟨v, rfl, ho, hB⟩
  obtain ⟨A2, c2, rfl⟩ := own_slice ho
  exact ⟨A2, c2, rfl, ho, hB⟩
set_option maxRecDepth 100000 in
set_option maxHeartbeats 4000000 in
theorem back_right_no (k : Int) (A B : Option Addr) (n c e d : Nat) (m : Bool) (g0 g1 g2 a0 a1 a2 : Int) (hb : Bool) (b : Int) (hg : Bool) (n0 n1 n2 : Int) (xs bs : List Int) (w : World) (hn : n ≤ 100) (he : e ≤ 500)
    (N : Nat) (k3 : Int) (l3 : List Int) (n3 : Nat) (k8 : Int) (l8 : List Int) (n8 : Nat)
    (HL : Aside0 (xs.length = n)) (HRX : Aside0 (ReadsInt w .i64 A n xs)) (HC : Aside0 (n ≤ c)) (HLB : Aside0 (bs.length = e)) (HRB : Aside0 (ReadsInt w .u8 B e bs)) (HCB : Aside0 (e ≤ d)) (HL3 : Aside0 (l3.length = n3)) (hn3 : n3 ≤ 1000) (L : List Int)
    (H9 : Aside0 (∀ W, ReadsInt W .i64 A n xs → Calls Try.prog 9 #[.agg #[.int .i64 k, .slice A n c]] W (EncIs W 0 L N)))
    (H10 : Aside0 (∀ A2 c2 W, ReadsInt W .u8 A2 N L → N ≤ c2 → Calls Try.prog 10 #[.slice A2 N c2] W (DecIs W k3 l3 n3 0)))
    (H17 : Aside0 (∀ W, Calls Try.prog 17 #[.agg #[.int .i64 k, .slice A n c]] W fun e w' => e = .returned (.bool true) ∧ Below W.heap.size W w')) (HSM : Aside0 (sameF k3 l3 k xs = true)) (e8 : Int) (hz8 : (e8 == 0) = false)
    (H10b : Aside0 (∀ W, ReadsInt W .u8 B e bs → Calls Try.prog 10 #[.slice B e d] W (DecIs W k8 l8 n8 e8))) :
    Calls Try.prog 6 #[.agg #[.int .i64 k, .slice A n c], .agg #[.bool m, .int .i64 g0, .int .i64 g1, .int .i64 g2, .int .i64 a0, .int .i64 a1, .int .i64 a2, .bool hb, .int .i64 b, .bool hg, .int .i64 n0, .int .i64 n1, .int .i64 n2], .slice B e d] w (TruePost w) := by
  have HK0 := Aside0.mk (Kept3.start w k A n c m g0 g1 g2 a0 a1 a2 hb b hg n0 n1 n2)
  have hu24 := Try.underlying24
  have hu48 := Try.underlying48
  have hneq := neq_sample m g0 g1 g2 a0 a1 a2 hb b hg n0 n1 n2
  have heqs := eqs_sample m g0 g1 g2 a0 a1 a2 hb b hg n0 n1 n2
  have hgt : ∀ (x y : Operand) (W : World), (eqGuard .neq 48 x y (.agg #[.bool m, .int .i64 g0, .int .i64 g1, .int .i64 g2, .int .i64 a0, .int .i64 a1, .int .i64 a2, .bool hb, .int .i64 b, .bool hg, .int .i64 n0, .int .i64 n1, .int .i64 n2]) (.agg #[.bool m, .int .i64 g0, .int .i64 g1, .int .i64 g2, .int .i64 a0, .int .i64 a1, .int .i64 a2, .bool hb, .int .i64 b, .bool hg, .int .i64 n0, .int .i64 n1, .int .i64 n2])).run Try.prog W = .ok () W := fun x y W => run_eqGuard_agg W .neq 48 x y _ _ (by kernel_rfl)
  have hg1 : decide ((100 : Int) < (n : Int)) = false := decide_eq_false (by omega)
  have hg2 : decide ((500 : Int) < (e : Int)) = false := decide_eq_false (by omega)
  go_enter Try.func6, Try.ntmps6
  go_wp2_with (first | (go_at_call 7; refine (shown_any _).mono ?_; rintro e' w1 ⟨rfl, hB⟩; have HK1 := Aside0.mk (HK0.out.below (by simp; omega) hB); have hc0 := HK1.out.1.cell0; have hc1 := HK1.out.1.cell; clear hB) | (go_at_call 9; (with_reducible refine (H9.out _ (HRX.out.below HK1.out.bel)).mono ?_); rintro e' w2 ⟨A2, c2, rfl, ho, hB⟩; have HX2 := Aside0.mk ho; have HK2 := Aside0.mk (HK1.out.below HK1.out.2.2.size hB); clear hc0 hc1 hB ho) | (go_at_call 10; (with_reducible refine (H10.out A2 c2 _ (own_reads' HX2.out) (own_cap HX2.out)).mono ?_); rintro e' w3 ⟨A3, c3, rfl, ho, hB⟩; have HG3 := Aside0.mk ho; have HK3 := Aside0.mk ((HK2.out.below HK2.out.2.2.size hB).alloc (.cells #[.int .i64 k3, .slice A3 n3 c3] 24)); obtain ⟨y0, y1, y2, y3, y4, y5, y6, y7, y8, y9, y10, y11, y12⟩ := Sampled.cells HK3.out.2.1; clear hB ho) | (go_at_call 20; (with_reducible refine (pack_any m g0 g1 g2 a0 a1 a2 hb b hg n0 n1 n2 _).mono ?_); rintro e' w4 ⟨A4, c4, rfl, ho, hB⟩; obtain ⟨g4, c4', hv4⟩ := ownsRow_succ ho; obtain rfl : A4 = some ⟨g4, 0, none⟩ := (Value.slice.inj hv4).1; have HP4 := Aside0.mk ho; have HG4 := Aside0.mk (pw_own_below (HG3.out.alloc _) hB); have HGF4 := Aside0.mk (show Framed w4 w3.heap.size k3 (.slice A3 n3 c3) from blk_below (heap_alloc_new w3 _) hB); have HK4 := Aside0.mk (HK3.out.below HK3.out.2.2.size hB); clear y0 y1 y2 y3 y4 y5 y6 y7 y8 y9 y10 y11 y12 hB ho hv4) | (go_at_call 19; (with_reducible refine (unpack_any _ g4 c4 m g0 g1 g2 a0 a1 a2 hb b hg n0 n1 n2 _ HP4.out).mono ?_); rintro e' w5 ⟨rfl, hB⟩; have HG5 := Aside0.mk (pw_own_below HG4.out hB); have HGF5 := Aside0.mk (show Framed (w5.alloc (.cells #[.bool m, .int .i64 g0, .int .i64 g1, .int .i64 g2, .int .i64 a0, .int .i64 a1, .int .i64 a2, .bool hb, .int .i64 b, .bool hg, .int .i64 n0, .int .i64 n1, .int .i64 n2] 48)) w3.heap.size k3 (.slice A3 n3 c3) from Framed.alloc (blk_below HGF4.out hB) _); have HK5 := Aside0.mk ((HK4.out.below HK4.out.2.2.size hB).alloc (.cells #[.bool m, .int .i64 g0, .int .i64 g1, .int .i64 g2, .int .i64 a0, .int .i64 a1, .int .i64 a2, .bool hb, .int .i64 b, .bool hg, .int .i64 n0, .int .i64 n1, .int .i64 n2] 48)); obtain ⟨y0, y1, y2, y3, y4, y5, y6, y7, y8, y9, y10, y11, y12⟩ := Sampled.cells HK5.out.2.1; have hc0 := HK5.out.1.cell0; have hc1 := HK5.out.1.cell; have hd0 := HGF5.out.cell0; have hd1 := HGF5.out.cell; clear hB) | (go_at_call 17; (with_reducible refine (H17.out _).mono ?_); rintro e' w6 ⟨rfl, hB⟩; have HG6 := Aside0.mk (pw_own_below (HG5.out.alloc (.cells #[.bool m, .int .i64 g0, .int .i64 g1, .int .i64 g2, .int .i64 a0, .int .i64 a1, .int .i64 a2, .bool hb, .int .i64 b, .bool hg, .int .i64 n0, .int .i64 n1, .int .i64 n2] 48)) hB); have HGF6 := Aside0.mk (show Framed w6 w3.heap.size k3 (.slice A3 n3 c3) from blk_below HGF5.out hB); have HK6 := Aside0.mk (HK5.out.below HK5.out.2.2.size hB); clear y0 y1 y2 y3 y4 y5 y6 y7 y8 y9 y10 y11 y12 hc0 hc1 hd0 hd1; have hc0 := HK6.out.1.cell0; have hc1 := HK6.out.1.cell; have hd0 := HGF6.out.cell0; have hd1 := HGF6.out.cell; clear hB) | (go_at_call 11; (with_reducible refine (ref_same_any k3 A3 c3 n3 l3 k A c n xs _ HL3.out HL.out (by omega) (own_reads' HG6.out) (own_cap HG6.out) (HRX.out.below HK6.out.bel) HC.out).mono ?_); rintro e' w7 ⟨rfl, hB⟩; rw [HSM.out]; have HK7 := Aside0.mk (HK6.out.below HK6.out.2.2.size hB); clear hc0 hc1 hd0 hd1 hB) | (go_at_call 10; (with_reducible refine (H10b.out _ (HRB.out.below HK7.out.bel)).mono ?_); rintro e' w8 ⟨A8, c8, rfl, ho, hB⟩; have HG8 := Aside0.mk (ho.alloc (.cells #[.int .i64 k8, .slice A8 n8 c8] 24)); have HK8 := Aside0.mk ((HK7.out.below HK7.out.2.2.size hB).alloc (.cells #[.int .i64 k8, .slice A8 n8 c8] 24)); clear hB ho))
  go_ret
  exact ⟨rfl, HK8.out.2.2⟩
set_option maxRecDepth 100000 in
set_option maxHeartbeats 4000000 in
theorem back_right_ok (k : Int) (A B : Option Addr) (n c e d : Nat) (m : Bool) (g0 g1 g2 a0 a1 a2 : Int) (hb : Bool) (b : Int) (hg : Bool) (n0 n1 n2 : Int) (xs bs : List Int) (w : World) (hn : n ≤ 100) (he : e ≤ 500)
    (N : Nat) (k3 : Int) (l3 : List Int) (n3 : Nat) (k8 : Int) (l8 : List Int) (n8 : Nat)
    (HL : Aside0 (xs.length = n)) (HRX : Aside0 (ReadsInt w .i64 A n xs)) (HC : Aside0 (n ≤ c)) (HLB : Aside0 (bs.length = e)) (HRB : Aside0 (ReadsInt w .u8 B e bs)) (HCB : Aside0 (e ≤ d)) (HL3 : Aside0 (l3.length = n3)) (hn3 : n3 ≤ 1000) (L : List Int)
    (H9 : Aside0 (∀ W, ReadsInt W .i64 A n xs → Calls Try.prog 9 #[.agg #[.int .i64 k, .slice A n c]] W (EncIs W 0 L N)))
    (H10 : Aside0 (∀ A2 c2 W, ReadsInt W .u8 A2 N L → N ≤ c2 → Calls Try.prog 10 #[.slice A2 N c2] W (DecIs W k3 l3 n3 0)))
    (H17 : Aside0 (∀ W, Calls Try.prog 17 #[.agg #[.int .i64 k, .slice A n c]] W fun e w' => e = .returned (.bool true) ∧ Below W.heap.size W w')) (HSM : Aside0 (sameF k3 l3 k xs = true))
    (H10b : Aside0 (∀ W, ReadsInt W .u8 B e bs → Calls Try.prog 10 #[.slice B e d] W (DecIs W k8 l8 n8 0))) (H9b : Aside0 (∀ A8 c8 W, ReadsInt W .i64 A8 n8 l8 → Calls Try.prog 9 #[.agg #[.int .i64 k8, .slice A8 n8 c8]] W (EncIs W 0 bs e))) :
    Calls Try.prog 6 #[.agg #[.int .i64 k, .slice A n c], .agg #[.bool m, .int .i64 g0, .int .i64 g1, .int .i64 g2, .int .i64 a0, .int .i64 a1, .int .i64 a2, .bool hb, .int .i64 b, .bool hg, .int .i64 n0, .int .i64 n1, .int .i64 n2], .slice B e d] w (TruePost w) := by
  have HK0 := Aside0.mk (Kept3.start w k A n c m g0 g1 g2 a0 a1 a2 hb b hg n0 n1 n2)
  have hu24 := Try.underlying24
  have hu48 := Try.underlying48
  have hneq := neq_sample m g0 g1 g2 a0 a1 a2 hb b hg n0 n1 n2
  have heqs := eqs_sample m g0 g1 g2 a0 a1 a2 hb b hg n0 n1 n2
  have hgt : ∀ (x y : Operand) (W : World), (eqGuard .neq 48 x y (.agg #[.bool m, .int .i64 g0, .int .i64 g1, .int .i64 g2, .int .i64 a0, .int .i64 a1, .int .i64 a2, .bool hb, .int .i64 b, .bool hg, .int .i64 n0, .int .i64 n1, .int .i64 n2]) (.agg #[.bool m, .int .i64 g0, .int .i64 g1, .int .i64 g2, .int .i64 a0, .int .i64 a1, .int .i64 a2, .bool hb, .int .i64 b, .bool hg, .int .i64 n0, .int .i64 n1, .int .i64 n2])).run Try.prog W = .ok () W := fun x y W => run_eqGuard_agg W .neq 48 x y _ _ (by kernel_rfl)
  have hg1 : decide ((100 : Int) < (n : Int)) = false := decide_eq_false (by omega)
  have hg2 : decide ((500 : Int) < (e : Int)) = false := decide_eq_false (by omega)
  go_enter Try.func6, Try.ntmps6
  go_wp2_with (first | (go_at_call 7; refine (shown_any _).mono ?_; rintro e' w1 ⟨rfl, hB⟩; have HK1 := Aside0.mk (HK0.out.below (by simp; omega) hB); have hc0 := HK1.out.1.cell0; have hc1 := HK1.out.1.cell; clear hB) | (go_at_call 9; (with_reducible refine (H9.out _ (HRX.out.below HK1.out.bel)).mono ?_); rintro e' w2 ⟨A2, c2, rfl, ho, hB⟩; have HX2 := Aside0.mk ho; have HK2 := Aside0.mk (HK1.out.below HK1.out.2.2.size hB); clear hc0 hc1 hB ho) | (go_at_call 10; (with_reducible refine (H10.out A2 c2 _ (own_reads' HX2.out) (own_cap HX2.out)).mono ?_); rintro e' w3 ⟨A3, c3, rfl, ho, hB⟩; have HG3 := Aside0.mk ho; have HK3 := Aside0.mk ((HK2.out.below HK2.out.2.2.size hB).alloc (.cells #[.int .i64 k3, .slice A3 n3 c3] 24)); obtain ⟨y0, y1, y2, y3, y4, y5, y6, y7, y8, y9, y10, y11, y12⟩ := Sampled.cells HK3.out.2.1; clear hB ho) | (go_at_call 20; (with_reducible refine (pack_any m g0 g1 g2 a0 a1 a2 hb b hg n0 n1 n2 _).mono ?_); rintro e' w4 ⟨A4, c4, rfl, ho, hB⟩; obtain ⟨g4, c4', hv4⟩ := ownsRow_succ ho; obtain rfl : A4 = some ⟨g4, 0, none⟩ := (Value.slice.inj hv4).1; have HP4 := Aside0.mk ho; have HG4 := Aside0.mk (pw_own_below (HG3.out.alloc _) hB); have HGF4 := Aside0.mk (show Framed w4 w3.heap.size k3 (.slice A3 n3 c3) from blk_below (heap_alloc_new w3 _) hB); have HK4 := Aside0.mk (HK3.out.below HK3.out.2.2.size hB); clear y0 y1 y2 y3 y4 y5 y6 y7 y8 y9 y10 y11 y12 hB ho hv4) | (go_at_call 19; (with_reducible refine (unpack_any _ g4 c4 m g0 g1 g2 a0 a1 a2 hb b hg n0 n1 n2 _ HP4.out).mono ?_); rintro e' w5 ⟨rfl, hB⟩; have HG5 := Aside0.mk (pw_own_below HG4.out hB); have HGF5 := Aside0.mk (show Framed (w5.alloc (.cells #[.bool m, .int .i64 g0, .int .i64 g1, .int .i64 g2, .int .i64 a0, .int .i64 a1, .int .i64 a2, .bool hb, .int .i64 b, .bool hg, .int .i64 n0, .int .i64 n1, .int .i64 n2] 48)) w3.heap.size k3 (.slice A3 n3 c3) from Framed.alloc (blk_below HGF4.out hB) _); have HK5 := Aside0.mk ((HK4.out.below HK4.out.2.2.size hB).alloc (.cells #[.bool m, .int .i64 g0, .int .i64 g1, .int .i64 g2, .int .i64 a0, .int .i64 a1, .int .i64 a2, .bool hb, .int .i64 b, .bool hg, .int .i64 n0, .int .i64 n1, .int .i64 n2] 48)); obtain ⟨y0, y1, y2, y3, y4, y5, y6, y7, y8, y9, y10, y11, y12⟩ := Sampled.cells HK5.out.2.1; have hc0 := HK5.out.1.cell0; have hc1 := HK5.out.1.cell; have hd0 := HGF5.out.cell0; have hd1 := HGF5.out.cell; clear hB) | (go_at_call 17; (with_reducible refine (H17.out _).mono ?_); rintro e' w6 ⟨rfl, hB⟩; have HG6 := Aside0.mk (pw_own_below (HG5.out.alloc (.cells #[.bool m, .int .i64 g0, .int .i64 g1, .int .i64 g2, .int .i64 a0, .int .i64 a1, .int .i64 a2, .bool hb, .int .i64 b, .bool hg, .int .i64 n0, .int .i64 n1, .int .i64 n2] 48)) hB); have HGF6 := Aside0.mk (show Framed w6 w3.heap.size k3 (.slice A3 n3 c3) from blk_below HGF5.out hB); have HK6 := Aside0.mk (HK5.out.below HK5.out.2.2.size hB); clear y0 y1 y2 y3 y4 y5 y6 y7 y8 y9 y10 y11 y12 hc0 hc1 hd0 hd1; have hc0 := HK6.out.1.cell0; have hc1 := HK6.out.1.cell; have hd0 := HGF6.out.cell0; have hd1 := HGF6.out.cell; clear hB) | (go_at_call 11; (with_reducible refine (ref_same_any k3 A3 c3 n3 l3 k A c n xs _ HL3.out HL.out (by omega) (own_reads' HG6.out) (own_cap HG6.out) (HRX.out.below HK6.out.bel) HC.out).mono ?_); rintro e' w7 ⟨rfl, hB⟩; rw [HSM.out]; have HK7 := Aside0.mk (HK6.out.below HK6.out.2.2.size hB); clear hc0 hc1 hd0 hd1 hB) | (go_at_call 10; (with_reducible refine (H10b.out _ (HRB.out.below HK7.out.bel)).mono ?_); rintro e' w8 ⟨A8, c8, rfl, ho, hB⟩; have HG8 := Aside0.mk (ho.alloc (.cells #[.int .i64 k8, .slice A8 n8 c8] 24)); have HK8 := Aside0.mk ((HK7.out.below HK7.out.2.2.size hB).alloc (.cells #[.int .i64 k8, .slice A8 n8 c8] 24)); clear hB ho) | (go_at_call 9; (with_reducible refine (H9b.out A8 c8 _ (own_reads' HG8.out)).mono ?_); rintro e' w9 ⟨A9, c9, rfl, ho, hB⟩; have HX9 := Aside0.mk ho; have HK9 := Aside0.mk (HK8.out.below HK8.out.2.2.size hB); clear hB ho) | (go_at_call 15; (with_reducible refine (ref07_same_any A9 c9 e bs B d e bs _ HLB.out HLB.out (by omega) (own_reads' HX9.out) (own_cap HX9.out) (HRB.out.below HK9.out.bel) HCB.out).mono ?_); rintro e' w10 ⟨rfl, hB⟩; rw [decide_eq_true rfl]; have HK10 := Aside0.mk (HK9.out.below HK9.out.2.2.size hB); clear hB))
  go_ret
  exact ⟨rfl, HK10.out.2.2⟩
set_option maxRecDepth 100000 in
set_option maxHeartbeats 4000000 in
theorem back_wrong_no (k : Int) (A B : Option Addr) (n c e d : Nat) (m : Bool) (g0 g1 g2 a0 a1 a2 : Int) (hb : Bool) (b : Int) (hg : Bool) (n0 n1 n2 : Int) (xs bs : List Int) (w : World) (hn : n ≤ 100) (he : e ≤ 500)
    (N : Nat) (k3 : Int) (l3 : List Int) (n3 : Nat) (k8 : Int) (l8 : List Int) (n8 : Nat)
    (HL : Aside0 (xs.length = n)) (HRX : Aside0 (ReadsInt w .i64 A n xs)) (HC : Aside0 (n ≤ c)) (HLB : Aside0 (bs.length = e)) (HRB : Aside0 (ReadsInt w .u8 B e bs)) (HCB : Aside0 (e ≤ d)) (HL3 : Aside0 (l3.length = n3)) (hn3 : n3 ≤ 1000) (L : List Int)
    (H9 : Aside0 (∀ W, ReadsInt W .i64 A n xs → Calls Try.prog 9 #[.agg #[.int .i64 k, .slice A n c]] W (EncIs W 1 L N)))
    (H10 : Aside0 (∀ A2 c2 W, ReadsInt W .u8 A2 N L → N ≤ c2 → Calls Try.prog 10 #[.slice A2 N c2] W (DecIs W k3 l3 n3 4)))
    (H17 : Aside0 (∀ W, Calls Try.prog 17 #[.agg #[.int .i64 k, .slice A n c]] W fun e w' => e = .returned (.bool false) ∧ Below W.heap.size W w')) (e8 : Int) (hz8 : (e8 == 0) = false)
    (H10b : Aside0 (∀ W, ReadsInt W .u8 B e bs → Calls Try.prog 10 #[.slice B e d] W (DecIs W k8 l8 n8 e8))) :
    Calls Try.prog 6 #[.agg #[.int .i64 k, .slice A n c], .agg #[.bool m, .int .i64 g0, .int .i64 g1, .int .i64 g2, .int .i64 a0, .int .i64 a1, .int .i64 a2, .bool hb, .int .i64 b, .bool hg, .int .i64 n0, .int .i64 n1, .int .i64 n2], .slice B e d] w (TruePost w) := by
  have HK0 := Aside0.mk (Kept3.start w k A n c m g0 g1 g2 a0 a1 a2 hb b hg n0 n1 n2)
  have hu24 := Try.underlying24
  have hu48 := Try.underlying48
  have hneq := neq_sample m g0 g1 g2 a0 a1 a2 hb b hg n0 n1 n2
  have heqs := eqs_sample m g0 g1 g2 a0 a1 a2 hb b hg n0 n1 n2
  have hgt : ∀ (x y : Operand) (W : World), (eqGuard .neq 48 x y (.agg #[.bool m, .int .i64 g0, .int .i64 g1, .int .i64 g2, .int .i64 a0, .int .i64 a1, .int .i64 a2, .bool hb, .int .i64 b, .bool hg, .int .i64 n0, .int .i64 n1, .int .i64 n2]) (.agg #[.bool m, .int .i64 g0, .int .i64 g1, .int .i64 g2, .int .i64 a0, .int .i64 a1, .int .i64 a2, .bool hb, .int .i64 b, .bool hg, .int .i64 n0, .int .i64 n1, .int .i64 n2])).run Try.prog W = .ok () W := fun x y W => run_eqGuard_agg W .neq 48 x y _ _ (by kernel_rfl)
  have hg1 : decide ((100 : Int) < (n : Int)) = false := decide_eq_false (by omega)
  have hg2 : decide ((500 : Int) < (e : Int)) = false := decide_eq_false (by omega)
  go_enter Try.func6, Try.ntmps6
  go_wp2_with (first | (go_at_call 7; refine (shown_any _).mono ?_; rintro e' w1 ⟨rfl, hB⟩; have HK1 := Aside0.mk (HK0.out.below (by simp; omega) hB); have hc0 := HK1.out.1.cell0; have hc1 := HK1.out.1.cell; clear hB) | (go_at_call 9; (with_reducible refine (H9.out _ (HRX.out.below HK1.out.bel)).mono ?_); rintro e' w2 ⟨A2, c2, rfl, ho, hB⟩; have HX2 := Aside0.mk ho; have HK2 := Aside0.mk (HK1.out.below HK1.out.2.2.size hB); clear hc0 hc1 hB ho) | (go_at_call 10; (with_reducible refine (H10.out A2 c2 _ (own_reads' HX2.out) (own_cap HX2.out)).mono ?_); rintro e' w3 ⟨A3, c3, rfl, ho, hB⟩; have HG3 := Aside0.mk ho; have HK3 := Aside0.mk ((HK2.out.below HK2.out.2.2.size hB).alloc (.cells #[.int .i64 k3, .slice A3 n3 c3] 24)); obtain ⟨y0, y1, y2, y3, y4, y5, y6, y7, y8, y9, y10, y11, y12⟩ := Sampled.cells HK3.out.2.1; clear hB ho) | (go_at_call 20; (with_reducible refine (pack_any m g0 g1 g2 a0 a1 a2 hb b hg n0 n1 n2 _).mono ?_); rintro e' w4 ⟨A4, c4, rfl, ho, hB⟩; obtain ⟨g4, c4', hv4⟩ := ownsRow_succ ho; obtain rfl : A4 = some ⟨g4, 0, none⟩ := (Value.slice.inj hv4).1; have HP4 := Aside0.mk ho; have HG4 := Aside0.mk (pw_own_below (HG3.out.alloc _) hB); have HGF4 := Aside0.mk (show Framed w4 w3.heap.size k3 (.slice A3 n3 c3) from blk_below (heap_alloc_new w3 _) hB); have HK4 := Aside0.mk (HK3.out.below HK3.out.2.2.size hB); clear y0 y1 y2 y3 y4 y5 y6 y7 y8 y9 y10 y11 y12 hB ho hv4) | (go_at_call 19; (with_reducible refine (unpack_any _ g4 c4 m g0 g1 g2 a0 a1 a2 hb b hg n0 n1 n2 _ HP4.out).mono ?_); rintro e' w5 ⟨rfl, hB⟩; have HG5 := Aside0.mk (pw_own_below HG4.out hB); have HGF5 := Aside0.mk (show Framed (w5.alloc (.cells #[.bool m, .int .i64 g0, .int .i64 g1, .int .i64 g2, .int .i64 a0, .int .i64 a1, .int .i64 a2, .bool hb, .int .i64 b, .bool hg, .int .i64 n0, .int .i64 n1, .int .i64 n2] 48)) w3.heap.size k3 (.slice A3 n3 c3) from Framed.alloc (blk_below HGF4.out hB) _); have HK5 := Aside0.mk ((HK4.out.below HK4.out.2.2.size hB).alloc (.cells #[.bool m, .int .i64 g0, .int .i64 g1, .int .i64 g2, .int .i64 a0, .int .i64 a1, .int .i64 a2, .bool hb, .int .i64 b, .bool hg, .int .i64 n0, .int .i64 n1, .int .i64 n2] 48)); obtain ⟨y0, y1, y2, y3, y4, y5, y6, y7, y8, y9, y10, y11, y12⟩ := Sampled.cells HK5.out.2.1; have hc0 := HK5.out.1.cell0; have hc1 := HK5.out.1.cell; have hd0 := HGF5.out.cell0; have hd1 := HGF5.out.cell; clear hB) | (go_at_call 17; (with_reducible refine (H17.out _).mono ?_); rintro e' w6 ⟨rfl, hB⟩; have HG6 := Aside0.mk (pw_own_below (HG5.out.alloc (.cells #[.bool m, .int .i64 g0, .int .i64 g1, .int .i64 g2, .int .i64 a0, .int .i64 a1, .int .i64 a2, .bool hb, .int .i64 b, .bool hg, .int .i64 n0, .int .i64 n1, .int .i64 n2] 48)) hB); have HGF6 := Aside0.mk (show Framed w6 w3.heap.size k3 (.slice A3 n3 c3) from blk_below HGF5.out hB); have HK6 := Aside0.mk (HK5.out.below HK5.out.2.2.size hB); clear y0 y1 y2 y3 y4 y5 y6 y7 y8 y9 y10 y11 y12 hc0 hc1 hd0 hd1; have hc0 := HK6.out.1.cell0; have hc1 := HK6.out.1.cell; have hd0 := HGF6.out.cell0; have hd1 := HGF6.out.cell; clear hB) | (go_at_call 10; (with_reducible refine (H10b.out _ (HRB.out.below HK6.out.bel)).mono ?_); rintro e' w8 ⟨A8, c8, rfl, ho, hB⟩; have HG8 := Aside0.mk (ho.alloc (.cells #[.int .i64 k8, .slice A8 n8 c8] 24)); have HK8 := Aside0.mk ((HK6.out.below HK6.out.2.2.size hB).alloc (.cells #[.int .i64 k8, .slice A8 n8 c8] 24)); clear hB ho))
  go_ret
  exact ⟨rfl, HK8.out.2.2⟩
set_option maxRecDepth 100000 in
set_option maxHeartbeats 4000000 in
theorem back_wrong_ok (k : Int) (A B : Option Addr) (n c e d : Nat) (m : Bool) (g0 g1 g2 a0 a1 a2 : Int) (hb : Bool) (b : Int) (hg : Bool) (n0 n1 n2 : Int) (xs bs : List Int) (w : World) (hn : n ≤ 100) (he : e ≤ 500)
    (N : Nat) (k3 : Int) (l3 : List Int) (n3 : Nat) (k8 : Int) (l8 : List Int) (n8 : Nat)
    (HL : Aside0 (xs.length = n)) (HRX : Aside0 (ReadsInt w .i64 A n xs)) (HC : Aside0 (n ≤ c)) (HLB : Aside0 (bs.length = e)) (HRB : Aside0 (ReadsInt w .u8 B e bs)) (HCB : Aside0 (e ≤ d)) (HL3 : Aside0 (l3.length = n3)) (hn3 : n3 ≤ 1000) (L : List Int)
    (H9 : Aside0 (∀ W, ReadsInt W .i64 A n xs → Calls Try.prog 9 #[.agg #[.int .i64 k, .slice A n c]] W (EncIs W 1 L N)))
    (H10 : Aside0 (∀ A2 c2 W, ReadsInt W .u8 A2 N L → N ≤ c2 → Calls Try.prog 10 #[.slice A2 N c2] W (DecIs W k3 l3 n3 4)))
    (H17 : Aside0 (∀ W, Calls Try.prog 17 #[.agg #[.int .i64 k, .slice A n c]] W fun e w' => e = .returned (.bool false) ∧ Below W.heap.size W w'))
    (H10b : Aside0 (∀ W, ReadsInt W .u8 B e bs → Calls Try.prog 10 #[.slice B e d] W (DecIs W k8 l8 n8 0))) (H9b : Aside0 (∀ A8 c8 W, ReadsInt W .i64 A8 n8 l8 → Calls Try.prog 9 #[.agg #[.int .i64 k8, .slice A8 n8 c8]] W (EncIs W 0 bs e))) :
    Calls Try.prog 6 #[.agg #[.int .i64 k, .slice A n c], .agg #[.bool m, .int .i64 g0, .int .i64 g1, .int .i64 g2, .int .i64 a0, .int .i64 a1, .int .i64 a2, .bool hb, .int .i64 b, .bool hg, .int .i64 n0, .int .i64 n1, .int .i64 n2], .slice B e d] w (TruePost w) := by
  have HK0 := Aside0.mk (Kept3.start w k A n c m g0 g1 g2 a0 a1 a2 hb b hg n0 n1 n2)
  have hu24 := Try.underlying24
  have hu48 := Try.underlying48
  have hneq := neq_sample m g0 g1 g2 a0 a1 a2 hb b hg n0 n1 n2
  have heqs := eqs_sample m g0 g1 g2 a0 a1 a2 hb b hg n0 n1 n2
  have hgt : ∀ (x y : Operand) (W : World), (eqGuard .neq 48 x y (.agg #[.bool m, .int .i64 g0, .int .i64 g1, .int .i64 g2, .int .i64 a0, .int .i64 a1, .int .i64 a2, .bool hb, .int .i64 b, .bool hg, .int .i64 n0, .int .i64 n1, .int .i64 n2]) (.agg #[.bool m, .int .i64 g0, .int .i64 g1, .int .i64 g2, .int .i64 a0, .int .i64 a1, .int .i64 a2, .bool hb, .int .i64 b, .bool hg, .int .i64 n0, .int .i64 n1, .int .i64 n2])).run Try.prog W = .ok () W := fun x y W => run_eqGuard_agg W .neq 48 x y _ _ (by kernel_rfl)
  have hg1 : decide ((100 : Int) < (n : Int)) = false := decide_eq_false (by omega)
  have hg2 : decide ((500 : Int) < (e : Int)) = false := decide_eq_false (by omega)
  go_enter Try.func6, Try.ntmps6
  go_wp2_with (first | (go_at_call 7; refine (shown_any _).mono ?_; rintro e' w1 ⟨rfl, hB⟩; have HK1 := Aside0.mk (HK0.out.below (by simp; omega) hB); have hc0 := HK1.out.1.cell0; have hc1 := HK1.out.1.cell; clear hB) | (go_at_call 9; (with_reducible refine (H9.out _ (HRX.out.below HK1.out.bel)).mono ?_); rintro e' w2 ⟨A2, c2, rfl, ho, hB⟩; have HX2 := Aside0.mk ho; have HK2 := Aside0.mk (HK1.out.below HK1.out.2.2.size hB); clear hc0 hc1 hB ho) | (go_at_call 10; (with_reducible refine (H10.out A2 c2 _ (own_reads' HX2.out) (own_cap HX2.out)).mono ?_); rintro e' w3 ⟨A3, c3, rfl, ho, hB⟩; have HG3 := Aside0.mk ho; have HK3 := Aside0.mk ((HK2.out.below HK2.out.2.2.size hB).alloc (.cells #[.int .i64 k3, .slice A3 n3 c3] 24)); obtain ⟨y0, y1, y2, y3, y4, y5, y6, y7, y8, y9, y10, y11, y12⟩ := Sampled.cells HK3.out.2.1; clear hB ho) | (go_at_call 20; (with_reducible refine (pack_any m g0 g1 g2 a0 a1 a2 hb b hg n0 n1 n2 _).mono ?_); rintro e' w4 ⟨A4, c4, rfl, ho, hB⟩; obtain ⟨g4, c4', hv4⟩ := ownsRow_succ ho; obtain rfl : A4 = some ⟨g4, 0, none⟩ := (Value.slice.inj hv4).1; have HP4 := Aside0.mk ho; have HG4 := Aside0.mk (pw_own_below (HG3.out.alloc _) hB); have HGF4 := Aside0.mk (show Framed w4 w3.heap.size k3 (.slice A3 n3 c3) from blk_below (heap_alloc_new w3 _) hB); have HK4 := Aside0.mk (HK3.out.below HK3.out.2.2.size hB); clear y0 y1 y2 y3 y4 y5 y6 y7 y8 y9 y10 y11 y12 hB ho hv4) | (go_at_call 19; (with_reducible refine (unpack_any _ g4 c4 m g0 g1 g2 a0 a1 a2 hb b hg n0 n1 n2 _ HP4.out).mono ?_); rintro e' w5 ⟨rfl, hB⟩; have HG5 := Aside0.mk (pw_own_below HG4.out hB); have HGF5 := Aside0.mk (show Framed (w5.alloc (.cells #[.bool m, .int .i64 g0, .int .i64 g1, .int .i64 g2, .int .i64 a0, .int .i64 a1, .int .i64 a2, .bool hb, .int .i64 b, .bool hg, .int .i64 n0, .int .i64 n1, .int .i64 n2] 48)) w3.heap.size k3 (.slice A3 n3 c3) from Framed.alloc (blk_below HGF4.out hB) _); have HK5 := Aside0.mk ((HK4.out.below HK4.out.2.2.size hB).alloc (.cells #[.bool m, .int .i64 g0, .int .i64 g1, .int .i64 g2, .int .i64 a0, .int .i64 a1, .int .i64 a2, .bool hb, .int .i64 b, .bool hg, .int .i64 n0, .int .i64 n1, .int .i64 n2] 48)); obtain ⟨y0, y1, y2, y3, y4, y5, y6, y7, y8, y9, y10, y11, y12⟩ := Sampled.cells HK5.out.2.1; have hc0 := HK5.out.1.cell0; have hc1 := HK5.out.1.cell; have hd0 := HGF5.out.cell0; have hd1 := HGF5.out.cell; clear hB) | (go_at_call 17; (with_reducible refine (H17.out _).mono ?_); rintro e' w6 ⟨rfl, hB⟩; have HG6 := Aside0.mk (pw_own_below (HG5.out.alloc (.cells #[.bool m, .int .i64 g0, .int .i64 g1, .int .i64 g2, .int .i64 a0, .int .i64 a1, .int .i64 a2, .bool hb, .int .i64 b, .bool hg, .int .i64 n0, .int .i64 n1, .int .i64 n2] 48)) hB); have HGF6 := Aside0.mk (show Framed w6 w3.heap.size k3 (.slice A3 n3 c3) from blk_below HGF5.out hB); have HK6 := Aside0.mk (HK5.out.below HK5.out.2.2.size hB); clear y0 y1 y2 y3 y4 y5 y6 y7 y8 y9 y10 y11 y12 hc0 hc1 hd0 hd1; have hc0 := HK6.out.1.cell0; have hc1 := HK6.out.1.cell; have hd0 := HGF6.out.cell0; have hd1 := HGF6.out.cell; clear hB) | (go_at_call 10; (with_reducible refine (H10b.out _ (HRB.out.below HK6.out.bel)).mono ?_); rintro e' w8 ⟨A8, c8, rfl, ho, hB⟩; have HG8 := Aside0.mk (ho.alloc (.cells #[.int .i64 k8, .slice A8 n8 c8] 24)); have HK8 := Aside0.mk ((HK6.out.below HK6.out.2.2.size hB).alloc (.cells #[.int .i64 k8, .slice A8 n8 c8] 24)); clear hB ho) | (go_at_call 9; (with_reducible refine (H9b.out A8 c8 _ (own_reads' HG8.out)).mono ?_); rintro e' w9 ⟨A9, c9, rfl, ho, hB⟩; have HX9 := Aside0.mk ho; have HK9 := Aside0.mk (HK8.out.below HK8.out.2.2.size hB); clear hB ho) | (go_at_call 15; (with_reducible refine (ref07_same_any A9 c9 e bs B d e bs _ HLB.out HLB.out (by omega) (own_reads' HX9.out) (own_cap HX9.out) (HRB.out.below HK9.out.bel) HCB.out).mono ?_); rintro e' w10 ⟨rfl, hB⟩; rw [decide_eq_true rfl]; have HK10 := Aside0.mk (HK9.out.below HK9.out.2.2.size hB); clear hB))
  go_ret
  exact ⟨rfl, HK10.out.2.2⟩

theorem back_any (k : Int) (A B : Option Addr) (n c e d : Nat) (m : Bool) (g0 g1 g2 a0 a1 a2 : Int) (hb : Bool) (b : Int) (hg : Bool) (n0 n1 n2 : Int) (xs bs : List Int) (w : World) (hl : xs.length = n) (hr : ReadsInt w .i64 A n xs) (hc : n ≤ c) (hlb : bs.length = e) (hrb : ReadsInt w .u8 B e bs) (hcb : e ≤ d) (hbb : IsBytes bs)
    (hxs : ∀ x ∈ xs, -9223372036854775808 ≤ x ∧ x < 9223372036854775808) (hm : n ≤ 1152921504606846976) :
    Calls Try.prog 6 #[.agg #[.int .i64 k, .slice A n c], .agg #[.bool m, .int .i64 g0, .int .i64 g1, .int .i64 g2, .int .i64 a0, .int .i64 a1, .int .i64 a2, .bool hb, .int .i64 b, .bool hg, .int .i64 n0, .int .i64 n1, .int .i64 n2], .slice B e d] w (TruePost w) := by
  by_cases hs : 100 < n ∨ 500 < e
  · exact back_long k A B n c e d m g0 g1 g2 a0 a1 a2 hb b hg n0 n1 n2 w hs hm
  have hn : n ≤ 100 := by omega
  have he : e ≤ 500 := by omega
  obtain ⟨k8, l8, e8, h8⟩ : ∃ k8 l8 e8, decF bs = (k8, l8, e8) := ⟨_, _, _, rfl⟩
  have H10b : Aside0 (∀ W, ReadsInt W .u8 B e bs → Calls Try.prog 10 #[.slice B e d] W (DecIs W k8 l8 l8.length e8)) := ⟨fun W h => decode_is B d e bs W hlb hbb (by omega) h hcb k8 l8 e8 h8 _ rfl⟩
  have H9b : e8 = 0 → Aside0 (∀ A8 c8 W, ReadsInt W .i64 A8 l8.length l8 → Calls Try.prog 9 #[.agg #[.int .i64 k8, .slice A8 l8.length c8]] W (EncIs W 0 bs e)) := fun h0 => ⟨fun A8 c8 W h => by
    have hok := decF_ok bs hbb (by rw [h8]; exact h0)
    rw [h8] at hok
    exact encode_is k8 A8 c8 _ l8 W rfl h bs 0 (by unfold encR; rw [if_pos hok.1, hok.2]) e hlb⟩
  cases hR : rightF k n with
  | true =>
    have hR' : rightF k xs.length = true := by rw [hl]; exact hR
    have H9 : Aside0 (∀ W, ReadsInt W .i64 A n xs → Calls Try.prog 9 #[.agg #[.int .i64 k, .slice A n c]] W (EncIs W 0 (encF k xs) (encF k xs).length)) := ⟨fun W h => encode_is k A c n xs W hl h _ 0 (by unfold encR; rw [if_pos hR']) _ rfl⟩
    have H10 : Aside0 (∀ A2 c2 W, ReadsInt W .u8 A2 (encF k xs).length (encF k xs) → (encF k xs).length ≤ c2 → Calls Try.prog 10 #[.slice A2 (encF k xs).length c2] W (DecIs W k xs n 0)) := ⟨fun A2 c2 W h h' => decode_is A2 c2 _ (encF k xs) W rfl (encF_bytes k xs) (by rw [encF_length]; omega) h h' k xs 0 (decF_encF k xs hR' hxs) n hl⟩
    have H17 : Aside0 (∀ W, Calls Try.prog 17 #[.agg #[.int .i64 k, .slice A n c]] W fun e w' => e = .returned (.bool true) ∧ Below W.heap.size W w') := ⟨fun W => hR ▸ right_any k n A c W⟩
    have HSM : Aside0 (sameF k xs k xs = true) := ⟨sameF_self k xs⟩
    by_cases h0 : e8 = 0
    · have H9c := H9b h0
      subst h0
      exact back_right_ok k A B n c e d m g0 g1 g2 a0 a1 a2 hb b hg n0 n1 n2 xs bs w hn he _ k xs n k8 l8 _ ⟨hl⟩ ⟨hr⟩ ⟨hc⟩ ⟨hlb⟩ ⟨hrb⟩ ⟨hcb⟩ ⟨hl⟩ (by omega) _ H9 H10 H17 HSM H10b H9c
    · exact back_right_no k A B n c e d m g0 g1 g2 a0 a1 a2 hb b hg n0 n1 n2 xs bs w hn he _ k xs n k8 l8 _ ⟨hl⟩ ⟨hr⟩ ⟨hc⟩ ⟨hlb⟩ ⟨hrb⟩ ⟨hcb⟩ ⟨hl⟩ (by omega) _ H9 H10 H17 HSM e8 (beq_eq_false_iff_ne.2 h0) H10b
  | false =>
    have hR' : ¬ rightF k xs.length = true := by rw [hl, hR]; decide
    have H9 : Aside0 (∀ W, ReadsInt W .i64 A n xs → Calls Try.prog 9 #[.agg #[.int .i64 k, .slice A n c]] W (EncIs W 1 [] 0)) := ⟨fun W h => encode_is k A c n xs W hl h _ 1 (by unfold encR; rw [if_neg hR']) _ rfl⟩
    have H10 : Aside0 (∀ A2 c2 W, ReadsInt W .u8 A2 0 [] → 0 ≤ c2 → Calls Try.prog 10 #[.slice A2 0 c2] W (DecIs W 0 [] 0 4)) := ⟨fun A2 c2 W h h' => decode_is A2 c2 0 [] W rfl (fun x hx => by cases hx) (by omega) h h' 0 [] 4 rfl 0 rfl⟩
    have H17 : Aside0 (∀ W, Calls Try.prog 17 #[.agg #[.int .i64 k, .slice A n c]] W fun e w' => e = .returned (.bool false) ∧ Below W.heap.size W w') := ⟨fun W => hR ▸ right_any k n A c W⟩
    by_cases h0 : e8 = 0
    · have H9c := H9b h0
      subst h0
      exact back_wrong_ok k A B n c e d m g0 g1 g2 a0 a1 a2 hb b hg n0 n1 n2 xs bs w hn he _ 0 [] 0 k8 l8 _ ⟨hl⟩ ⟨hr⟩ ⟨hc⟩ ⟨hlb⟩ ⟨hrb⟩ ⟨hcb⟩ ⟨rfl⟩ (by omega) _ H9 H10 H17 H10b H9c
    · exact back_wrong_no k A B n c e d m g0 g1 g2 a0 a1 a2 hb b hg n0 n1 n2 xs bs w hn he _ 0 [] 0 k8 l8 _ ⟨hl⟩ ⟨hr⟩ ⟨hc⟩ ⟨hlb⟩ ⟨hrb⟩ ⟨hcb⟩ ⟨rfl⟩ (by omega) _ H9 H10 H17 e8 (beq_eq_false_iff_ne.2 h0) H10b
end Go.Proofs.Ytjfolhheejkedaa
