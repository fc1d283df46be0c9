import Derived.Test.YtjfolhheejkedaaKinds
set_option linter.unusedVariables false
namespace Go.Proofs.Ytjfolhheejkedaa
open Go.RowKit Go.Shelf Go.Joins Go.Proofs.YtjfolhheejkedaaW.PrintWords Go.Proofs.YtjfolhheejkedaaW.PrintLast Go.Proofs.YtjfolhheejkedaaW.PrintMore

/-! ### a sample as words: two closures that append to one captured row -/
/-- blocks of other types than the row's (2) and the captured variable's (22) stay as they are -/
def KT (w w' : World) : Prop := ∀ (k : Nat) (cs : Array Value) (t : TypeId) (fr : Nat × Nat), w.heap[k]? = some (.cells cs t fr) → t ≠ 2 → t ≠ 22 → w'.heap[k]? = some (.cells cs t fr)
theorem KT.refl (w : World) : KT w w := fun _ _ _ _ h _ _ => h
theorem KT.trans {a b c : World} (h : KT a b) (k : KT b c) : KT a c := fun i cs t fr hi h1 h2 => k i cs t fr (h i cs t fr hi h1 h2) h1 h2
theorem KT.alloc {a b : World} (h : KT a b) (o : Obj) : KT a (b.alloc o) := fun i cs t fr hi h1 h2 => blk_alloc (h i cs t fr hi h1 h2) o
theorem KT.drew {a b : World} (h : KT a b) : KT a b.drew := fun i cs t fr hi h1 h2 => h i cs t fr hi h1 h2
theorem KT.grown {a b c : World} (h : KT a b) {base n : Nat} {v : Value} {xs : List Value} (ho : b.ownsRow base 2 1 v n xs) (hg : b.grownBy c v.ownBlock) : KT a c := fun i cs t fr hi h1 h2 => by
  have hb := h i cs t fr hi h1 h2
  refine blk_grown hb hg fun e => ?_
  obtain ⟨cells, hc⟩ := own_typed ho i e.symm
  rw [hb] at hc
  injection hc with hc
  injection hc with _ ht
  exact h1 ht
theorem KT.set {a b : World} (h : KT a b) {B : Nat} {v : Value} (hB : Boxed b B 22 v) (u : Value) : KT a (b.setCell ⟨B, 0, none⟩ u) := fun i cs t fr hi h1 h2 => by
  have hb := h i cs t fr hi h1 h2
  refine (Below.heap_setCell b ⟨B, 0, none⟩ u i fun e => ?_).trans hb
  have e' : i = B := e
  subst e'
  rw [show b.heap[i]? = _ from hB] at hb
  injection hb with hb
  injection hb with _ ht
  exact h2 ht.symm
/-- the captured row -/
def PInv (w0 : World) (base B : Nat) (xs : List Int) (W : World) : Prop :=
  base ≤ B ∧ Below base w0 W ∧ base ≤ W.heap.size ∧ ∃ v, Boxed W B 22 v ∧ W.ownsRow base 2 1 v xs.length (nums .i64 xs)
theorem PInv.alloc {w0 W : World} {base B : Nat} {xs : List Int} (h : PInv w0 base B xs W) (o : Obj) : PInv w0 base B xs (W.alloc o) := by
  obtain ⟨h1, h2, h3, v, h4, h5⟩ := h
  exact ⟨h1, h2.alloc h3 o, by rw [World.size_alloc]; omega, v, h4.alloc o, h5.alloc o⟩
theorem PInv.appended {w0 W w1 : World} {base B : Nat} {v v1 : Value} {xs ys : List Int} (h1 : base ≤ B) (hBx : Boxed W B 22 v) (ho : W.ownsRow base 2 1 v xs.length (nums .i64 xs))
    (ho1 : w1.ownsRow base 2 1 v1 (xs ++ ys).length (nums .i64 (xs ++ ys))) (hB : Below base w0 w1) (hs : base ≤ W.heap.size) (hg : W.grownBy w1 v.ownBlock) : PInv w0 base B (xs ++ ys) (w1.setCell ⟨B, 0, none⟩ v1) ∧ Boxed w1 B 22 v := by
  have hk : Boxed w1 B 22 v := hBx.kept hg (hBx.not_row (by decide) ho)
  have hsz : base ≤ w1.heap.size := Nat.le_trans hs hg.size
  have hne : some B ≠ v1.ownBlock := hk.not_row (by decide) ho1
  exact ⟨⟨h1, hB.setCell (p := ⟨B, 0, none⟩) h1 _, by simpa using hsz, v1, hk.set v1, own_setCell (p := ⟨B, 0, none⟩) ho1 hne v1⟩, hk⟩
def bInt (b : Bool) : Int := if b then 1 else 0
set_option maxHeartbeats 1000000 in
theorem is_any (b : Bool) (B base : Nat) (xs : List Int) (w0 w : World) (hn : xs.length ≤ 1000) (h : PInv w0 base B xs w) :
    Calls Try.prog 30 #[.bool b, .pointer (some ⟨B, 0, none⟩)] w fun e w' => e = .returned (.tuple #[]) ∧ PInv w0 base B (xs ++ [bInt b]) w' ∧ KT w w' := by
  obtain ⟨h1, h2, h3, v, h4, h5⟩ := h
  have hc := h4.cell
  have hf := h4.frozen
  obtain ⟨A, c, rfl⟩ := own_slice h5
  have H4 := Aside0.mk h4
  have H5 := Aside0.mk h5
  have H2 := Aside0.mk h2
  clear h4 h5 h2
  cases b
  all_goals
    go_enter Try.func30, Try.ntmps30
    go_wp2_with (at_builtin; refine print_append_row (w0 := w0) base rfl _ _ 22 2 .i64 8 rfl Try.underlying22 info2 (by decide) _ xs [_] (some ⟨w.heap.size, 0, none⟩) 1 1 rfl rfl (H5.out.alloc _) (reads_one w .i64 _ 2) (H2.out.alloc h3 _) (by simp; omega) (by omega) ?_; intro v1 w1 ho1 hB1 hg1 _; obtain ⟨A1, c1, hv1⟩ := own_slice ho1; simp only [List.length_append, List.length_cons, List.length_nil, Nat.zero_add] at hv1; subst hv1; have HP := Aside0.mk (PInv.appended h1 (H4.out.alloc _) (H5.out.alloc _) ho1 hB1 (by simp; omega) hg1); have HKT := Aside0.mk (((KT.refl w).alloc _).grown (H5.out.alloc _) hg1); have hc1 := HP.out.2.cell; have hf1 := HP.out.2.frozen; clear ho1 hB1 hg1)
    go_end0
    exact ⟨rfl, HP.out.1, HKT.out.set HP.out.2 _⟩
theorem take_snoc' (ls : List Int) (k : Nat) (h : k < ls.length) : ls.take (k + 1) = ls.take k ++ [ls.getD k 0] := by
  rw [List.take_succ_eq_append_getElem h, List.getD_eq_getElem?_getD, List.getElem?_eq_getElem h]; rfl
set_option maxHeartbeats 1000000 in
theorem lay_any (S off n c : Nat) (cs : Array Value) (t : TypeId) (ls : List Int) (B base : Nat) (xs : List Int) (w0 w : World) (hn : xs.length + n ≤ 1000) (hl : ls.length = n) (hS : w.heap[S]? = some (.cells cs t (0, 0))) (ht : t ≠ 2) (ht' : t ≠ 22)
    (hcs : ∀ j, j < n → cs[off + j]? = some (.int .i64 (ls.getD j 0))) (h : PInv w0 base B xs w) :
    Calls Try.prog 31 #[.slice (some ⟨S, off, none⟩) n c, .pointer (some ⟨B, 0, none⟩)] w fun e w' => e = .returned (.tuple #[]) ∧ PInv w0 base B (xs ++ ls) w' ∧ KT w w' := by
  have HS := Aside0.mk hS
  have HT := Aside0.mk ht
  have HT' := Aside0.mk ht'
  have HC := Aside0.mk hcs
  have HI := Aside0.mk h
  have HL := Aside0.mk hl
  clear hS ht ht' hcs h hl
  go_enter Try.func31, Try.ntmps31
  go_wp2
  go_loopw [7] (fun i wr => ∃ k : Nat, k ≤ n ∧ i = .int .i64 k ∧ Aside0 (PInv w0 base B (xs ++ ls.take k) wr) ∧ Aside0 (KT w wr)) (fun i _ => n - (intOf i).toNat)
  case atStart => exact ⟨0, Nat.zero_le _, rfl, ⟨by rw [List.take_zero, List.append_nil]; exact HI.out⟩, ⟨KT.refl _⟩⟩
  case round =>
    obtain ⟨k, hk, rfl, HP, HK⟩ := hrel
    by_cases hlt : k < n
    · obtain ⟨h1, h2, h3, v, h4, h5⟩ := HP.out
      have hb := HK.out _ _ _ _ HS.out HT.out HT'.out
      have hcell : wr.cell? ⟨S, off + k, none⟩ = some (.int .i64 (ls.getD k 0)) := by rw [blk_cell hb, HC.out k hlt]
      have HSN : Aside0 (xs ++ ls.take (k + 1) = (xs ++ ls.take k) ++ [ls.getD k 0]) := ⟨by rw [take_snoc' ls k (by rw [HL.out]; exact hlt), List.append_assoc]⟩
      generalize ls.getD k 0 = x at hcell HSN
      have hc0 := h4.cell
      have hf0 := h4.frozen
      obtain ⟨A, c0, rfl⟩ := own_slice h5
      have HLN : Aside0 ((xs ++ ls.take k).length = xs.length + k) := ⟨by rw [List.length_append, List.length_take, HL.out]; omega⟩
      generalize xs ++ ls.take k = ys at h5 HLN HSN h4 hc0 HP
      have H4 := Aside0.mk h4
      have H5 := Aside0.mk h5
      have H2 := Aside0.mk h2
      clear h4 h5 h2 hb
      go_wp2_with (at_builtin; refine print_append_row (w0 := w0) base rfl _ _ 22 2 .i64 8 rfl Try.underlying22 info2 (by decide) _ ys [_] (some ⟨wr.heap.size, 0, none⟩) 1 1 rfl rfl (H5.out.alloc _) (reads_one wr .i64 _ 2) (H2.out.alloc h3 _) (by simp; omega) (by rw [HLN.out]; omega) ?_; intro v1 w1 ho1 hB1 hg1 _; obtain ⟨A1, c1, hv1⟩ := own_slice ho1; simp only [List.length_append, List.length_cons, List.length_nil, Nat.zero_add] at hv1; subst hv1; have HP1 := Aside0.mk (PInv.appended h1 (H4.out.alloc _) (H5.out.alloc _) ho1 hB1 (by simp; omega) hg1); have HKT := Aside0.mk ((HK.out.alloc _).grown (H5.out.alloc _) hg1); have hc1 := HP1.out.2.cell; have hf1 := HP1.out.2.frozen; clear ho1 hB1 hg1)
      go_roundw
      case rel => exact ⟨k + 1, by omega, by go_num, ⟨by rw [HSN.out]; exact HP1.out.1⟩, ⟨HKT.out.set HP1.out.2 _⟩⟩
      case measure => simp [intOf]; omega
    · obtain rfl : k = n := by omega
      have HLE : Aside0 (ls.take k = ls) := ⟨List.take_of_length_le (by rw [HL.out]; exact Nat.le_refl _)⟩
      go_wp2
      go_end0
      exact ⟨rfl, by have := HP.out; rwa [HLE.out] at this, HK.out⟩
def sampA (m : Bool) (g0 g1 g2 a0 a1 a2 : Int) (hb : Bool) (b : Int) (hg : Bool) (n0 n1 n2 : Int) : Array Value := #[.bool m, .int .i64 g0, .int .i64 g1, .int .i64 g2, .int .i64 a0, .int .i64 a1, .int .i64 a2, .bool hb, .int .i64 b, .bool hg, .int .i64 n0, .int .i64 n1, .int .i64 n2]
def packF (m : Bool) (g0 g1 g2 a0 a1 a2 : Int) (hb : Bool) (b : Int) (hg : Bool) (n0 n1 n2 : Int) : List Int := [bInt m, g0, g1, g2, a0, a1, a2, bInt hb, b, bInt hg, n0, n1, n2]
def Sampled (W : World) (S : Nat) (m : Bool) (g0 g1 g2 a0 a1 a2 : Int) (hb : Bool) (b : Int) (hg : Bool) (n0 n1 n2 : Int) : Prop := W.heap[S]? = some (.cells #[.bool m, .int .i64 g0, .int .i64 g1, .int .i64 g2, .int .i64 a0, .int .i64 a1, .int .i64 a2, .bool hb, .int .i64 b, .bool hg, .int .i64 n0, .int .i64 n1, .int .i64 n2] 48 (0, 0))
theorem Sampled.kt {W W' : World} {S : Nat} {m : Bool} {g0 g1 g2 a0 a1 a2 : Int} {hb : Bool} {b : Int} {hg : Bool} {n0 n1 n2 : Int} (h : Sampled W S m g0 g1 g2 a0 a1 a2 hb b hg n0 n1 n2) (k : KT W W') : Sampled W' S m g0 g1 g2 a0 a1 a2 hb b hg n0 n1 n2 := k _ _ _ _ h (by decide) (by decide)
theorem three_cells (cs : Array Value) (off : Nat) (x y z : Int) (hx : cs[off]? = some (.int .i64 x)) (hy : cs[off + 1]? = some (.int .i64 y)) (hz : cs[off + 2]? = some (.int .i64 z)) : ∀ j, j < 3 → cs[off + j]? = some (.int .i64 ([x, y, z].getD j 0)) := fun j hj => by
  obtain rfl | rfl | rfl : j = 0 ∨ j = 1 ∨ j = 2 := by omega
  · exact hx
  · exact hy
  · exact hz
theorem lay_gyro (m : Bool) (g0 g1 g2 a0 a1 a2 : Int) (hb : Bool) (b : Int) (hg : Bool) (n0 n1 n2 : Int) (S B base : Nat) (xs : List Int) (w0 w : World) (hn : xs.length ≤ 900) (hS : Sampled w S m g0 g1 g2 a0 a1 a2 hb b hg n0 n1 n2) (h : PInv w0 base B xs w) :
    Calls Try.prog 31 #[.slice (some ⟨S, 1, none⟩) 3 3, .pointer (some ⟨B, 0, none⟩)] w fun e w' => e = .returned (.tuple #[]) ∧ PInv w0 base B (xs ++ [g0, g1, g2]) w' ∧ KT w w' :=
  lay_any S 1 3 3 _ 48 [g0, g1, g2] B base xs w0 w (by omega) rfl hS (by decide) (by decide) (three_cells _ 1 g0 g1 g2 rfl rfl rfl) h
theorem lay_acc (m : Bool) (g0 g1 g2 a0 a1 a2 : Int) (hb : Bool) (b : Int) (hg : Bool) (n0 n1 n2 : Int) (S B base : Nat) (xs : List Int) (w0 w : World) (hn : xs.length ≤ 900) (hS : Sampled w S m g0 g1 g2 a0 a1 a2 hb b hg n0 n1 n2) (h : PInv w0 base B xs w) :
    Calls Try.prog 31 #[.slice (some ⟨S, 4, none⟩) 3 3, .pointer (some ⟨B, 0, none⟩)] w fun e w' => e = .returned (.tuple #[]) ∧ PInv w0 base B (xs ++ [a0, a1, a2]) w' ∧ KT w w' :=
  lay_any S 4 3 3 _ 48 [a0, a1, a2] B base xs w0 w (by omega) rfl hS (by decide) (by decide) (three_cells _ 4 a0 a1 a2 rfl rfl rfl) h
theorem lay_gnss (m : Bool) (g0 g1 g2 a0 a1 a2 : Int) (hb : Bool) (b : Int) (hg : Bool) (n0 n1 n2 : Int) (S B base : Nat) (xs : List Int) (w0 w : World) (hn : xs.length ≤ 900) (hS : Sampled w S m g0 g1 g2 a0 a1 a2 hb b hg n0 n1 n2) (h : PInv w0 base B xs w) :
    Calls Try.prog 31 #[.slice (some ⟨S, 10, none⟩) 3 3, .pointer (some ⟨B, 0, none⟩)] w fun e w' => e = .returned (.tuple #[]) ∧ PInv w0 base B (xs ++ [n0, n1, n2]) w' ∧ KT w w' :=
  lay_any S 10 3 3 _ 48 [n0, n1, n2] B base xs w0 w (by omega) rfl hS (by decide) (by decide) (three_cells _ 10 n0 n1 n2 rfl rfl rfl) h
theorem lay_baro (b : Int) (B base : Nat) (xs : List Int) (w0 w : World) (hn : xs.length ≤ 900) (h : PInv w0 base B xs w) :
    Calls Try.prog 31 #[.slice (some ⟨w.heap.size, 0, none⟩) 1 1, .pointer (some ⟨B, 0, none⟩)] (w.alloc (.cells #[.int .i64 b] 44)) fun e w' => e = .returned (.tuple #[]) ∧ PInv w0 base B (xs ++ [b]) w' ∧ KT w w' := by
  refine (lay_any w.heap.size 0 1 1 #[.int .i64 b] 44 [b] B base xs w0 _ (by omega) rfl (heap_alloc_new w _) (by decide) (by decide) (fun j hj => ?_) (h.alloc _)).mono ?_
  · obtain rfl : j = 0 := by omega
    rfl
  · rintro e w' ⟨he, hP, hK⟩
    exact ⟨he, hP, ((KT.refl w).alloc _).trans hK⟩
theorem PInv.start (w : World) (o : Obj) : PInv w w.heap.size (w.heap.size + 1) [] ((w.alloc o).alloc (.cells #[.slice none 0 0] 22)) :=
  ⟨by omega, ((Below.refl _ _).alloc (Nat.le_refl _) _).alloc (by simp) _, by simp; omega, .slice none 0 0, by have := Boxed.new (w.alloc o) 22 (.slice none 0 0); rwa [World.size_alloc] at this, own_nil _ _ _ _⟩
theorem PInv.own {w0 W : World} {base B : Nat} {xs : List Int} (h : PInv w0 base B xs W) : ∃ A c, Boxed W B 22 (.slice A xs.length c) ∧ W.ownsRow base 2 1 (.slice A xs.length c) xs.length (nums .i64 xs) ∧ Below base w0 W := by
  obtain ⟨h1, h2, h3, v, h4, h5⟩ := h
  obtain ⟨A, c, rfl⟩ := own_slice h5
  exact ⟨A, c, h4, h5, h2⟩
set_option maxRecDepth 100000 in
set_option maxHeartbeats 2000000 in
theorem pack_any (m : Bool) (g0 g1 g2 a0 a1 a2 : Int) (hb : Bool) (b : Int) (hg : Bool) (n0 n1 n2 : Int) (w : World) :
    Calls Try.prog 20 #[.agg #[.bool m, .int .i64 g0, .int .i64 g1, .int .i64 g2, .int .i64 a0, .int .i64 a1, .int .i64 a2, .bool hb, .int .i64 b, .bool hg, .int .i64 n0, .int .i64 n1, .int .i64 n2]] w fun e w' => ∃ A c, e = .returned (.slice A 13 c) ∧ w'.ownsRow w.heap.size 2 1 (.slice A 13 c) 13 (nums .i64 (packF m g0 g1 g2 a0 a1 a2 hb b hg n0 n1 n2)) ∧ Below w.heap.size w w' := by
  have HP0 := Aside0.mk (PInv.start w (.cells #[.bool m, .int .i64 g0, .int .i64 g1, .int .i64 g2, .int .i64 a0, .int .i64 a1, .int .i64 a2, .bool hb, .int .i64 b, .bool hg, .int .i64 n0, .int .i64 n1, .int .i64 n2] 48))
  have HS0 : Aside0 (Sampled ((w.alloc (.cells #[.bool m, .int .i64 g0, .int .i64 g1, .int .i64 g2, .int .i64 a0, .int .i64 a1, .int .i64 a2, .bool hb, .int .i64 b, .bool hg, .int .i64 n0, .int .i64 n1, .int .i64 n2] 48)).alloc (.cells #[.slice none 0 0] 22)) w.heap.size m g0 g1 g2 a0 a1 a2 hb b hg n0 n1 n2) := ⟨blk_alloc (heap_alloc_new w _) _⟩
  have hu46 := Try.underlying46
  have hu48 := Try.underlying48
  have hmf : ∀ (fn : Fn) (first cap : Array Value) (w : World), (Instr.makeFunc fn first cap).run Try.prog w = .ok (.func fn first cap) w := fun _ _ _ _ => rfl
  go_enter Try.func20, Try.ntmps20
  go_wp2_with (first | (go_at_call 30; (with_reducible refine (is_any m (w.heap.size + 1) w.heap.size [] w _ (by simp) HP0.out).mono ?_); rintro e w1 ⟨rfl, hP, hK⟩; have HP1 := Aside0.mk hP; have HS1 := Aside0.mk (HS0.out.kt hK); clear hP hK) | (go_at_call 31; (with_reducible refine (lay_gyro m g0 g1 g2 a0 a1 a2 hb b hg n0 n1 n2 w.heap.size (w.heap.size + 1) w.heap.size ([] ++ [bInt m]) w _ (by simp) HS1.out HP1.out).mono ?_); rintro e w2 ⟨rfl, hP, hK⟩; have HP2 := Aside0.mk hP; have HS2 := Aside0.mk (HS1.out.kt hK); clear hP hK) | (go_at_call 31; (with_reducible refine (lay_acc m g0 g1 g2 a0 a1 a2 hb b hg n0 n1 n2 w.heap.size (w.heap.size + 1) w.heap.size (([] ++ [bInt m]) ++ [g0, g1, g2]) w _ (by simp) HS2.out HP2.out).mono ?_); rintro e w3 ⟨rfl, hP, hK⟩; have HP3 := Aside0.mk hP; have HS3 := Aside0.mk (HS2.out.kt hK); clear hP hK; have hc7 : w3.cell? ⟨w.heap.size, 7, none⟩ = some (.bool hb) := blk_cell HS3.out 7) | (go_at_call 30; (with_reducible refine (is_any hb (w.heap.size + 1) w.heap.size ((([] ++ [bInt m]) ++ [g0, g1, g2]) ++ [a0, a1, a2]) w _ (by simp) HP3.out).mono ?_); rintro e w4 ⟨rfl, hP, hK⟩; have HP4 := Aside0.mk hP; have HS4 := Aside0.mk (HS3.out.kt hK); clear hP hK; have hc8 : w4.cell? ⟨w.heap.size, 8, none⟩ = some (.int .i64 b) := blk_cell HS4.out 8; clear hc7) | (go_at_call 31; (with_reducible refine (lay_baro b (w.heap.size + 1) w.heap.size (((([] ++ [bInt m]) ++ [g0, g1, g2]) ++ [a0, a1, a2]) ++ [bInt hb]) w w4 (by simp) HP4.out).mono ?_); rintro e w5 ⟨rfl, hP, hK⟩; have HP5 := Aside0.mk hP; have HS5 := Aside0.mk (HS4.out.kt hK); have hc9 : w5.cell? ⟨w.heap.size, 9, none⟩ = some (.bool hg) := blk_cell HS5.out 9; clear hP hK hc8) | (go_at_call 30; (with_reducible refine (is_any hg (w.heap.size + 1) w.heap.size ((((([] ++ [bInt m]) ++ [g0, g1, g2]) ++ [a0, a1, a2]) ++ [bInt hb]) ++ [b]) w _ (by simp) HP5.out).mono ?_); rintro e w6 ⟨rfl, hP, hK⟩; have HP6 := Aside0.mk hP; have HS6 := Aside0.mk (HS5.out.kt hK); clear hP hK; clear hc9) | (go_at_call 31; (with_reducible refine (lay_gnss m g0 g1 g2 a0 a1 a2 hb b hg n0 n1 n2 w.heap.size (w.heap.size + 1) w.heap.size (((((([] ++ [bInt m]) ++ [g0, g1, g2]) ++ [a0, a1, a2]) ++ [bInt hb]) ++ [b]) ++ [bInt hg]) w _ (by simp) HS6.out HP6.out).mono ?_); rintro e w7 ⟨rfl, hP, hK⟩; have HP7 := Aside0.mk hP; have HS7 := Aside0.mk (HS6.out.kt hK); clear hP hK; have HO : Aside0 (∃ A c, Boxed w7 (w.heap.size + 1) 22 (.slice A 13 c) ∧ w7.ownsRow w.heap.size 2 1 (.slice A 13 c) 13 (nums .i64 (packF m g0 g1 g2 a0 a1 a2 hb b hg n0 n1 n2)) ∧ Below w.heap.size w w7) := ⟨HP7.out.own⟩; obtain ⟨A, c, hbx, hown, hbel⟩ := HO.out; have hcB := hbx.cell; have HOW := Aside0.mk hown; have HBEL := Aside0.mk hbel; clear hbx hown hbel HO))
  go_ret
  exact ⟨A, c, rfl, HOW.out, HBEL.out⟩
end Go.Proofs.Ytjfolhheejkedaa
