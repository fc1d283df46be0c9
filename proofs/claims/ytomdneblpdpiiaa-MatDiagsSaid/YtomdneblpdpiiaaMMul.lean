import Derived.Test.YtomdneblpdpiiaaMTrans
import Derived.Test.YtomdneblpdpiiaaMMulQ
set_option linter.unusedVariables false
namespace Go.Proofs.Ytomdneblpdpiiaa
open Go.RowKit Go.Joins Go.Proofs.YtomdneblpdpiiaaW.PrintWords Go.Proofs.YtomdneblpdpiiaaW.PrintLast Go.Proofs.YtomdneblpdpiiaaW.PrintMore

/-! ### mat.Mul where nothing is rounded -/
def dotF (X Y : Nat → Nat → Int) (i k : Nat) : Nat → Int
  | 0 => 0
  | j + 1 => dotF X Y i k j + X i j * Y j k
/-- a matrix of small whole numbers -/
def Small (xs : List Int) (r c : Nat) (X : Nat → Nat → Int) : Prop := ∀ i j, i < r → j < c → xs.getD (i * c + j) 0 = X i j * 16777216 ∧ -128 ≤ X i j ∧ X i j ≤ 128
theorem prod_bound (x y : Int) (x1 : -128 ≤ x) (x2 : x ≤ 128) (y1 : -128 ≤ y) (y2 : y ≤ 128) : -16384 ≤ x * y ∧ x * y ≤ 16384 := by
  have h : (x * y).natAbs ≤ 16384 := by
    rw [Int.natAbs_mul]
    exact Nat.le_trans (Nat.mul_le_mul (show x.natAbs ≤ 128 by omega) (show y.natAbs ≤ 128 by omega)) (by decide)
  omega
theorem dotF_bound (X Y : Nat → Nat → Int) (i k m : Nat) (hX : ∀ j, j < m → -128 ≤ X i j ∧ X i j ≤ 128) (hY : ∀ j, j < m → -128 ≤ Y j k ∧ Y j k ≤ 128) : ∀ j, j ≤ m → -(16384 * (j : Int)) ≤ dotF X Y i k j ∧ dotF X Y i k j ≤ 16384 * (j : Int) := by
  intro j
  induction j with
  | zero => intro _; simp [dotF]
  | succ j ih =>
    intro hj
    have h1 := ih (by omega)
    have hx := hX j (by omega)
    have hy := hY j (by omega)
    have h2 := prod_bound _ _ hx.1 hx.2 hy.1 hy.2
    unfold dotF
    generalize X i j * Y j k = p at *
    generalize dotF X Y i k j = d at *
    omega
theorem idx_lt {i r j c : Nat} (hi : i < r) (hj : j < c) : i * c + j < r * c := by
  have h1 : (i + 1) * c ≤ r * c := Nat.mul_le_mul (by omega) (Nat.le_refl c)
  rw [Nat.add_mul, Nat.one_mul] at h1
  omega
theorem mul_cells {w W : World} {Ba Bb : Nat} {r m c : Int} {va vb : Value} (ha : Aside0 (Blk w Ba 28 #[.int .i64 r, .int .i64 m, va])) (hb : Aside0 (Blk w Bb 28 #[.int .i64 m, .int .i64 c, vb])) (h : Aside0 (Below w.heap.size w W)) :
    W.cell? ⟨Ba, 0, none⟩ = some (.int .i64 r) ∧ W.cell? ⟨Ba, 1, none⟩ = some (.int .i64 m) ∧ W.cell? ⟨Ba, 2, none⟩ = some va ∧ W.cell? ⟨Bb, 0, none⟩ = some (.int .i64 m) ∧ W.cell? ⟨Bb, 1, none⟩ = some (.int .i64 c) ∧ W.cell? ⟨Bb, 2, none⟩ = some vb ∧ Aside0 (Below w.heap.size w W) :=
  ⟨((ha.out.below h.out).cell 0).trans rfl, ((ha.out.below h.out).cell 1).trans rfl, ((ha.out.below h.out).cell 2).trans rfl, ((hb.out.below h.out).cell 0).trans rfl, ((hb.out.below h.out).cell 1).trans rfl, ((hb.out.below h.out).cell 2).trans rfl, h⟩
set_option maxRecDepth 100000 in
set_option maxHeartbeats 4000000 in
theorem tell_mul (Ba Bb r m c na nb ca cb : Nat) (A B : Option Addr) (xs ys : List Int) (X Y : Nat → Nat → Int) (w0 : World)
    (hba : Blk w0 Ba 28 #[.int .i64 (r : Nat), .int .i64 (m : Nat), .slice A na ca]) (hbb : Blk w0 Bb 28 #[.int .i64 (m : Nat), .int .i64 (c : Nat), .slice B nb cb])
    (hra : ReadsInt w0 .i64 A na xs) (hrb : ReadsInt w0 .i64 B nb ys) (hna : na = r * m) (hnb : nb = m * c) (hr : r ≤ 8) (hm : m ≤ 8) (hc : c ≤ 8) (hX : Small xs r m X) (hY : Small ys m c Y) :
    TellAt 13 #[.pointer (some ⟨Ba, 0, none⟩), .pointer (some ⟨Bb, 0, none⟩)] (fun i k => dotF X Y i k m * 16777216) (fun _ _ => false) r c w0 := by
  intro w i k hB hi hk
  show Calls Try.prog 13 #[.int .i64 (i : Nat), .int .i64 (k : Nat), .pointer (some ⟨Ba, 0, none⟩), .pointer (some ⟨Bb, 0, none⟩)] w _
  have HBA : Aside0 (Blk w Ba 28 #[.int .i64 (r : Nat), .int .i64 (m : Nat), .slice A na ca]) := ⟨hba.below hB⟩
  have HBB : Aside0 (Blk w Bb 28 #[.int .i64 (m : Nat), .int .i64 (c : Nat), .slice B nb cb]) := ⟨hbb.below hB⟩
  have HRA := Aside0.mk (hra.below hB)
  have HRB := Aside0.mk (hrb.below hB)
  have HX := Aside0.mk hX
  have HY := Aside0.mk hY
  have HNA := Aside0.mk hna
  have HNB := Aside0.mk hnb
  have HDB : Aside0 (∀ j, j ≤ m → -(16384 * (j : Int)) ≤ dotF X Y i k j ∧ dotF X Y i k j ≤ 16384 * (j : Int)) := ⟨dotF_bound X Y i k m (fun j hj => (hX i j hi hj).2) (fun j hj => (hY j k hj hk).2)⟩
  have hc1 : w.cell? ⟨Ba, 1, none⟩ = some (.int .i64 (m : Nat)) := (HBA.out.cell 1).trans rfl
  have hu := Try.underlying28
  clear hba hbb hra hrb hna hnb hX hY hB
  go_enter Try.func13, Try.ntmps13
  go_wp2
  clear hc1
  go_loopw [17, 8, 9] (fun s d f wr => ∃ j : Nat, j ≤ m ∧ s = .int .i64 j ∧ d = .int .i64 (dotF X Y i k j * 16777216) ∧ f = .bool false ∧ Aside0 (Below w.heap.size w wr)) (fun s _ _ _ => m - (intOf s).toNat)
  case atStart => exact ⟨0, Nat.zero_le _, rfl, by simp [dotF], rfl, ⟨Below.refl _ _⟩⟩
  case round =>
    obtain ⟨j, hj, rfl, rfl, rfl, HW⟩ := hrel
    by_cases hlt : j < m
    · have hx := HX.out i j hi hlt
      have hy := HY.out j k hlt hk
      have hd := HDB.out j (by omega)
      have hds := HDB.out (j + 1) (by omega)
      have HSU : Aside0 (dotF X Y i k (j + 1) = dotF X Y i k j + X i j * Y j k) := ⟨rfl⟩
      have HAT1 : Aside0 (∀ W, Below w.heap.size w W → Calls Try.prog 15 #[.agg #[.int .i64 (r : Nat), .int .i64 (m : Nat), .slice A na ca], .int .i64 (i : Nat), .int .i64 (j : Nat)] W fun e w' => e = .returned (.int .i64 (X i j * 16777216)) ∧ Below W.heap.size W w') := ⟨fun W h => hx.1 ▸ at_any r m i j na ca A xs W (by omega) (by omega) (by omega) (HRA.out.below h) (by rw [HNA.out]; exact idx_lt hi hlt)⟩
      have HAT2 : Aside0 (∀ W, Below w.heap.size w W → Calls Try.prog 15 #[.agg #[.int .i64 (m : Nat), .int .i64 (c : Nat), .slice B nb cb], .int .i64 (j : Nat), .int .i64 (k : Nat)] W fun e w' => e = .returned (.int .i64 (Y j k * 16777216)) ∧ Below W.heap.size W w') := ⟨fun W h => hy.1 ▸ at_any m c j k nb cb B ys W (by omega) (by omega) (by omega) (HRB.out.below h) (by rw [HNB.out]; exact idx_lt hlt hk)⟩
      have hp := prod_bound _ _ hx.2.1 hx.2.2 hy.2.1 hy.2.2
      have HMU : Aside0 (∀ W, Calls Try.prog 14 #[.int .i64 (X i j * 16777216), .int .i64 (Y j k * 16777216)] W fun e w' => e = .returned (.tuple #[.int .i64 (X i j * Y j k * 16777216), .bool false]) ∧ Below W.heap.size W w') := ⟨fun W => mulQ_small _ _ W hx.2.1 hx.2.2 hy.2.1 hy.2.2⟩
      rw [HSU.out] at hds
      generalize X i j * 16777216 = x at HAT1 HMU
      generalize Y j k * 16777216 = y at HAT2 HMU
      generalize X i j * Y j k = p at HSU HMU hp hds
      generalize hdd : dotF X Y i k j = d at HSU hd hds ⊢
      clear hdd
      have HAD : Aside0 (∀ W, Calls Try.prog 16 #[.int .i64 (d * 16777216), .int .i64 (p * 16777216)] W fun e w' => e = .returned (.tuple #[.int .i64 ((d + p) * 16777216), .bool false]) ∧ W = w') := ⟨fun W => by
        have := addQ_in (d * 16777216) (p * 16777216) W (by omega) (by omega) (by omega) (by omega) (by omega) (by omega)
        rwa [← Int.add_mul] at this⟩
      generalize p * 16777216 = pp at HMU HAD
      generalize d * 16777216 = dd at HAD ⊢
      clear hx hy hd hds hp
      go_wp2
      have HWD := Aside0.mk HW.out.drew
      go_region_held3 (fun W => W.cell? ⟨Ba, 0, none⟩ = some (.int .i64 (r : Nat)) ∧ W.cell? ⟨Ba, 1, none⟩ = some (.int .i64 (m : Nat)) ∧ W.cell? ⟨Ba, 2, none⟩ = some (.slice A na ca) ∧ W.cell? ⟨Bb, 0, none⟩ = some (.int .i64 (m : Nat)) ∧ W.cell? ⟨Bb, 1, none⟩ = some (.int .i64 (c : Nat)) ∧ W.cell? ⟨Bb, 2, none⟩ = some (.slice B nb cb) ∧ Aside0 (Below w.heap.size w W)) (exact mul_cells HBA HBB (by assumption))
        (first
          | (go_at_call 15; have hkk := (show Aside0 (Below w.heap.size w _) from by assumption); (with_reducible refine (HAT1.out _ hkk.out).mono ?_); rintro e w' ⟨rfl, hB⟩; have HKN := Aside0.mk (hkk.out.trans (below_mono hB hkk.out.size)); clear hB hkk)
          | (go_at_call 15; have hkk := (show Aside0 (Below w.heap.size w _) from by assumption); (with_reducible refine (HAT2.out _ hkk.out).mono ?_); rintro e w' ⟨rfl, hB⟩; have HKN := Aside0.mk (hkk.out.trans (below_mono hB hkk.out.size)); clear hB hkk)
          | (go_at_call 14; have hkk := (show Aside0 (Below w.heap.size w _) from by assumption); (with_reducible refine (HMU.out _).mono ?_); rintro e w' ⟨rfl, hB⟩; have HKN := Aside0.mk (hkk.out.trans (below_mono hB hkk.out.size)); clear hB hkk))
      all_goals
        go_wp2_with (go_at_call 16; refine (HAD.out _).mono ?_; rintro e w' ⟨rfl, rfl⟩)
        go_roundw
        case rel => exact ⟨j + 1, by omega, by go_num, by rw [HSU.out], rfl, by assumption⟩
        case measure => simp [intOf]; omega
    · obtain rfl : j = m := by omega
      go_wp2
      go_ret2
      exact ⟨rfl, HW.out⟩
end Go.Proofs.Ytomdneblpdpiiaa
