import Derived.Test.YtomdneblpdpiiaaMDiags0
set_option linter.unusedVariables false
namespace Go.Proofs.Ytomdneblpdpiiaa
open Go.RowKit Go.Joins Go.Proofs.YtomdneblpdpiiaaW.PrintWords Go.Proofs.YtomdneblpdpiiaaW.PrintLast Go.Proofs.YtomdneblpdpiiaaW.PrintMore

/-! ### the plain law of MatDiags -/
theorem sameM_l0 (l : List Int) (a b c d : Int) (hm : l.length ≤ 1000) : ∀ (m k : Nat) (i : Nat), l.length - i = m → i ≤ l.length → m < k → PMatDiags.alidaderef03_Same.l0 k (i : Int) a b l c d l = some true := by
  intro m
  induction m with
  | zero =>
    intro k i hd hi hk
    obtain ⟨k, rfl⟩ : ∃ q, k = q + 1 := ⟨k - 1, by omega⟩
    simp only [PMatDiags.alidaderef03_Same.l0]
    rw [if_neg (by omega)]
  | succ m ih =>
    intro k i hd hi hk
    obtain ⟨k, rfl⟩ : ∃ q, k = q + 1 := ⟨k - 1, by omega⟩
    simp only [PMatDiags.alidaderef03_Same.l0]
    rw [if_pos (by omega), if_pos (by omega), if_pos (by omega), if_pos trivial, show wrap64 ((i : Int) + 1) = ((i + 1 : Nat) : Int) by unfold wrap64; omega]
    exact ih k (i + 1) (by omega) (by omega) (by omega)
theorem sameM_f (l : List Int) (a b : Int) (hm : l.length ≤ 1000) : PMatDiags.alidaderef03_Same.f (l.length + 2) a b l a b l = some true := by
  unfold PMatDiags.alidaderef03_Same.f
  rw [if_pos rfl, if_pos rfl]
  simp only [PMatDiags.alidaderef03_Same.j0]
  rw [if_neg (by simp)]
  exact sameM_l0 l a b a b hm l.length _ 0 (by omega) (by omega) (by omega)
theorem same_any (A0 A1 : Option Addr) (c0 c1 n : Nat) (l : List Int) (a b : Int) (w : World) (hn : l.length = n) (hm : n ≤ 1000) (hr0 : ReadsInt w .i64 A0 n l) (hc0 : n ≤ c0) (hr1 : ReadsInt w .i64 A1 n l) (hc1 : n ≤ c1) :
    Calls Try.prog 8 #[.agg #[.int .i64 a, .int .i64 b, .slice A0 n c0], .agg #[.int .i64 a, .int .i64 b, .slice A1 n c1]] w fun e w' => e = .returned (.bool true) ∧ Below w.heap.size w w' := by
  subst hn
  exact PMatDiags.alidaderef03_Same.calls (l.length + 2) a b A0 c0 l a b A1 c1 l true w (Kd.C_of_reads (d := 0) hr0) hc0 (Kd.C_of_reads (d := 0) hr1) hc1 (sameM_f l a b hm)
def diagX (A : List Int) (i j : Nat) : Int := if i = j then A.getD i 0 else 0
theorem in_odd (l : List Int) (h : ∀ x ∈ l, -70368744177664 ≤ x ∧ x ≤ 70368744177663) : l.any oddQ = false := by
  rw [List.any_eq_false]
  intro x hx
  have := h x hx
  unfold oddQ
  simp
  omega
theorem whole_odd (a0 a1 a2 : Int) (h0 : -128 ≤ a0 ∧ a0 ≤ 127) (h1 : -128 ≤ a1 ∧ a1 ≤ 127) (h2 : -128 ≤ a2 ∧ a2 ≤ 127) : (whole [a0, a1, a2]).any oddQ = false := in_odd _ fun x hx => by
  simp only [whole, List.map_cons, List.map_nil, List.mem_cons, List.not_mem_nil, or_false] at hx
  rcases hx with rfl | rfl | rfl <;> omega
theorem prods_odd (a0 a1 a2 b0 b1 b2 : Int) (h0 : -128 ≤ a0 ∧ a0 ≤ 127) (h1 : -128 ≤ a1 ∧ a1 ≤ 127) (h2 : -128 ≤ a2 ∧ a2 ≤ 127) (k0 : -128 ≤ b0 ∧ b0 ≤ 127) (k1 : -128 ≤ b1 ∧ b1 ≤ 127) (k2 : -128 ≤ b2 ∧ b2 ≤ 127) : (prods [a0, a1, a2] [b0, b1, b2]).any oddQ = false := in_odd _ fun x hx => by
  have p0 := prod_bound a0 b0 (by omega) (by omega) (by omega) (by omega)
  have p1 := prod_bound a1 b1 (by omega) (by omega) (by omega) (by omega)
  have p2 := prod_bound a2 b2 (by omega) (by omega) (by omega) (by omega)
  simp only [prods, List.zipWith_cons_cons, List.zipWith_nil_left, List.mem_cons, List.not_mem_nil, or_false] at hx
  rcases hx with rfl | rfl | rfl <;> omega
theorem grid3 (q : Nat → Nat → Int) : gridQ q 3 3 = [q 0 0, q 0 1, q 0 2, q 1 0, q 1 1, q 1 2, q 2 0, q 2 1, q 2 2] := rfl
theorem small_diag (a0 a1 a2 : Int) (h0 : -128 ≤ a0 ∧ a0 ≤ 127) (h1 : -128 ≤ a1 ∧ a1 ≤ 127) (h2 : -128 ≤ a2 ∧ a2 ≤ 127) : Small (gridQ (diagQ (whole [a0, a1, a2])) 3 3) 3 3 (diagX [a0, a1, a2]) := fun i j hi hj => by
  rw [grid3]
  obtain rfl | rfl | rfl : i = 0 ∨ i = 1 ∨ i = 2 := by omega
  all_goals
    obtain rfl | rfl | rfl : j = 0 ∨ j = 1 ∨ j = 2 := by omega
    all_goals
      simp [diagQ, diagX, whole]
      try omega
theorem dot_diag (a0 a1 a2 b0 b1 b2 : Int) : gridQ (fun i k => dotF (diagX [a0, a1, a2]) (diagX [b0, b1, b2]) i k 3 * 16777216) 3 3 = gridQ (diagQ (prods [a0, a1, a2] [b0, b1, b2])) 3 3 := by
  rw [grid3, grid3]
  simp [dotF, diagX, diagQ, prods]
theorem ones_eq : gridQ (diagQ [16777216, 16777216, 16777216]) 3 3 = gridQ (diagQ (onesL 3)) 3 3 := rfl
theorem diag3 (A : Option Addr) (cap : Nat) (l : List Int) (w : World) (hr : ReadsInt w .i64 A 3 l) (ho : l.any oddQ = false) :
    Calls Try.prog 5 #[.slice A 3 cap] w fun e w' => ∃ A2 c2, e = .returned (.tuple #[.agg #[.int .i64 3, .int .i64 3, .slice A2 9 c2], .int .i64 0]) ∧ w'.ownsRow w.heap.size 26 1 (.slice A2 9 c2) 9 (nums .i64 (gridQ (diagQ l) 3 3)) ∧ Below w.heap.size w w' :=
  diag_any A 3 cap l w hr (by decide) (by decide) ho
theorem mul3 (A B : Option Addr) (ca cb : Nat) (xs ys : List Int) (X Y : Nat → Nat → Int) (zs : List Int) (w : World) (hra : ReadsInt w .i64 A 9 xs) (hrb : ReadsInt w .i64 B 9 ys) (hX : Small xs 3 3 X) (hY : Small ys 3 3 Y) (hz : gridQ (fun i k => dotF X Y i k 3 * 16777216) 3 3 = zs) :
    Calls Try.prog 6 #[.agg #[.int .i64 3, .int .i64 3, .slice A 9 ca], .agg #[.int .i64 3, .int .i64 3, .slice B 9 cb]] w fun e w' => ∃ A2 c2, e = .returned (.tuple #[.agg #[.int .i64 3, .int .i64 3, .slice A2 9 c2], .bool false, .int .i64 0]) ∧ w'.ownsRow w.heap.size 26 1 (.slice A2 9 c2) 9 (nums .i64 zs) ∧ Below w.heap.size w w' := by
  subst hz
  exact mul_any A B 3 3 3 9 9 ca cb xs ys X Y w hra hrb rfl rfl (by decide) (by decide) (by decide) hX hY
/-- what is laid behind the loop: rows, and matrices in variables -/
def St (w : World) (rows : List (Value × Nat × List Int)) (boxes : List (Nat × Value)) (W : World) : Prop :=
  (∀ r ∈ rows, W.ownsRow w.heap.size 26 1 r.1 r.2.1 (nums .i64 r.2.2)) ∧ (∀ b ∈ boxes, Blk W b.1 28 #[.int .i64 3, .int .i64 3, b.2]) ∧ Below w.heap.size w W
theorem St.below {w W W' : World} {rows : List (Value × Nat × List Int)} {boxes : List (Nat × Value)} (h : St w rows boxes W) (hB : Below W.heap.size W W') : St w rows boxes W' :=
  ⟨fun r hr => pw_own_below (h.1 r hr) hB, fun b hb => (h.2.1 b hb).below hB, h.2.2.trans (below_mono hB h.2.2.size)⟩
theorem St.next {w W W' : World} {rows : List (Value × Nat × List Int)} {boxes : List (Nat × Value)} {v : Value} {n : Nat} {l : List Int} (h : St w rows boxes W) (ho : W'.ownsRow W.heap.size 26 1 v n (nums .i64 l)) (hB : Below W.heap.size W W') :
    St w ((v, n, l) :: rows) ((W'.heap.size, v) :: boxes) (W'.alloc (.cells #[.int .i64 3, .int .i64 3, v] 28)) := by
  have h2 := (h.below hB).below (below_one W' (.cells #[.int .i64 3, .int .i64 3, v] 28))
  refine ⟨fun r hr => ?_, fun b hb => ?_, h2.2.2⟩
  · rcases List.mem_cons.1 hr with rfl | hr
    · exact own_alloc (own_less ho h.2.2.size) _
    · exact h2.1 r hr
  · rcases List.mem_cons.1 hb with rfl | hb
    · exact Blk.new W' _ _
    · exact h2.2.1 b hb
theorem St.reads {w W : World} {rows : List (Value × Nat × List Int)} {boxes : List (Nat × Value)} {A : Option Addr} {n c : Nat} {l : List Int} (h : St w rows boxes W) (hr : (Value.slice A n c, n, l) ∈ rows) : ReadsInt W .i64 A n l := own_reads' (h.1 _ hr)
theorem St.cap {w W : World} {rows : List (Value × Nat × List Int)} {boxes : List (Nat × Value)} {A : Option Addr} {n c : Nat} {l : List Int} (h : St w rows boxes W) (hr : (Value.slice A n c, n, l) ∈ rows) : n ≤ c := own_cap (h.1 _ hr)
theorem St.cell {w W : World} {rows : List (Value × Nat × List Int)} {boxes : List (Nat × Value)} {g : Nat} {v : Value} (h : St w rows boxes W) (hb : (g, v) ∈ boxes) : W.cell? ⟨g, 0, none⟩ = some (.int .i64 3) ∧ W.cell? ⟨g, 1, none⟩ = some (.int .i64 3) ∧ W.cell? ⟨g, 2, none⟩ = some v :=
  ⟨((h.2.1 _ hb).cell 0).trans rfl, ((h.2.1 _ hb).cell 1).trans rfl, ((h.2.1 _ hb).cell 2).trans rfl⟩
theorem St.size {w W : World} {rows : List (Value × Nat × List Int)} {boxes : List (Nat × Value)} (h : St w rows boxes W) : Below w.heap.size w W := h.2.2
theorem St.start {w W : World} {A B : List Int} {l m n o : Value} (h : DInv w A B 3 l m n o W) (hA : A.length = 3) (hB : B.length = 3) : ∃ Al cl Am cm An cn Ao co, l = .slice Al 3 cl ∧ m = .slice Am 3 cm ∧ n = .slice An 3 cn ∧ o = .slice Ao 3 co ∧
    St w [(.slice Al 3 cl, 3, whole A), (.slice Am 3 cm, 3, whole B), (.slice An 3 cn, 3, prods A B), (.slice Ao 3 co, 3, onesL 3)] [] W := by
  have e1 : (whole A).take 3 = whole A := List.take_of_length_le (by simp [whole, hA])
  have e2 : (whole B).take 3 = whole B := List.take_of_length_le (by simp [whole, hB])
  have e3 : (prods A B).take 3 = prods A B := List.take_of_length_le (by simp [prods, hA, hB])
  have hr := h.rows
  rw [e1, e2, e3] at hr
  have h0 := hr.2.1 0 _ _ rfl rfl
  have h1 := hr.2.1 1 _ _ rfl rfl
  have h2 := hr.2.1 2 _ _ rfl rfl
  have h3 := hr.2.1 3 _ _ rfl rfl
  have l0 : (whole A).length = 3 := by simp [whole, hA]
  have l1 : (whole B).length = 3 := by simp [whole, hB]
  have l2 : (prods A B).length = 3 := by simp [prods, hA, hB]
  have l3 : (onesL 3).length = 3 := rfl
  rw [l0] at h0
  rw [l1] at h1
  rw [l2] at h2
  rw [l3] at h3
  obtain ⟨Al, cl, rfl⟩ := own_slice h0
  obtain ⟨Am, cm, rfl⟩ := own_slice h1
  obtain ⟨An, cn, rfl⟩ := own_slice h2
  obtain ⟨Ao, co, rfl⟩ := own_slice h3
  refine ⟨Al, cl, Am, cm, An, cn, Ao, co, rfl, rfl, rfl, rfl, fun r hr => ?_, fun b hb => (by cases hb), h.bel⟩
  simp only [List.mem_cons, List.not_mem_nil, or_false] at hr
  rcases hr with rfl | rfl | rfl | rfl
  · exact h0
  · exact h1
  · exact h2
  · exact h3
end Go.Proofs.Ytomdneblpdpiiaa
