import Derived.Test.YtjfolhheejkedaaPack
import Derived.Laws.StructEq
set_option linter.unusedVariables false
namespace Go.Proofs.Ytjfolhheejkedaa
open Go.RowKit Go.Proofs.YtjfolhheejkedaaW.PrintWords

/-! ### '==' of arrays, element by element -/
def eqElems (d : Nat) (e : TypeId) (n : Nat) (xs ys : Array Value) : List Nat → Sem Bool
  | [] => pure true
  | i :: is => do
    let a ← Go.part e xs (i * n)
    let b ← Go.part e ys (i * n)
    let r ← Op.equalIn d e a b
    if (!r) = true then pure false else eqElems d e n xs ys is
section
variable {P : Program} (w : World)
theorem run_equalIn_array (d : Nat) (t e : TypeId) (len n : Nat) (xs ys : Array Value) (ht : P.underlying t = some (.array len e)) (hs : (sizeOf e).run P w = .ok n w) :
    (Op.equalIn (d + 1) t (.agg xs) (.agg ys)).run P w = (eqElems d e n xs ys (List.range len)).run P w := by
  simp only [Op.equalIn, Sem.run_bind, run_underlying ht, Result.andThen_ok, hs]
  rw [Std.Legacy.Range.forIn_eq_forIn_range']
  have hr : List.range' 0 ((len - 0 + 1 - 1) / 1) 1 = List.range len := by rw [List.range_eq_range']; simp
  simp only [Std.Legacy.Range.size]
  rw [hr]
  generalize List.range len = is
  clear ht hs hr
  induction is generalizing w with
  | nil => simp [eqElems]
  | cons i is ih =>
    simp only [List.forIn_cons, eqElems, Sem.run_bind, Sem.run_ite]
    generalize (Go.part e xs (i * n)).run P w = r1
    cases r1 with
    | ok a w1 =>
      simp only [Result.andThen_ok]
      generalize (Go.part e ys (i * n)).run P w1 = r2
      cases r2 with
      | ok b w2 =>
        simp only [Result.andThen_ok]
        generalize (Op.equalIn d e a b).run P w2 = r3
        cases r3 with
        | ok r w3 =>
          cases r
          · simp only [Result.andThen_ok, Bool.not_false, if_true, Sem.run_pure]
          · simp only [Result.andThen_ok, Bool.not_true, Bool.false_eq_true, if_false, Sem.run_pure]
            exact ih w3
        | halt x w3 => simp [Result.andThen]
      | halt x w2 => simp [Result.andThen]
    | halt x w1 => simp [Result.andThen]
end

theorem part_scalar {P : Program} {t : TypeId} {cs : Array Value} {off : Nat} {v : Value} (w : World) (ha : (isAgg t).run P w = .ok false w) (hv : cs[off]? = some v) : (Go.part t cs off).run P w = .ok v w := by
  simp only [Go.part, Sem.run_bind, ha, Result.andThen_ok, Bool.false_eq_true, if_false, hv, Sem.run_pure]
theorem part_agg {P : Program} {t : TypeId} {cs : Array Value} {off n : Nat} (w : World) (ha : (isAgg t).run P w = .ok true w) (hn : (sizeOf t).run P w = .ok n w) : (Go.part t cs off).run P w = .ok (.agg (cs.extract off (off + n))) w := by
  simp only [Go.part, Sem.run_bind, ha, Result.andThen_ok, if_true, hn, Sem.run_pure]
theorem isAgg44 (w : World) : (isAgg 44).run Try.prog w = .ok false w := by kernel_rfl
theorem isAgg46 (w : World) : (isAgg 46).run Try.prog w = .ok true w := by kernel_rfl
theorem isAgg4 (w : World) : (isAgg 4).run Try.prog w = .ok false w := by kernel_rfl
theorem sizeOf44 (w : World) : (sizeOf 44).run Try.prog w = .ok 1 w := by kernel_rfl
theorem sizeOf46 (w : World) : (sizeOf 46).run Try.prog w = .ok 3 w := by kernel_rfl
theorem eq_vec (d : Nat) (x y z x' y' z' : Int) (w : World) : (Op.equalIn (d + 2) 46 (.agg #[.int .i64 x, .int .i64 y, .int .i64 z]) (.agg #[.int .i64 x', .int .i64 y', .int .i64 z'])).run Try.prog w = .ok (x == x' && (y == y' && z == z')) w := by
  rw [run_equalIn_array w (d + 1) 46 44 3 1 _ _ Try.underlying46 (sizeOf44 w)]
  have h : ∀ a b : Int, (Op.equalIn (d + 1) 44 (.int .i64 a) (.int .i64 b)).run Try.prog w = .ok (a == b) w := fun a b => run_equalIn_int w d 44 .i64 .i64 a b Try.underlying44
  have er : List.range 3 = [0, 1, 2] := rfl
  rw [er]
  simp only [eqElems, Sem.run_bind, Sem.run_ite]
  rw [part_scalar (v := .int .i64 x) w (isAgg44 w) rfl]
  simp only [Result.andThen_ok]
  rw [part_scalar (v := .int .i64 x') w (isAgg44 w) rfl]
  simp only [Result.andThen_ok, h]
  cases hx : x == x'
  · simp
  simp only [Bool.not_true, Bool.false_eq_true, if_false]
  rw [part_scalar (v := .int .i64 y) w (isAgg44 w) rfl]
  simp only [Result.andThen_ok]
  rw [part_scalar (v := .int .i64 y') w (isAgg44 w) rfl]
  simp only [Result.andThen_ok, h]
  cases hy : y == y'
  · simp
  simp only [Bool.not_true, Bool.false_eq_true, if_false]
  rw [part_scalar (v := .int .i64 z) w (isAgg44 w) rfl]
  simp only [Result.andThen_ok]
  rw [part_scalar (v := .int .i64 z') w (isAgg44 w) rfl]
  simp only [Result.andThen_ok, h]
  cases hz : z == z' <;> simp
theorem part_g (m : Bool) (g0 g1 g2 a0 a1 a2 : Int) (hb : Bool) (b : Int) (hg : Bool) (n0 n1 n2 : Int) (W : World) : (Go.part 46 #[.bool m, .int .i64 g0, .int .i64 g1, .int .i64 g2, .int .i64 a0, .int .i64 a1, .int .i64 a2, .bool hb, .int .i64 b, .bool hg, .int .i64 n0, .int .i64 n1, .int .i64 n2] 1).run Try.prog W = .ok (.agg #[.int .i64 g0, .int .i64 g1, .int .i64 g2]) W := by
  rw [part_agg W (isAgg46 W) (sizeOf46 W)]
  simp
theorem part_a (m : Bool) (g0 g1 g2 a0 a1 a2 : Int) (hb : Bool) (b : Int) (hg : Bool) (n0 n1 n2 : Int) (W : World) : (Go.part 46 #[.bool m, .int .i64 g0, .int .i64 g1, .int .i64 g2, .int .i64 a0, .int .i64 a1, .int .i64 a2, .bool hb, .int .i64 b, .bool hg, .int .i64 n0, .int .i64 n1, .int .i64 n2] 4).run Try.prog W = .ok (.agg #[.int .i64 a0, .int .i64 a1, .int .i64 a2]) W := by
  rw [part_agg W (isAgg46 W) (sizeOf46 W)]
  simp
theorem part_n (m : Bool) (g0 g1 g2 a0 a1 a2 : Int) (hb : Bool) (b : Int) (hg : Bool) (n0 n1 n2 : Int) (W : World) : (Go.part 46 #[.bool m, .int .i64 g0, .int .i64 g1, .int .i64 g2, .int .i64 a0, .int .i64 a1, .int .i64 a2, .bool hb, .int .i64 b, .bool hg, .int .i64 n0, .int .i64 n1, .int .i64 n2] 10).run Try.prog W = .ok (.agg #[.int .i64 n0, .int .i64 n1, .int .i64 n2]) W := by
  rw [part_agg W (isAgg46 W) (sizeOf46 W)]
  simp
theorem eqf_same {P : Program} {d : Nat} {xs : Array Value} {f : Field} {fs : List Field} {a : Value} {w : World} (hn : (f.name == "_") = false) (ha : (Go.part f.type xs f.offset).run P w = .ok a w) (he : (Op.equalIn d f.type a a).run P w = .ok true w) (hr : (Op.eqFields d xs xs fs).run P w = .ok true w) : (Op.eqFields d xs xs (f :: fs)).run P w = .ok true w :=
  eqf_cons hn ha ha he hr
theorem eq_b (m : Bool) (W : World) : (Op.equalIn 9999 4 (.bool m) (.bool m)).run Try.prog W = .ok true W := by
  rw [run_equalIn_bool' W 9998 4 m m Try.underlying4]; simp
theorem eq_i (m : Int) (W : World) : (Op.equalIn 9999 44 (.int .i64 m) (.int .i64 m)).run Try.prog W = .ok true W := by
  rw [run_equalIn_int W 9998 44 .i64 .i64 m m Try.underlying44]; simp
theorem eq_v (x y z : Int) (W : World) : (Op.equalIn 9999 46 (.agg #[.int .i64 x, .int .i64 y, .int .i64 z]) (.agg #[.int .i64 x, .int .i64 y, .int .i64 z])).run Try.prog W = .ok true W := by
  rw [eq_vec 9997 x y z x y z W]; simp
theorem eqs_sample (m : Bool) (g0 g1 g2 a0 a1 a2 : Int) (hb : Bool) (b : Int) (hg : Bool) (n0 n1 n2 : Int) (W : World) : (Op.equalIn 10000 48 (.agg #[.bool m, .int .i64 g0, .int .i64 g1, .int .i64 g2, .int .i64 a0, .int .i64 a1, .int .i64 a2, .bool hb, .int .i64 b, .bool hg, .int .i64 n0, .int .i64 n1, .int .i64 n2]) (.agg #[.bool m, .int .i64 g0, .int .i64 g1, .int .i64 g2, .int .i64 a0, .int .i64 a1, .int .i64 a2, .bool hb, .int .i64 b, .bool hg, .int .i64 n0, .int .i64 n1, .int .i64 n2])).run Try.prog W = .ok true W := by
  rw [run_equalIn_struct W 9999 48 _ _ (by kernel_rfl) (by kernel_rfl)]
  simp only [Program.fieldsOf, Try.underlying48]
  refine eqf_same rfl (part_scalar (v := .bool m) W (isAgg4 W) rfl) (eq_b m W) ?_
  refine eqf_same rfl (part_g m g0 g1 g2 a0 a1 a2 hb b hg n0 n1 n2 W) (eq_v g0 g1 g2 W) ?_
  refine eqf_same rfl (part_a m g0 g1 g2 a0 a1 a2 hb b hg n0 n1 n2 W) (eq_v a0 a1 a2 W) ?_
  refine eqf_same rfl (part_scalar (v := .bool hb) W (isAgg4 W) rfl) (eq_b hb W) ?_
  refine eqf_same rfl (part_scalar (v := .int .i64 b) W (isAgg44 W) rfl) (eq_i b W) ?_
  refine eqf_same rfl (part_scalar (v := .bool hg) W (isAgg4 W) rfl) (eq_b hg W) ?_
  refine eqf_same rfl (part_n m g0 g1 g2 a0 a1 a2 hb b hg n0 n1 n2 W) (eq_v n0 n1 n2 W) ?_
  exact eqf_nil
theorem neq_sample (m : Bool) (g0 g1 g2 a0 a1 a2 : Int) (hb : Bool) (b : Int) (hg : Bool) (n0 n1 n2 : Int) (W : World) : (binOp .neq 48 (.agg #[.bool m, .int .i64 g0, .int .i64 g1, .int .i64 g2, .int .i64 a0, .int .i64 a1, .int .i64 a2, .bool hb, .int .i64 b, .bool hg, .int .i64 n0, .int .i64 n1, .int .i64 n2]) (.agg #[.bool m, .int .i64 g0, .int .i64 g1, .int .i64 g2, .int .i64 a0, .int .i64 a1, .int .i64 a2, .bool hb, .int .i64 b, .bool hg, .int .i64 n0, .int .i64 n1, .int .i64 n2])).run Try.prog W = .ok (.bool false) W := by
  rw [run_neq_struct, eqs_sample m g0 g1 g2 a0 a1 a2 hb b hg n0 n1 n2]
  simp
end Go.Proofs.Ytjfolhheejkedaa
