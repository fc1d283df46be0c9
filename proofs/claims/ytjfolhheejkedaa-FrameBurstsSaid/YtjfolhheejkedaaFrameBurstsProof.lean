/-
  THE SHELL OF A PROOF OF 'Rows.FrameBurstsSaid' ('alidade/alidadelaw08.FrameBursts'), WRITTEN BY PROGRAM (proof-skeleton.mjs) off the guide's own print for that function. Not trusted: Lean checks it.
  The walk is ours. ALL ELSE IS THE GUIDE's TEMPLATE (howto/template/XProofs.lean) at this function's number and types: leave it.
-/
import Derived.Test.YtjfolhheejkedaaRows
import Derived.WalkKit
import Derived.ProofKit
import Derived.OpenShut
import Derived.ShutString
import Derived.ChangeOld
import Derived.Below
import Derived.Test.YtjfolhheejkedaaBurstsW
namespace Go.Proofs.Ytjfolhheejkedaa.frameBursts
open Go.Joins Go.ChangeShapes Go.WideShapes Go.ChangeAt Go.RowKit
open Go.ChangeMaps (open_string shut_string)
set_option linter.unusedVariables false      -- a walk need not use every 'w<i>' (that an integer argument fits its kind)

theorem own : ownKnob Try.prog.godebug = none := by kernel_rfl
theorem laidOut : laidOutB Try.prog = true := by kernel_rfl

theorem four_of {α : Type} (l : List α) (h : (⟨l⟩ : Array α).size = 4) : ∃ a b c d, l = [a, b, c, d] := by
  have h' : l.length = 4 := by simpa using h
  match l, h' with
  | [a, b, c, d], _ => exact ⟨a, b, c, d, rfl⟩
/-- a slice of int64 that came in, as the walk is told of it -/
theorem row_in (W : World) (H : Type) (enc : TypeId × Value → H) (fuel : Nat) (v : Value) (x : DataW H × List MemPlace) (h : DataW.trod enc Try.prog W 0 (fun _ => true) true fuel 22 [v] = some x) :
    ∃ (A : Option Addr) (n c : Nat) (xs : List Int), v = .slice A n c ∧ xs.length = n ∧ n ≤ c ∧ YtjfolhheejkedaaW.PrintWords.ReadsInt W .i64 A n xs ∧ ∀ x ∈ xs, -9223372036854775808 ≤ x ∧ x < 9223372036854775808 := by
  rcases open_ints Try.underlying22 Try.underlying2 (by kernel_rfl) h with ⟨hcs, _⟩ | ⟨a, l, c, zs, hcs, _, hl, hm, hz, _, hcell, hwz⟩
  · have hv : v = .slice none 0 0 := by simpa using hcs
    subst hv
    exact ⟨none, 0, 0, [], rfl, rfl, Nat.le_refl _, ⟨rfl, by omega, fun h => absurd h (Nat.lt_irrefl 0)⟩, fun x hx => by cases hx⟩
  · have hv : v = .slice (some a) l c := by simpa using hcs
    subst hv
    have hz' : zs.length = c := by simpa using hz
    refine ⟨some a, l, c, zs.take l, rfl, by rw [List.length_take]; omega, hl, ⟨by rw [List.length_take]; omega, by unfold maxLen at hm; omega, fun _ => ⟨a, rfl, fun j hj => ?_⟩⟩, fun x hx => ?_⟩
    · rw [hcell j (by omega), List.getD_eq_getElem?_getD, List.getD_eq_getElem?_getD, List.getElem?_take, if_pos hj]
    · have := bounds_i64 (hwz x (List.mem_of_mem_take hx))
      omega
/-! ### THE ROW's STEP: WRITTEN OUT: LEAVE IT -/
set_option maxRecDepth 100000 in
theorem lifted (os : Os) (started : os.Started) (H : Type) (enc : TypeId × Value → H) :
    ReturnsInHanded {} Try.checked os 3 .any (Rows.frameBurstsSpec.pre6 enc Try.prog Try.f3 Rows.frameBurstsRow.domain false) (Rows.frameBurstsSpec.post enc Try.prog Try.f3 false true false false) := by
  refine returnsInHanded_of_change (C := Try.checked) own started (by kernel_rfl) Try.func3
    (ChangeSpec.witness6 (enc := enc) (C := Try.checked) false ⟨#[], #[.agg #[.int .i64 0, .slice none 0 0], .int .i64 0, .agg #[.int .u8 0, .int .u8 0, .int .u8 0, .int .u8 0]], []⟩ 8 (by kernel_rfl) (by kernel_rfl) (by kernel_rfl) (by kernel_rfl)) ?_
  intro W base args ds gs before hval0 hW hcnd _
  have hval : ∀ (j : Nat) t v, Try.f3.params[j]? = some t → args[j]? = some v → Value.okWide Try.prog W .any base t v := hval0
  have hW' := hW
  obtain ⟨p, q, hA0, hV, rfl, hfz, hnd⟩ := hW
  have hA : DataW.TrodAll enc Try.prog W 0 (fun _ => true) true Try.f3.params.toList args.toList ds p := hA0
  rw [Try.params3] at hA hval
  obtain ⟨v0, v1, v2, d0, d1, d2, p0, p1, p2, rfl, rfl, rfl, h0, h1, h2⟩ := trodAll_three hA
  obtain ⟨rfl, rfl⟩ := trodVars_none hV
  have k0 := h0
  have lt0 : ∀ x ∈ p0, x.block < W.heap.size := by obtain ⟨m, hm⟩ := k0; exact DataW.trod_lt m _ _ _ hm
  have k2 := h2
  have lt2 : ∀ x ∈ p2, x.block < W.heap.size := by obtain ⟨m, hm⟩ := k2; exact DataW.trod_lt m _ _ _ hm
  have hC : Try.prog.cellsOf 24 = 2 := by kernel_rfl
  obtain ⟨c0, c1, y0, y1, m, rfl, _, _, hy0, hy1⟩ := open_agg2 Try.underlying24 (by kernel_rfl) hC (hval 0 24 v0 rfl rfl) h0
  obtain ⟨k, e0, _, wk⟩ := DataW.trod_int Try.underlying3 hy0
  obtain rfl : c0 = .int .i64 k := by simpa using e0
  obtain ⟨A, n, c, xs, rfl, hl, hc, hr, hxs⟩ := row_in W H enc _ _ _ hy1
  obtain ⟨at_, rfl, rfl, rfl, wp⟩ := open_int Try.underlying3 (hval 1 3 v1 rfl rfl) h1
  obtain ⟨cs, rfl, hsz⟩ : ∃ cs, v2 = .agg cs ∧ cs.size = Try.prog.cellsOf 25 := by
    have h := hval 2 25 v2 rfl rfl
    simp only [Value.okWide, Try.underlying25] at h
    obtain ⟨cs, h1, h2, _⟩ := h
    exact ⟨cs, h1, h2⟩
  have hC4 : Try.prog.cellsOf 25 = 4 := by kernel_rfl
  rw [hC4] at hsz
  obtain ⟨l⟩ := cs
  obtain ⟨b0, b1, b2, b3, rfl⟩ := four_of l hsz
  obtain ⟨fuel, hf⟩ := h2
  have hC5 : Try.prog.cellsOf 5 = 1 := by kernel_rfl
  obtain ⟨z0, z1, z2, z3, m2, _, hz0, hz1, hz2, hz3⟩ := trod_array4 Try.underlying25 hC5 hf
  obtain ⟨x0, e0, _, w0⟩ := DataW.trod_int Try.underlying5 hz0
  obtain ⟨x1, e1, _, w1⟩ := DataW.trod_int Try.underlying5 hz1
  obtain ⟨x2, e2, _, w2⟩ := DataW.trod_int Try.underlying5 hz2
  obtain ⟨x3, e3, _, w3⟩ := DataW.trod_int Try.underlying5 hz3
  obtain rfl : b0 = .int .u8 x0 := by simpa using e0
  obtain rfl : b1 = .int .u8 x1 := by simpa using e1
  obtain rfl : b2 = .int .u8 x2 := by simpa using e2
  obtain rfl : b3 = .int .u8 x3 := by simpa using e3
  have hb : IsBytes [x0, x1, x2, x3] := fun y hy => by
    have q : ∀ z : Int, (Lit.int .u8 z).wf = true → 0 ≤ z ∧ z < 256 := fun z hz => by
      have := bounds_u8 hz
      omega
    simp only [List.mem_cons, List.not_mem_nil, or_false] at hy
    rcases hy with rfl | rfl | rfl | rfl
    · exact q _ w0
    · exact q _ w1
    · exact q _ w2
    · exact q _ w3
  have hat : at_ < 9223372036854775808 := by
    have := bounds_i64 wp
    omega
  clear hA0 hval0
  refine (bursts_any k at_ x0 x1 x2 x3 A n c xs W hl hr hc hxs hb hat).mono fun e W' ⟨he, bel⟩ => ?_
  subst he
  exact ⟨_, rfl, _, _, _, [], _, [], hW', trodAll_mk1 (shut_bool Try.underlying4 _), trodAll_mk3 (Below.trod laidOut (by kernel_rfl) (of_decide_eq_true (by kernel_rfl)) k0 bel lt0) (shut_int Try.underlying3 wp) (Below.trod laidOut (by kernel_rfl) (of_decide_eq_true (by kernel_rfl)) k2 bel lt2), rfl, bel.frame _, fun h => by cases h⟩

theorem over : Rows.frameBurstsRow.holds Try.pinned (OpenSpec.ofChange Rows.frameBurstsSpec) :=
  OpenClaim.holds_of_wide 3 Try.f3 rfl rfl rfl rfl rfl rfl rfl ⟨rfl, rfl, rfl, rfl, rfl⟩ rfl rfl rfl rfl rfl (by kernel_rfl) Try.func3 (by kernel_rfl)
    (of_decide_eq_true (by kernel_rfl)) (by unfold Func.isWrapper; first | (rw [if_pos (by decide +kernel)]; kernel_rfl) | (rw [if_neg (by decide +kernel)]; exact ⟨rfl, rfl⟩))
    (fun os started H enc _ => lifted os started H enc)

/-- ████ THE STATEMENT ████ -/
theorem proved : Rows.FrameBurstsSaid :=
  over
#print axioms proved
end Go.Proofs.Ytjfolhheejkedaa.frameBursts
