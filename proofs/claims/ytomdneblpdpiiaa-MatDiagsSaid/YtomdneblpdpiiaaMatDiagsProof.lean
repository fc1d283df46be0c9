/-
  THE PROOF OF 'Rows.MatDiagsSaid' ('alidade/alidadelaw03.MatDiags'), after the shell of 'Rows.FrameBurstsSaid'; the two arrays of three int8 are opened by hand.
-/
import Derived.Test.YtomdneblpdpiiaaRows
import Derived.WalkKit
import Derived.ProofKit
import Derived.OpenShut
import Derived.ShutString
import Derived.ChangeOld
import Derived.Below
import Derived.Laws.IdiomArrays
import Derived.Test.YtomdneblpdpiiaaMDiags
namespace Go.Proofs.Ytomdneblpdpiiaa.matDiags
open Go.Joins Go.ChangeShapes Go.WideShapes Go.ChangeAt Go.RowKit
set_option linter.unusedVariables false

theorem own : ownKnob Try.prog.godebug = none := by kernel_rfl
theorem laidOut : laidOutB Try.prog = true := by kernel_rfl

theorem three_of {α : Type} (l : List α) (h : (⟨l⟩ : Array α).size = 3) : ∃ a b c, l = [a, b, c] := by
  have h' : l.length = 3 := by simpa using h
  match l, h' with
  | [a, b, c], _ => exact ⟨a, b, c, rfl⟩
/-- an array of three int8 that came in, as the walk is told of it -/
theorem i8s_in (W : World) (base : Nat) (H : Type) (enc : TypeId × Value → H) (v : Value) (x : DataW H) (p : List MemPlace) (hv : Value.okWide Try.prog W .any base 23 v)
    (h : ∃ fuel, DataW.trod enc Try.prog W 0 (fun _ => true) true fuel 23 v.cells.toList = some (x, p)) :
    ∃ a b c : Int, v = .agg #[.int .i8 a, .int .i8 b, .int .i8 c] ∧ ∀ k, -128 ≤ [a, b, c].getD k 0 ∧ [a, b, c].getD k 0 ≤ 127 := by
  simp only [Value.okWide, Try.underlying23] at hv
  obtain ⟨cs, rfl, hsz, _⟩ := hv
  have hC : Try.prog.cellsOf 23 = 3 := by kernel_rfl
  rw [hC] at hsz
  obtain ⟨l⟩ := cs
  obtain ⟨b0, b1, b2, rfl⟩ := three_of l hsz
  obtain ⟨fuel, hf⟩ := h
  have hC5 : Try.prog.cellsOf 22 = 1 := by kernel_rfl
  obtain ⟨z0, z1, z2, m2, _, hz0, hz1, hz2⟩ := trod_array3 Try.underlying23 hC5 hf
  obtain ⟨x0, e0, _, w0⟩ := DataW.trod_int Try.underlying22 hz0
  obtain ⟨x1, e1, _, w1⟩ := DataW.trod_int Try.underlying22 hz1
  obtain ⟨x2, e2, _, w2⟩ := DataW.trod_int Try.underlying22 hz2
  obtain rfl : b0 = .int .i8 x0 := by simpa using e0
  obtain rfl : b1 = .int .i8 x1 := by simpa using e1
  obtain rfl : b2 = .int .i8 x2 := by simpa using e2
  refine ⟨x0, x1, x2, rfl, fun k => ?_⟩
  match k with
  | 0 => exact bounds_i8 w0
  | 1 => exact bounds_i8 w1
  | 2 => exact bounds_i8 w2
  | _ + 3 => simp
set_option maxRecDepth 100000 in
theorem lifted (os : Os) (started : os.Started) (H : Type) (enc : TypeId × Value → H) :
    ReturnsInHanded {} Try.checked os 3 .any (Rows.matDiagsSpec.pre6 enc Try.prog Try.f3 Rows.matDiagsRow.domain false) (Rows.matDiagsSpec.post enc Try.prog Try.f3 false true false false) := by
  refine returnsInHanded_of_change (C := Try.checked) own started (by kernel_rfl) Try.func3
    (ChangeSpec.witness6 (enc := enc) (C := Try.checked) false ⟨#[], #[.agg #[.int .i8 0, .int .i8 0, .int .i8 0], .agg #[.int .i8 0, .int .i8 0, .int .i8 0]], []⟩ 8 (by kernel_rfl) (by kernel_rfl) (by kernel_rfl) (by kernel_rfl)) ?_
  intro W base args ds gs before hval0 hW hcnd _
  have hval : ∀ (j : Nat) t v, Try.f3.params[j]? = some t → args[j]? = some v → Value.okWide Try.prog W .any base t v := hval0
  have hW' := hW
  obtain ⟨p, q, hA0, hV, rfl, hfz, hnd⟩ := hW
  have hA : DataW.TrodAll enc Try.prog W 0 (fun _ => true) true Try.f3.params.toList args.toList ds p := hA0
  rw [Try.params3] at hA hval
  obtain ⟨v0, v1, d0, d1, p0, p1, rfl, rfl, rfl, h0, h1⟩ := trodAll_two hA
  obtain ⟨rfl, rfl⟩ := trodVars_none hV
  have k0 := h0
  have lt0 : ∀ x ∈ p0, x.block < W.heap.size := by obtain ⟨m, hm⟩ := k0; exact DataW.trod_lt m _ _ _ hm
  have k1 := h1
  have lt1 : ∀ x ∈ p1, x.block < W.heap.size := by obtain ⟨m, hm⟩ := k1; exact DataW.trod_lt m _ _ _ hm
  obtain ⟨a0, a1, a2, rfl, ha⟩ := i8s_in W base H enc v0 d0 p0 (hval 0 23 v0 rfl rfl) h0
  obtain ⟨b0, b1, b2, rfl, hb⟩ := i8s_in W base H enc v1 d1 p1 (hval 1 23 v1 rfl rfl) h1
  clear hA0 hval0
  refine (diags_any [a0, a1, a2] [b0, b1, b2] a0 a1 a2 b0 b1 b2 W rfl rfl ha hb).mono fun e W' ⟨he, bel⟩ => ?_
  subst he
  exact ⟨_, rfl, _, _, _, [], _, [], hW', trodAll_mk1 (shut_bool Try.underlying4 _), trodAll_mk2 (Below.trod laidOut (by kernel_rfl) (of_decide_eq_true (by kernel_rfl)) k0 bel lt0) (Below.trod laidOut (by kernel_rfl) (of_decide_eq_true (by kernel_rfl)) k1 bel lt1), rfl, bel.frame _, fun h => by cases h⟩

theorem over : Rows.matDiagsRow.holds Try.pinned (OpenSpec.ofChange Rows.matDiagsSpec) :=
  OpenClaim.holds_of_wide 3 Try.f3 rfl rfl rfl rfl rfl rfl rfl ⟨rfl, rfl, rfl, rfl, rfl⟩ rfl rfl rfl rfl rfl (by kernel_rfl) Try.func3 (by kernel_rfl)
    (of_decide_eq_true (by kernel_rfl)) (by unfold Func.isWrapper; first | (rw [if_pos (by decide +kernel)]; kernel_rfl) | (rw [if_neg (by decide +kernel)]; exact ⟨rfl, rfl⟩))
    (fun os started H enc _ => lifted os started H enc)

/-- ████ THE STATEMENT ████ -/
theorem proved : Rows.MatDiagsSaid :=
  over
#print axioms proved
end Go.Proofs.Ytomdneblpdpiiaa.matDiags
