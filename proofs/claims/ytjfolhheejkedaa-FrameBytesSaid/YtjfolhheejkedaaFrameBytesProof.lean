/-
  THE SHELL OF A PROOF OF 'Rows.FrameBytesSaid' ('alidade/alidadelaw08.FrameBytes'), WRITTEN BY PROGRAM (proof-skeleton.mjs) off the guide's own print for that function. Not trusted: Lean checks it.
  The walk is ours. ALL ELSE IS THE GUIDE's TEMPLATE (howto/template/XProofs.lean) at this function's number and types: leave it.
-/
import Derived.Test.YtjfolhheejkedaaRows
import Derived.WalkKit
import Derived.ProofKit
import Derived.OpenShut
import Derived.ShutString
import Derived.ChangeOld
import Derived.SizedLaws
import Derived.Below
import Derived.Test.YtjfolhheejkedaaBytesW
namespace Go.Proofs.Ytjfolhheejkedaa.frameBytes
open Go.Joins Go.ChangeShapes Go.WideShapes Go.ChangeAt Go.RowKit
open Go.ChangeMaps (open_string shut_string)
set_option linter.unusedVariables false      -- a walk need not use every 'w<i>' (that an integer argument fits its kind)

theorem own : ownKnob Try.prog.godebug = none := by kernel_rfl
theorem laidOut : laidOutB Try.prog = true := by kernel_rfl

/-- a slice of numbers that came in, as the walk is told of it -/
theorem row_in (W : World) (H : Type) (enc : TypeId × Value → H) (fuel t e : Nat) (kd : IntKind) (ht : Try.prog.underlying t = some (.slice e)) (he : Try.prog.underlying e = some (.int kd)) (hc1 : Try.prog.cellsOf e = 1) (v : Value) (x : DataW H × List MemPlace) (h : DataW.trod enc Try.prog W 0 (fun _ => true) true fuel t [v] = some x) :
    ∃ (A : Option Addr) (n c : Nat) (xs : List Int), v = .slice A n c ∧ xs.length = n ∧ n ≤ c ∧ YtjfolhheejkedaaW.PrintWords.ReadsInt W kd A n xs ∧ (∀ x ∈ xs, (Lit.int kd x).wf = true) ∧ (n = 0 ∨ ∃ es sp, x.1 = .slice es sp ∧ n ≤ es.length + sp.length) := by
  rcases open_ints ht he hc1 h with ⟨hcs, _⟩ | ⟨a, l, c, zs, hcs, _, hl, hm, hz, hx, hcell, hwz⟩
  · have hv : v = .slice none 0 0 := by simpa using hcs
    subst hv
    exact ⟨none, 0, 0, [], rfl, rfl, Nat.le_refl _, ⟨rfl, by omega, fun h => absurd h (Nat.lt_irrefl 0)⟩, fun x hx => (by cases hx), .inl rfl⟩
  · have hv : v = .slice (some a) l c := by simpa using hcs
    subst hv
    have hz' : zs.length = c := by simpa using hz
    refine ⟨some a, l, c, zs.take l, rfl, by rw [List.length_take]; omega, hl, ⟨by rw [List.length_take]; omega, by unfold maxLen at hm; omega, fun _ => ⟨a, rfl, fun j hj => ?_⟩⟩, fun x hx => hwz x (List.mem_of_mem_take hx), .inr ⟨_, _, by rw [hx], ?_⟩⟩
    · rw [hcell j (by omega), List.getD_eq_getElem?_getD, List.getD_eq_getElem?_getD, List.getElem?_take, if_pos hj]
    · simp [lits]; omega
theorem frame_reach {H : Type} {ts : List TypeId} {ds : List (DataW H)} (hsz : (DataW.weightsEach Try.prog ts ds).all (· ≤ reachBytes) = true) (j : Nat) (a : DataW H) (y : DataW H) (n : Nat) (ht : ts[j]? = some 24) (hd : ds[j]? = some (.agg [a, y])) (hn : n = 0 ∨ ∃ es sp, y = .slice es sp ∧ n ≤ es.length + sp.length) : n ≤ 1152921504606846976 := by
  rcases hn with rfl | ⟨es, sp, rfl, hn⟩
  · omega
  · have h2 : Try.prog.bytesOf 2 = 8 := by kernel_rfl
    have := List.all_eq_true.1 hsz _ (DataW.weights_mem_each (j := j) (t := 24) ht hd ((es.length + sp.length) * Try.prog.bytesOf 2) (by simp [DataW.weights, DataW.weightsEach, Try.underlying24, Try.underlying22]))
    rw [h2] at this
    have h3 : (es.length + sp.length) * 8 ≤ reachBytes := by simpa using this
    simp only [reachBytes] at h3
    omega
/-! ### THE ROW's STEP: WRITTEN OUT: LEAVE IT -/
set_option maxRecDepth 100000 in
theorem lifted (os : Os) (started : os.Started) (H : Type) (enc : TypeId × Value → H) :
    ReturnsInHanded {} Try.checked os 5 .any (Rows.frameBytesSpec.pre6 enc Try.prog Try.f5 Rows.frameBytesRow.domain false) (Rows.frameBytesSpec.post enc Try.prog Try.f5 false true false false) := by
  refine returnsInHanded_of_change_sized (C := Try.checked) own started (by kernel_rfl) Try.func5
    (ChangeSpec.witness6 (enc := enc) (C := Try.checked) false ⟨#[], #[.agg #[.int .i64 0, .slice none 0 0], .agg #[.int .i64 0, .slice none 0 0], .slice none 0 0], []⟩ 8 (by kernel_rfl) (by kernel_rfl) (by kernel_rfl) (by kernel_rfl)) ?_
  intro W base args ds gs before hval0 hW hcnd hsz0 _
  have hval : ∀ (j : Nat) t v, Try.f5.params[j]? = some t → args[j]? = some v → Value.okWide Try.prog W .any base t v := hval0
  have hW' := hW
  obtain ⟨p, q, hA0, hV, rfl, hfz, hnd⟩ := hW
  have hA : DataW.TrodAll enc Try.prog W 0 (fun _ => true) true Try.f5.params.toList args.toList ds p := hA0
  have hsz : (DataW.weightsEach Try.prog (Try.f5.params.toList ++ Rows.frameBytesSpec.plain.varTypes Try.prog) (ds ++ gs)).all (· ≤ reachBytes) = true := hsz0
  rw [Try.params5] at hA hval hsz
  obtain ⟨v0, v1, v2, d0, d1, d2, p0, p1, p2, rfl, rfl, rfl, h0, h1, h2⟩ := trodAll_three hA
  obtain ⟨rfl, rfl⟩ := trodVars_none hV
  have k0 := h0
  have lt0 : ∀ x ∈ p0, x.block < W.heap.size := by obtain ⟨m, hm⟩ := k0; exact DataW.trod_lt m _ _ _ hm
  have k1 := h1
  have lt1 : ∀ x ∈ p1, x.block < W.heap.size := by obtain ⟨m, hm⟩ := k1; exact DataW.trod_lt m _ _ _ hm
  have k2 := h2
  have lt2 : ∀ x ∈ p2, x.block < W.heap.size := by obtain ⟨m, hm⟩ := k2; exact DataW.trod_lt m _ _ _ hm
  have hC : Try.prog.cellsOf 24 = 2 := by kernel_rfl
  obtain ⟨c0, c1, y0, y1, m0, rfl, rfl, _, hy0, hy1⟩ := open_agg2 Try.underlying24 (by kernel_rfl) hC (hval 0 24 v0 rfl rfl) h0
  obtain ⟨k, e0, _, wk⟩ := DataW.trod_int Try.underlying3 hy0
  obtain rfl : c0 = .int .i64 k := by simpa using e0
  obtain ⟨A, n, c, xs, rfl, hl, hc, hr, hxs, hn⟩ := row_in W H enc _ 22 2 .i64 Try.underlying22 Try.underlying2 (by kernel_rfl) _ _ hy1
  obtain ⟨c0', c1', y0', y1', m0', rfl, rfl, _, hy0', hy1'⟩ := open_agg2 Try.underlying24 (by kernel_rfl) hC (hval 1 24 v1 rfl rfl) h1
  obtain ⟨k', e0', _, wk'⟩ := DataW.trod_int Try.underlying3 hy0'
  obtain rfl : c0' = .int .i64 k' := by simpa using e0'
  obtain ⟨A', n', c', xs', rfl, hl', hc', hr', hxs', hn'⟩ := row_in W H enc _ 22 2 .i64 Try.underlying22 Try.underlying2 (by kernel_rfl) _ _ hy1'
  obtain ⟨a2, len2, cap2, rfl⟩ := okWide_slice Try.underlying28 (hval 2 28 v2 rfl rfl)
  obtain ⟨fuel2, hf2⟩ := h2
  obtain ⟨B, m, d, bs, hBv, hlb, hcb, hrb, hbs, _⟩ := row_in W H enc _ 28 5 .u8 Try.underlying28 Try.underlying5 (by kernel_rfl) _ _ (show DataW.trod enc Try.prog W 0 (fun _ => true) true fuel2 28 [.slice a2 len2 cap2] = some _ from hf2)
  rw [hBv]
  have hm := frame_reach hsz 0 y0.1 y1.1 n rfl rfl hn
  have hm' := frame_reach hsz 1 y0'.1 y1'.1 n' rfl rfl hn'
  have hb : IsBytes bs := fun y hy => by
    have := bounds_u8 (hbs y hy)
    omega
  clear hA0 hval0
  refine (bytes_any k k' A A' B n c n' c' m d xs xs' bs W hl hr hc hl' hr' hc' hlb hrb hcb hb hm hm').mono fun e W' ⟨he, bel⟩ => ?_
  subst he
  rw [← hBv]
  exact ⟨_, rfl, _, _, _, [], _, [], hW', trodAll_mk1 (shut_bool Try.underlying4 _), trodAll_mk3 (Below.trod laidOut (by kernel_rfl) (of_decide_eq_true (by kernel_rfl)) k0 bel lt0) (Below.trod laidOut (by kernel_rfl) (of_decide_eq_true (by kernel_rfl)) k1 bel lt1) (Below.trod laidOut (by kernel_rfl) (of_decide_eq_true (by kernel_rfl)) k2 bel lt2), rfl, bel.frame _, fun h => by cases h⟩

theorem over : Rows.frameBytesRow.holds Try.pinned (OpenSpec.ofChange Rows.frameBytesSpec) :=
  OpenClaim.holds_of_wide 5 Try.f5 rfl rfl rfl rfl rfl rfl rfl ⟨rfl, rfl, rfl, rfl, rfl⟩ rfl rfl rfl rfl rfl (by kernel_rfl) Try.func5 (by kernel_rfl)
    (of_decide_eq_true (by kernel_rfl)) (by unfold Func.isWrapper; first | (rw [if_pos (by decide +kernel)]; kernel_rfl) | (rw [if_neg (by decide +kernel)]; exact ⟨rfl, rfl⟩))
    (fun os started H enc _ => lifted os started H enc)

/-- ████ THE STATEMENT ████ -/
theorem proved : Rows.FrameBytesSaid :=
  over
#print axioms proved
end Go.Proofs.Ytjfolhheejkedaa.frameBytes
