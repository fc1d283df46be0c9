/-
  THE SHELL OF A PROOF OF 'Rows.FrameBackSaid' ('alidade/alidadelaw08.FrameBack'), WRITTEN BY PROGRAM (proof-skeleton.mjs) off the guide's own print for that function. Not trusted: Lean checks it.
  The walk is ours. ALL ELSE IS THE GUIDE's TEMPLATE (howto/template/XProofs.lean) at this function's number and types: leave it.
-/
import Derived.Test.YtjfolhheejkedaaRows
import Derived.WalkKit
import Derived.ProofKit
import Derived.OpenShut
import Derived.ShutString
import Derived.ChangeOld
import Derived.SizedLaws
import Derived.Below
import Derived.Test.YtjfolhheejkedaaBackW
namespace Go.Proofs.Ytjfolhheejkedaa.frameBack
open Go.Joins Go.ChangeShapes Go.WideShapes Go.ChangeAt Go.RowKit
open Go.ChangeMaps (open_string shut_string)
set_option linter.unusedVariables false      -- a walk need not use every 'w<i>' (that an integer argument fits its kind)

theorem own : ownKnob Try.prog.godebug = none := by kernel_rfl
theorem laidOut : laidOutB Try.prog = true := by kernel_rfl

/-- a slice of numbers that came in, as the walk is told of it -/
theorem row_in (W : World) (H : Type) (enc : TypeId × Value → H) (fuel t e : Nat) (kd : IntKind) (ht : Try.prog.underlying t = some (.slice e)) (he : Try.prog.underlying e = some (.int kd)) (hc1 : Try.prog.cellsOf e = 1) (v : Value) (x : DataW H × List MemPlace) (h : DataW.trod enc Try.prog W 0 (fun _ => true) true fuel t [v] = some x) :
    ∃ (A : Option Addr) (n c : Nat) (xs : List Int), v = .slice A n c ∧ xs.length = n ∧ n ≤ c ∧ YtjfolhheejkedaaW.PrintWords.ReadsInt W kd A n xs ∧ (∀ x ∈ xs, (Lit.int kd x).wf = true) ∧ (n = 0 ∨ ∃ es sp, x.1 = .slice es sp ∧ n ≤ es.length + sp.length) := by
  rcases open_ints ht he hc1 h with ⟨hcs, _⟩ | ⟨a, l, c, zs, hcs, _, hl, hm, hz, hx, hcell, hwz⟩
  · have hv : v = .slice none 0 0 := by simpa using hcs
    subst hv
    exact ⟨none, 0, 0, [], rfl, rfl, Nat.le_refl _, ⟨rfl, by omega, fun h => absurd h (Nat.lt_irrefl 0)⟩, fun x hx => (by cases hx), .inl rfl⟩
  · have hv : v = .slice (some a) l c := by simpa using hcs
    subst hv
    have hz' : zs.length = c := by simpa using hz
    refine ⟨some a, l, c, zs.take l, rfl, by rw [List.length_take]; omega, hl, ⟨by rw [List.length_take]; omega, by unfold maxLen at hm; omega, fun _ => ⟨a, rfl, fun j hj => ?_⟩⟩, fun x hx => hwz x (List.mem_of_mem_take hx), .inr ⟨_, _, by rw [hx], ?_⟩⟩
    · rw [hcell j (by omega), List.getD_eq_getElem?_getD, List.getD_eq_getElem?_getD, List.getElem?_take, if_pos hj]
    · simp [lits]; omega
theorem frame_reach {H : Type} {ts : List TypeId} {ds : List (DataW H)} (hsz : (DataW.weightsEach Try.prog ts ds).all (· ≤ reachBytes) = true) (j : Nat) (a : DataW H) (y : DataW H) (n : Nat) (ht : ts[j]? = some 24) (hd : ds[j]? = some (.agg [a, y])) (hn : n = 0 ∨ ∃ es sp, y = .slice es sp ∧ n ≤ es.length + sp.length) : n ≤ 1152921504606846976 := by
  rcases hn with rfl | ⟨es, sp, rfl, hn⟩
  · omega
  · have h2 : Try.prog.bytesOf 2 = 8 := by kernel_rfl
    have := List.all_eq_true.1 hsz _ (DataW.weights_mem_each (j := j) (t := 24) ht hd ((es.length + sp.length) * Try.prog.bytesOf 2) (by simp [DataW.weights, DataW.weightsEach, Try.underlying24, Try.underlying22]))
    rw [h2] at this
    have h3 : (es.length + sp.length) * 8 ≤ reachBytes := by simpa using this
    simp only [reachBytes] at h3
    omega
theorem thirteen {α : Type} (l : List α) (h : (⟨l⟩ : Array α).size = 13) : ∃ c0 c1 c2 c3 c4 c5 c6 c7 c8 c9 c10 c11 c12, l = [c0, c1, c2, c3, c4, c5, c6, c7, c8, c9, c10, c11, c12] := by
  have h' : l.length = 13 := by simpa using h
  match l, h' with
  | [c0, c1, c2, c3, c4, c5, c6, c7, c8, c9, c10, c11, c12], _ => exact ⟨c0, c1, c2, c3, c4, c5, c6, c7, c8, c9, c10, c11, c12, rfl⟩
theorem vec_in (W : World) (H : Type) (enc : TypeId × Value → H) (fuel : Nat) (c0 c1 c2 : Value) (x : DataW H × List MemPlace) (h : DataW.trod enc Try.prog W 0 (fun _ => true) true fuel 46 [c0, c1, c2] = some x) : ∃ x0 x1 x2 : Int, c0 = .int .i64 x0 ∧ c1 = .int .i64 x1 ∧ c2 = .int .i64 x2 := by
  obtain ⟨y0, y1, y2, n, _, h0, h1, h2⟩ := trod_array3 Try.underlying46 (by kernel_rfl) h
  obtain ⟨x0, e0, _, _⟩ := DataW.trod_int Try.underlying44 h0
  obtain ⟨x1, e1, _, _⟩ := DataW.trod_int Try.underlying44 h1
  obtain ⟨x2, e2, _, _⟩ := DataW.trod_int Try.underlying44 h2
  exact ⟨x0, x1, x2, by simpa using e0, by simpa using e1, by simpa using e2⟩
theorem sample_in (W : World) (H : Type) (enc : TypeId × Value → H) (fuel : Nat) (l : List Value) (hl : l.length = 13) (x : DataW H × List MemPlace) (h : DataW.trod enc Try.prog W 0 (fun _ => true) true fuel 48 l = some x) :
    ∃ (m : Bool) (g0 g1 g2 a0 a1 a2 : Int) (hb : Bool) (b : Int) (hg : Bool) (n0 n1 n2 : Int), l = [.bool m, .int .i64 g0, .int .i64 g1, .int .i64 g2, .int .i64 a0, .int .i64 a1, .int .i64 a2, .bool hb, .int .i64 b, .bool hg, .int .i64 n0, .int .i64 n1, .int .i64 n2] := by
  obtain ⟨c0, c1, c2, c3, c4, c5, c6, c7, c8, c9, c10, c11, c12, rfl⟩ := thirteen l (by simpa using hl)
  obtain ⟨xs, n, _, _, _, hlen, hf⟩ := DataW.trod_struct Try.underlying48 h
  have hc4 : Try.prog.cellsOf 4 = 1 := by kernel_rfl
  have hc44 : Try.prog.cellsOf 44 = 1 := by kernel_rfl
  have hc46 : Try.prog.cellsOf 46 = 3 := by kernel_rfl
  match xs, hlen with
  | [y0, y1, y2, y3, y4, y5, y6], _ =>
    have f0 : DataW.trod enc Try.prog W 0 (fun _ => true) true n 4 [c0] = some y0 := by simpa [hc4] using hf 0 _ rfl
    have f1 : DataW.trod enc Try.prog W 0 (fun _ => true) true n 46 [c1, c2, c3] = some y1 := by simpa [hc46] using hf 1 _ rfl
    have f2 : DataW.trod enc Try.prog W 0 (fun _ => true) true n 46 [c4, c5, c6] = some y2 := by simpa [hc46] using hf 2 _ rfl
    have f3 : DataW.trod enc Try.prog W 0 (fun _ => true) true n 4 [c7] = some y3 := by simpa [hc4] using hf 3 _ rfl
    have f4 : DataW.trod enc Try.prog W 0 (fun _ => true) true n 44 [c8] = some y4 := by simpa [hc44] using hf 4 _ rfl
    have f5 : DataW.trod enc Try.prog W 0 (fun _ => true) true n 4 [c9] = some y5 := by simpa [hc4] using hf 5 _ rfl
    have f6 : DataW.trod enc Try.prog W 0 (fun _ => true) true n 46 [c10, c11, c12] = some y6 := by simpa [hc46] using hf 6 _ rfl
    obtain ⟨m, e0, _⟩ := DataW.trod_bool Try.underlying4 (show DataW.trod enc Try.prog W 0 (fun _ => true) true n 4 [c0] = some y0 from f0)
    obtain ⟨g0, g1, g2, rfl, rfl, rfl⟩ := vec_in W H enc n c1 c2 c3 y1 f1
    obtain ⟨a0, a1, a2, rfl, rfl, rfl⟩ := vec_in W H enc n c4 c5 c6 y2 f2
    obtain ⟨hb, e3, _⟩ := DataW.trod_bool Try.underlying4 (show DataW.trod enc Try.prog W 0 (fun _ => true) true n 4 [c7] = some y3 from f3)
    obtain ⟨b, e4, _, _⟩ := DataW.trod_int Try.underlying44 (show DataW.trod enc Try.prog W 0 (fun _ => true) true n 44 [c8] = some y4 from f4)
    obtain ⟨hg, e5, _⟩ := DataW.trod_bool Try.underlying4 (show DataW.trod enc Try.prog W 0 (fun _ => true) true n 4 [c9] = some y5 from f5)
    obtain ⟨n0, n1, n2, rfl, rfl, rfl⟩ := vec_in W H enc n c10 c11 c12 y6 f6
    obtain rfl : c0 = .bool m := by simpa using e0
    obtain rfl : c7 = .bool hb := by simpa using e3
    obtain rfl : c8 = .int .i64 b := by simpa using e4
    obtain rfl : c9 = .bool hg := by simpa using e5
    exact ⟨m, g0, g1, g2, a0, a1, a2, hb, b, hg, n0, n1, n2, rfl⟩
/-! ### THE ROW's STEP: WRITTEN OUT: LEAVE IT -/
set_option maxRecDepth 100000 in
theorem lifted (os : Os) (started : os.Started) (H : Type) (enc : TypeId × Value → H) :
    ReturnsInHanded {} Try.checked os 6 .any (Rows.frameBackSpec.pre6 enc Try.prog Try.f6 Rows.frameBackRow.domain false) (Rows.frameBackSpec.post enc Try.prog Try.f6 false true false false) := by
  refine returnsInHanded_of_change_sized (C := Try.checked) own started (by kernel_rfl) Try.func6
    (ChangeSpec.witness6 (enc := enc) (C := Try.checked) false ⟨#[], #[.agg #[.int .i64 0, .slice none 0 0], .agg #[.bool false, .int .i64 0, .int .i64 0, .int .i64 0, .int .i64 0, .int .i64 0, .int .i64 0, .bool false, .int .i64 0, .bool false, .int .i64 0, .int .i64 0, .int .i64 0], .slice none 0 0], []⟩ 8 (by kernel_rfl) (by kernel_rfl) (by kernel_rfl) (by kernel_rfl)) ?_
  intro W base args ds gs before hval0 hW hcnd hsz0 _
  have hval : ∀ (j : Nat) t v, Try.f6.params[j]? = some t → args[j]? = some v → Value.okWide Try.prog W .any base t v := hval0
  have hW' := hW
  obtain ⟨p, q, hA0, hV, rfl, hfz, hnd⟩ := hW
  have hA : DataW.TrodAll enc Try.prog W 0 (fun _ => true) true Try.f6.params.toList args.toList ds p := hA0
  have hsz : (DataW.weightsEach Try.prog (Try.f6.params.toList ++ Rows.frameBackSpec.plain.varTypes Try.prog) (ds ++ gs)).all (· ≤ reachBytes) = true := hsz0
  rw [Try.params6] at hA hval hsz
  obtain ⟨v0, v1, v2, d0, d1, d2, p0, p1, p2, rfl, rfl, rfl, h0, h1, h2⟩ := trodAll_three hA
  obtain ⟨rfl, rfl⟩ := trodVars_none hV
  have k0 := h0
  have lt0 : ∀ x ∈ p0, x.block < W.heap.size := by obtain ⟨m, hm⟩ := k0; exact DataW.trod_lt m _ _ _ hm
  have k1 := h1
  have lt1 : ∀ x ∈ p1, x.block < W.heap.size := by obtain ⟨m, hm⟩ := k1; exact DataW.trod_lt m _ _ _ hm
  have k2 := h2
  have lt2 : ∀ x ∈ p2, x.block < W.heap.size := by obtain ⟨m, hm⟩ := k2; exact DataW.trod_lt m _ _ _ hm
  have hC : Try.prog.cellsOf 24 = 2 := by kernel_rfl
  obtain ⟨c0, c1, y0, y1, m0, rfl, rfl, _, hy0, hy1⟩ := open_agg2 Try.underlying24 (by kernel_rfl) hC (hval 0 24 v0 rfl rfl) h0
  obtain ⟨k, e0, _, wk⟩ := DataW.trod_int Try.underlying3 hy0
  obtain rfl : c0 = .int .i64 k := by simpa using e0
  obtain ⟨A, n, c, xs, rfl, hl, hc, hr, hxs, hn⟩ := row_in W H enc _ 22 2 .i64 Try.underlying22 Try.underlying2 (by kernel_rfl) _ _ hy1
  obtain ⟨cs, rfl, hsz1⟩ : ∃ cs, v1 = .agg cs ∧ cs.size = Try.prog.cellsOf 48 := by
    have h := hval 1 48 v1 rfl rfl
    simp only [Value.okWide, Try.underlying48] at h
    obtain ⟨cs, h1, h2, _⟩ := h
    exact ⟨cs, h1, h2⟩
  have hC13 : Try.prog.cellsOf 48 = 13 := by kernel_rfl
  rw [hC13] at hsz1
  obtain ⟨l⟩ := cs
  obtain ⟨fuel1, hf1⟩ := h1
  obtain ⟨m', g0, g1, g2, a0, a1, a2', hb', b', hg', n0, n1, n2, rfl⟩ := sample_in W H enc fuel1 l (by simpa using hsz1) _ hf1
  obtain ⟨a2, len2, cap2, rfl⟩ := okWide_slice Try.underlying28 (hval 2 28 v2 rfl rfl)
  obtain ⟨fuel2, hf2⟩ := h2
  obtain ⟨B, m, d, bs, hBv, hlb, hcb, hrb, hbs, _⟩ := row_in W H enc _ 28 5 .u8 Try.underlying28 Try.underlying5 (by kernel_rfl) _ _ (show DataW.trod enc Try.prog W 0 (fun _ => true) true fuel2 28 [.slice a2 len2 cap2] = some _ from hf2)
  rw [hBv]
  have hm := frame_reach hsz 0 y0.1 y1.1 n rfl rfl hn
  have hxr : ∀ x ∈ xs, -9223372036854775808 ≤ x ∧ x < 9223372036854775808 := fun x hx => by
    have := bounds_i64 (hxs x hx)
    omega
  have hb : IsBytes bs := fun y hy => by
    have := bounds_u8 (hbs y hy)
    omega
  clear hA0 hval0
  refine (back_any k A B n c m d m' g0 g1 g2 a0 a1 a2' hb' b' hg' n0 n1 n2 xs bs W hl hr hc hlb hrb hcb hb hxr hm).mono fun e W' ⟨he, bel⟩ => ?_
  subst he
  rw [← hBv]
  exact ⟨_, rfl, _, _, _, [], _, [], hW', trodAll_mk1 (shut_bool Try.underlying4 _), trodAll_mk3 (Below.trod laidOut (by kernel_rfl) (of_decide_eq_true (by kernel_rfl)) k0 bel lt0) (Below.trod laidOut (by kernel_rfl) (of_decide_eq_true (by kernel_rfl)) k1 bel lt1) (Below.trod laidOut (by kernel_rfl) (of_decide_eq_true (by kernel_rfl)) k2 bel lt2), rfl, bel.frame _, fun h => by cases h⟩

theorem over : Rows.frameBackRow.holds Try.pinned (OpenSpec.ofChange Rows.frameBackSpec) :=
  OpenClaim.holds_of_wide 6 Try.f6 rfl rfl rfl rfl rfl rfl rfl ⟨rfl, rfl, rfl, rfl, rfl⟩ rfl rfl rfl rfl rfl (by kernel_rfl) Try.func6 (by kernel_rfl)
    (of_decide_eq_true (by kernel_rfl)) (by unfold Func.isWrapper; first | (rw [if_pos (by decide +kernel)]; kernel_rfl) | (rw [if_neg (by decide +kernel)]; exact ⟨rfl, rfl⟩))
    (fun os started H enc _ => lifted os started H enc)

/-- ████ THE STATEMENT ████ -/
theorem proved : Rows.FrameBackSaid :=
  over
#print axioms proved
end Go.Proofs.Ytjfolhheejkedaa.frameBack
