import Derived.RangeFuncBox
import Derived.RangeFuncNested
import Derived.Laws.CopyOwn
import Derived.Laws.IdiomCopy
import Derived.Deep.WholeRow
import Derived.RangeFuncLeaves
import Derived.Shelf.Abstract
import Derived.WalkKit
import Derived.OwnWalkIn
import Derived.TacticsInMore
import Derived.LoopNIn
import Derived.LoopIn
import Derived.Maps.AppendAt
import Derived.Outline
import Derived.Sort.QuietIn
import Derived.Test.YtebedfcemdpedaaProg
import Derived.Test.YtebedfcemdpedaaWMore
import Derived.Test.YtebedfcemdpedaaIter
namespace Go.Proofs.Ytebedfcemdpedaa
open Go.RowKit Go.Shelf Go.Proofs.YtebedfcemdpedaaW.PrintWords Go.Proofs.YtebedfcemdpedaaW.PrintLast Go.Proofs.YtebedfcemdpedaaW.PrintMore
attribute [local go_sem] Oper.semAt_some

/-- the eight cells of part x -/
def row8 (xs : List Int) (x : Nat) : List Value := [.int .i64 (xs[8 * x]?.getD 0), .int .i64 (xs[8 * x + 1]?.getD 0), .int .i64 (xs[8 * x + 2]?.getD 0), .int .i64 (xs[8 * x + 3]?.getD 0), .int .i64 (xs[8 * x + 4]?.getD 0), .int .i64 (xs[8 * x + 5]?.getD 0), .int .i64 (xs[8 * x + 6]?.getD 0), .int .i64 (xs[8 * x + 7]?.getD 0)]
def rows8 (xs : List Int) (pre : List Nat) : List Value := pre.flatMap (row8 xs)

theorem row8_eq (xs : List Int) (x : Nat) : row8 xs x = (List.range 8).map fun j => .int .i64 (xs[8 * x + j]?.getD 0) := rfl
theorem copy_part {P : Program} (t ty e T : TypeId) (hu : P.underlying t = some (.slice e)) (hs : (P.info? e).map (·.size) = some 1) (W : World) (a : Option Addr) (xs : List Int) (hr : ReadsInt W .i64 a xs.length xs) (x : Nat) :
    (Builtin.copy_ #[t, t] ty #[.slice (some ⟨W.heap.size, 0, none⟩) 8 8, part a xs.length x]).run P (W.alloc (.cells #[.int .i64 0, .int .i64 0, .int .i64 0, .int .i64 0, .int .i64 0, .int .i64 0, .int .i64 0, .int .i64 0] T)) =
      .ok (goInt (min 8 (xs.length - 8 * x) : Nat)) (W.alloc (.cells #[.int .i64 (xs[8 * x]?.getD 0), .int .i64 (xs[8 * x + 1]?.getD 0), .int .i64 (xs[8 * x + 2]?.getD 0), .int .i64 (xs[8 * x + 3]?.getD 0), .int .i64 (xs[8 * x + 4]?.getD 0), .int .i64 (xs[8 * x + 5]?.getD 0), .int .i64 (xs[8 * x + 6]?.getD 0), .int .i64 (xs[8 * x + 7]?.getD 0)] T)) := by
  unfold part
  by_cases h0 : min 8 (xs.length - 8 * x) = 0
  · rw [run_copy_none (P := P) _ t t ty e _ _ _ _ _ _ hu hs (by show min _ 8 = 0; omega), h0]
    have hz : ∀ j, 8 * x ≤ j → xs[j]?.getD 0 = 0 := fun j hj => by rw [List.getElem?_eq_none (by omega)]; rfl
    rw [hz _ (Nat.le_refl _), hz _ (by omega), hz _ (by omega), hz _ (by omega), hz _ (by omega), hz _ (by omega), hz _ (by omega), hz _ (by omega)]
    rfl
  · obtain ⟨_, hm, hc⟩ := hr
    obtain ⟨ad, rfl, hcell⟩ := hc (by omega)
    obtain ⟨cs, hcs⟩ : ∃ cs : List Value, cs = ((xs.drop (8 * x)).take 8).map (Value.int .i64) := ⟨_, rfl⟩
    have hl : cs.length = min 8 (xs.length - 8 * x) := by rw [hcs]; simp
    have hg : ∀ j, cs[j]? = if j < 8 then (xs[8 * x + j]?).map (Value.int .i64) else none := by
      intro j
      rw [hcs, List.getElem?_map, List.getElem?_take]
      split <;> simp
    have hrun := run_copy_row P (W.alloc (.cells #[.int .i64 0, .int .i64 0, .int .i64 0, .int .i64 0, .int .i64 0, .int .i64 0, .int .i64 0, .int .i64 0] T)) t t ty e W.heap.size 0 8 8 (ad.add (8 * x)) (min 8 (xs.length - 8 * x)) (min 8 (xs.length - 8 * x)) _ T cs hu hs (heap_alloc_new W _) (by rw [hl]; show _ = min _ 8; omega)
      (fun j v hv => by
        rw [hg] at hv
        split at hv
        · rename_i hj
          obtain ⟨y, hy, rfl⟩ := Option.map_eq_some_iff.1 hv
          have hlt := (List.getElem?_eq_some_iff.1 hy).1
          have := hcell (8 * x + j) hlt
          rw [List.getD_eq_getElem?_getD, hy] at this
          rw [add_add]
          exact pw_cell_below ((Below.refl _ _).alloc (Nat.le_refl _) _) this
        · cases hv) (by simp; omega) (fun v hv => by rw [hcs] at hv; obtain ⟨y, _, rfl⟩ := List.mem_map.1 hv; rfl)
    rw [Option.map_some, hrun, World.setRow_alloc_new, hl]
    congr 3
    have : ∀ L : List Value, L = row8 xs x → L.toArray = (row8 xs x).toArray := fun L h => by rw [h]
    refine this _ ?_
    rw [row8_eq]
    apply List.ext_getElem?
    intro j
    simp only [List.take_zero, List.nil_append, Nat.zero_add]
    rw [List.getElem?_append, hg, hl]
    by_cases hj : j < 8
    · rw [if_pos hj, List.getElem?_map, List.getElem?_range hj, Option.map_some]
      by_cases hj2 : j < min 8 (xs.length - 8 * x)
      · rw [if_pos hj2, List.getElem?_eq_getElem (by omega)]; rfl
      · rw [if_neg hj2, List.getElem?_eq_none (l := xs) (by omega), List.getElem?_drop, Nat.add_sub_cancel' (by omega)]
        match j, hj with
        | 0, _ | 1, _ | 2, _ | 3, _ | 4, _ | 5, _ | 6, _ | 7, _ => rfl
    · rw [if_neg (by omega), List.getElem?_eq_none, List.getElem?_eq_none]
      · simp; omega
      · simp; omega

theorem info27 : (Try.prog.info? 27).map (fun i => (i.zero, i.size, i.bytes)) = some (some (.agg #[.int .i64 0, .int .i64 0, .int .i64 0, .int .i64 0, .int .i64 0, .int .i64 0, .int .i64 0, .int .i64 0]), 8, 64) := by kernel_rfl

set_option maxRecDepth 100000 in
set_option maxHeartbeats 2000000 in
theorem parts_any (a : Option Addr) (cap : Nat) (xs : List Int) (w : World) (hlc : xs.length ≤ cap) (hreach : xs.length * 8 ≤ 140737488351232) (hr : ReadsInt w .i64 a xs.length xs) :
    Calls Try.prog 6 #[.slice a xs.length cap] w fun e W' => ∃ v, e = .returned v ∧ W'.ownsRow w.heap.size 27 8 v ((xs.length + 7) / 8) (rows8 xs (upto ((xs.length + 7) / 8))) ∧ Below w.heap.size w W' := by
  refine (callsIn_wide (n := 5)).1 ?_
  have ha : 0 < xs.length → ∃ ad, a = some ad := fun h => by obtain ⟨ad, e, _⟩ := hr.2.2 h; exact ⟨ad, e⟩
  obtain ⟨i0, hi, hz0, hz1, hz2⟩ := info_parts info27
  refine callsIn_of_wp_marks Try.func6 rfl trivial ?_ rfl
  simp only [Try.ntmps6, List.size_toArray, List.length_cons, List.length_nil, Nat.reduceAdd, Nat.reduceSub, Array.replicate_succ, Array.replicate_zero, List.push_toArray, List.append_toArray, List.nil_append, List.cons_append]
  gi_wp2_with (refine ⟨trivial, ?_⟩; gi_at_call 12; refine (chunk_in _ _ _ _ _).mono ?_; rintro e w' ⟨rfl, rfl⟩)
  have bO := Boxed.new w 24 (.slice none 0 0)
  have bS := Boxed.new (w.alloc (.cells #[.slice none 0 0] 24)) 22 (.slice a xs.length cap)
  have bN := Boxed.new ((w.alloc (.cells #[.slice none 0 0] 24)).alloc (.cells #[.slice a xs.length cap] 22)) 3 (.int .i64 8)
  rw [World.size_alloc] at bS
  rw [World.size_alloc, World.size_alloc] at bN
  have hB0 : Below w.heap.size w (((w.alloc (.cells #[.slice none 0 0] 24)).alloc (.cells #[.slice a xs.length cap] 22)).alloc (.cells #[.int .i64 8] 3)) := (((Below.refl _ w).alloc (Nat.le_refl _) _).alloc (by simp) _).alloc (by simp; omega) _
  refine wpIn_rangeFunc_ownG rfl (by decide) (gf := 15) (lb := #[.pointer (some ⟨w.heap.size + 1, 0, none⟩), .pointer (some ⟨w.heap.size + 1 + 1, 0, none⟩)]) rfl trivial (enters_of Try.func15 (by kernel_rfl) rfl)
    (chunk_stops 4 (w.heap.size + 1) (w.heap.size + 1 + 1) xs.length cap a ha hlc hreach _ (by simp) (by simp) (bS.alloc _).cell bN.cell) keepsTwo_t (keepsTwo_b (by simp) (by simp)) (Below.refl _ _) (fun _ => rfl)
    (fun pre W => ((∃ v, Boxed W w.heap.size 24 v ∧ W.ownsRow w.heap.size 27 8 v pre.length (rows8 xs pre) ∧ True) ∧ Below w.heap.size w W) ∧ Boxed W (w.heap.size + 1) 22 (.slice a xs.length cap) ∧ Boxed W (w.heap.size + 1 + 1) 3 (.int .i64 8))
    (fun _ _ _ => False)
    (OwnFrom.and (OwnFrom.and (Own.from (holdsRow_own w.heap.size w.heap.size 24 27 8 (fun pre => pre.length) (fun pre => rows8 xs pre) (fun _ _ => True)) _) (ownFrom_below (Nat.le_refl _) (by simp; omega))) (OwnFrom.and (Own.from (boxed_own _ _ (fun _ => _)) _) (Own.from (boxed_own _ _ (fun _ => _)) _)))
    (fun _ _ _ _ _ hs _ _ => hs)
    ⟨⟨⟨_, (bO.alloc _).alloc _, World.ownsRow_nil _ _ _ _, trivial⟩, hB0⟩, bS.alloc _, bN⟩
    (fun x => { tmps := #[.slice a xs.length cap, undef, .slice none 0 0, .pointer (some ⟨w.heap.size, 0, none⟩), part a xs.length x, undef, .slice a xs.length cap, .func (.func 15) #[] #[.pointer (some ⟨w.heap.size + 1, 0, none⟩), .pointer (some ⟨w.heap.size + 1 + 1, 0, none⟩)], part a xs.length x, undef, undef, undef, undef, undef, undef, undef, undef], defers := [] }) ?assign ?body ?done ?stop
  case assign =>
    intro l x W K hK
    gi_wp2
    exact hK
  case body =>
    rintro l pre x W ⟨⟨⟨v, hv, hrow, _⟩, hB⟩, h1, h2⟩ hlt
    have hc := hv.cell
    have hcp := copy_part (P := Try.prog) 22 3 2 27 Try.underlying22 (by kernel_rfl) W a xs (hr.below hB) x
    have hc0 := fun c => (hv.alloc (.cells c 27)).cell
    have hpb : pre.length + 1 ≤ 17592186044416 := by omega
    gi_wp2_with (gi_at_builtin; refine wpListIn_append_own _ rfl _ _ 24 rfl w.heap.size 27 i0 _ 8 64 Try.underlying24 hi hz0 hz1 hz2 rfl (by decide) _ _ _ rfl ((hrow.alloc _).alloc _) ⟨W.heap.size + 1, 0, none⟩ 1 1 (row8 xs x) rfl rfl ?hc ?h1c ?b1 ?b2 ?b3 ?_)
    case hc => exact World.news_of_block (cs := (row8 xs x).toArray) (t := 27) (fr := (0, 0)) (by have := heap_alloc_new (W.alloc (.cells (row8 xs x).toArray 27)) (.cells (row8 xs x).toArray 27); rw [World.size_alloc] at this; exact this)
    case h1c => intro u hu; simp only [row8, List.mem_cons, List.not_mem_nil, or_false] at hu; rcases hu with rfl | rfl | rfl | rfl | rfl | rfl | rfl | rfl <;> rfl
    case b1 => simp only [maxLen]; omega
    case b2 => omega
    case b3 => have := hB.size; simp; omega
    intro v' w1 hown' hgrow _
    obtain ⟨g', cap', rfl⟩ := ownsRow_succ hown'
    obtain ⟨hv1, hv2, hr2, hk2, hb2⟩ := (hv.alloc _).appended (by decide) (hrow.alloc _) (by have := hB.size; simp; omega) (Nat.le_refl _) hown' hgrow
    have hc1 := hv1.cell
    have hf1 := hv1.frozen
    have h11 := (((h1.alloc _).alloc _).kept hgrow (h1.not_row (by decide) hrow)).other (B' := w.heap.size) (by omega) (.slice (some ⟨g', 0, none⟩) (pre.length + 1) cap')
    have h22 := (((h2.alloc _).alloc _).kept hgrow (h2.not_row (by decide) hrow)).other (B' := w.heap.size) (by omega) (.slice (some ⟨g', 0, none⟩) (pre.length + 1) cap')
    gi_wp2
    refine ⟨((KeepsOthers.alloc _ _).trans hk2).from _, ⟨h11.trans h1.symm, h22.trans h2.symm⟩, ⟨⟨_, hv2, ?_, trivial⟩, (hB.alloc hB.size _).trans hb2⟩, h11, h22⟩
    have e1 : rows8 xs (pre ++ [x]) = rows8 xs pre ++ row8 xs x := by simp [rows8]
    rw [e1, List.length_append]
    exact hr2
  case done =>
    rintro D ys W hD rfl ⟨⟨⟨v, hv, hrow, _⟩, hB⟩, _⟩ hK
    have hc := hv.cell
    gi_wp2
    refine ⟨by simp, .inl ⟨_, _, rfl, run_takeDeferred hK, ?_⟩⟩
    exact ⟨_, results_tmp rfl _ _ _, v, rfl, by have := ownsRow_putObj hrow (.deferred none) hK rfl; rw [upto_length] at this; exact this, hB.trans (belowK_b (w := w) (Nat.le_refl _) W D _ _ (by simp at hD; omega) hK rfl rfl)⟩
  case stop =>
    rintro D c pre W _ _ h _
    exact h.elim
end Go.Proofs.Ytebedfcemdpedaa
