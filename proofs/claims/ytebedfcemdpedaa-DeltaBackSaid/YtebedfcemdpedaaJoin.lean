import Derived.WalkKit
import Derived.LoopTactic
import Derived.Outline
import Derived.Lib.SmallJoins
import Derived.RangeFuncBox
import Derived.Test.YtebedfcemdpedaaProg
import Derived.Test.YtebedfcemdpedaaWMore
import Derived.Test.YtebedfcemdpedaaParts
namespace Go.Proofs.Ytebedfcemdpedaa
open Go.RowKit Go.Joins Go.Proofs.YtebedfcemdpedaaW.PrintWords Go.Proofs.YtebedfcemdpedaaW.PrintLast Go.Proofs.YtebedfcemdpedaaW.PrintMore

/-- how many parts of eight -/
def many (n : Int) : Int := if n < 1 then 0 else (n + 7) / 8
set_option maxHeartbeats 400000 in
theorem many_any (n : Int) (h : n ≤ 1152921504606846976) (h' : -1152921504606846976 ≤ n) (w : World) : Calls Try.prog 7 #[.int .i64 n] w fun e w' => e = .returned (.int .i64 (many n)) ∧ w = w' := by
  unfold many
  by_cases h0 : n < 1
  · rw [if_pos h0]
    go_enter Try.func7, Try.ntmps7
    go_wp2
    go_ret
    exact ⟨rfl, rfl⟩
  · rw [if_neg h0]
    have e : (n - 1) / 8 + 1 = (n + 7) / 8 := by omega
    go_enter Try.func7, Try.ntmps7
    go_wp2
    go_ret
    exact ⟨by rw [← e]; rfl, rfl⟩

theorem row8_take (ys : List Int) (k : Nat) (h : 8 * k + 8 ≤ ys.length) : nums .i64 (ys.take (8 * k)) ++ row8 ys k = nums .i64 (ys.take (8 * (k + 1))) := by
  rw [row8_eq]
  unfold nums
  apply List.ext_getElem?
  intro j
  rw [List.getElem?_append]
  simp only [List.length_map, List.length_take, List.getElem?_map, List.getElem?_take]
  by_cases h1 : j < 8 * k
  · rw [if_pos (by omega), if_pos h1, if_pos (by omega)]
  · rw [if_neg (by omega)]
    by_cases h2 : j < 8 * (k + 1)
    · rw [if_pos h2, List.getElem?_range (by omega), List.getElem?_eq_getElem (by omega)]
      simp only [Option.map_some]
      rw [show 8 * k + (j - min (8 * k) ys.length) = j by omega, List.getElem?_eq_getElem (by omega)]
      rfl
    · rw [if_neg h2, List.getElem?_eq_none (by simp; omega)]; rfl
theorem own_take {w : World} {base N c n : Nat} {e : TypeId} {A : Option Addr} {xs : List Value} (h : w.ownsRow base e 1 (.slice A N c) N xs) (hn : n ≤ N) : w.ownsRow base e 1 (.slice A n c) n (xs.take n) := by
  obtain ⟨hl, h⟩ := h
  refine ⟨by rw [List.length_take, hl]; omega, ?_⟩
  rcases h with ⟨hv, h0⟩ | ⟨g, cap, cur, hv, hb, hh, h1, h2, h3, h4⟩
  · injection hv with h1 h2 h3
    exact .inl ⟨by rw [h1, h3, show n = 0 by omega], by omega⟩
  · injection hv with e1 e2 e3
    refine .inr ⟨g, cap, cur, by rw [e1, e3], hb, hh, by omega, h2, h3, ?_⟩
    rw [← h4, List.take_take, Nat.mul_one, Nat.mul_one, Nat.min_eq_left hn]
theorem info2 : (Try.prog.info? 2).map (fun i => (i.zero, i.size, i.bytes)) = some (some (.int .i64 0), 1, 8) := by kernel_rfl
/-- m parts of eight numbers lie from A on -/
def Flat (w : World) (A : Option Addr) (m : Nat) (ys : List Int) : Prop :=
  ys.length = 8 * m ∧ m ≤ 1048576 ∧ (0 < m → ∃ b off, A = some ⟨b, off, none⟩ ∧ b < w.heap.size ∧ ∀ j, j < 8 * m → w.cell? ⟨b, off + j, none⟩ = some (.int .i64 (ys[j]?.getD 0)))

set_option maxHeartbeats 400000 in
/-- of another number of parts there is no row -/
theorem join_no (A : Option Addr) (m c : Nat) (n : Int) (hn : n ≤ 1152921504606846976) (hn' : -1152921504606846976 ≤ n) (h : n < 0 ∨ (m : Int) ≠ many n) (w : World) :
    Calls Try.prog 8 #[.slice A m c, .int .i64 n] w fun e w' => e = .returned (.tuple #[.slice none 0 0, .int .i64 9]) ∧ w = w' := by
  by_cases h0 : n < 0
  · have h0' : decide (n < 0) = true := decide_eq_true h0
    go_enter Try.func8, Try.ntmps8
    go_wp2
    go_ret2
    exact ⟨rfl, rfl⟩
  · have h1 : ((m : Int) != many n) = true := bne_iff_ne.2 (h.resolve_left h0)
    have h0' : decide (n < 0) = false := decide_eq_false h0
    go_enter Try.func8, Try.ntmps8
    go_wp2_with (go_at_call 7; refine (many_any _ hn hn' _).mono ?_; rintro e w' ⟨rfl, rfl⟩)
    go_ret2
    exact ⟨rfl, rfl⟩

def JoinPost (w : World) (ys : List Int) (n : Nat) (e : Ending) (w' : World) : Prop := Below w.heap.size w w' ∧
  if (ys.drop n).all (· == 0) = true then ∃ v, e = .returned (.tuple #[v, .int .i64 0]) ∧ w'.ownsRow w.heap.size 2 1 v n (nums .i64 (ys.take n)) else e = .returned (.tuple #[.slice none 0 0, .int .i64 9])
theorem JoinPost.yes {w w' : World} {ys : List Int} {n : Nat} {v : Value} (hB : Below w.heap.size w w') (h : (ys.drop n).all (· == 0) = true) (ho : w'.ownsRow w.heap.size 2 1 v n (nums .i64 (ys.take n))) : JoinPost w ys n (.returned (.tuple #[v, .int .i64 0])) w' :=
  ⟨hB, by rw [if_pos h]; exact ⟨v, rfl, ho⟩⟩
theorem JoinPost.no {w w' : World} {ys : List Int} {n : Nat} (hB : Below w.heap.size w w') (h : ¬ (ys.drop n).all (· == 0) = true) : JoinPost w ys n (.returned (.tuple #[.slice none 0 0, .int .i64 9])) w' :=
  ⟨hB, by rw [if_neg h]⟩

set_option maxHeartbeats 1000000 in
theorem join_any (A : Option Addr) (m c n : Nat) (ys : List Int) (hm : (m : Int) = many n) (w : World) (hr : Flat w A m ys) :
    Calls Try.prog 8 #[.slice A m c, .int .i64 n] w (JoinPost w ys n) := by
  obtain ⟨hl, hm2, hc⟩ := hr
  have hmn : n ≤ 8 * m := by unfold many at hm; split at hm <;> omega
  have h1 : ((m : Int) != many n) = false := by rw [bne_eq_false_iff_eq]; exact hm
  have h0' : decide ((n : Int) < 0) = false := decide_eq_false (by omega)
  have hH := Aside0.mk hm
  have hL := Aside0.mk hl
  clear hm hl
  obtain ⟨i0, hi, hz0, hz1, hz2⟩ := info_parts info2
  go_enter Try.func8, Try.ntmps8
  go_wp2_with (go_at_call 7; refine (many_any _ (by omega) (by omega) _).mono ?_; rintro e w' ⟨rfl, rfl⟩)
  go_loopw [6, 22] (fun v i wr => ∃ k : Nat, k ≤ m ∧ i = .int .i64 k ∧ Aside0 (wr.ownsRow w.heap.size 2 1 v (8 * k) (nums .i64 (ys.take (8 * k)))) ∧ Aside0 (Below w.heap.size w wr)) (fun _ i _ => m - (intOf i).toNat)
  case atStart => exact ⟨0, Nat.zero_le _, rfl, ⟨own_nil _ _ _ _⟩, ⟨Below.refl _ _⟩⟩
  case round =>
    rename_i v6 _
    obtain ⟨k, hk, rfl, hown, hB⟩ := hrel
    by_cases hlt : k < m
    · obtain ⟨b, off, rfl, hb, hcell⟩ := hc (by omega)
      have q : ∀ j, j < 8 → wr.cell? ⟨b, off + k * 8 + j, none⟩ = some (.int .i64 (ys[8 * k + j]?.getD 0)) := fun j hj => by
        have := (hB.out.cell (p := ⟨b, off + (8 * k + j), none⟩) hb).trans (hcell _ (by omega))
        rwa [show off + (8 * k + j) = off + k * 8 + j by omega] at this
      have q0 : wr.cell? ⟨b, off + k * 8, none⟩ = some (.int .i64 (ys[8 * k]?.getD 0)) := q 0 (by omega)
      have q1 := q 1 (by omega)
      have q2 := q 2 (by omega)
      have q3 := q 3 (by omega)
      have q4 := q 4 (by omega)
      have q5 := q 5 (by omega)
      have q6 := q 6 (by omega)
      have q7 := q 7 (by omega)
      clear q hc hcell
      go_wp2_with (at_builtin; refine wpList_append_own _ rfl _ _ 22 rfl w.heap.size 2 i0 (.int .i64 0) 1 8 Try.underlying22 hi hz0 hz1 hz2 rfl (by decide) _ (8 * k) _ rfl (hown.out.alloc _) ⟨wr.heap.size, 0, none⟩ 8 8 (row8 ys k) rfl rfl ?hc ?h1c ?b1 ?b2 ?b3 ?_)
      case hc => exact World.news_of_block (cs := (row8 ys k).toArray) (t := 27) (fr := (0, 0)) (heap_alloc_new wr _)
      case h1c => intro u hu; simp only [row8, List.mem_cons, List.not_mem_nil, or_false] at hu; rcases hu with rfl | rfl | rfl | rfl | rfl | rfl | rfl | rfl <;> rfl
      case b1 => simp only [maxLen]; omega
      case b2 => omega
      case b3 => have := hB.out.size; simp; omega
      intro v' w1 hown' hgrow _
      clear q0 q1 q2 q3 q4 q5 q6 q7
      have hown2 := Aside0.mk hown'
      have hB2 := Aside0.mk ((hB.out.alloc hB.out.size _).grown hgrow (by have := hB.out.size; simp; omega) (own_base hown.out))
      clear hown' hgrow
      go_wp2
      go_roundw
      case rel => exact ⟨k + 1, by omega, by go_num, ⟨by have := hown2.out; rw [row8_take _ _ (by have := hL.out; omega)] at this; exact this⟩, hB2⟩
      case measure => simp [intOf]; omega
    · obtain rfl : k = m := by omega
      have ho := hown.out
      rw [List.take_of_length_le (by have := hL.out; omega)] at ho
      clear hown
      have hn0 : k = 0 → n = 0 := by omega
      have hBB := hB
      clear hc hk
      rcases ownsRow_forms ho with ⟨rfl, h0⟩ | ⟨g, cap, rfl⟩
      · obtain rfl : k = 0 := by omega
        obtain rfl : n = 0 := hn0 rfl
        have hy : ys = [] := List.eq_nil_of_length_eq_zero (by have := hL.out; omega)
        have HO := Aside0.mk ho
        clear ho h0
        go_wp2
        go_loop [34] (fun i => i = .int .i64 0) (fun _ => 0)
        case atStart => rfl
        case round =>
          subst hrel
          go_wp2
          go_ret2
          exact JoinPost.yes hB.out (by rfl) (own_nil _ _ _ _)
      · have hcc := own_le ho
        have HO := Aside0.mk ho
        have q : ∀ j, j < 8 * k → wr.cell? ⟨g, j, none⟩ = some (.int .i64 (ys[j]?.getD 0)) := fun j hj => by
          have := ho.cells (g := g) rfl j (.int .i64 (ys[j]?.getD 0)) (by simp only [nums, List.getElem?_map]; rw [List.getElem?_eq_getElem (by have := hL.out; omega)]; rfl)
          rwa [add_plain] at this
        clear ho
        by_cases hlast : n < 8 * k
        · have hcn : ¬ cap = n := by omega
          go_wp2
          go_loop [10, 34] (fun _ i => ∃ j : Nat, j ≤ 8 * k - n ∧ i = .int .i64 j ∧ Aside0 (∀ q, q < j → ys[n + q]?.getD 0 = 0)) (fun _ i => 8 * k - n - (intOf i).toNat)
          case atStart => exact ⟨0, Nat.zero_le _, rfl, ⟨fun q hq => by omega⟩⟩
          case round =>
            obtain ⟨j, hj, rfl, hz⟩ := hrel
            by_cases hjl : j < 8 * k - n
            · have hcell := q (n + j) (by omega)
              by_cases hx : ys[n + j]?.getD 0 = 0
              · have hx1 : (ys[n + j]?.getD 0 != 0) = false := bne_eq_false_iff_eq.2 hx
                have HX := Aside0.mk hx
                clear hx q
                go_wp2
                go_round
                case rel => exact ⟨j + 1, by omega, by go_num, ⟨fun p hp => by by_cases e : p = j; (rw [e]; exact HX.out); exact hz.out p (by omega)⟩⟩
                case measure => simp [intOf]; omega
              · have hx1 : (ys[n + j]?.getD 0 != 0) = true := bne_iff_ne.2 hx
                have HX := Aside0.mk hx
                clear hx q
                go_wp2
                go_ret2
                exact JoinPost.no hB.out (fun h => HX.out (by
                  have := List.all_eq_true.1 h (ys[n + j]?.getD 0) (List.mem_iff_getElem?.2 ⟨j, by rw [List.getElem?_drop, List.getElem?_eq_getElem (by have := hL.out; omega)]; rfl⟩)
                  simpa using this))
            · obtain rfl : j = 8 * k - n := by omega
              clear q
              go_wp2
              go_ret2
              exact JoinPost.yes hB.out (by
                rw [List.all_eq_true]
                intro x hx
                obtain ⟨p, hp⟩ := List.mem_iff_getElem?.1 hx
                rw [List.getElem?_drop] at hp
                have hlt := (List.getElem?_eq_some_iff.1 hp).1
                have := hz.out p (by have := hL.out; omega)
                rw [hp] at this
                simpa using this) (by have := own_take HO.out (n := n) (by omega); rw [nums, List.map_take]; exact this)
        · have hcn : n = 8 * k := by omega
          have hyd : (ys.drop n).all (· == 0) = true := by rw [List.drop_of_length_le (by have := hL.out; omega)]; rfl
          have hfin : wr.ownsRow w.heap.size 2 1 (.slice (some ⟨g, 0, none⟩) n cap) n (nums .i64 (ys.take n)) := by have := own_take HO.out (n := n) (by omega); rw [nums, List.map_take]; exact this
          have HF := Aside0.mk hfin
          have HY := Aside0.mk hyd
          have e1 : 8 * k - n = 0 := by omega
          clear q hfin hyd hcn
          by_cases hcap : cap = n
          · have HC := Aside0.mk hcap
            go_wp2
            go_loop [34] (fun i => i = .int .i64 0) (fun _ => 0)
            case atStart => rfl
            case round =>
              subst hrel
              go_wp2
              go_ret2
              exact JoinPost.yes hB.out HY.out (by have := HF.out; rw [HC.out] at this; exact this)
          · go_wp2
            go_loop [34] (fun i => i = .int .i64 0) (fun _ => 0)
            case atStart => rfl
            case round =>
              subst hrel
              go_wp2
              go_ret2
              exact JoinPost.yes hB.out HY.out HF.out
end Go.Proofs.Ytebedfcemdpedaa
