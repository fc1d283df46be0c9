import Derived.WalkKit
import Derived.LoopTactic
import Derived.Outline
import Derived.Lib.SmallJoins
import Derived.RangeFuncBox
import Derived.Test.YtebedfcemdpedaaJoin
import Derived.Test.YtebedfcemdpedaaInts
namespace Go.Proofs.Ytebedfcemdpedaa
open Go.RowKit Go.Joins Go.Proofs.YtebedfcemdpedaaW.PrintWords Go.Proofs.YtebedfcemdpedaaW.PrintLast Go.Proofs.YtebedfcemdpedaaW.PrintMore

def TruePost (w : World) (e : Ending) (w' : World) : Prop := e = .returned (.bool true) ∧ Below w.heap.size w w'
theorem shown_any (w : World) : Calls Try.prog 5 #[] w (TruePost w) :=
  PDeltaBack.alidadelaw09_shown.calls 10 true w (by decide +kernel)

set_option maxHeartbeats 1000000 in
theorem cuts_long (A : Option Addr) (n c : Nat) (w : World) (h : 1000 < n) (hn : n ≤ 9223372036854775807) : Calls Try.prog 3 #[.slice A n c] w (TruePost w) := by
  go_enter Try.func3, Try.ntmps3
  go_wp2_with (go_at_call 5; refine (shown_any _).mono ?_; rintro e w1 ⟨rfl, hB⟩)
  go_ret
  exact ⟨rfl, hB⟩

theorem rows8_upto (xs : List Int) (m : Nat) : rows8 xs (upto m) = (List.range (8 * m)).map fun j => .int .i64 (xs[j]?.getD 0) := by
  induction m with
  | zero => rfl
  | succ m ih =>
    have e : rows8 xs (upto (m + 1)) = rows8 xs (upto m) ++ row8 xs m := by rw [upto_succ]; simp [rows8]
    rw [e, ih, row8_eq, Nat.mul_add, List.range_add, List.map_append, List.map_map]
    rfl
theorem rows8_get (xs : List Int) (m j : Nat) (h : j < 8 * m) : (rows8 xs (upto m))[j]? = some (.int .i64 (xs[j]?.getD 0)) := by
  rw [rows8_upto, List.getElem?_map, List.getElem?_range h]
  rfl

/-- a row, and noughts up to m parts -/
def pads (xs : List Int) (m : Nat) : List Int := (List.range (8 * m)).map fun j => xs[j]?.getD 0
theorem pads_length (xs : List Int) (m : Nat) : (pads xs m).length = 8 * m := by simp [pads]
theorem pads_get (xs : List Int) (m j : Nat) (h : j < 8 * m) : (pads xs m)[j]? = some (xs[j]?.getD 0) := by
  unfold pads
  rw [List.getElem?_map, List.getElem?_range h]
  rfl
theorem pads_take (xs : List Int) (m : Nat) (h : xs.length ≤ 8 * m) : (pads xs m).take xs.length = xs := by
  apply List.ext_getElem?
  intro j
  rw [List.getElem?_take]
  by_cases hj : j < xs.length
  · rw [if_pos hj, pads_get _ _ _ (by omega), List.getElem?_eq_getElem hj]; rfl
  · rw [if_neg hj, List.getElem?_eq_none (by omega)]
theorem pads_drop (xs : List Int) (m : Nat) : ((pads xs m).drop xs.length).all (· == 0) = true := by
  rw [List.all_eq_true]
  intro x hx
  obtain ⟨p, hp⟩ := List.mem_iff_getElem?.1 hx
  rw [List.getElem?_drop] at hp
  have hlt := (List.getElem?_eq_some_iff.1 hp).1
  rw [pads_length] at hlt
  rw [pads_get _ _ _ hlt, List.getElem?_eq_none (by omega)] at hp
  cases hp
  rfl
theorem flat_of_own {w : World} {base m c : Nat} {A : Option Addr} (xs : List Int) (h : w.ownsRow base 27 8 (.slice A m c) m (rows8 xs (upto m))) (hm : m ≤ 1048576) : Flat w A m (pads xs m) := by
  refine ⟨pads_length xs m, hm, fun h0 => ?_⟩
  obtain ⟨g, cap, hv⟩ := ownsRow_form h h0
  injection hv with e1 _ _
  subst e1
  refine ⟨g, 0, rfl, own_lt h g rfl, fun j hj => ?_⟩
  have := h.cells (g := g) rfl j _ (rows8_get xs m j hj)
  rw [add_plain] at this
  rw [Nat.zero_add, pads_get _ _ _ hj]
  exact this
theorem JoinPost.get {w w' : World} {ys : List Int} {n : Nat} {e : Ending} (h : JoinPost w ys n e w') (ha : (ys.drop n).all (· == 0) = true) : ∃ v, e = .returned (.tuple #[v, .int .i64 0]) ∧ w'.ownsRow w.heap.size 2 1 v n (nums .i64 (ys.take n)) := by
  have := h.2
  rwa [if_pos ha] at this

set_option maxHeartbeats 1000000 in
theorem cuts_any (A : Option Addr) (c : Nat) (xs : List Int) (w : World) (hlc : xs.length ≤ c) (h : xs.length ≤ 1000) (hr : ReadsInt w .i64 A xs.length xs) : Calls Try.prog 3 #[.slice A xs.length c] w (TruePost w) := by
  obtain ⟨m, hm⟩ : ∃ m, m = (xs.length + 7) / 8 := ⟨_, rfl⟩
  have hmany : (m : Int) = many xs.length := by unfold many; split <;> omega
  obtain ⟨i0, hi, hz0, hz1, hz2⟩ := info_parts info27
  have HM := Aside0.mk hm
  have hm1 : m ≤ 126 := by omega
  have hm2 : xs.length ≤ 8 * m := by omega
  have hne : ((m : Int) != many xs.length) = false := bne_eq_false_iff_eq.2 hmany
  have HMM := Aside0.mk hmany
  clear hmany
  have hdec : decide (1000 < (xs.length : Int)) = false := decide_eq_false (by omega)
  go_enter Try.func3, Try.ntmps3
  go_wp2_with (go_at_call 5; refine (shown_any _).mono ?_; rintro e w1 ⟨rfl, hB⟩)
  have hr1 := ReadsInt.below hr hB
  refine (parts_any A c xs w1 hlc (by omega) hr1).mono ?_
  rw [← hm]
  clear hm
  rintro e w2 ⟨v, rfl, ho, hB2⟩
  obtain ⟨A2, c2, rfl⟩ := own_slice ho
  have HO := Aside0.mk ho
  have HB := Aside0.mk (below_step hB hB2)
  have H12 := hB2.size
  have HB12 := Aside0.mk hB2
  have hB01 := Aside0.mk hB
  clear ho hB hB2
  go_wp2_with (go_at_call 7; refine (many_any _ (by omega) (by omega) _).mono ?_; rintro e w' ⟨rfl, rfl⟩)
  go_loop [5, 6] (fun i _ => ∃ k : Nat, k ≤ 8 * m ∧ i = .int .i64 k) (fun i _ => 8 * m - (intOf i).toNat)
  case atStart => exact ⟨0, Nat.zero_le _, rfl⟩
  case round =>
    obtain ⟨k, hk, rfl⟩ := hrel
    by_cases hlt : k < 8 * m
    · obtain ⟨g, cap, hv⟩ := ownsRow_form HO.out (by omega)
      injection hv with e1 e2 e3
      subst e1
      clear e2
      have hcell : w2.cell? ⟨g, k / 8 * 8 + k % 8, none⟩ = some (.int .i64 (xs[k]?.getD 0)) := by
        have := HO.out.cells (g := g) rfl k _ (rows8_get xs m k hlt)
        rw [add_plain] at this
        rwa [show k / 8 * 8 + k % 8 = k by omega]
      by_cases hin : k < xs.length
      · obtain ⟨ad, e4, hx⟩ := hr.2.2 (by omega)
        subst e4
        have hx2 : w2.cell? (ad.add k) = some (.int .i64 (xs[k]?.getD 0)) := by
          have := pw_cell_below HB.out (hx k hin)
          rwa [List.getD_eq_getElem?_getD] at this
        clear hx
        go_wp2
        go_round
        case rel => exact ⟨k + 1, by omega, by go_num⟩
        case measure => simp [intOf]; omega
      · have hzero : xs[k]?.getD 0 = 0 := by rw [List.getElem?_eq_none (by omega)]; rfl
        rw [hzero] at hcell
        clear hzero
        go_wp2
        go_round
        case rel => exact ⟨k + 1, by omega, by go_num⟩
        case measure => simp [intOf]; omega
    · obtain rfl : k = 8 * m := by omega
      have HA := Aside0.mk (pads_drop xs m)
      have HT := Aside0.mk (pads_take xs m hm2)
      go_wp2_with fail
      refine (join_any A2 m c2 xs.length (pads xs m) HMM.out w2 (flat_of_own xs HO.out (by omega))).mono ?_
      rintro e w3 hJ
      obtain ⟨x, rfl, hox⟩ := hJ.get HA.out
      rw [HT.out] at hox
      have HB3 := Aside0.mk (below_step HB.out hJ.1)
      have HO3 := Aside0.mk (pw_own_below HO.out hJ.1)
      have HB13 := Aside0.mk hJ.1
      obtain ⟨A4, c4, rfl⟩ := own_slice hox
      have HOX := Aside0.mk hox
      clear hJ hox HO
      go_wp2_with (at_builtin; refine wpList_append_own _ rfl _ _ 24 rfl w1.heap.size 27 i0 _ 8 64 Try.underlying24 hi hz0 hz1 hz2 rfl (by decide) _ m _ rfl (HO3.out.alloc _) ⟨w3.heap.size, 0, none⟩ 1 1 (row8 [] 0) rfl rfl ?hc ?h1c ?b1 ?b2 ?b3 ?_)
      case hc => exact World.news_of_block (cs := (row8 [] 0).toArray) (t := 27) (fr := (0, 0)) (heap_alloc_new w3 _)
      case h1c => intro u hu; simp only [row8, List.mem_cons, List.not_mem_nil, or_false] at hu; rcases hu with rfl | rfl | rfl | rfl | rfl | rfl | rfl | rfl <;> rfl
      case b1 => simp only [maxLen]; omega
      case b2 => omega
      case b3 => have := HB13.out.size; simp; omega
      intro v' w4 hown' hgrow _
      obtain ⟨g', cap', rfl⟩ := ownsRow_succ hown'
      have hne2 : (Value.slice A4 xs.length c4).ownBlock = none ∨ (Value.slice A4 xs.length c4).ownBlock ≠ (Value.slice A2 m c2).ownBlock := own_type_ne HOX.out HO3.out (by decide)
      have HOX4 := Aside0.mk ((HOX.out.alloc _).kept hgrow hne2)
      have hB04 : Below w1.heap.size w1 w4 := (((below_then (HB12.out) HB12.out.size HB13.out).alloc (by have := HB13.out.size; omega) _).grown hgrow (by have := HB13.out.size; simp; omega) (fun k hk => own_base HO3.out k hk))
      have HB4 := Aside0.mk (below_step hB01.out hB04)
      have HW4 := Aside0.mk (show w1.heap.size ≤ w4.heap.size from hB04.size)
      clear hown' hgrow hne2 hB04 HO3 HOX
      have hdiff : (m : Int) + 1 ≠ many xs.length := by rw [← HMM.out]; omega
      go_wp2_with fail
      refine (join_no (some ⟨g', 0, none⟩) (m + 1) cap' xs.length (by omega) (by omega) (.inr (by simpa using hdiff)) w4).mono ?_
      rintro e w' ⟨rfl, rfl⟩
      clear hdiff
      have hrx : ReadsInt w4 .i64 A4 xs.length xs := own_reads' HOX4.out
      have hcx : xs.length ≤ c4 := own_cap HOX4.out
      have hrl : ReadsInt w4 .i64 A xs.length xs := ReadsInt.below hr HB4.out
      go_wp2_with fail
      refine (ints_any A4 c4 xs A c xs w4 (by omega) hrx hcx hrl hlc).mono ?_
      rintro e w5 ⟨rfl, hB5⟩
      have HB5 := Aside0.mk (below_step HB4.out hB5)
      clear hB5
      go_wp2_with fail
      go_ret
      exact ⟨by simp, HB5.out⟩
end Go.Proofs.Ytebedfcemdpedaa
