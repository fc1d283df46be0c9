import Derived.Test.YtjfolhheejkedaaMore
set_option linter.unusedVariables false
namespace Go.Proofs.Ytjfolhheejkedaa
open Go.RowKit Go.Joins Go.Proofs.YtjfolhheejkedaaW.PrintWords Go.Proofs.YtjfolhheejkedaaW.PrintLast Go.Proofs.YtjfolhheejkedaaW.PrintMore

theorem info5 : (Try.prog.info? 5).map (fun i => (i.zero, i.size, i.bytes)) = some (some (.int .u8 0), 1, 1) := by kernel_rfl
set_option maxHeartbeats 1000000 in
theorem grow_nil (n : Nat) (hn : n ≤ 1000000000000) (w : World) : Calls Try.prog 38 #[.slice none 0 0, .int .i64 n] w fun e w' => ∃ v, e = .returned v ∧ w'.ownsRow w.heap.size 5 1 v 0 [] ∧ Below w.heap.size w w' := by
  have h0 : decide ((n : Int) < 0) = false := decide_eq_false (by omega)
  by_cases hz : n = 0
  · subst hz
    clear h0 hn
    go_enter Try.func38, Try.ntmps38
    go_wp2
    go_ret
    exact ⟨_, rfl, own_nil _ _ _ _, Below.refl _ _⟩
  · have hz1 : decide ((0 : Int) < (n : Int)) = true := decide_eq_true (by omega)
    have hmk := print_make (P := Try.prog) 28 5 .u8 1 Try.underlying28 info5 (by decide) n (by omega)
    have b5 : Try.t5.bytes = 1 := rfl
    have hcap : Builtin.nextslicecap n 0 = n := by unfold Builtin.nextslicecap; simp; omega
    have hpos : ¬ n = 0 := hz
    clear hz
    go_enter Try.func38, Try.ntmps38
    go_wp2
    have hge := grownCap_ge w n 0 5
    have hmx := grownCap_le_maxLen w n 0 5 (by unfold maxLen; omega)
    unfold grownCap at hge hmx
    generalize (Question.appendCap n 0 5).cut (w.tape w.drawn (Question.appendCap n 0 5)) = cc at hge hmx ⊢
    go_ret
    refine ⟨_, rfl, ⟨rfl, .inr ⟨w.heap.size, cc, _, rfl, Nat.le_refl _, heap_alloc_new w _, Nat.zero_le _, hmx, ?_, by simp⟩⟩, ((Below.refl _ w).alloc (Nat.le_refl _) _).drew⟩
    simp [Builtin.zeroCells]
    omega

theorem own_len {w : World} {base n : Nat} {e : TypeId} {v : Value} {xs : List Int} {k : IntKind} (h : w.ownsRow base e 1 v n (nums k xs)) : xs.length = n := by have := h.1; simp [nums] at this; exact this

/-- what is laid when k of two are -/
def catK (xs ys : List Int) : Nat → List Int
  | 0 => []
  | 1 => xs
  | _ => xs ++ ys
set_option maxHeartbeats 2000000 in
/-- slices.Concat of two slices of bytes -/
theorem concat_any (g c0 c1 : Nat) (A B : Option Addr) (xs ys : List Int) (w : World) (hg0 : w.cell? ⟨g, 0, none⟩ = some (.slice A xs.length c0)) (hg1 : w.cell? ⟨g, 1, none⟩ = some (.slice B ys.length c1))
    (hx : xs.length ≤ 100000000000) (hy : ys.length ≤ 100000000000) (hr0 : ReadsInt w .u8 A xs.length xs) (hr1 : ReadsInt w .u8 B ys.length ys) :
    Calls Try.prog 32 #[.slice (some ⟨g, 0, none⟩) 2 2] w fun e w' => ∃ v, e = .returned v ∧ w'.ownsRow w.heap.size 5 1 v (xs.length + ys.length) (nums .u8 (xs ++ ys)) ∧ Below w.heap.size w w' := by
  have hgb : g < w.heap.size := World.block_lt_of_cell? w _ hg0
  go_enter Try.func32, Try.ntmps32
  go_wp2
  go_loop [3, 5, 11] (fun s _ i => ∃ k : Nat, k ≤ 2 ∧ i = .int .i64 k ∧ s = .int .i64 (((if k = 0 then 0 else if k = 1 then xs.length else xs.length + ys.length : Nat)) : Int)) (fun _ _ i => 2 - (intOf i).toNat)
  case atStart => exact ⟨0, by omega, rfl, rfl⟩
  case round =>
    obtain ⟨k, hk, rfl, rfl⟩ := hrel
    obtain rfl | rfl | rfl : k = 0 ∨ k = 1 ∨ k = 2 := by omega
    · go_wp2
      go_round
      case rel => exact ⟨1, by omega, rfl, rfl⟩
      case measure => simp [intOf]
    · go_wp2
      go_round
      case rel => exact ⟨2, by omega, rfl, rfl⟩
      case measure => simp [intOf]
    · go_wp2_with (go_at_call 38; refine (grow_nil (xs.length + ys.length) (by omega) _).mono ?_; rintro e w1 ⟨v, rfl, ho, hB⟩; have HO := Aside0.mk ho; have HB := Aside0.mk hB; clear ho hB)
      go_loopw [6, 8, 27] (fun v _ i wr => ∃ k : Nat, k ≤ 2 ∧ i = .int .i64 k ∧ Aside0 (wr.ownsRow w.heap.size 5 1 v (catK xs ys k).length (nums .u8 (catK xs ys k))) ∧ Aside0 (Below w.heap.size w wr)) (fun _ _ i _ => 2 - (intOf i).toNat)
      case atStart => exact ⟨0, by omega, rfl, HO, HB⟩
      case round =>
        clear HO HB
        obtain ⟨k, hk, rfl, HO, HB⟩ := hrel
        obtain rfl | rfl | rfl : k = 0 ∨ k = 1 ∨ k = 2 := by omega
        · have hg := (HB.out.cell (p := ⟨g, 0, none⟩) hgb).trans hg0
          have hrr := Aside0.mk (ReadsInt.below hr0 HB.out)
          have hbase := HB.out.size
          go_wp2_with (at_builtin; refine print_append_row (w0 := w) w.heap.size rfl _ _ 28 5 .u8 1 rfl Try.underlying28 info5 (by decide) _ [] xs A xs.length c0 rfl rfl HO.out hrr.out HB.out hbase (by simp; omega) ?_; intro v1 w2 ho2 hB2 _ _; have HO2 := Aside0.mk ho2; have HB2 := Aside0.mk hB2; clear ho2 hB2)
          go_roundw
          case rel => exact ⟨1, by omega, rfl, HO2, HB2⟩
          case measure => simp [intOf]
        · have hg := (HB.out.cell (p := ⟨g, 1, none⟩) hgb).trans hg1
          have hrr := Aside0.mk (ReadsInt.below hr1 HB.out)
          have hbase := HB.out.size
          go_wp2_with (at_builtin; refine print_append_row (w0 := w) w.heap.size rfl _ _ 28 5 .u8 1 rfl Try.underlying28 info5 (by decide) _ xs ys B ys.length c1 rfl rfl HO.out hrr.out HB.out hbase (by simp; omega) ?_; intro v1 w2 ho2 hB2 _ _; have HO2 := Aside0.mk ho2; have HB2 := Aside0.mk hB2; clear ho2 hB2)
          go_roundw
          case rel => exact ⟨2, by omega, rfl, HO2, HB2⟩
          case measure => simp [intOf]
        · go_wp2
          go_ret
          exact ⟨_, rfl, by have := HO.out; rwa [show (catK xs ys 2).length = xs.length + ys.length by simp [catK]] at this, HB.out⟩
end Go.Proofs.Ytjfolhheejkedaa
