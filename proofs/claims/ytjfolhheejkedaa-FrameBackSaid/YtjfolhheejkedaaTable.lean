import Derived.WalkKit
import Derived.LoopTactic
import Derived.Outline
import Derived.Lib.SmallJoins
import Derived.Laws.Rows
import Derived.Laws.CopyOwn
import Derived.Laws.ResultCell
import Derived.Deep.WholeRow
import Derived.Laws.BitsLemmas
import Derived.Laws.BitsAllLaws
import Derived.Test.YtjfolhheejkedaaProg
import Derived.Test.YtjfolhheejkedaaWMore
set_option linter.unusedVariables false
namespace Go.Proofs.Ytjfolhheejkedaa
open Go.RowKit Go.Joins Go.Proofs.YtjfolhheejkedaaW.PrintWords Go.Proofs.YtjfolhheejkedaaW.PrintLast Go.Proofs.YtjfolhheejkedaaW.PrintMore

/-! ### the sum's table -/
def bitStep (c : Nat) : Nat := if c % 2 = 1 then (c / 2) ^^^ 3988292384 else c / 2
def bitSteps : Nat → Nat → Nat
  | 0, c => c
  | n + 1, c => bitStep (bitSteps n c)
theorem bitStep_lt (c : Nat) (h : c < 4294967296) : bitStep c < 4294967296 := by
  unfold bitStep
  split
  · exact Nat.xor_lt_two_pow (n := 32) (by omega) (by omega)
  · omega
theorem bitSteps_lt (n c : Nat) (h : c < 4294967296) : bitSteps n c < 4294967296 := by
  induction n with
  | zero => exact h
  | succ n ih => exact bitStep_lt _ ih
def tabF (i : Nat) : Nat := bitSteps 8 i
/-- the table's cells, when the first k are reckoned -/
def tabCells (k : Nat) : Array Value := ((List.range 256).map fun i => Value.int .u32 (if i < k then ((tabF i : Nat) : Int) else 0)).toArray
theorem tabCells_size (k : Nat) : (tabCells k).size = 256 := by simp [tabCells]
theorem tabCells_get (k i : Nat) (h : i < 256) : (tabCells k)[i]? = some (.int .u32 (if i < k then ((tabF i : Nat) : Int) else 0)) := by
  unfold tabCells
  rw [List.getElem?_toArray, List.getElem?_map, List.getElem?_range h]
  rfl
theorem tabCells_set (k : Nat) (h : k < 256) : (tabCells k).setIfInBounds k (.int .u32 (tabF k : Nat)) = tabCells (k + 1) := by
  apply Array.ext_getElem?
  intro i
  rw [Array.getElem?_setIfInBounds]
  by_cases hi : i < 256
  · rw [tabCells_get (k + 1) i hi]
    by_cases e : k = i
    · subst e
      rw [if_pos rfl, if_pos (by rw [tabCells_size]; exact hi), if_pos (by omega)]
    · rw [if_neg e, tabCells_get k i hi]
      by_cases h2 : i < k
      · rw [if_pos h2, if_pos (by omega)]
      · rw [if_neg h2, if_neg (by omega)]
  · have h1 : (tabCells k)[i]? = none := Array.getElem?_eq_none (by rw [tabCells_size]; omega)
    have h2 : (tabCells (k + 1))[i]? = none := Array.getElem?_eq_none (by rw [tabCells_size]; omega)
    rw [if_neg (by omega), h1, h2]
theorem tabCells_one (k : Nat) : (tabCells k).all (·.oneCell') = true := by
  rw [Array.all_eq_true]
  intro i hi
  rw [tabCells_size] at hi
  have := tabCells_get k i hi
  rw [Array.getElem?_eq_getElem (by rw [tabCells_size]; exact hi)] at this
  rw [Option.some.inj this]
  rfl
theorem zero76 : (Try.prog.info? 76).map (·.zero) = some (some (.agg (tabCells 0))) := by kernel_rfl
theorem cells76 : (Value.agg (tabCells 0)).cells = tabCells 0 := by kernel_rfl
theorem size76 : (Try.prog.info? 76).map (·.size) = some 256 := by kernel_rfl
theorem run_alloc76 (old : Value) (w : World) : (Instr.alloc 76 true old).run Try.prog w = .ok (.pointer (some ⟨w.heap.size, 0, none⟩)) (w.alloc (.cells (tabCells 0) 76)) := by
  obtain ⟨i, hi, hz⟩ := Option.map_eq_some_iff.1 zero76
  simp [Instr.alloc, zeroValue, typeInfo, hi, hz, newVar, cells76, newRow]

theorem u32_and_one (x : Nat) (h : x < 4294967296) : bits .and .u32 (x : Int) 1 = ((x % 2 : Nat) : Int) := by
  rw [show (1 : Int) = ((1 : Nat) : Int) from rfl, u32_and_nat x 1 h (by omega), Nat.and_one_is_mod]
theorem bitStep_odd (c : Nat) (h : c < 4294967296) (h1 : c % 2 = 1) : bits .xor .u32 ((c : Int) / 2) 3988292384 = ((bitStep c : Nat) : Int) := by
  rw [show ((c : Int) / 2) = ((c / 2 : Nat) : Int) from rfl, show (3988292384 : Int) = ((3988292384 : Nat) : Int) from rfl, u32_xor_nat _ _ (by omega) (by omega), bitStep, if_pos h1]
theorem bitStep_even (c : Nat) (h1 : ¬ c % 2 = 1) : (c : Int) / 2 = ((bitStep c : Nat) : Int) := by
  rw [bitStep, if_neg h1]; rfl
theorem wpList_alloc76 {ops : Array Oper} {rest : List Oper} {o : Oper} {a : Act} {w : World} {Q : Exit → Act → World → Prop} (hgd : o.guard = none) (ho : o.op = .alloc 76)
    (h : wpList Try.prog ops Q rest (a.put o.dst (.pointer (some ⟨w.heap.size, 0, none⟩))) (w.alloc (.cells (tabCells 0) 76))) : wpList Try.prog ops Q (o :: rest) a w :=
  wpList_plain hgd fun _ hK => by
    unfold Oper.wp execOp
    simp only [ho, Sem.run_bind, Sem.run_pure, Result.andThen_ok, run_alloc76]
    exact hK _ _ h

set_option maxHeartbeats 1000000 in
set_option maxRecDepth 100000 in
theorem table_any (w : World) : Calls Try.prog 43 #[] w fun e w' => e = .returned (.agg (tabCells 256)) ∧ Below w.heap.size w w' := by
  go_enter Try.func43, Try.ntmps43
  go_wp2_with (refine wpList_alloc76 rfl rfl ?_)
  go_loopw [2, 3, 4, 9] (fun _ _ i _ wr => ∃ k : Nat, k ≤ 256 ∧ i = .int .i64 k ∧ wr = (w.alloc (.cells (tabCells 0) 76)).alloc (.cells (tabCells k) 76)) (fun _ _ i _ _ => 256 - (intOf i).toNat)
  case atStart => exact ⟨0, by omega, rfl, rfl⟩
  case round =>
    obtain ⟨k, hk, rfl, rfl⟩ := hrel
    by_cases hlt : k < 256
    · have hwr : IntKind.u32.wrap (k : Int) = (k : Int) := by rw [IntKind.wrap_u32]; omega
      go_wp2
      clear hwr
      go_loop [3, 9] (fun c j => ∃ n : Nat, n ≤ 8 ∧ j = .int .i64 n ∧ c = .int .u32 ((bitSteps n k : Nat) : Int)) (fun _ j => 8 - (intOf j).toNat)
      case atStart => exact ⟨0, by omega, rfl, rfl⟩
      case round =>
        obtain ⟨n, hn, rfl, rfl⟩ := hrel
        have hb := bitSteps_lt n k (by omega)
        by_cases hn8 : n < 8
        · have hand := u32_and_one (bitSteps n k) hb
          have HSS : Aside0 (bitSteps (n + 1) k = bitStep (bitSteps n k)) := ⟨rfl⟩
          by_cases hodd : bitSteps n k % 2 = 1
          · have hx := Aside0.mk (bitStep_odd _ hb hodd)
            have t1 : (bits .and .u32 ((bitSteps n k : Nat) : Int) 1 == 1) = true := by rw [hand, hodd]; rfl
            have HO := Aside0.mk hodd
            clear hand hodd
            generalize bitSteps n k = c at hb hx t1 HSS HO ⊢
            go_wp2
            go_round
            case rel => exact ⟨n + 1, by omega, by go_num, by rw [HSS.out, ← hx.out]⟩
            case measure => simp [intOf]; omega
          · have hx := Aside0.mk (bitStep_even _ hodd)
            have t1 : (bits .and .u32 ((bitSteps n k : Nat) : Int) 1 == 1) = false := by
              rw [hand, beq_eq_false_iff_ne]; omega
            have HO := Aside0.mk hodd
            clear hand hodd
            generalize bitSteps n k = c at hb hx t1 HSS HO ⊢
            go_wp2
            go_round
            case rel => exact ⟨n + 1, by omega, by go_num, by rw [HSS.out, ← hx.out]⟩
            case measure => simp [intOf]; omega
        · obtain rfl : n = 8 := by omega
          have hcell : (tabCells k)[k]? = some (.int .u32 0) := by rw [tabCells_get k k hlt, if_neg (by omega)]
          have hset := Aside0.mk (tabCells_set k hlt)
          go_wp2
          go_roundw
          case rel => exact ⟨k + 1, by omega, by go_num, by rw [← hset.out]; rfl⟩
          case measure => simp [intOf]; omega
    · obtain rfl : k = 256 := by omega
      have hg1 := heap_alloc2_new w (.cells (tabCells 0) 76) (.cells (tabCells 256) 76)
      have hg0 := heap_alloc2_old w (.cells (tabCells 0) 76) (.cells (tabCells 256) 76)
      have HG0 := Aside0.mk hg0
      have HG1 := Aside0.mk hg1
      clear hg0 hg1
      go_wp2_with (first | (refine wpList_load_row rfl 76 _ rfl (w.heap.size + 1) rfl 76 (tabCells 256) (0, 0) _ HG1.out Try.underlying76 rfl (by rw [tabCells_size]; exact size76) ?_) | (refine wpList_store_row rfl 76 _ _ rfl w.heap.size (tabCells 256) rfl rfl 76 (tabCells 0) HG0.out (by rw [tabCells_size]; exact size76) (by rw [tabCells_size, tabCells_size]) (tabCells_one _) ?_))
      refine bodyPost_ret (v := .agg (tabCells 256)) (results_cell_row rfl _ _ w.heap.size 76 (tabCells 256) (0, 0) _ rfl (setRow_heap _ _ _ _ _ _ HG0.out) Try.underlying76 rfl (by rw [tabCells_size]; exact size76)) rfl ⟨rfl, below_setRow (((Below.refl _ w).alloc (Nat.le_refl _) _).alloc (by simp) _) (Nat.le_refl _) _⟩
end Go.Proofs.Ytjfolhheejkedaa
