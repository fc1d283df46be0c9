import Derived.RangeFuncBox
import Derived.RangeFuncLeaves
import Derived.Shelf.Abstract
import Derived.WalkKit
import Derived.OwnWalkIn
import Derived.TacticsInMore
import Derived.LoopNIn
import Derived.LoopIn
import Derived.Maps.AppendAt
import Derived.Outline
import Derived.Sort.QuietIn
import Derived.Test.YtjfolhheejkedaaProg
import Derived.Test.YtjfolhheejkedaaWMore
namespace Go.Proofs.Ytjfolhheejkedaa
open Go.RowKit Go.Shelf Go.Proofs.YtjfolhheejkedaaW.PrintWords Go.Proofs.YtjfolhheejkedaaW.PrintLast Go.Proofs.YtjfolhheejkedaaW.PrintMore
attribute [local go_sem] Oper.semAt_some

set_option maxHeartbeats 1000000 in
theorem chunk_in (n : Nat) (a : Option Addr) (len cap : Nat) (w : World) :
    CallsIn Fence.wide n Try.prog 23 #[.slice a len cap, .int .i64 8] w fun e w' => e = .returned (.func (.func 36) #[] #[.pointer (some ⟨w.heap.size, 0, none⟩), .pointer (some ⟨w.heap.size + 1, 0, none⟩)]) ∧ w' = (w.alloc (.cells #[.slice a len cap] 28)).alloc (.cells #[.int .i64 8] 3) := by
  refine callsIn_of_wp Try.func23 rfl trivial ?_ rfl
  simp only [Try.ntmps23, List.size_toArray, List.length_cons, List.length_nil, Nat.reduceAdd, Nat.reduceSub, Array.replicate_succ, Array.replicate_zero, List.push_toArray, List.append_toArray, List.nil_append, List.cons_append]
  gi_wp2
  go_ret
  exact ⟨rfl, rfl⟩

/-- the two boxes lie as they lay -/
def KeepsTwo (Bs Bn : Nat) (W W' : World) : Prop := W'.heap[Bs]? = W.heap[Bs]? ∧ W'.heap[Bn]? = W.heap[Bn]?
theorem KeepsTwo.refl (Bs Bn : Nat) (W : World) : KeepsTwo Bs Bn W W := ⟨rfl, rfl⟩
theorem KeepsTwo.trans {Bs Bn : Nat} {A B C : World} (h : KeepsTwo Bs Bn A B) (k : KeepsTwo Bs Bn B C) : KeepsTwo Bs Bn A C := ⟨k.1.trans h.1, k.2.trans h.2⟩
theorem KeepsTwo.fst {Bs Bn : Nat} {A B : World} {v : Value} (h : KeepsTwo Bs Bn A B) (hc : A.cell? ⟨Bs, 0, none⟩ = some v) : B.cell? ⟨Bs, 0, none⟩ = some v := (World.cell?_of_block (w := A) (a := ⟨Bs, 0, none⟩) h.1).trans hc
theorem KeepsTwo.snd {Bs Bn : Nat} {A B : World} {v : Value} (h : KeepsTwo Bs Bn A B) (hc : A.cell? ⟨Bn, 0, none⟩ = some v) : B.cell? ⟨Bn, 0, none⟩ = some v := (World.cell?_of_block (w := A) (a := ⟨Bn, 0, none⟩) h.2).trans hc
theorem keepsTwo_t {Bs Bn : Nat} {A B C : World} (h : KeepsTwo Bs Bn A B) (k : KeepsTwo Bs Bn B C) : KeepsTwo Bs Bn A C := h.trans k
theorem keepsTwo_b {Bs Bn : Nat} {w : World} (h1 : Bs < w.heap.size) (h2 : Bn < w.heap.size) (W : World) (l : Nat) (o o' : Obj) (hl : w.heap.size ≤ l) (_ : W.heap[l]? = some o) (_ : o.isCells = false) (_ : o.isWalk = false) : KeepsTwo Bs Bn W (W.putObj l o') :=
  ⟨World.putObj_heap_other (by omega), World.putObj_heap_other (by omega)⟩
theorem KeepsTwo.drewN {Bs Bn : Nat} {A B : World} (h : KeepsTwo Bs Bn A B) (n : Nat) : KeepsTwo Bs Bn A (B.drewN n) := ⟨h.1, h.2⟩

/-- what has come when k rounds are over -/
def upto (k : Nat) : List Nat := List.range k
theorem upto_succ (k : Nat) : upto (k + 1) = upto k ++ [k] := by simp [upto, List.range_succ]
theorem upto_length (k : Nat) : (upto k).length = k := by simp [upto]

/-- part k of a slice in parts of eight -/
def part (a : Option Addr) (len k : Nat) : Value := .slice (a.map fun ad => ad.add (8 * k)) (min 8 (len - 8 * k)) (min 8 (len - 8 * k))

set_option maxRecDepth 100000 in
set_option maxHeartbeats 2000000 in
theorem chunk1_in (n : Nat) (l Bs Bn n₁ len cap : Nat) (a : Option Addr) (ha : 0 < len → ∃ ad, a = some ad) (hlc : len ≤ cap) (hreach : len * 8 ≤ 140737488351232) (J Jx : List Nat → World → Prop) (hJ : AbidesFrom n₁ J)
    (hY : ∀ pre (x : Nat) W, J pre W → pre.length < (len + 7) / 8 → x = pre.length → YieldAt Fence.wide (n - 1) Try.prog l #[part a len x] W fun e W' =>
      (e = .returned (.bool true) ∧ J (pre ++ [x]) W' ∧ KeepsTwo Bs Bn W W') ∨ (e = .returned (.bool false) ∧ Jx (pre ++ [x]) W'))
    (W : World) (hBs : W.cell? ⟨Bs, 0, none⟩ = some (.slice a len cap)) (hBn : W.cell? ⟨Bn, 0, none⟩ = some (.int .i64 8)) (h0 : J [] W) :
    CallsIn Fence.wide n Try.prog 36 #[.func (.yield l) #[] #[], .pointer (some ⟨Bs, 0, none⟩), .pointer (some ⟨Bn, 0, none⟩)] W fun e W' => (∃ v, e = .returned v) ∧
      ((∃ ys, ys = upto ((len + 7) / 8) ∧ J ys W') ∨ (∃ pre, (∃ k, k ≤ (len + 7) / 8 ∧ pre = upto k) ∧ Jx pre W')) := by
  refine callsIn_of_wp Try.func36 rfl trivial ?_ rfl
  simp only [Try.ntmps36, List.size_toArray, List.length_cons, List.length_nil, Nat.reduceAdd, Nat.reduceSub, Array.replicate_succ, Array.replicate_zero, List.push_toArray, List.append_toArray, List.nil_append, List.cons_append]
  gi_wp2
  gi_loopw [4] (fun i wr => ∃ k : Nat, k ≤ (len + 7) / 8 ∧ i = .int .i64 (8 * k : Nat) ∧ J (upto k) wr ∧ KeepsTwo Bs Bn W wr)
    (fun i _ => len + 8 - (intOf i).toNat)
  case atStart => exact ⟨0, Nat.zero_le _, rfl, h0, KeepsTwo.refl _ _ _⟩
  case round =>
    obtain ⟨k, hk, rfl, hJs, hnx⟩ := hrel
    have hcs : wr.cell? ⟨Bs, 0, none⟩ = some (.slice a len cap) := hnx.fst hBs
    have hcn : wr.cell? ⟨Bn, 0, none⟩ = some (.int .i64 8) := hnx.snd hBn
    by_cases hlt : 8 * k < len
    · obtain ⟨ad, rfl⟩ := ha (by omega)
      have hgo : ∀ nq, J (upto k) (wr.drewN nq) := fun nq => hJ _ _ _ none hJs (grown_of_below (pw_below_drewN (Below.refl _ _) nq) none) (by simp)
      by_cases hful : 8 * k + 8 ≤ len
      · have e1 : ¬ ((len - 8 * k : Nat) : Int) < 8 := by omega
        have e2 : min 8 (len - 8 * k) = 8 := by omega
        gi_wp2
        gi_quiet (fail)
        obtain ⟨fn, tmps, assign, body, hy, hR⟩ := hY _ k _ (hgo nq) (by rw [upto_length]; omega) (by rw [upto_length])
        simp only [part, e2, Option.map_some] at hy
        gi_wp2
        refine ⟨(fun h => by cases h), hR.mono ?_⟩
        rintro e W3 (⟨rfl, hJ3, hk3⟩ | ⟨rfl, hJx3⟩)
        · have hcn3 : W3.cell? ⟨Bn, 0, none⟩ = some (.int .i64 8) := hk3.snd (v := .int .i64 8) hcn
          gi_wp2
          go_roundw
          case rel => exact ⟨k + 1, by omega, by go_num, by rw [upto_succ]; exact hJ3, (hnx.drewN nq).trans hk3⟩
          case measure => simp [intOf]; omega
        · gi_wp2
          refine bodyPost_ret (results_none rfl _ _ _) rfl ?_
          exact ⟨⟨_, rfl⟩, .inr ⟨_, ⟨k + 1, by omega, (upto_succ _).symm⟩, hJx3⟩⟩
      · have e1 : ((len - 8 * k : Nat) : Int) < 8 := by omega
        have e2 : min 8 (len - 8 * k) = len - 8 * k := by omega
        gi_wp2
        gi_quiet (fail)
        obtain ⟨fn, tmps, assign, body, hy, hR⟩ := hY _ k _ (hgo nq) (by rw [upto_length]; omega) (by rw [upto_length])
        simp only [part, e2, Option.map_some] at hy
        gi_wp2
        refine ⟨(fun h => by cases h), hR.mono ?_⟩
        rintro e W3 (⟨rfl, hJ3, hk3⟩ | ⟨rfl, hJx3⟩)
        · have hcn3 : W3.cell? ⟨Bn, 0, none⟩ = some (.int .i64 8) := hk3.snd (v := .int .i64 8) hcn
          gi_wp2
          go_roundw
          case rel => exact ⟨k + 1, by omega, by go_num, by rw [upto_succ]; exact hJ3, (hnx.drewN nq).trans hk3⟩
          case measure => simp [intOf]; omega
        · gi_wp2
          refine bodyPost_ret (results_none rfl _ _ _) rfl ?_
          exact ⟨⟨_, rfl⟩, .inr ⟨_, ⟨k + 1, by omega, (upto_succ _).symm⟩, hJx3⟩⟩
    · gi_wp2
      go_end0
      exact ⟨⟨_, rfl⟩, .inl ⟨_, rfl, by rw [show (len + 7) / 8 = k by omega]; exact hJs⟩⟩

theorem chunk_stops (n : Nat) (Bs Bn len cap : Nat) (a : Option Addr) (ha : 0 < len → ∃ ad, a = some ad) (hlc : len ≤ cap) (hreach : len * 8 ≤ 140737488351232) (w : World) (hb1 : Bs < w.heap.size) (hb2 : Bn < w.heap.size)
    (hBs : w.cell? ⟨Bs, 0, none⟩ = some (.slice a len cap)) (hBn : w.cell? ⟨Bn, 0, none⟩ = some (.int .i64 8)) :
    SeqStopsK Fence.wide n Try.prog 36 #[.pointer (some ⟨Bs, 0, none⟩), .pointer (some ⟨Bn, 0, none⟩)] (fun x : Nat => #[part a len x]) (KeepsTwo Bs Bn) (fun ys => ys = upto ((len + 7) / 8)) (fun pre => ∃ k, k ≤ (len + 7) / 8 ∧ pre = upto k) ((len + 7) / 8) w := fun l J Jx W hW hJ _ hY h0 =>
  chunk1_in n l Bs Bn W.heap.size len cap a ha hlc hreach J Jx hJ (fun pre x W1 hj hl _ => hY pre x W1 hj hl) W ((hW.cell (p := ⟨Bs, 0, none⟩) hb1).trans hBs) ((hW.cell (p := ⟨Bn, 0, none⟩) hb2).trans hBn) h0

end Go.Proofs.Ytjfolhheejkedaa
