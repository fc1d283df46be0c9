import Derived.WalkKit
import Derived.LoopTactic
import Derived.Outline
import Derived.Lib.SmallJoins
import Derived.Laws.Rows
import Derived.Laws.CopyOwn
import Derived.Laws.ResultCell
import Derived.Laws.StructEq
import Derived.Deep.WholeRow
import Derived.Deep.RegionHeld3
import Derived.Deep.DeepCutAuto
import Derived.Deep.QuietTactic
import Derived.BigQuiet
import Derived.RangeFuncBox
import Derived.Shelf.GgClosure.Gives
import Derived.Test.YtomdneblpdpiiaaProg
import Derived.Test.YtomdneblpdpiiaaWMore
set_option linter.unusedVariables false
namespace Go.Proofs.Ytomdneblpdpiiaa
open Go.RowKit Go.Joins Go.Proofs.YtomdneblpdpiiaaW.PrintWords Go.Proofs.YtomdneblpdpiiaaW.PrintLast Go.Proofs.YtomdneblpdpiiaaW.PrintMore

/-! ### small words -/
theorem results_c1 {P : Program} {fn : Func} {p : Tmp} {ty : TypeId} (h : fn.results = #[.cell p ty]) (tmps : Array Value) (w : World) (g : Nat) (t : TypeId) (cs : Array Value) (fr : Nat × Nat) (d : TypeDesc)
    (hp : tmps.getD p undef = .pointer (some ⟨g, 0, none⟩)) (hg : w.heap[g]? = some (.cells cs t fr))
    (hu : P.underlying ty = some d) (hd : (match d with | .struct _ | .array _ _ => true | _ => false) = true) (hi : (P.info? ty).map (·.size) = some cs.size) :
    (results fn tmps).run P w = .ok (.agg cs) w := by
  have hp' : tmps[p]?.getD undef = .pointer (some ⟨g, 0, none⟩) := by simpa using hp
  simp [results, h, hp', asAddr, run_loadVar_row w g t ty cs fr d hg hu hd hi]
theorem below_mono {B B' : Nat} {w w' : World} (h : Below B w w') (hl : B' ≤ B) : Below B' w w' := ⟨h.os, h.tape, h.output, h.size, fun k hk => h.block k (by omega)⟩
theorem reads_one (w : World) (k : IntKind) (x : Int) (t : TypeId) : ReadsInt (w.alloc (.cells #[.int k x] t)) k (some ⟨w.heap.size, 0, none⟩) 1 [x] :=
  ⟨rfl, by omega, fun _ => ⟨_, rfl, fun j hj => by
    obtain rfl : j = 0 := by omega
    exact cell_of_one (heap_alloc_new w _)⟩⟩
theorem below_one (w : World) (o : Obj) : Below w.heap.size w (w.alloc o) := (Below.refl _ _).alloc (Nat.le_refl _) o
theorem below_two {w w6 : World} (h : Below w.heap.size w w6) (o o' : Obj) : Below w.heap.size w ((w6.alloc o).alloc o') := (h.alloc h.size o).alloc (by have := h.size; simp; omega) o'
/-- a block of whatever cells, of type t -/
def Blk (W : World) (B : Nat) (t : TypeId) (cs : Array Value) : Prop := W.heap[B]? = some (.cells cs t (0, 0))
theorem Blk.below {W W' : World} {B : Nat} {t : TypeId} {cs : Array Value} (h : Blk W B t cs) (hB : Below W.heap.size W W') : Blk W' B t cs := blk_below h hB
theorem Blk.alloc {W : World} {B : Nat} {t : TypeId} {cs : Array Value} (h : Blk W B t cs) (o : Obj) : Blk (W.alloc o) B t cs := blk_alloc h o
theorem Blk.drew {W : World} {B : Nat} {t : TypeId} {cs : Array Value} (h : Blk W B t cs) : Blk W.drew B t cs := h
theorem Blk.cell {W : World} {B : Nat} {t : TypeId} {cs : Array Value} (h : Blk W B t cs) (i : Nat) : W.cell? ⟨B, i, none⟩ = cs[i]? := blk_cell h i
theorem Blk.frozen {W : World} {B : Nat} {t : TypeId} {cs : Array Value} (h : Blk W B t cs) (i : Nat) : W.frozen? ⟨B, i, none⟩ = false := blk_frozen h i
theorem Blk.lt {W : World} {B : Nat} {t : TypeId} {cs : Array Value} (h : Blk W B t cs) : B < W.heap.size := blk_lt h
theorem Blk.new (W : World) (t : TypeId) (cs : Array Value) : Blk (W.alloc (.cells cs t)) W.heap.size t cs := heap_alloc_new W _
theorem Blk.put {W : World} {B : Nat} {t : TypeId} {cs cs' : Array Value} (h : Blk W B t cs) (i : Nat) (v : Value) (e : cs.setIfInBounds i v = cs') : Blk (W.setCell ⟨B, i, none⟩ v) B t cs' := blk_put h i v e
theorem Blk.far {W : World} {B : Nat} {t : TypeId} {cs : Array Value} (h : Blk W B t cs) {p : Addr} (hp : B ≠ p.block) (v : Value) : Blk (W.setCell p v) B t cs := blk_far h hp v
theorem Blk.kept {W W' : World} {B : Nat} {t : TypeId} {cs : Array Value} {row : Option Nat} (h : Blk W B t cs) (hg : W.grownBy W' row) (hne : some B ≠ row) : Blk W' B t cs := blk_grown h hg hne
theorem Blk.not_row {W : World} {B : Nat} {t e : TypeId} {cs : Array Value} (h : Blk W B t cs) (hte : e ≠ t) {base size n : Nat} {v : Value} {xs : List Value} (hr : W.ownsRow base e size v n xs) : some B ≠ v.ownBlock := own_ne hr h hte
theorem Blk.ne {W : World} {B B' : Nat} {t t' : TypeId} {cs cs' : Array Value} (h : Blk W B t cs) (h' : Blk W B' t' cs') (hte : t ≠ t') : B ≠ B' := blk_ne h h' hte
end Go.Proofs.Ytomdneblpdpiiaa
