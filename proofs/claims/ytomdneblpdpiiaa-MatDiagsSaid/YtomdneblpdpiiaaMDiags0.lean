import Derived.Test.YtomdneblpdpiiaaMLoop
set_option linter.unusedVariables false
namespace Go.Proofs.Ytomdneblpdpiiaa
open Go.RowKit Go.Joins Go.Proofs.YtomdneblpdpiiaaW.PrintWords Go.Proofs.YtomdneblpdpiiaaW.PrintLast Go.Proofs.YtomdneblpdpiiaaW.PrintMore

def whole (A : List Int) : List Int := A.map fun a => a * 16777216
def prods (A B : List Int) : List Int := List.zipWith (fun a b => a * b * 16777216) A B
def onesL (k : Nat) : List Int := List.replicate k 16777216
def i8s (A : List Int) : Array Value := (A.map (Value.int .i8)).toArray
structure DInv (w : World) (A B : List Int) (k : Nat) (l m n o : Value) (W : World) : Prop where
  rows : Rows W w.heap.size [l, m, n, o] [(whole A).take k, (whole B).take k, (prods A B).take k, onesL k]
  ba : Blk W w.heap.size 23 (i8s A)
  bb : Blk W (w.heap.size + 1) 23 (i8s B)
  bel : Below w.heap.size w W
theorem DInv.drew {w W : World} {A B : List Int} {k : Nat} {l m n o : Value} (h : DInv w A B k l m n o W) : DInv w A B k l m n o W.drew := ⟨h.rows, h.ba, h.bb, h.bel.drew⟩
/-- between two appends -/
structure DMid (w : World) (A B : List Int) (vs : List Value) (xss : List (List Int)) (W : World) : Prop where
  rows : Rows W w.heap.size vs xss
  ba : Blk W w.heap.size 23 (i8s A)
  bb : Blk W (w.heap.size + 1) 23 (i8s B)
  bel : Below w.heap.size w W
theorem DMid.step {w W w1 : World} {A B : List Int} {vs : List Value} {xss : List (List Int)} {o : Obj} {v v1 : Value} {xs xs1 : List Int} (h : DMid w A B vs xss W) (i : Nat) (hv : vs[i]? = some v) (hx : xss[i]? = some xs)
    (ho : w1.ownsRow w.heap.size 26 1 v1 xs1.length (nums .i64 xs1)) (hB : Below w.heap.size w w1) (hg : (W.alloc o).grownBy w1 v.ownBlock) (hb : v1.ownBlock = v.ownBlock ∨ ∃ b, v1.ownBlock = some b ∧ (W.alloc o).heap.size ≤ b) : DMid w A B (vs.set i v1) (xss.set i xs1) w1 :=
  ⟨h.rows.append i hv hx ho hg hb, (h.ba.alloc o).kept hg (h.ba.not_row (by decide) (h.rows.2.1 i v xs hv hx)), (h.bb.alloc o).kept hg (h.bb.not_row (by decide) (h.rows.2.1 i v xs hv hx)), hB⟩
theorem DMid.drew {w W : World} {A B : List Int} {vs : List Value} {xss : List (List Int)} (h : DMid w A B vs xss W) : DMid w A B vs xss W.drew := ⟨h.rows, h.ba, h.bb, h.bel.drew⟩
theorem DMid.own {w W : World} {A B : List Int} {vs : List Value} {xss : List (List Int)} {v : Value} {xs : List Int} (h : DMid w A B vs xss W) (i : Nat) (hv : vs[i]? = some v) (hx : xss[i]? = some xs) (o : Obj) : (W.alloc o).ownsRow w.heap.size 26 1 v xs.length (nums .i64 xs) := own_alloc (h.rows.2.1 i v xs hv hx) o
theorem DMid.acell {w W : World} {A B : List Int} {vs : List Value} {xss : List (List Int)} (h : DMid w A B vs xss W) (k : Nat) (hk : k < A.length) : W.cell? ⟨w.heap.size, k, none⟩ = some (.int .i8 (A.getD k 0)) := by
  rw [h.ba.cell k]
  simp [i8s, List.getD_eq_getElem?_getD, hk]
theorem DMid.bcell {w W : World} {A B : List Int} {vs : List Value} {xss : List (List Int)} (h : DMid w A B vs xss W) (k : Nat) (hk : k < B.length) : W.cell? ⟨w.heap.size + 1, k, none⟩ = some (.int .i8 (B.getD k 0)) := by
  rw [h.bb.cell k]
  simp [i8s, List.getD_eq_getElem?_getD, hk]
theorem take_whole (A : List Int) (k : Nat) (h : k < A.length) : (whole A).take (k + 1) = (whole A).take k ++ [A.getD k 0 * 16777216] := by
  unfold whole
  rw [List.take_succ_eq_append_getElem (by simpa using h)]
  simp [List.getD_eq_getElem?_getD, h]
theorem take_prods (A B : List Int) (k : Nat) (h : k < A.length) (h' : k < B.length) : (prods A B).take (k + 1) = (prods A B).take k ++ [A.getD k 0 * B.getD k 0 * 16777216] := by
  unfold prods
  rw [List.take_succ_eq_append_getElem (by simp; omega)]
  simp [List.getD_eq_getElem?_getD, h, h']
theorem onesL_succ (k : Nat) : onesL (k + 1) = onesL k ++ [16777216] := by simp [onesL, List.replicate_succ']
theorem DMid.lies {w W w1 : World} {A B : List Int} {vs : List Value} {xss : List (List Int)} {v : Value} {xs : List Int} {x : Int} {g cap : Nat} (h : DMid w A B vs xss W) (i : Nat) (hv : vs[i]? = some v) (hx : xss[i]? = some xs)
    (ho : w1.ownsRow w.heap.size 26 1 (.slice (some ⟨g, 0, none⟩) (xs.length + 1) cap) (xs.length + 1) (nums .i64 xs ++ [.int .i64 x])) (hg : ((W.alloc (.cells #[.int .i64 x] 26)).drew).grownBy w1 v.ownBlock) (hat : v.ownBlock = some g ∨ g = W.heap.size + 1) :
    DMid w A B (vs.set i (.slice (some ⟨g, 0, none⟩) (xs.length + 1) cap)) (xss.set i (xs ++ [x])) w1 := by
  have hd := h.drew
  have hown := hd.rows.2.1 i v xs hv hx
  have hg' : (W.drew.alloc (.cells #[.int .i64 x] 26)).grownBy w1 v.ownBlock := hg
  have ho' : w1.ownsRow w.heap.size 26 1 (.slice (some ⟨g, 0, none⟩) (xs.length + 1) cap) (xs ++ [x]).length (nums .i64 (xs ++ [x])) := by
    rw [nums_append, List.length_append]
    exact ho
  refine hd.step i hv hx ho' ?_ hg' ?_
  · exact pw_below_grown (hd.bel.alloc hd.bel.size _) _ (by have := h.bel.size; simp; omega) hg' (own_base hown)
  · rcases hat with h1 | h1
    · exact .inl h1.symm
    · exact .inr ⟨g, rfl, by rw [World.size_alloc, h1]; exact Nat.le_refl _⟩
theorem dmid_two {w W : World} {A B : List Int} {vs : List Value} {xss : List (List Int)} {k : Nat} {x y : Int} (hx : Aside0 (A.getD k 0 = x)) (hy : Aside0 (B.getD k 0 = y)) (ha : Aside0 (A.length = 3)) (hb : Aside0 (B.length = 3)) (hk : k < 3) (h : Aside0 (DMid w A B vs xss W)) : W.cell? ⟨w.heap.size, k, none⟩ = some (.int .i8 x) ∧ W.cell? ⟨w.heap.size + 1, k, none⟩ = some (.int .i8 y) :=
  ⟨hx.out ▸ h.out.acell k (by rw [ha.out]; exact hk), hy.out ▸ h.out.bcell k (by rw [hb.out]; exact hk)⟩
end Go.Proofs.Ytomdneblpdpiiaa
