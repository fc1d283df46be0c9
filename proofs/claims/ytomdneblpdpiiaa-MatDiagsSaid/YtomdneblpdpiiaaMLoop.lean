import Derived.Test.YtomdneblpdpiiaaMShown
import Derived.StillTailTactics
set_option linter.unusedVariables false
namespace Go.Proofs.Ytomdneblpdpiiaa
open Go.RowKit Go.Joins Go.Proofs.YtomdneblpdpiiaaW.PrintWords Go.Proofs.YtomdneblpdpiiaaW.PrintLast Go.Proofs.YtomdneblpdpiiaaW.PrintMore

/-! ### four rows that grow side by side -/
def Rows (W : World) (base : Nat) (vs : List Value) (xss : List (List Int)) : Prop :=
  vs.length = xss.length ∧ (∀ (i : Nat) (v : Value) (xs : List Int), vs[i]? = some v → xss[i]? = some xs → W.ownsRow base 26 1 v xs.length (nums .i64 xs)) ∧ (∀ (i j : Nat) (v u : Value), i ≠ j → vs[i]? = some v → vs[j]? = some u → v.ownBlock = none ∨ v.ownBlock ≠ u.ownBlock)
theorem Rows.below {W W' : World} {base : Nat} {vs : List Value} {xss : List (List Int)} (h : Rows W base vs xss) (hB : Below W.heap.size W W') : Rows W' base vs xss :=
  ⟨h.1, fun i v xs hv hx => pw_own_below (h.2.1 i v xs hv hx) hB, h.2.2⟩
theorem Rows.append {W w1 : World} {base : Nat} {vs : List Value} {xss : List (List Int)} {o : Obj} {v v1 : Value} {xs xs1 : List Int} (h : Rows W base vs xss) (i : Nat) (hv : vs[i]? = some v) (hx : xss[i]? = some xs)
    (ho : w1.ownsRow base 26 1 v1 xs1.length (nums .i64 xs1)) (hg : (W.alloc o).grownBy w1 v.ownBlock) (hb : v1.ownBlock = v.ownBlock ∨ ∃ b, v1.ownBlock = some b ∧ (W.alloc o).heap.size ≤ b) : Rows w1 base (vs.set i v1) (xss.set i xs1) := by
  have hi : i < vs.length := (List.getElem?_eq_some_iff.1 hv).1
  have hi' : i < xss.length := (List.getElem?_eq_some_iff.1 hx).1
  have hnew : ∀ (j : Nat) (u : Value), j ≠ i → vs[j]? = some u → (u.ownBlock = none ∨ u.ownBlock ≠ v1.ownBlock) ∧ (v1.ownBlock = none ∨ v1.ownBlock ≠ u.ownBlock) := by
    intro j u hj hu
    have hjl : j < xss.length := by have := (List.getElem?_eq_some_iff.1 hu).1; have := h.1; omega
    have hou := h.2.1 j u _ hu (List.getElem?_eq_getElem hjl)
    have hlt := own_lt hou
    rcases hb with he | ⟨b, hb1, hb2⟩
    · rw [he]
      exact ⟨h.2.2 j i u v hj hu hv, h.2.2 i j v u (fun e => hj e.symm) hv hu⟩
    · rw [hb1]
      refine ⟨?_, .inr fun e => ?_⟩
      · cases hb0 : u.ownBlock with
        | none => exact .inl rfl
        | some k =>
          refine .inr fun e => ?_
          injection e with e
          have := hlt k hb0
          rw [World.size_alloc] at hb2
          omega
      · have := hlt b e.symm
        rw [World.size_alloc] at hb2
        omega
  refine ⟨by rw [List.length_set, List.length_set]; exact h.1, ?_, ?_⟩
  · intro j u us hu hus
    by_cases hj : j = i
    · subst hj
      rw [List.getElem?_set_self hi] at hu
      rw [List.getElem?_set_self hi'] at hus
      obtain rfl := Option.some.inj hu
      obtain rfl := Option.some.inj hus
      exact ho
    · rw [List.getElem?_set_ne (fun e => hj e.symm)] at hu hus
      have hne := h.2.2 j i u v hj hu hv
      exact own_other (own_alloc (h.2.1 j u us hu hus) o) hg hne
  · intro j k u t hjk hu ht
    by_cases hj : j = i
    · subst hj
      rw [List.getElem?_set_self hi] at hu
      obtain rfl := Option.some.inj hu
      rw [List.getElem?_set_ne hjk] at ht
      exact (hnew k t (fun e => hjk e.symm) ht).2
    · rw [List.getElem?_set_ne (fun e => hj e.symm)] at hu
      by_cases hk : k = i
      · subst hk
        rw [List.getElem?_set_self hi] at ht
        obtain rfl := Option.some.inj ht
        exact (hnew j u hj hu).1
      · rw [List.getElem?_set_ne (fun e => hk e.symm)] at ht
        exact h.2.2 j k u t hjk hu ht
theorem Rows.start (W : World) (base : Nat) : Rows W base [.slice none 0 0, .slice none 0 0, .slice none 0 0, .slice none 0 0] [[], [], [], []] := by
  refine ⟨rfl, fun i v xs hv hx => ?_, fun i j v u _ hv _ => .inl ?_⟩
  · have hi : i < 4 := (List.getElem?_eq_some_iff.1 hv).1
    obtain rfl | rfl | rfl | rfl : i = 0 ∨ i = 1 ∨ i = 2 ∨ i = 3 := by omega
    all_goals
      obtain rfl := Option.some.inj hv
      obtain rfl := Option.some.inj hx
      exact own_nil _ _ _ _
  · have hi : i < 4 := (List.getElem?_eq_some_iff.1 hv).1
    obtain rfl | rfl | rfl | rfl : i = 0 ∨ i = 1 ∨ i = 2 ∨ i = 3 := by omega
    all_goals
      obtain rfl := Option.some.inj hv
      rfl
end Go.Proofs.Ytomdneblpdpiiaa
