import Derived.Test.YtomdneblpdpiiaaMAt
set_option linter.unusedVariables false
namespace Go.Proofs.Ytomdneblpdpiiaa
open Go.RowKit Go.Joins Go.Proofs.YtomdneblpdpiiaaW.PrintWords Go.Proofs.YtomdneblpdpiiaaW.PrintLast Go.Proofs.YtomdneblpdpiiaaW.PrintMore

/-! ### mat.Right, mat.Diag, mat.Trans -/
def diagQ (l : List Int) (i k : Nat) : Int := if i = k then l.getD i 0 else 0
set_option maxHeartbeats 1000000 in
theorem tell_diag (B n c : Nat) (A : Option Addr) (l : List Int) (w0 : World) (hb : w0.cell? ⟨B, 0, none⟩ = some (.slice A n c)) (hr : ReadsInt w0 .i64 A n l) (hn : n ≤ 100) :
    TellAt 12 #[.pointer (some ⟨B, 0, none⟩)] (diagQ l) (fun _ _ => false) n n w0 := by
  intro W i k hB hi hk
  show Calls Try.prog 12 #[.int .i64 (i : Nat), .int .i64 (k : Nat), .pointer (some ⟨B, 0, none⟩)] W _
  have hb' := pw_cell_below hB hb
  obtain ⟨ad, rfl, hcell⟩ := reads_cell (hr.below hB) i hi
  unfold diagQ
  generalize l.getD i 0 = x at hcell ⊢
  clear hb hr hB
  by_cases h : i = k
  · subst h
    rw [if_pos rfl]
    have h1 : ((i : Int) == (i : Int)) = true := by simp
    go_enter Try.func12, Try.ntmps12
    go_wp2
    go_ret2
    exact ⟨rfl, Below.refl _ _⟩
  · rw [if_neg h]
    have h1 : ((i : Int) == (k : Int)) = false := beq_eq_false_iff_ne.2 (by omega)
    go_enter Try.func12, Try.ntmps12
    go_wp2
    go_ret2
    exact ⟨rfl, Below.refl _ _⟩
def transQ (xs : List Int) (c : Nat) (i k : Nat) : Int := xs.getD (k * c + i) 0
set_option maxHeartbeats 1000000 in
theorem tell_trans (B r c n cap : Nat) (A : Option Addr) (xs : List Int) (w0 : World) (hb : Blk w0 B 28 #[.int .i64 (r : Nat), .int .i64 (c : Nat), .slice A n cap]) (hr : ReadsInt w0 .i64 A n xs) (hn : n = r * c) (hr1 : r ≤ 100) (hc : c ≤ 100) :
    TellAt 18 #[.pointer (some ⟨B, 0, none⟩)] (transQ xs c) (fun _ _ => false) c r w0 := by
  intro W i k hB hi hk
  show Calls Try.prog 18 #[.int .i64 (i : Nat), .int .i64 (k : Nat), .pointer (some ⟨B, 0, none⟩)] W _
  have hb' := hb.lt
  have hbW : Blk W B 28 _ := (hB.block B hb').trans hb
  have hc0 : W.cell? ⟨B, 0, none⟩ = some (.int .i64 (r : Nat)) := (hbW.cell 0).trans rfl
  have hc1 : W.cell? ⟨B, 1, none⟩ = some (.int .i64 (c : Nat)) := (hbW.cell 1).trans rfl
  have hc2 : W.cell? ⟨B, 2, none⟩ = some (.slice A n cap) := (hbW.cell 2).trans rfl
  have hlt : k * c + i < n := by
    have h1 : (k + 1) * c ≤ r * c := Nat.mul_le_mul (by omega) (Nat.le_refl c)
    rw [Nat.add_mul, Nat.one_mul] at h1
    omega
  have HA := Aside0.mk (at_any r c k i n cap A xs W (by omega) hc (by omega) (hr.below hB) hlt)
  have hu := Try.underlying28
  clear hb hr hB hlt hn
  go_enter Try.func18, Try.ntmps18
  go_wp2_with (go_at_call 15; refine HA.out.mono ?_; rintro e w' ⟨rfl, hB⟩)
  go_ret2
  exact ⟨rfl, hB⟩
end Go.Proofs.Ytomdneblpdpiiaa
