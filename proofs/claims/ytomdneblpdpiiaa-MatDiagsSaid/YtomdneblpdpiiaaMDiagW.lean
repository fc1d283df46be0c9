import Derived.Test.YtomdneblpdpiiaaMRight
set_option linter.unusedVariables false
namespace Go.Proofs.Ytomdneblpdpiiaa
open Go.RowKit Go.Joins Go.Proofs.YtomdneblpdpiiaaW.PrintWords Go.Proofs.YtomdneblpdpiiaaW.PrintLast Go.Proofs.YtomdneblpdpiiaaW.PrintMore

/-! ### mat.Diag, mat.Trans: the walks -/
theorem diag_enters : ∀ args w, (callFunc 12 args).run Try.prog w = .ok (.enter 12 args) w := enters_of Try.func12 (by kernel_rfl) rfl
theorem trans_enters : ∀ args w, (callFunc 18 args).run Try.prog w = .ok (.enter 18 args) w := enters_of Try.func18 (by kernel_rfl) rfl
/-- a result variable of three cells, nought -/
abbrev zeroM : Array Value := #[.int .i64 0, .int .i64 0, .slice none 0 0]
theorem results_diag (tmps : Array Value) (w : World) (g : Nat) (r c v e : Value) (hp : tmps.getD 2 undef = .pointer (some ⟨g, 0, none⟩)) (he : tmps.getD 3 undef = e) (hg : Blk w g 28 #[r, c, v]) :
    (results Try.f5 tmps).run Try.prog w = .ok (.tuple #[.agg #[r, c, v], e]) w := by
  rw [results_ct (P := Try.prog) (fn := Try.f5) rfl tmps w g 28 #[r, c, v] (0, 0) _ hp hg Try.underlying28 rfl sizeM, he]
theorem results_trans (tmps : Array Value) (w : World) (g : Nat) (r c v : Value) (hp : tmps.getD 2 undef = .pointer (some ⟨g, 0, none⟩)) (hg : Blk w g 28 #[r, c, v]) :
    (results Try.f9 tmps).run Try.prog w = .ok (.agg #[r, c, v]) w :=
  results_c1 (P := Try.prog) (fn := Try.f9) rfl tmps w g 28 #[r, c, v] (0, 0) _ hp hg Try.underlying28 rfl sizeM
/-- one box and a result variable -/
def Two (w : World) (t : TypeId) (cs : Array Value) (W : World) : Prop := Blk W w.heap.size t cs ∧ Blk W (w.heap.size + 1) 28 #[.int .i64 0, .int .i64 0, .slice none 0 0] ∧ Below w.heap.size w W
theorem Two.start (w : World) (t : TypeId) (cs : Array Value) : Two w t cs ((w.alloc (.cells cs t)).alloc (.cells #[.int .i64 0, .int .i64 0, .slice none 0 0] 28)) := by
  refine ⟨(Blk.new w _ _).alloc _, ?_, below_two (Below.refl _ _) _ _⟩
  have := Blk.new (w.alloc (.cells cs t)) 28 #[.int .i64 0, .int .i64 0, .slice none 0 0]
  rwa [World.size_alloc] at this
theorem Two.below {w W W' : World} {t : TypeId} {cs : Array Value} (h : Two w t cs W) (hB : Below W.heap.size W W') : Two w t cs W' := ⟨h.1.below hB, h.2.1.below hB, h.2.2.trans (below_mono hB h.2.2.size)⟩
theorem Two.alloc {w W : World} {t : TypeId} {cs : Array Value} (h : Two w t cs W) (o : Obj) : Two w t cs (W.alloc o) := h.below (below_one W o)
theorem Two.facts {w W : World} {t : TypeId} {cs : Array Value} (h : Two w t cs W) : W.cell? ⟨w.heap.size + 1, 0, none⟩ = some (.int .i64 0) ∧ W.cell? ⟨w.heap.size + 1, 1, none⟩ = some (.int .i64 0) ∧ W.cell? ⟨w.heap.size + 1, 2, none⟩ = some (.slice none 0 0) ∧ ∀ j, W.frozen? ⟨w.heap.size + 1, j, none⟩ = false :=
  ⟨(h.2.1.cell 0).trans rfl, (h.2.1.cell 1).trans rfl, (h.2.1.cell 2).trans rfl, h.2.1.frozen⟩
theorem put3 (W : World) (B : Nat) (r c v : Value) (h : Blk W B 28 #[.int .i64 0, .int .i64 0, .slice none 0 0]) : Blk (((W.setCell ⟨B, 0, none⟩ r).setCell ⟨B, 1, none⟩ c).setCell ⟨B, 2, none⟩ v) B 28 #[r, c, v] :=
  ((h.put 0 _ rfl).put 1 _ rfl).put 2 _ rfl
theorem own3 {W : World} {B base e n : Nat} {r c v u : Value} {xs : List Value} (h : W.ownsRow base e 1 v n xs) (hne : some B ≠ v.ownBlock) : (((W.setCell ⟨B, 0, none⟩ r).setCell ⟨B, 1, none⟩ c).setCell ⟨B, 2, none⟩ u).ownsRow base e 1 v n xs :=
  own_setCell (p := ⟨B, 2, none⟩) (own_setCell (p := ⟨B, 1, none⟩) (own_setCell (p := ⟨B, 0, none⟩) h hne _) hne _) hne _
theorem below3 {w W : World} {B b : Nat} {r c v : Value} (h : Below b w W) (hb : b ≤ B) : Below b w (((W.setCell ⟨B, 0, none⟩ r).setCell ⟨B, 1, none⟩ c).setCell ⟨B, 2, none⟩ v) :=
  ((h.setCell (p := ⟨B, 0, none⟩) hb _).setCell (p := ⟨B, 1, none⟩) hb _).setCell (p := ⟨B, 2, none⟩) hb _
def MatPost (w : World) (r c : Nat) (xs : List Int) (n : Nat) (v : Value) (w' : World) : Prop := w'.ownsRow w.heap.size 26 1 v n (nums .i64 xs) ∧ Below w.heap.size w w'
set_option maxRecDepth 100000 in
set_option maxHeartbeats 2000000 in
theorem diag_any (A : Option Addr) (n cap : Nat) (l : List Int) (w : World) (hr : ReadsInt w .i64 A n l) (h1 : 1 ≤ n) (h8 : n ≤ 8) (ho : l.any oddQ = false) :
    Calls Try.prog 5 #[.slice A n cap] w fun e w' => ∃ A2 c2, e = .returned (.tuple #[.agg #[.int .i64 (n : Nat), .int .i64 (n : Nat), .slice A2 (n * n) c2], .int .i64 0]) ∧ w'.ownsRow w.heap.size 26 1 (.slice A2 (n * n) c2) (n * n) (nums .i64 (gridQ (diagQ l) n n)) ∧ Below w.heap.size w w' := by
  have hR : rightM 1 (n : Int) l = true := by
    unfold rightM
    rw [ho, hr.1]
    simp; omega
  have HK0 := Aside0.mk (Two.start w 25 #[.slice A n cap])
  have HR : Aside0 (∀ W, Two w 25 #[.slice A n cap] W → Calls Try.prog 10 #[.agg #[.int .i64 1, .int .i64 (n : Nat), .slice A n cap]] W fun e w' => e = .returned (.bool true) ∧ Below W.heap.size W w') := ⟨fun W h => hR ▸ right_any 1 (n : Int) A n cap l W (hr.below h.2.2)⟩
  have HM : Aside0 (∀ W, Two w 25 #[.slice A n cap] W → Calls Try.prog 11 #[.agg #[.int .i64 (n : Nat), .int .i64 (n : Nat)], .func (.func 12) #[] #[.pointer (some ⟨w.heap.size, 0, none⟩)]] W _) := ⟨fun W h => made_any 12 #[.pointer (some ⟨w.heap.size, 0, none⟩)] (diagQ l) (fun _ _ => false) n n W (by omega) (by omega) diag_enters (tell_diag w.heap.size n cap A l W ((h.1.cell 0).trans rfl) (hr.below h.2.2) (by omega))⟩
  have hgo : gridO (fun _ _ => false) n n = false := by simp [gridO, rowO]
  have hmf : ∀ (fn : Fn) (first cap : Array Value) (w : World), (Instr.makeFunc fn first cap).run Try.prog w = .ok (.func fn first cap) w := fun _ _ _ _ => rfl
  have hc0 : ((w.alloc (.cells #[.slice A n cap] 25)).alloc (.cells #[.int .i64 0, .int .i64 0, .slice none 0 0] 28)).cell? ⟨w.heap.size, 0, none⟩ = some (.slice A n cap) := (HK0.out.1.cell 0).trans rfl
  have b1 : decide ((n : Int) < 1) = false := decide_eq_false (by omega)
  have b2 : decide ((8 : Int) < (n : Int)) = false := decide_eq_false (by omega)
  have hu := Try.underlying28
  clear hR hr ho
  go_enter Try.func5, Try.ntmps5
  go_wp2_with (first
    | (go_at_call 10; refine (HR.out _ HK0.out).mono ?_; rintro e w1 ⟨rfl, hB⟩; have HK1 := Aside0.mk (HK0.out.below hB); clear hB hc0)
    | (go_at_call 11; refine (HM.out _ HK1.out).mono ?_; rintro e w2 ⟨v, rfl, hown, hB⟩; rw [hgo]; obtain ⟨A2, c2, rfl⟩ := own_slice hown; have HK2 := Aside0.mk ((HK1.out.below hB).alloc (.cells #[.int .i64 (n : Nat), .int .i64 (n : Nat), .slice A2 (n * n) c2] 28)); have HOW := Aside0.mk (own_less (own_alloc hown (.cells #[.int .i64 (n : Nat), .int .i64 (n : Nat), .slice A2 (n * n) c2] 28)) HK1.out.2.2.size); obtain ⟨z0, z1, z2, zf⟩ := HK2.out.facts; clear hB hown))
  have hne := HK2.out.2.1.not_row (by decide) HOW.out
  exact bodyPost_ret (results_diag _ _ (w.heap.size + 1) _ _ _ _ rfl rfl (put3 _ _ _ _ _ HK2.out.2.1)) rfl ⟨A2, c2, rfl, own3 HOW.out hne, below3 HK2.out.2.2 (by omega)⟩
end Go.Proofs.Ytomdneblpdpiiaa
