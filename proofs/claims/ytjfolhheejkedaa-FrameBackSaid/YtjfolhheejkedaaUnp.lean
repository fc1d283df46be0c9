import Derived.Test.YtjfolhheejkedaaPack
import Derived.Test.YtjfolhheejkedaaBytesW
import Derived.Deep.RegionHeld3
import Derived.Deep.DeepCutAuto
set_option linter.unusedVariables false
namespace Go.Proofs.Ytjfolhheejkedaa
open Go.RowKit Go.Shelf Go.Joins Go.Proofs.YtjfolhheejkedaaW.PrintWords Go.Proofs.YtjfolhheejkedaaW.PrintLast Go.Proofs.YtjfolhheejkedaaW.PrintMore

theorem results_c1 {P : Program} {fn : Func} {p : Tmp} {ty : TypeId} (h : fn.results = #[.cell p ty]) (tmps : Array Value) (w : World) (g : Nat) (t : TypeId) (cs : Array Value) (fr : Nat × Nat) (d : TypeDesc)
    (hp : tmps.getD p undef = .pointer (some ⟨g, 0, none⟩)) (hg : w.heap[g]? = some (.cells cs t fr))
    (hu : P.underlying ty = some d) (hd : (match d with | .struct _ | .array _ _ => true | _ => false) = true) (hi : (P.info? ty).map (·.size) = some cs.size) :
    (results fn tmps).run P w = .ok (.agg cs) w := by
  have hp' : tmps[p]?.getD undef = .pointer (some ⟨g, 0, none⟩) := by simpa using hp
  simp [results, h, hp', asAddr, run_loadVar_row w g t ty cs fr d hg hu hd hi]
theorem size46 : (Try.prog.info? 46).map (·.size) = some 3 := by kernel_rfl
theorem results_vec (tmps : Array Value) (w : World) (g : Nat) (x y z : Value) (hp : tmps.getD 3 undef = .pointer (some ⟨g, 0, none⟩)) (hg : w.heap[g]? = some (.cells #[x, y, z] 46 (0, 0))) :
    (results Try.f29 tmps).run Try.prog w = .ok (.agg #[x, y, z]) w :=
  results_c1 (P := Try.prog) (fn := Try.f29) rfl tmps w g 46 #[x, y, z] (0, 0) _ hp hg Try.underlying46 rfl size46
set_option maxHeartbeats 1000000 in
theorem vec_1 (B g n c : Nat) (x y z : Int) (w : World) (hb : w.cell? ⟨B, 0, none⟩ = some (.slice (some ⟨g, 0, none⟩) n c)) (hn : 3 < n) (h0 : w.cell? ⟨g, 1, none⟩ = some (.int .i64 x)) (h1 : w.cell? ⟨g, 2, none⟩ = some (.int .i64 y)) (h2 : w.cell? ⟨g, 3, none⟩ = some (.int .i64 z)) :
    Calls Try.prog 29 #[.int .i64 1, .pointer (some ⟨B, 0, none⟩)] w fun e w' => e = .returned (.agg #[.int .i64 x, .int .i64 y, .int .i64 z]) ∧ Below w.heap.size w w' := by
  have hu46 := Try.underlying46
  have HB := (Below.refl w.heap.size w).alloc (Nat.le_refl _) (.cells #[.int .i64 0, .int .i64 0, .int .i64 0] 46)
  have kb := pw_cell_below HB hb
  have k0 := pw_cell_below HB h0
  have k1 := pw_cell_below HB h1
  have k2 := pw_cell_below HB h2
  have kz : ∀ j, j < 3 → (w.alloc (.cells #[.int .i64 0, .int .i64 0, .int .i64 0] 46)).cell? ⟨w.heap.size, j, none⟩ = some (.int .i64 0) := fun j hj => by
    rw [blk_cell (heap_alloc_new w _)]
    obtain rfl | rfl | rfl : j = 0 ∨ j = 1 ∨ j = 2 := by omega
    all_goals rfl
  have kz0 := kz 0 (by decide)
  have kz1 := kz 1 (by decide)
  have kz2 := kz 2 (by decide)
  have kf0 := blk_frozen (heap_alloc_new w (.cells #[.int .i64 0, .int .i64 0, .int .i64 0] 46)) 0
  have hd1 : (1 : Int) < (n : Int) := by omega
  have hd2 : (2 : Int) < (n : Int) := by omega
  have hd3 : (3 : Int) < (n : Int) := by omega
  have HB' := Aside0.mk HB
  clear kz hb h0 h1 h2 HB hn
  go_enter Try.func29, Try.ntmps29
  go_wp2
  go_region
  go_wp2
  exact bodyPost_ret (results_vec _ _ w.heap.size _ _ _ rfl (heap_alloc_new w _)) rfl ⟨rfl, ((Below.refl _ _).alloc (Nat.le_refl _) _).drew⟩
set_option maxHeartbeats 1000000 in
theorem vec_4 (B g n c : Nat) (x y z : Int) (w : World) (hb : w.cell? ⟨B, 0, none⟩ = some (.slice (some ⟨g, 0, none⟩) n c)) (hn : 6 < n) (h0 : w.cell? ⟨g, 4, none⟩ = some (.int .i64 x)) (h1 : w.cell? ⟨g, 5, none⟩ = some (.int .i64 y)) (h2 : w.cell? ⟨g, 6, none⟩ = some (.int .i64 z)) :
    Calls Try.prog 29 #[.int .i64 4, .pointer (some ⟨B, 0, none⟩)] w fun e w' => e = .returned (.agg #[.int .i64 x, .int .i64 y, .int .i64 z]) ∧ Below w.heap.size w w' := by
  have hu46 := Try.underlying46
  have HB := (Below.refl w.heap.size w).alloc (Nat.le_refl _) (.cells #[.int .i64 0, .int .i64 0, .int .i64 0] 46)
  have kb := pw_cell_below HB hb
  have k0 := pw_cell_below HB h0
  have k1 := pw_cell_below HB h1
  have k2 := pw_cell_below HB h2
  have kz : ∀ j, j < 3 → (w.alloc (.cells #[.int .i64 0, .int .i64 0, .int .i64 0] 46)).cell? ⟨w.heap.size, j, none⟩ = some (.int .i64 0) := fun j hj => by
    rw [blk_cell (heap_alloc_new w _)]
    obtain rfl | rfl | rfl : j = 0 ∨ j = 1 ∨ j = 2 := by omega
    all_goals rfl
  have kz0 := kz 0 (by decide)
  have kz1 := kz 1 (by decide)
  have kz2 := kz 2 (by decide)
  have kf0 := blk_frozen (heap_alloc_new w (.cells #[.int .i64 0, .int .i64 0, .int .i64 0] 46)) 0
  have hd1 : (4 : Int) < (n : Int) := by omega
  have hd2 : (5 : Int) < (n : Int) := by omega
  have hd3 : (6 : Int) < (n : Int) := by omega
  have HB' := Aside0.mk HB
  clear kz hb h0 h1 h2 HB hn
  go_enter Try.func29, Try.ntmps29
  go_wp2
  go_region
  go_wp2
  exact bodyPost_ret (results_vec _ _ w.heap.size _ _ _ rfl (heap_alloc_new w _)) rfl ⟨rfl, ((Below.refl _ _).alloc (Nat.le_refl _) _).drew⟩
set_option maxHeartbeats 1000000 in
theorem vec_10 (B g n c : Nat) (x y z : Int) (w : World) (hb : w.cell? ⟨B, 0, none⟩ = some (.slice (some ⟨g, 0, none⟩) n c)) (hn : 12 < n) (h0 : w.cell? ⟨g, 10, none⟩ = some (.int .i64 x)) (h1 : w.cell? ⟨g, 11, none⟩ = some (.int .i64 y)) (h2 : w.cell? ⟨g, 12, none⟩ = some (.int .i64 z)) :
    Calls Try.prog 29 #[.int .i64 10, .pointer (some ⟨B, 0, none⟩)] w fun e w' => e = .returned (.agg #[.int .i64 x, .int .i64 y, .int .i64 z]) ∧ Below w.heap.size w w' := by
  have hu46 := Try.underlying46
  have HB := (Below.refl w.heap.size w).alloc (Nat.le_refl _) (.cells #[.int .i64 0, .int .i64 0, .int .i64 0] 46)
  have kb := pw_cell_below HB hb
  have k0 := pw_cell_below HB h0
  have k1 := pw_cell_below HB h1
  have k2 := pw_cell_below HB h2
  have kz : ∀ j, j < 3 → (w.alloc (.cells #[.int .i64 0, .int .i64 0, .int .i64 0] 46)).cell? ⟨w.heap.size, j, none⟩ = some (.int .i64 0) := fun j hj => by
    rw [blk_cell (heap_alloc_new w _)]
    obtain rfl | rfl | rfl : j = 0 ∨ j = 1 ∨ j = 2 := by omega
    all_goals rfl
  have kz0 := kz 0 (by decide)
  have kz1 := kz 1 (by decide)
  have kz2 := kz 2 (by decide)
  have kf0 := blk_frozen (heap_alloc_new w (.cells #[.int .i64 0, .int .i64 0, .int .i64 0] 46)) 0
  have hd1 : (10 : Int) < (n : Int) := by omega
  have hd2 : (11 : Int) < (n : Int) := by omega
  have hd3 : (12 : Int) < (n : Int) := by omega
  have HB' := Aside0.mk HB
  clear kz hb h0 h1 h2 HB hn
  go_enter Try.func29, Try.ntmps29
  go_wp2
  go_region
  go_wp2
  exact bodyPost_ret (results_vec _ _ w.heap.size _ _ _ rfl (heap_alloc_new w _)) rfl ⟨rfl, ((Below.refl _ _).alloc (Nat.le_refl _) _).drew⟩

/-- what stays while a sample is told of its words -/
def UI (w : World) (base g c : Nat) (m : Bool) (g0 g1 g2 a0 a1 a2 : Int) (hb : Bool) (b : Int) (hg : Bool) (n0 n1 n2 : Int) (W : World) : Prop :=
  Boxed W w.heap.size 22 (.slice (some ⟨g, 0, none⟩) 13 c) ∧ W.heap[w.heap.size + 1]? = some (.cells #[.bool false, .int .i64 0, .int .i64 0, .int .i64 0, .int .i64 0, .int .i64 0, .int .i64 0, .bool false, .int .i64 0, .bool false, .int .i64 0, .int .i64 0, .int .i64 0] 48 (0, 0)) ∧ W.ownsRow base 2 1 (.slice (some ⟨g, 0, none⟩) 13 c) 13 (nums .i64 (packF m g0 g1 g2 a0 a1 a2 hb b hg n0 n1 n2)) ∧ Below w.heap.size w W
theorem UI.size {w W : World} {base g c : Nat} {m : Bool} {g0 g1 g2 a0 a1 a2 : Int} {hb : Bool} {b : Int} {hg : Bool} {n0 n1 n2 : Int} (h : UI w base g c m g0 g1 g2 a0 a1 a2 hb b hg n0 n1 n2 W) : w.heap.size ≤ W.heap.size := h.2.2.2.size
theorem UI.below {w W W' : World} {base g c : Nat} {m : Bool} {g0 g1 g2 a0 a1 a2 : Int} {hb : Bool} {b : Int} {hg : Bool} {n0 n1 n2 : Int} (h : UI w base g c m g0 g1 g2 a0 a1 a2 hb b hg n0 n1 n2 W) (hB : Below W.heap.size W W') : UI w base g c m g0 g1 g2 a0 a1 a2 hb b hg n0 n1 n2 W' :=
  ⟨blk_below h.1 hB, blk_below h.2.1 hB, pw_own_below h.2.2.1 hB, h.2.2.2.trans (below_mono hB h.2.2.2.size)⟩
theorem UI.drew {w W : World} {base g c : Nat} {m : Bool} {g0 g1 g2 a0 a1 a2 : Int} {hb : Bool} {b : Int} {hg : Bool} {n0 n1 n2 : Int} (h : UI w base g c m g0 g1 g2 a0 a1 a2 hb b hg n0 n1 n2 W) : UI w base g c m g0 g1 g2 a0 a1 a2 hb b hg n0 n1 n2 W.drew := ⟨h.1, h.2.1, h.2.2.1, h.2.2.2.drew⟩
theorem UI.alloc {w W : World} {base g c : Nat} {m : Bool} {g0 g1 g2 a0 a1 a2 : Int} {hb : Bool} {b : Int} {hg : Bool} {n0 n1 n2 : Int} (h : UI w base g c m g0 g1 g2 a0 a1 a2 hb b hg n0 n1 n2 W) (o : Obj) : UI w base g c m g0 g1 g2 a0 a1 a2 hb b hg n0 n1 n2 (W.alloc o) := h.below ((Below.refl _ _).alloc (Nat.le_refl _) o)
theorem UI.cell {w W : World} {base g c : Nat} {m : Bool} {g0 g1 g2 a0 a1 a2 : Int} {hb : Bool} {b : Int} {hg : Bool} {n0 n1 n2 : Int} (h : UI w base g c m g0 g1 g2 a0 a1 a2 hb b hg n0 n1 n2 W) (j : Nat) (hj : j < 13) : W.cell? ⟨g, j, none⟩ = some (.int .i64 ((packF m g0 g1 g2 a0 a1 a2 hb b hg n0 n1 n2)[j]?.getD 0)) := own_cell_at h.2.2.1 j hj
theorem UI.all {w W : World} {base g c : Nat} {m : Bool} {g0 g1 g2 a0 a1 a2 : Int} {hb : Bool} {b : Int} {hg : Bool} {n0 n1 n2 : Int} (h : Aside0 (UI w base g c m g0 g1 g2 a0 a1 a2 hb b hg n0 n1 n2 W)) :
    W.cell? ⟨w.heap.size, 0, none⟩ = some (.slice (some ⟨g, 0, none⟩) 13 c) ∧ W.cell? ⟨g, 0, none⟩ = some (.int .i64 (bInt m)) ∧ W.cell? ⟨g, 7, none⟩ = some (.int .i64 (bInt hb)) ∧ W.cell? ⟨g, 8, none⟩ = some (.int .i64 b) ∧ W.cell? ⟨g, 9, none⟩ = some (.int .i64 (bInt hg)) ∧ Aside0 (UI w base g c m g0 g1 g2 a0 a1 a2 hb b hg n0 n1 n2 W) :=
  ⟨h.out.1.cell, h.out.cell 0 (by decide), h.out.cell 7 (by decide), h.out.cell 8 (by decide), h.out.cell 9 (by decide), h⟩
theorem UI.start {w : World} {base g c : Nat} {m : Bool} {g0 g1 g2 a0 a1 a2 : Int} {hb : Bool} {b : Int} {hg : Bool} {n0 n1 n2 : Int} (h : w.ownsRow base 2 1 (.slice (some ⟨g, 0, none⟩) 13 c) 13 (nums .i64 (packF m g0 g1 g2 a0 a1 a2 hb b hg n0 n1 n2))) :
    UI w base g c m g0 g1 g2 a0 a1 a2 hb b hg n0 n1 n2 ((w.alloc (.cells #[.slice (some ⟨g, 0, none⟩) 13 c] 22)).alloc (.cells #[.bool false, .int .i64 0, .int .i64 0, .int .i64 0, .int .i64 0, .int .i64 0, .int .i64 0, .bool false, .int .i64 0, .bool false, .int .i64 0, .int .i64 0, .int .i64 0] 48)) := by
  refine ⟨(Boxed.new w 22 _).alloc _, ?_, (h.alloc _).alloc _, ((Below.refl _ _).alloc (Nat.le_refl _) _).alloc (by simp) _⟩
  have := heap_alloc_new (w.alloc (.cells #[.slice (some ⟨g, 0, none⟩) 13 c] 22)) (.cells #[.bool false, .int .i64 0, .int .i64 0, .int .i64 0, .int .i64 0, .int .i64 0, .int .i64 0, .bool false, .int .i64 0, .bool false, .int .i64 0, .int .i64 0, .int .i64 0] 48)
  rwa [World.size_alloc] at this
theorem vec_gyro {w W : World} {base g c : Nat} {m : Bool} {g0 g1 g2 a0 a1 a2 : Int} {hb : Bool} {b : Int} {hg : Bool} {n0 n1 n2 : Int} (h : UI w base g c m g0 g1 g2 a0 a1 a2 hb b hg n0 n1 n2 W) :
    Calls Try.prog 29 #[.int .i64 1, .pointer (some ⟨w.heap.size, 0, none⟩)] W fun e w' => e = .returned (.agg #[.int .i64 g0, .int .i64 g1, .int .i64 g2]) ∧ Below W.heap.size W w' :=
  vec_1 w.heap.size g 13 c g0 g1 g2 _ h.1.cell (by decide) (h.cell 1 (by decide)) (h.cell 2 (by decide)) (h.cell 3 (by decide))
theorem vec_acc {w W : World} {base g c : Nat} {m : Bool} {g0 g1 g2 a0 a1 a2 : Int} {hb : Bool} {b : Int} {hg : Bool} {n0 n1 n2 : Int} (h : UI w base g c m g0 g1 g2 a0 a1 a2 hb b hg n0 n1 n2 W) :
    Calls Try.prog 29 #[.int .i64 4, .pointer (some ⟨w.heap.size, 0, none⟩)] W fun e w' => e = .returned (.agg #[.int .i64 a0, .int .i64 a1, .int .i64 a2]) ∧ Below W.heap.size W w' :=
  vec_4 w.heap.size g 13 c a0 a1 a2 _ h.1.cell (by decide) (h.cell 4 (by decide)) (h.cell 5 (by decide)) (h.cell 6 (by decide))
theorem vec_gnss {w W : World} {base g c : Nat} {m : Bool} {g0 g1 g2 a0 a1 a2 : Int} {hb : Bool} {b : Int} {hg : Bool} {n0 n1 n2 : Int} (h : UI w base g c m g0 g1 g2 a0 a1 a2 hb b hg n0 n1 n2 W) :
    Calls Try.prog 29 #[.int .i64 10, .pointer (some ⟨w.heap.size, 0, none⟩)] W fun e w' => e = .returned (.agg #[.int .i64 n0, .int .i64 n1, .int .i64 n2]) ∧ Below W.heap.size W w' :=
  vec_10 w.heap.size g 13 c n0 n1 n2 _ h.1.cell (by decide) (h.cell 10 (by decide)) (h.cell 11 (by decide)) (h.cell 12 (by decide))
def Zeroed (W : World) (p : Nat) : Prop := W.heap[p]? = some (.cells #[.bool false, .int .i64 0, .int .i64 0, .int .i64 0, .int .i64 0, .int .i64 0, .int .i64 0, .bool false, .int .i64 0, .bool false, .int .i64 0, .int .i64 0, .int .i64 0] 48 (0, 0))
theorem Zeroed.cells {W : World} {p : Nat} (h : Zeroed W p) : W.cell? ⟨p, 0, none⟩ = some (.bool false) ∧ W.cell? ⟨p, 1, none⟩ = some (.int .i64 0) ∧ W.cell? ⟨p, 2, none⟩ = some (.int .i64 0) ∧ W.cell? ⟨p, 3, none⟩ = some (.int .i64 0) ∧ W.cell? ⟨p, 4, none⟩ = some (.int .i64 0) ∧ W.cell? ⟨p, 5, none⟩ = some (.int .i64 0) ∧ W.cell? ⟨p, 6, none⟩ = some (.int .i64 0) ∧ W.cell? ⟨p, 7, none⟩ = some (.bool false) ∧ W.cell? ⟨p, 8, none⟩ = some (.int .i64 0) ∧ W.cell? ⟨p, 9, none⟩ = some (.bool false) ∧ W.cell? ⟨p, 10, none⟩ = some (.int .i64 0) ∧ W.cell? ⟨p, 11, none⟩ = some (.int .i64 0) ∧ W.cell? ⟨p, 12, none⟩ = some (.int .i64 0) ∧ ∀ j, W.frozen? ⟨p, j, none⟩ = false :=
  ⟨blk_cell h 0, blk_cell h 1, blk_cell h 2, blk_cell h 3, blk_cell h 4, blk_cell h 5, blk_cell h 6, blk_cell h 7, blk_cell h 8, blk_cell h 9, blk_cell h 10, blk_cell h 11, blk_cell h 12, blk_frozen h⟩
theorem Zeroed.new (W : World) : Zeroed (W.alloc (.cells #[.bool false, .int .i64 0, .int .i64 0, .int .i64 0, .int .i64 0, .int .i64 0, .int .i64 0, .bool false, .int .i64 0, .bool false, .int .i64 0, .int .i64 0, .int .i64 0] 48)) W.heap.size := heap_alloc_new W _
theorem Zeroed.stored {W : World} {p : Nat} (m : Bool) (g0 g1 g2 a0 a1 a2 : Int) (hb : Bool) (b : Int) (hg : Bool) (n0 n1 n2 : Int) (h : Zeroed W p) : Sampled (World.setCell (World.setCell (World.setCell (World.setCell (World.setCell (World.setCell (World.setCell (World.setCell (World.setCell (World.setCell (World.setCell (World.setCell (World.setCell W ⟨p, 0, none⟩ (.bool m)) ⟨p, 1, none⟩ (.int .i64 g0)) ⟨p, 2, none⟩ (.int .i64 g1)) ⟨p, 3, none⟩ (.int .i64 g2)) ⟨p, 4, none⟩ (.int .i64 a0)) ⟨p, 5, none⟩ (.int .i64 a1)) ⟨p, 6, none⟩ (.int .i64 a2)) ⟨p, 7, none⟩ (.bool hb)) ⟨p, 8, none⟩ (.int .i64 b)) ⟨p, 9, none⟩ (.bool hg)) ⟨p, 10, none⟩ (.int .i64 n0)) ⟨p, 11, none⟩ (.int .i64 n1)) ⟨p, 12, none⟩ (.int .i64 n2)) p m g0 g1 g2 a0 a1 a2 hb b hg n0 n1 n2 := by
  have h0_ := blk_put h 0 (.bool m) (show _ = #[.bool m, .int .i64 0, .int .i64 0, .int .i64 0, .int .i64 0, .int .i64 0, .int .i64 0, .bool false, .int .i64 0, .bool false, .int .i64 0, .int .i64 0, .int .i64 0] from rfl)
  have h1_ := blk_put h0_ 1 (.int .i64 g0) (show _ = #[.bool m, .int .i64 g0, .int .i64 0, .int .i64 0, .int .i64 0, .int .i64 0, .int .i64 0, .bool false, .int .i64 0, .bool false, .int .i64 0, .int .i64 0, .int .i64 0] from rfl)
  have h2_ := blk_put h1_ 2 (.int .i64 g1) (show _ = #[.bool m, .int .i64 g0, .int .i64 g1, .int .i64 0, .int .i64 0, .int .i64 0, .int .i64 0, .bool false, .int .i64 0, .bool false, .int .i64 0, .int .i64 0, .int .i64 0] from rfl)
  have h3_ := blk_put h2_ 3 (.int .i64 g2) (show _ = #[.bool m, .int .i64 g0, .int .i64 g1, .int .i64 g2, .int .i64 0, .int .i64 0, .int .i64 0, .bool false, .int .i64 0, .bool false, .int .i64 0, .int .i64 0, .int .i64 0] from rfl)
  have h4_ := blk_put h3_ 4 (.int .i64 a0) (show _ = #[.bool m, .int .i64 g0, .int .i64 g1, .int .i64 g2, .int .i64 a0, .int .i64 0, .int .i64 0, .bool false, .int .i64 0, .bool false, .int .i64 0, .int .i64 0, .int .i64 0] from rfl)
  have h5_ := blk_put h4_ 5 (.int .i64 a1) (show _ = #[.bool m, .int .i64 g0, .int .i64 g1, .int .i64 g2, .int .i64 a0, .int .i64 a1, .int .i64 0, .bool false, .int .i64 0, .bool false, .int .i64 0, .int .i64 0, .int .i64 0] from rfl)
  have h6_ := blk_put h5_ 6 (.int .i64 a2) (show _ = #[.bool m, .int .i64 g0, .int .i64 g1, .int .i64 g2, .int .i64 a0, .int .i64 a1, .int .i64 a2, .bool false, .int .i64 0, .bool false, .int .i64 0, .int .i64 0, .int .i64 0] from rfl)
  have h7_ := blk_put h6_ 7 (.bool hb) (show _ = #[.bool m, .int .i64 g0, .int .i64 g1, .int .i64 g2, .int .i64 a0, .int .i64 a1, .int .i64 a2, .bool hb, .int .i64 0, .bool false, .int .i64 0, .int .i64 0, .int .i64 0] from rfl)
  have h8_ := blk_put h7_ 8 (.int .i64 b) (show _ = #[.bool m, .int .i64 g0, .int .i64 g1, .int .i64 g2, .int .i64 a0, .int .i64 a1, .int .i64 a2, .bool hb, .int .i64 b, .bool false, .int .i64 0, .int .i64 0, .int .i64 0] from rfl)
  have h9_ := blk_put h8_ 9 (.bool hg) (show _ = #[.bool m, .int .i64 g0, .int .i64 g1, .int .i64 g2, .int .i64 a0, .int .i64 a1, .int .i64 a2, .bool hb, .int .i64 b, .bool hg, .int .i64 0, .int .i64 0, .int .i64 0] from rfl)
  have h10_ := blk_put h9_ 10 (.int .i64 n0) (show _ = #[.bool m, .int .i64 g0, .int .i64 g1, .int .i64 g2, .int .i64 a0, .int .i64 a1, .int .i64 a2, .bool hb, .int .i64 b, .bool hg, .int .i64 n0, .int .i64 0, .int .i64 0] from rfl)
  have h11_ := blk_put h10_ 11 (.int .i64 n1) (show _ = #[.bool m, .int .i64 g0, .int .i64 g1, .int .i64 g2, .int .i64 a0, .int .i64 a1, .int .i64 a2, .bool hb, .int .i64 b, .bool hg, .int .i64 n0, .int .i64 n1, .int .i64 0] from rfl)
  have h12_ := blk_put h11_ 12 (.int .i64 n2) (show _ = #[.bool m, .int .i64 g0, .int .i64 g1, .int .i64 g2, .int .i64 a0, .int .i64 a1, .int .i64 a2, .bool hb, .int .i64 b, .bool hg, .int .i64 n0, .int .i64 n1, .int .i64 n2] from rfl)
  exact h12_
theorem UI.set {w W : World} {base g c p : Nat} {m : Bool} {g0 g1 g2 a0 a1 a2 : Int} {hb : Bool} {b : Int} {hg : Bool} {n0 n1 n2 : Int} (h : UI w base g c m g0 g1 g2 a0 a1 a2 hb b hg n0 n1 n2 W) (hp : w.heap.size + 1 < p) (hg' : p ≠ g) (i : Nat) (v : Value) : UI w base g c m g0 g1 g2 a0 a1 a2 hb b hg n0 n1 n2 (W.setCell ⟨p, i, none⟩ v) :=
  ⟨(Below.heap_setCell W ⟨p, i, none⟩ v w.heap.size (fun e => by have e' : w.heap.size = p := e; omega)).trans h.1, blk_far h.2.1 (p := ⟨p, i, none⟩) (by show w.heap.size + 1 ≠ p; omega) v, own_setCell (p := ⟨p, i, none⟩) h.2.2.1 (fun e => by injection e with e; exact hg' e) v, h.2.2.2.setCell (p := ⟨p, i, none⟩) (by show w.heap.size ≤ p; omega) v⟩
theorem UI.stored {w W : World} {base g c p : Nat} (m : Bool) (g0 g1 g2 a0 a1 a2 : Int) (hb : Bool) (b : Int) (hg : Bool) (n0 n1 n2 : Int) (h : UI w base g c m g0 g1 g2 a0 a1 a2 hb b hg n0 n1 n2 W) (hp : w.heap.size + 1 < p) (hz : Zeroed W p) : UI w base g c m g0 g1 g2 a0 a1 a2 hb b hg n0 n1 n2 (World.setCell (World.setCell (World.setCell (World.setCell (World.setCell (World.setCell (World.setCell (World.setCell (World.setCell (World.setCell (World.setCell (World.setCell (World.setCell W ⟨p, 0, none⟩ (.bool m)) ⟨p, 1, none⟩ (.int .i64 g0)) ⟨p, 2, none⟩ (.int .i64 g1)) ⟨p, 3, none⟩ (.int .i64 g2)) ⟨p, 4, none⟩ (.int .i64 a0)) ⟨p, 5, none⟩ (.int .i64 a1)) ⟨p, 6, none⟩ (.int .i64 a2)) ⟨p, 7, none⟩ (.bool hb)) ⟨p, 8, none⟩ (.int .i64 b)) ⟨p, 9, none⟩ (.bool hg)) ⟨p, 10, none⟩ (.int .i64 n0)) ⟨p, 11, none⟩ (.int .i64 n1)) ⟨p, 12, none⟩ (.int .i64 n2)) := by
  have hpg : p ≠ g := fun e => by
    subst e
    exact own_ne h.2.2.1 hz (by decide) rfl
  exact (UI.set (UI.set (UI.set (UI.set (UI.set (UI.set (UI.set (UI.set (UI.set (UI.set (UI.set (UI.set (UI.set h hp hpg _ _) hp hpg _ _) hp hpg _ _) hp hpg _ _) hp hpg _ _) hp hpg _ _) hp hpg _ _) hp hpg _ _) hp hpg _ _) hp hpg _ _) hp hpg _ _) hp hpg _ _) hp hpg _ _)
theorem zeroed_start {w w' : World} {o o' : Obj} (hB : Below ((((w.alloc o).alloc o').alloc (.cells #[.bool false, .int .i64 0, .int .i64 0, .int .i64 0, .int .i64 0, .int .i64 0, .int .i64 0, .bool false, .int .i64 0, .bool false, .int .i64 0, .int .i64 0, .int .i64 0] 48)).drew).heap.size ((((w.alloc o).alloc o').alloc (.cells #[.bool false, .int .i64 0, .int .i64 0, .int .i64 0, .int .i64 0, .int .i64 0, .int .i64 0, .bool false, .int .i64 0, .bool false, .int .i64 0, .int .i64 0, .int .i64 0] 48)).drew) w') : Zeroed w' (w.heap.size + 1 + 1) := by
  have hn : Zeroed w' ((w.alloc o).alloc o').heap.size := blk_below (w := (((w.alloc o).alloc o').alloc (.cells #[.bool false, .int .i64 0, .int .i64 0, .int .i64 0, .int .i64 0, .int .i64 0, .int .i64 0, .bool false, .int .i64 0, .bool false, .int .i64 0, .int .i64 0, .int .i64 0] 48)).drew) (Zeroed.new _) hB
  simpa only [World.size_alloc] using hn
theorem su_all {w W : World} {base g c p : Nat} {m : Bool} {g0 g1 g2 a0 a1 a2 : Int} {hb : Bool} {b : Int} {hg : Bool} {n0 n1 n2 : Int} (h : Aside0 (Sampled W p m g0 g1 g2 a0 a1 a2 hb b hg n0 n1 n2 ∧ UI w base g c m g0 g1 g2 a0 a1 a2 hb b hg n0 n1 n2 W)) : W.cell? ⟨p, 0, none⟩ = some (.bool m) ∧ W.cell? ⟨p, 1, none⟩ = some (.int .i64 g0) ∧ W.cell? ⟨p, 2, none⟩ = some (.int .i64 g1) ∧ W.cell? ⟨p, 3, none⟩ = some (.int .i64 g2) ∧ W.cell? ⟨p, 4, none⟩ = some (.int .i64 a0) ∧ W.cell? ⟨p, 5, none⟩ = some (.int .i64 a1) ∧ W.cell? ⟨p, 6, none⟩ = some (.int .i64 a2) ∧ W.cell? ⟨p, 7, none⟩ = some (.bool hb) ∧ W.cell? ⟨p, 8, none⟩ = some (.int .i64 b) ∧ W.cell? ⟨p, 9, none⟩ = some (.bool hg) ∧ W.cell? ⟨p, 10, none⟩ = some (.int .i64 n0) ∧ W.cell? ⟨p, 11, none⟩ = some (.int .i64 n1) ∧ W.cell? ⟨p, 12, none⟩ = some (.int .i64 n2) ∧ W.cell? ⟨w.heap.size, 0, none⟩ = some (.slice (some ⟨g, 0, none⟩) 13 c) ∧ Aside0 (Sampled W p m g0 g1 g2 a0 a1 a2 hb b hg n0 n1 n2 ∧ UI w base g c m g0 g1 g2 a0 a1 a2 hb b hg n0 n1 n2 W) :=
  ⟨blk_cell h.out.1 0, blk_cell h.out.1 1, blk_cell h.out.1 2, blk_cell h.out.1 3, blk_cell h.out.1 4, blk_cell h.out.1 5, blk_cell h.out.1 6, blk_cell h.out.1 7, blk_cell h.out.1 8, blk_cell h.out.1 9, blk_cell h.out.1 10, blk_cell h.out.1 11, blk_cell h.out.1 12, h.out.2.1.cell, h⟩
theorem su_below {w W W' : World} {base g c p : Nat} {m : Bool} {g0 g1 g2 a0 a1 a2 : Int} {hb : Bool} {b : Int} {hg : Bool} {n0 n1 n2 : Int} (h : Sampled W p m g0 g1 g2 a0 a1 a2 hb b hg n0 n1 n2 ∧ UI w base g c m g0 g1 g2 a0 a1 a2 hb b hg n0 n1 n2 W) (hB : Below W.heap.size W W') : Sampled W' p m g0 g1 g2 a0 a1 a2 hb b hg n0 n1 n2 ∧ UI w base g c m g0 g1 g2 a0 a1 a2 hb b hg n0 n1 n2 W' :=
  ⟨blk_below h.1 hB, h.2.below hB⟩
theorem equal_any (A0 : Option Addr) (c0 n0 : Nat) (l0 : List Int) (A1 : Option Addr) (c1 n1 : Nat) (l1 : List Int) (w : World) (h0 : l0.length = n0) (h1 : l1.length = n1) (hm : n0 ≤ 1152921504606846976)
    (hr0 : ReadsInt w .i64 A0 n0 l0) (hc0 : n0 ≤ c0) (hr1 : ReadsInt w .i64 A1 n1 l1) (hc1 : n1 ≤ c1) :
    Calls Try.prog 28 #[.slice A0 n0 c0, .slice A1 n1 c1] w fun e w' => e = .returned (.bool (decide (l0 = l1))) ∧ Below w.heap.size w w' := by
  subst h0
  subst h1
  refine (Ref.slices_Equal_int64_int64.calls (l0.length + 1) A0 c0 l0 A1 c1 l1 _ w (Kd.C_of_reads (d := 0) hr0) hc0 (Kd.C_of_reads (d := 0) hr1) hc1 (equal_f l0 l1 hm)).mono ?_
  rintro e w' ⟨rfl, hB⟩
  exact ⟨rfl, by first | exact hB | exact hB.below | (obtain ⟨n, rfl⟩ := hB; exact pw_below_drewN (Below.refl _ _) n)⟩
theorem cut_new {w W : World} {base g c : Nat} {m : Bool} {g0 g1 g2 a0 a1 a2 : Int} {hb : Bool} {b : Int} {hg : Bool} {n0 n1 n2 : Int} (h : Aside0 (UI w base g c m g0 g1 g2 a0 a1 a2 hb b hg n0 n1 n2 W)) : ∃ p : Nat, Value.pointer (some ⟨W.heap.size, 0, none⟩) = Value.pointer (some ⟨p, 0, none⟩) ∧ Aside0 (Sampled (W.alloc (.cells #[.bool m, .int .i64 g0, .int .i64 g1, .int .i64 g2, .int .i64 a0, .int .i64 a1, .int .i64 a2, .bool hb, .int .i64 b, .bool hg, .int .i64 n0, .int .i64 n1, .int .i64 n2] 48)) p m g0 g1 g2 a0 a1 a2 hb b hg n0 n1 n2) ∧ Aside0 (UI w base g c m g0 g1 g2 a0 a1 a2 hb b hg n0 n1 n2 (W.alloc (.cells #[.bool m, .int .i64 g0, .int .i64 g1, .int .i64 g2, .int .i64 a0, .int .i64 a1, .int .i64 a2, .bool hb, .int .i64 b, .bool hg, .int .i64 n0, .int .i64 n1, .int .i64 n2] 48))) :=
  ⟨_, rfl, ⟨heap_alloc_new _ _⟩, ⟨h.out.alloc _⟩⟩
theorem cut_stored {w W : World} {base g c p : Nat} {m : Bool} {g0 g1 g2 a0 a1 a2 : Int} {hb : Bool} {b : Int} {hg : Bool} {n0 n1 n2 : Int} (h : Aside0 (UI w base g c m g0 g1 g2 a0 a1 a2 hb b hg n0 n1 n2 W)) (hp : Aside0 (w.heap.size + 1 < p)) (hz : Aside0 (Zeroed W p)) : ∃ p' : Nat, Value.pointer (some ⟨p, 0, none⟩) = Value.pointer (some ⟨p', 0, none⟩) ∧ Aside0 (Sampled (World.setCell (World.setCell (World.setCell (World.setCell (World.setCell (World.setCell (World.setCell (World.setCell (World.setCell (World.setCell (World.setCell (World.setCell (World.setCell W ⟨p, 0, none⟩ (.bool m)) ⟨p, 1, none⟩ (.int .i64 g0)) ⟨p, 2, none⟩ (.int .i64 g1)) ⟨p, 3, none⟩ (.int .i64 g2)) ⟨p, 4, none⟩ (.int .i64 a0)) ⟨p, 5, none⟩ (.int .i64 a1)) ⟨p, 6, none⟩ (.int .i64 a2)) ⟨p, 7, none⟩ (.bool hb)) ⟨p, 8, none⟩ (.int .i64 b)) ⟨p, 9, none⟩ (.bool hg)) ⟨p, 10, none⟩ (.int .i64 n0)) ⟨p, 11, none⟩ (.int .i64 n1)) ⟨p, 12, none⟩ (.int .i64 n2)) p' m g0 g1 g2 a0 a1 a2 hb b hg n0 n1 n2) ∧ Aside0 (UI w base g c m g0 g1 g2 a0 a1 a2 hb b hg n0 n1 n2 (World.setCell (World.setCell (World.setCell (World.setCell (World.setCell (World.setCell (World.setCell (World.setCell (World.setCell (World.setCell (World.setCell (World.setCell (World.setCell W ⟨p, 0, none⟩ (.bool m)) ⟨p, 1, none⟩ (.int .i64 g0)) ⟨p, 2, none⟩ (.int .i64 g1)) ⟨p, 3, none⟩ (.int .i64 g2)) ⟨p, 4, none⟩ (.int .i64 a0)) ⟨p, 5, none⟩ (.int .i64 a1)) ⟨p, 6, none⟩ (.int .i64 a2)) ⟨p, 7, none⟩ (.bool hb)) ⟨p, 8, none⟩ (.int .i64 b)) ⟨p, 9, none⟩ (.bool hg)) ⟨p, 10, none⟩ (.int .i64 n0)) ⟨p, 11, none⟩ (.int .i64 n1)) ⟨p, 12, none⟩ (.int .i64 n2))) :=
  ⟨p, rfl, ⟨Zeroed.stored m g0 g1 g2 a0 a1 a2 hb b hg n0 n1 n2 hz.out⟩, ⟨UI.stored m g0 g1 g2 a0 a1 a2 hb b hg n0 n1 n2 h.out hp.out hz.out⟩⟩
theorem below_stored {w W : World} {B p : Nat} (m : Bool) (g0 g1 g2 a0 a1 a2 : Int) (hb : Bool) (b : Int) (hg : Bool) (n0 n1 n2 : Int) (h : Below B w W) (hp : B ≤ p) : Below B w (World.setCell (World.setCell (World.setCell (World.setCell (World.setCell (World.setCell (World.setCell (World.setCell (World.setCell (World.setCell (World.setCell (World.setCell (World.setCell W ⟨p, 0, none⟩ (.bool m)) ⟨p, 1, none⟩ (.int .i64 g0)) ⟨p, 2, none⟩ (.int .i64 g1)) ⟨p, 3, none⟩ (.int .i64 g2)) ⟨p, 4, none⟩ (.int .i64 a0)) ⟨p, 5, none⟩ (.int .i64 a1)) ⟨p, 6, none⟩ (.int .i64 a2)) ⟨p, 7, none⟩ (.bool hb)) ⟨p, 8, none⟩ (.int .i64 b)) ⟨p, 9, none⟩ (.bool hg)) ⟨p, 10, none⟩ (.int .i64 n0)) ⟨p, 11, none⟩ (.int .i64 n1)) ⟨p, 12, none⟩ (.int .i64 n2)) :=
  (Below.setCell (p := ⟨p, 12, none⟩) (Below.setCell (p := ⟨p, 11, none⟩) (Below.setCell (p := ⟨p, 10, none⟩) (Below.setCell (p := ⟨p, 9, none⟩) (Below.setCell (p := ⟨p, 8, none⟩) (Below.setCell (p := ⟨p, 7, none⟩) (Below.setCell (p := ⟨p, 6, none⟩) (Below.setCell (p := ⟨p, 5, none⟩) (Below.setCell (p := ⟨p, 4, none⟩) (Below.setCell (p := ⟨p, 3, none⟩) (Below.setCell (p := ⟨p, 2, none⟩) (Below.setCell (p := ⟨p, 1, none⟩) (Below.setCell (p := ⟨p, 0, none⟩) h hp _) hp _) hp _) hp _) hp _) hp _) hp _) hp _) hp _) hp _) hp _) hp _) hp _)
theorem size48 : (Try.prog.info? 48).map (·.size) = some 13 := by kernel_rfl
theorem results_unp (tmps : Array Value) (w : World) (g : Nat) (m : Bool) (g0 g1 g2 a0 a1 a2 : Int) (hb : Bool) (b : Int) (hg : Bool) (n0 n1 n2 : Int) (e : Value) (hp : tmps.getD 2 undef = .pointer (some ⟨g, 0, none⟩)) (he : tmps.getD 3 undef = e) (hS : Sampled w g m g0 g1 g2 a0 a1 a2 hb b hg n0 n1 n2) :
    (results Try.f19 tmps).run Try.prog w = .ok (.tuple #[.agg #[.bool m, .int .i64 g0, .int .i64 g1, .int .i64 g2, .int .i64 a0, .int .i64 a1, .int .i64 a2, .bool hb, .int .i64 b, .bool hg, .int .i64 n0, .int .i64 n1, .int .i64 n2], e]) w := by
  rw [results_ct (P := Try.prog) (fn := Try.f19) rfl tmps w g 48 _ (0, 0) _ hp hS Try.underlying48 rfl size48, he]
theorem bInt_one (b : Bool) : (bInt b == 1) = b := by cases b <;> rfl
theorem zero48 : (Try.prog.info? 48).map (·.zero) = some (some (.agg #[.bool false, .int .i64 0, .int .i64 0, .int .i64 0, .int .i64 0, .int .i64 0, .int .i64 0, .bool false, .int .i64 0, .bool false, .int .i64 0, .int .i64 0, .int .i64 0])) := by kernel_rfl
set_option maxRecDepth 100000 in
set_option maxHeartbeats 12000000 in
theorem unpack_any (base g c : Nat) (m : Bool) (g0 g1 g2 a0 a1 a2 : Int) (hb : Bool) (b : Int) (hg : Bool) (n0 n1 n2 : Int) (w : World) (h : w.ownsRow base 2 1 (.slice (some ⟨g, 0, none⟩) 13 c) 13 (nums .i64 (packF m g0 g1 g2 a0 a1 a2 hb b hg n0 n1 n2))) :
    Calls Try.prog 19 #[.slice (some ⟨g, 0, none⟩) 13 c] w fun e w' => e = .returned (.tuple #[.agg #[.bool m, .int .i64 g0, .int .i64 g1, .int .i64 g2, .int .i64 a0, .int .i64 a1, .int .i64 a2, .bool hb, .int .i64 b, .bool hg, .int .i64 n0, .int .i64 n1, .int .i64 n2], .int .i64 0]) ∧ Below w.heap.size w w' := by
  have HU0 := Aside0.mk (UI.start h)
  have hc0 := HU0.out.1.cell
  have hu46 := Try.underlying46
  have hu48 := Try.underlying48
  have hmf : ∀ (fn : Fn) (first cap : Array Value) (w : World), (Instr.makeFunc fn first cap).run Try.prog w = .ok (.func fn first cap) w := fun _ _ _ _ => rfl
  have hb1 := bInt_one m
  have hb2 := bInt_one hb
  have hb3 := bInt_one hg
  clear h
  go_enter Try.func19, Try.ntmps19
  go_wp2
  go_upto_region 4 with fail
  go_cut [5] (fun s5 wx => ∃ p : Nat, s5 = .pointer (some ⟨p, 0, none⟩) ∧ Aside0 (Sampled wx p m g0 g1 g2 a0 a1 a2 hb b hg n0 n1 n2) ∧ Aside0 (UI w base g c m g0 g1 g2 a0 a1 a2 hb b hg n0 n1 n2 wx))
  case first =>
    have HKN := Aside0.mk HU0.out.drew
    go_region_held3 (fun W => W.cell? ⟨w.heap.size, 0, none⟩ = some (.slice (some ⟨g, 0, none⟩) 13 c) ∧ W.cell? ⟨g, 0, none⟩ = some (.int .i64 (bInt m)) ∧ W.cell? ⟨g, 7, none⟩ = some (.int .i64 (bInt hb)) ∧ W.cell? ⟨g, 8, none⟩ = some (.int .i64 b) ∧ W.cell? ⟨g, 9, none⟩ = some (.int .i64 (bInt hg)) ∧ Aside0 (UI w base g c m g0 g1 g2 a0 a1 a2 hb b hg n0 n1 n2 W)) (first | with_reducible exact UI.all HKN | with_reducible exact UI.all ⟨HKN.out.alloc _⟩ | with_reducible exact UI.all ⟨(HU0.out.alloc _).drew⟩ | exact UI.all ⟨UI.stored _ _ _ _ _ _ _ _ _ _ _ _ _ HKN.out HPP.out HA.out⟩)
      (first
        | (go_at_call 29; (with_reducible refine (vec_gyro HKN.out).mono ?_); rintro e w' ⟨rfl, hB⟩; have HA' := Aside0.mk (show Zeroed w' _ from blk_below HA.out hB); have HKN' := Aside0.mk (HKN.out.below hB); clear z0 z1 z2 z3 z4 z5 z6 z7 z8 z9 z10 z11 z12 zf HKN HA; have HA := HA'; have HKN := HKN'; clear HA' HKN'; obtain ⟨z0, z1, z2, z3, z4, z5, z6, z7, z8, z9, z10, z11, z12, zf⟩ := HA.out.cells; clear hB)
        | (go_at_call 29; (with_reducible refine (vec_acc HKN.out).mono ?_); rintro e w' ⟨rfl, hB⟩; have HA' := Aside0.mk (show Zeroed w' _ from blk_below HA.out hB); have HKN' := Aside0.mk (HKN.out.below hB); clear z0 z1 z2 z3 z4 z5 z6 z7 z8 z9 z10 z11 z12 zf HKN HA; have HA := HA'; have HKN := HKN'; clear HA' HKN'; obtain ⟨z0, z1, z2, z3, z4, z5, z6, z7, z8, z9, z10, z11, z12, zf⟩ := HA.out.cells; clear hB)
        | (go_at_call 29; (with_reducible refine (vec_gnss HKN.out).mono ?_); rintro e w' ⟨rfl, hB⟩; have HA' := Aside0.mk (show Zeroed w' _ from blk_below HA.out hB); have HKN' := Aside0.mk (HKN.out.below hB); clear z0 z1 z2 z3 z4 z5 z6 z7 z8 z9 z10 z11 z12 zf HKN HA; have HA := HA'; have HKN := HKN'; clear HA' HKN'; obtain ⟨z0, z1, z2, z3, z4, z5, z6, z7, z8, z9, z10, z11, z12, zf⟩ := HA.out.cells; clear hB)
        | (go_at_call 29; (with_reducible refine (vec_gyro HKN.out).mono ?_); rintro e w' ⟨rfl, hB⟩; have HKN' := Aside0.mk (HKN.out.below hB); clear HKN; have HKN := HKN'; clear HKN' hB)
        | (go_at_call 29; (with_reducible refine (vec_acc HKN.out).mono ?_); rintro e w' ⟨rfl, hB⟩; have HKN' := Aside0.mk (HKN.out.below hB); clear HKN; have HKN := HKN'; clear HKN' hB)
        | (go_at_call 29; (with_reducible refine (vec_gnss HKN.out).mono ?_); rintro e w' ⟨rfl, hB⟩; have HKN' := Aside0.mk (HKN.out.below hB); clear HKN; have HKN := HKN'; clear HKN' hB)
        | (go_at_call 29; (with_reducible refine (vec_gyro (HKN.out.alloc _)).mono ?_); rintro e w' ⟨rfl, hB⟩; have HA := Aside0.mk (show Zeroed w' _ from blk_below (Zeroed.new _) hB); have HPP := Aside0.mk (blk_lt HKN.out.2.1); have HKN' := Aside0.mk ((HKN.out.alloc _).below hB); clear HKN; have HKN := HKN'; clear HKN'; obtain ⟨z0, z1, z2, z3, z4, z5, z6, z7, z8, z9, z10, z11, z12, zf⟩ := HA.out.cells; clear hB)
        | (go_at_call 29; (with_reducible refine (vec_acc (HKN.out.alloc _)).mono ?_); rintro e w' ⟨rfl, hB⟩; have HA := Aside0.mk (show Zeroed w' _ from blk_below (Zeroed.new _) hB); have HPP := Aside0.mk (blk_lt HKN.out.2.1); have HKN' := Aside0.mk ((HKN.out.alloc _).below hB); clear HKN; have HKN := HKN'; clear HKN'; obtain ⟨z0, z1, z2, z3, z4, z5, z6, z7, z8, z9, z10, z11, z12, zf⟩ := HA.out.cells; clear hB)
        | (go_at_call 29; (with_reducible refine (vec_gnss (HKN.out.alloc _)).mono ?_); rintro e w' ⟨rfl, hB⟩; have HA := Aside0.mk (show Zeroed w' _ from blk_below (Zeroed.new _) hB); have HPP := Aside0.mk (blk_lt HKN.out.2.1); have HKN' := Aside0.mk ((HKN.out.alloc _).below hB); clear HKN; have HKN := HKN'; clear HKN'; obtain ⟨z0, z1, z2, z3, z4, z5, z6, z7, z8, z9, z10, z11, z12, zf⟩ := HA.out.cells; clear hB)
        | (go_at_call 29; (with_reducible refine (vec_gyro ((HU0.out.alloc _).drew)).mono ?_); rintro e w' ⟨rfl, hB⟩; have HA := Aside0.mk (zeroed_start hB); have HPP : Aside0 (w.heap.size + 1 < w.heap.size + 1 + 1) := ⟨by omega⟩; have HKN' := Aside0.mk ((HU0.out.alloc _).drew.below hB); clear HKN; have HKN := HKN'; clear HKN'; obtain ⟨z0, z1, z2, z3, z4, z5, z6, z7, z8, z9, z10, z11, z12, zf⟩ := HA.out.cells; clear hB)
        | (go_at_call 29; (with_reducible refine (vec_acc ((HU0.out.alloc _).drew)).mono ?_); rintro e w' ⟨rfl, hB⟩; have HA := Aside0.mk (zeroed_start hB); have HPP : Aside0 (w.heap.size + 1 < w.heap.size + 1 + 1) := ⟨by omega⟩; have HKN' := Aside0.mk ((HU0.out.alloc _).drew.below hB); clear HKN; have HKN := HKN'; clear HKN'; obtain ⟨z0, z1, z2, z3, z4, z5, z6, z7, z8, z9, z10, z11, z12, zf⟩ := HA.out.cells; clear hB)
        | (go_at_call 29; (with_reducible refine (vec_gnss ((HU0.out.alloc _).drew)).mono ?_); rintro e w' ⟨rfl, hB⟩; have HA := Aside0.mk (zeroed_start hB); have HPP : Aside0 (w.heap.size + 1 < w.heap.size + 1 + 1) := ⟨by omega⟩; have HKN' := Aside0.mk ((HU0.out.alloc _).drew.below hB); clear HKN; have HKN := HKN'; clear HKN'; obtain ⟨z0, z1, z2, z3, z4, z5, z6, z7, z8, z9, z10, z11, z12, zf⟩ := HA.out.cells; clear hB))
    all_goals
      go_wp2_with fail
      go_meet
      first
        | with_reducible exact cut_new HKN
        | with_reducible exact cut_stored HKN HPP HA
  case rest =>
    obtain ⟨p, rfl, HS5, HU5⟩ := hcut
    clear HU0 hc0
    have HSU : Aside0 (Sampled wc.drew p m g0 g1 g2 a0 a1 a2 hb b hg n0 n1 n2 ∧ UI w base g c m g0 g1 g2 a0 a1 a2 hb b hg n0 n1 n2 wc.drew) := ⟨HS5.out, HU5.out.drew⟩
    go_wp2
    go_region_held3 (fun W => W.cell? ⟨p, 0, none⟩ = some (.bool m) ∧ W.cell? ⟨p, 1, none⟩ = some (.int .i64 g0) ∧ W.cell? ⟨p, 2, none⟩ = some (.int .i64 g1) ∧ W.cell? ⟨p, 3, none⟩ = some (.int .i64 g2) ∧ W.cell? ⟨p, 4, none⟩ = some (.int .i64 a0) ∧ W.cell? ⟨p, 5, none⟩ = some (.int .i64 a1) ∧ W.cell? ⟨p, 6, none⟩ = some (.int .i64 a2) ∧ W.cell? ⟨p, 7, none⟩ = some (.bool hb) ∧ W.cell? ⟨p, 8, none⟩ = some (.int .i64 b) ∧ W.cell? ⟨p, 9, none⟩ = some (.bool hg) ∧ W.cell? ⟨p, 10, none⟩ = some (.int .i64 n0) ∧ W.cell? ⟨p, 11, none⟩ = some (.int .i64 n1) ∧ W.cell? ⟨p, 12, none⟩ = some (.int .i64 n2) ∧ W.cell? ⟨w.heap.size, 0, none⟩ = some (.slice (some ⟨g, 0, none⟩) 13 c) ∧ Aside0 (Sampled W p m g0 g1 g2 a0 a1 a2 hb b hg n0 n1 n2 ∧ UI w base g c m g0 g1 g2 a0 a1 a2 hb b hg n0 n1 n2 W)) (first | with_reducible exact su_all HSU)
      (first
        | (go_at_call 20; (with_reducible refine (pack_any m g0 g1 g2 a0 a1 a2 hb b hg n0 n1 n2 _).mono ?_); rintro e w' ⟨A1, c1, rfl, ho, hB⟩; have HPK := Aside0.mk ho; have HSN := Aside0.mk (su_below HSU.out hB); clear HSU; have HSU := HSN; clear HSN ho hB)
        | (go_at_call 28; refine (equal_any A1 c1 13 (packF m g0 g1 g2 a0 a1 a2 hb b hg n0 n1 n2) (some ⟨g, 0, none⟩) c 13 (packF m g0 g1 g2 a0 a1 a2 hb b hg n0 n1 n2) _ rfl rfl (by decide) (own_reads' HPK.out) (own_cap HPK.out) (own_reads' HSU.out.2.2.2.1) (own_cap HSU.out.2.2.2.1)).mono ?_; rintro e w' ⟨rfl, hB⟩; rw [decide_eq_true rfl]; have HSN := Aside0.mk (su_below HSU.out hB); clear HSU; have HSU := HSN; clear HSN hB))
    obtain ⟨y0, y1, y2, y3, y4, y5, y6, y7, y8, y9, y10, y11, y12, _, _⟩ := su_all HSU
    obtain ⟨z0, z1, z2, z3, z4, z5, z6, z7, z8, z9, z10, z11, z12, zf⟩ := Zeroed.cells HSU.out.2.2.1
    go_wp2
    exact bodyPost_ret (results_unp _ _ (w.heap.size + 1) m g0 g1 g2 a0 a1 a2 hb b hg n0 n1 n2 _ rfl rfl (Zeroed.stored m g0 g1 g2 a0 a1 a2 hb b hg n0 n1 n2 HSU.out.2.2.1)) rfl ⟨rfl, below_stored m g0 g1 g2 a0 a1 a2 hb b hg n0 n1 n2 HSU.out.2.2.2.2 (by omega)⟩
end Go.Proofs.Ytjfolhheejkedaa
