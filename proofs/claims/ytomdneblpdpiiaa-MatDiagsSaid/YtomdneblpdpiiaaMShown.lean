import Derived.Test.YtomdneblpdpiiaaMEye
set_option linter.unusedVariables false
namespace Go.Proofs.Ytomdneblpdpiiaa
open Go.RowKit Go.Joins Go.Proofs.YtomdneblpdpiiaaW.PrintWords Go.Proofs.YtomdneblpdpiiaaW.PrintLast Go.Proofs.YtomdneblpdpiiaaW.PrintMore

/-! ### the document's example -/
def SI (w : World) (W : World) : Prop := Blk W w.heap.size 26 #[.int .i64 16777216, .int .i64 33554432] ∧ Blk W (w.heap.size + 1) 28 #[.int .i64 1, .int .i64 2, .slice (some ⟨w.heap.size, 0, none⟩) 2 2] ∧ Below w.heap.size w W
theorem SI.below {w W W' : World} (h : SI w W) (hB : Below W.heap.size W W') : SI w W' := ⟨h.1.below hB, h.2.1.below hB, h.2.2.trans (below_mono hB h.2.2.size)⟩
theorem SI.alloc {w W : World} (h : SI w W) (o : Obj) : SI w (W.alloc o) := h.below (below_one W o)
theorem SI.drew {w W : World} (h : SI w W) : SI w W.drew := ⟨h.1, h.2.1, h.2.2.drew⟩
theorem SI.start (w : World) : SI w ((w.alloc (.cells #[.int .i64 16777216, .int .i64 33554432] 26)).alloc (.cells #[.int .i64 1, .int .i64 2, .slice (some ⟨w.heap.size, 0, none⟩) 2 2] 28)) := by
  refine ⟨(Blk.new w _ _).alloc _, ?_, below_two (Below.refl _ _) _ _⟩
  have := Blk.new (w.alloc (.cells #[.int .i64 16777216, .int .i64 33554432] 26)) 28 #[.int .i64 1, .int .i64 2, .slice (some ⟨w.heap.size, 0, none⟩) 2 2]
  rwa [World.size_alloc] at this
theorem SI.reads {w W : World} (h : SI w W) : ReadsInt W .i64 (some ⟨w.heap.size, 0, none⟩) 2 [16777216, 33554432] :=
  ⟨rfl, by omega, fun _ => ⟨_, rfl, fun j hj => by
    obtain rfl | rfl : j = 0 ∨ j = 1 := by omega
    · exact (h.1.cell 0).trans rfl
    · have := (h.1.cell 1).trans rfl
      exact this⟩⟩
theorem SI.all {w W : World} (h : Aside0 (SI w W)) : W.cell? ⟨w.heap.size + 1, 0, none⟩ = some (.int .i64 1) ∧ W.cell? ⟨w.heap.size + 1, 1, none⟩ = some (.int .i64 2) ∧ W.cell? ⟨w.heap.size + 1, 2, none⟩ = some (.slice (some ⟨w.heap.size, 0, none⟩) 2 2) ∧ Aside0 (SI w W) :=
  ⟨(h.out.2.1.cell 0).trans rfl, (h.out.2.1.cell 1).trans rfl, (h.out.2.1.cell 2).trans rfl, h⟩
theorem SI.trans {w W : World} (h : SI w W) : Calls Try.prog 9 #[.agg #[.int .i64 1, .int .i64 2, .slice (some ⟨w.heap.size, 0, none⟩) 2 2]] W fun e w' => ∃ A2 c2, e = .returned (.agg #[.int .i64 2, .int .i64 1, .slice A2 2 c2]) ∧ w'.ownsRow W.heap.size 26 1 (.slice A2 2 c2) 2 (nums .i64 [16777216, 33554432]) ∧ Below W.heap.size W w' :=
  trans_any (some ⟨w.heap.size, 0, none⟩) 1 2 2 2 [16777216, 33554432] W h.reads rfl (by decide) (by decide)
def x12 (i j : Nat) : Int := (j : Int) + 1
def y21 (i j : Nat) : Int := (i : Int) + 1
theorem small12 : Small [16777216, 33554432] 1 2 x12 := fun i j hi hj => by
  obtain rfl : i = 0 := by omega
  obtain rfl | rfl : j = 0 ∨ j = 1 := by omega
  · exact ⟨by decide, by decide, by decide⟩
  · exact ⟨by decide, by decide, by decide⟩
theorem small21 : Small [16777216, 33554432] 2 1 y21 := fun i j hi hj => by
  obtain rfl : j = 0 := by omega
  obtain rfl | rfl : i = 0 ∨ i = 1 := by omega
  · exact ⟨by decide, by decide, by decide⟩
  · exact ⟨by decide, by decide, by decide⟩
theorem SI.mul {w W : World} (h : SI w W) {base c2 : Nat} {A2 : Option Addr} (ho : W.ownsRow base 26 1 (.slice A2 2 c2) 2 (nums .i64 [16777216, 33554432])) : Calls Try.prog 6 #[.agg #[.int .i64 1, .int .i64 2, .slice (some ⟨w.heap.size, 0, none⟩) 2 2], .agg #[.int .i64 2, .int .i64 1, .slice A2 2 c2]] W fun e w' => ∃ A3 c3, e = .returned (.tuple #[.agg #[.int .i64 1, .int .i64 1, .slice A3 1 c3], .bool false, .int .i64 0]) ∧ w'.ownsRow W.heap.size 26 1 (.slice A3 1 c3) 1 (nums .i64 [83886080]) ∧ Below W.heap.size W w' :=
  mul_any (some ⟨w.heap.size, 0, none⟩) A2 1 2 1 2 2 2 c2 [16777216, 33554432] [16777216, 33554432] x12 y21 W h.reads (own_reads' ho) rfl rfl (by decide) (by decide) (by decide) small12 small21
def Zer (W : World) (p : Nat) : Prop := Blk W p 28 #[.int .i64 0, .int .i64 0, .slice none 0 0]
theorem Zer.facts {W : World} {p : Nat} (h : Zer W p) : W.cell? ⟨p, 0, none⟩ = some (.int .i64 0) ∧ W.cell? ⟨p, 1, none⟩ = some (.int .i64 0) ∧ W.cell? ⟨p, 2, none⟩ = some (.slice none 0 0) ∧ ∀ j, W.frozen? ⟨p, j, none⟩ = false :=
  ⟨(Blk.cell h 0).trans rfl, (Blk.cell h 1).trans rfl, (Blk.cell h 2).trans rfl, Blk.frozen h⟩
theorem zer_start {w w' : World} {o o' : Obj} (hB : Below ((((w.alloc o).alloc o').alloc (.cells #[.int .i64 0, .int .i64 0, .slice none 0 0] 28)).drew).heap.size ((((w.alloc o).alloc o').alloc (.cells #[.int .i64 0, .int .i64 0, .slice none 0 0] 28)).drew) w') : Zer w' (w.heap.size + 1 + 1) := by
  have hn : Zer w' ((w.alloc o).alloc o').heap.size := blk_below (w := (((w.alloc o).alloc o').alloc (.cells #[.int .i64 0, .int .i64 0, .slice none 0 0] 28)).drew) (Blk.new _ _ _) hB
  simpa only [World.size_alloc] using hn
/-- what stands behind the second statement -/
def SCut (w : World) (wx : World) (s2 s3 s4 : Value) : Prop := ∃ p A3 c3, s2 = .pointer (some ⟨p, 0, none⟩) ∧ s3 = .bool false ∧ s4 = .int .i64 0 ∧ Blk wx p 28 #[.int .i64 1, .int .i64 1, .slice A3 1 c3] ∧ wx.ownsRow w.heap.size 26 1 (.slice A3 1 c3) 1 (nums .i64 [83886080]) ∧ Below w.heap.size w wx
theorem scut_new {w W : World} {A3 : Option Addr} {c3 : Nat} (h : Aside0 (SI w W)) (ho : Aside0 (W.ownsRow w.heap.size 26 1 (.slice A3 1 c3) 1 (nums .i64 [83886080]))) :
    SCut w (W.alloc (.cells #[.int .i64 1, .int .i64 1, .slice A3 1 c3] 28)) (.pointer (some ⟨W.heap.size, 0, none⟩)) (.bool false) (.int .i64 0) :=
  ⟨_, _, _, rfl, rfl, rfl, Blk.new _ _ _, own_alloc ho.out _, h.out.2.2.alloc h.out.2.2.size _⟩
theorem scut_put {w W : World} {A3 : Option Addr} {c3 p : Nat} (h : Aside0 (SI w W)) (ho : Aside0 (W.ownsRow w.heap.size 26 1 (.slice A3 1 c3) 1 (nums .i64 [83886080]))) (hz : Aside0 (Zer W p)) (hp : Aside0 (w.heap.size ≤ p)) :
    SCut w (((W.setCell ⟨p, 0, none⟩ (.int .i64 1)).setCell ⟨p, 1, none⟩ (.int .i64 1)).setCell ⟨p, 2, none⟩ (.slice A3 1 c3)) (.pointer (some ⟨p, 0, none⟩)) (.bool false) (.int .i64 0) :=
  ⟨_, _, _, rfl, rfl, rfl, put3 _ _ _ _ _ hz.out, own3 ho.out (Blk.not_row hz.out (by decide) ho.out), below3 h.out.2.2 hp.out⟩
theorem si_put {w W : World} {p : Nat} {v : Value} (h : Aside0 (SI w W)) (hz : Aside0 (Zer W p)) (hp : Aside0 (w.heap.size + 1 < p)) : Aside0 (SI w (((W.setCell ⟨p, 0, none⟩ (.int .i64 1)).setCell ⟨p, 1, none⟩ (.int .i64 1)).setCell ⟨p, 2, none⟩ v)) :=
  have hp' := hp.out
  have hs : ∀ W' i (u : Value), SI w W' → SI w (W'.setCell ⟨p, i, none⟩ u) := fun W' i u k => ⟨k.1.far (p := ⟨p, i, none⟩) (by show w.heap.size ≠ p; omega) u, k.2.1.far (p := ⟨p, i, none⟩) (by show w.heap.size + 1 ≠ p; omega) u, k.2.2.setCell (p := ⟨p, i, none⟩) (by show w.heap.size ≤ p; omega) u⟩
  ⟨hs _ 2 _ (hs _ 1 _ (hs _ 0 _ h.out))⟩
set_option maxRecDepth 100000 in
set_option maxHeartbeats 4000000 in
theorem shown_any (w : World) : Calls Try.prog 4 #[] w fun e w' => e = .returned (.bool true) ∧ Below w.heap.size w w' := by
  have HI0 := Aside0.mk (SI.start w)
  have hu := Try.underlying28
  obtain ⟨y0, y1, y2, _⟩ := SI.all HI0
  go_enter Try.func4, Try.ntmps4
  go_upto_region 2 with fail
  go_cut [2, 3, 4] (fun s2 s3 s4 wx => Aside0 (SCut w wx s2 s3 s4))
  case first =>
    have HKN := Aside0.mk HI0.out.drew
    go_region_held3 (fun W => W.cell? ⟨w.heap.size + 1, 0, none⟩ = some (.int .i64 1) ∧ W.cell? ⟨w.heap.size + 1, 1, none⟩ = some (.int .i64 2) ∧ W.cell? ⟨w.heap.size + 1, 2, none⟩ = some (.slice (some ⟨w.heap.size, 0, none⟩) 2 2) ∧ Aside0 (SI w W)) (first | with_reducible exact SI.all HKN | with_reducible exact SI.all ⟨HKN.out.alloc _⟩ | with_reducible exact SI.all ⟨(HI0.out.alloc _).drew⟩ | exact SI.all (si_put HKN HA HPP))
      (first
        | (go_at_call 6; (with_reducible refine (SI.mul HKN.out HOT.out).mono ?_); rintro e w' ⟨A3, c3, rfl, ho, hB⟩; have HA' := Aside0.mk (show Zer w' _ from blk_below HA.out hB); have HOM := Aside0.mk (own_less ho HKN.out.2.2.size); have HKN' := Aside0.mk (HKN.out.below hB); clear z0 z1 z2 zf HKN HA HOT; have HA := HA'; have HKN := HKN'; clear HA' HKN' hB ho; obtain ⟨z0, z1, z2, zf⟩ := HA.out.facts)
        | (go_at_call 6; (with_reducible refine (SI.mul HKN.out HOT.out).mono ?_); rintro e w' ⟨A3, c3, rfl, ho, hB⟩; have HOM := Aside0.mk (own_less ho HKN.out.2.2.size); have HKN' := Aside0.mk (HKN.out.below hB); clear HKN HOT; have HKN := HKN'; clear HKN' hB ho)
        | (go_at_call 6; (with_reducible refine (SI.mul (HKN.out.alloc _) (own_alloc HOT.out _)).mono ?_); rintro e w' ⟨A3, c3, rfl, ho, hB⟩; have HA := Aside0.mk (show Zer w' _ from blk_below (Blk.new _ _ _) hB); have HPP := Aside0.mk HKN.out.2.1.lt; have HOM := Aside0.mk (own_less ho (HKN.out.alloc (.cells #[.int .i64 0, .int .i64 0, .slice none 0 0] 28)).2.2.size); have HKN' := Aside0.mk ((HKN.out.alloc _).below hB); clear HKN HOT; have HKN := HKN'; clear HKN' hB ho; obtain ⟨z0, z1, z2, zf⟩ := HA.out.facts)
        | (go_at_call 9; (with_reducible refine (SI.trans HKN.out).mono ?_); rintro e w' ⟨A2, c2, rfl, ho, hB⟩; have HOT := Aside0.mk ho; have HKN' := Aside0.mk (HKN.out.below hB); clear HKN; have HKN := HKN'; clear HKN' hB ho)
        | (go_at_call 9; (with_reducible refine (SI.trans ((HI0.out.alloc _).drew)).mono ?_); rintro e w' ⟨A2, c2, rfl, ho, hB⟩; have HA := Aside0.mk (zer_start hB); have HPP : Aside0 (w.heap.size + 1 < w.heap.size + 1 + 1) := ⟨by omega⟩; have HOT := Aside0.mk ho; have HKN' := Aside0.mk ((HI0.out.alloc _).drew.below hB); clear HKN; have HKN := HKN'; clear HKN' hB ho; obtain ⟨z0, z1, z2, zf⟩ := HA.out.facts))
    all_goals
      go_wp2_with fail
      go_meet
      first
        | with_reducible exact ⟨scut_new HKN HOM⟩
        | with_reducible exact ⟨scut_put HKN HOM HA ⟨Nat.le_of_lt (Nat.lt_of_succ_lt HPP.out)⟩⟩
  case rest =>
    obtain ⟨p, A3, c3, rfl, rfl, rfl, hp, ho, hB⟩ := hcut.out
    have hRd := own_reads' ho
    obtain ⟨ad, rfl, hcell⟩ := reads_cell hRd 0 (by decide)
    have hx : wc.cell? ad = some (.int .i64 83886080) := by
      have e : ad.add 0 = ad := by obtain ⟨b, o, s⟩ := ad; cases s <;> rfl
      rw [e] at hcell
      exact hcell
    have hc0 : wc.cell? ⟨p, 0, none⟩ = some (.int .i64 1) := (hp.cell 0).trans rfl
    have hc1 : wc.cell? ⟨p, 1, none⟩ = some (.int .i64 1) := (hp.cell 1).trans rfl
    have hc2 : wc.cell? ⟨p, 2, none⟩ = some (.slice (some ad) 1 c3) := (hp.cell 2).trans rfl
    have HR : Aside0 (Calls Try.prog 10 #[.agg #[.int .i64 1, .int .i64 1, .slice (some ad) 1 c3]] wc fun e w' => e = .returned (.bool true) ∧ Below wc.heap.size wc w') := ⟨right_any 1 1 (some ad) 1 c3 [83886080] wc hRd⟩
    have HBB := Aside0.mk hB
    clear hRd hcell ho hp hB hcut y0 y1 y2 HI0
    go_wp2_with (go_at_call 10; refine HR.out.mono ?_; rintro e w2 ⟨rfl, hB⟩)
    go_ret
    exact ⟨rfl, HBB.out.trans (below_mono hB HBB.out.size)⟩
end Go.Proofs.Ytomdneblpdpiiaa
