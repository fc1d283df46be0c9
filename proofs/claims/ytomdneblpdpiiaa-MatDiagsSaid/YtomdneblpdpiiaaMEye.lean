import Derived.Test.YtomdneblpdpiiaaMMulW
import Derived.RegionTactic
import Derived.LoopN
set_option linter.unusedVariables false
namespace Go.Proofs.Ytomdneblpdpiiaa
open Go.RowKit Go.Joins Go.Proofs.YtomdneblpdpiiaaW.PrintWords Go.Proofs.YtomdneblpdpiiaaW.PrintLast Go.Proofs.YtomdneblpdpiiaaW.PrintMore

/-! ### slices.Repeat of one number, three times; mat.Eye(3) -/
theorem copy1 (W : World) (cs : Array Value) (off dl dc : Nat) (ad : Addr) (sl sc : Nat) (v : Value) (cs' : Array Value) (hn : Nat.min sl dl = 1) (hv : (W.alloc (.cells cs 26)).cell? ad = some v) (hv1 : v.oneCell' = true) (hoff : off < cs.size)
    (he : (cs.toList.take off ++ [v] ++ cs.toList.drop (off + 1)).toArray = cs') :
    (Builtin.copy_ #[25, 25] 3 #[.slice (some ⟨W.heap.size, off, none⟩) dl dc, .slice (some ad) sl sc]).run Try.prog (W.alloc (.cells cs 26)) = .ok (goInt 1) (W.alloc (.cells cs' 26)) := by
  have hrun := run_copy_row Try.prog (W.alloc (.cells cs 26)) 25 25 3 26 W.heap.size off dl dc ad sl sc cs 26 [v] Try.underlying25 (by kernel_rfl) (heap_alloc_new W _) (by rw [hn]; rfl)
    (fun j u hu => by
      cases j with
      | zero =>
        have : v = u := by simpa using hu
        subst this
        have e : ad.add 0 = ad := by obtain ⟨b, o, s⟩ := ad; cases s <;> rfl
        rw [e]; exact hv
      | succ j => simp at hu) (by simp; omega) (fun u hu => by rw [List.mem_singleton.1 hu]; exact hv1)
  rw [hrun, World.setRow_alloc_new]
  simp only [List.length_singleton]
  rw [he]
  rfl
set_option maxHeartbeats 2000000 in
theorem repeat_three (B : Nat) (w : World) (hb : w.cell? ⟨B, 0, none⟩ = some (.int .i64 16777216)) :
    Calls Try.prog 17 #[.slice (some ⟨B, 0, none⟩) 1 1, .int .i64 3] w fun e w' => ∃ g, e = .returned (.slice (some ⟨g, 0, none⟩) 3 3) ∧ ReadsInt w' .i64 (some ⟨g, 0, none⟩) 3 [16777216, 16777216, 16777216] ∧ Below w.heap.size w w' := by
  have HM := Aside0.mk (fun W => PMatDiags.bits_Mul.calls 1 3 0 3 W (by rfl))
  have HMK : Aside0 (∀ W : World, (Instr.makeSlice 25 (.int .i64 3) (.int .i64 3)).run Try.prog W = .ok (.slice (some ⟨W.heap.size, 0, none⟩) 3 3) (W.alloc (.cells #[.int .i64 0, .int .i64 0, .int .i64 0] 26))) :=
    ⟨fun W => by
      have h := print_make (P := Try.prog) 25 26 .i64 8 Try.underlying25 infoQ (by decide) 3 (by omega) W
      have e : madeCells #[.int .i64 0] 3 = #[.int .i64 0, .int .i64 0, .int .i64 0] := by kernel_rfl
      rw [e] at h
      exact h⟩
  have HB0 : Aside0 (w.cell? ⟨B, 0, none⟩ = some (.int .i64 16777216)) := ⟨hb⟩
  go_enter Try.func17, Try.ntmps17
  go_upto_region 6 with (go_at_call 26; refine (HM.out _).mono ?_; rintro e w' ⟨rfl, ⟨nd, rfl⟩⟩)
  have HBW : Aside0 (Below w.heap.size w (w.drewN nd)) := ⟨pw_below_drewN (Below.refl _ _) nd⟩
  have hb1 : (w.drewN nd).cell? ⟨B, 0, none⟩ = some (.int .i64 16777216) := hb
  have hs1 : (w.drewN nd).heap.size = w.heap.size := rfl
  generalize w.drewN nd = w0 at HBW hb1 hs1 ⊢
  have HS1 := Aside0.mk hs1
  clear hb hs1
  have hmk := HMK.out
  have hc1 := copy1 w0 #[.int .i64 0, .int .i64 0, .int .i64 0] 0 3 3 ⟨B, 0, none⟩ 1 1 (.int .i64 16777216) #[.int .i64 16777216, .int .i64 0, .int .i64 0] (by decide) (pw_cell_below (below_one w0 _) hb1) rfl (by decide) rfl
  have hc2 : (Builtin.copy_ #[25, 25] 3 #[.slice (some ⟨w0.heap.size, 1, none⟩) 2 2, .slice (some ⟨w0.heap.size, 0, none⟩) 1 3]).run Try.prog (w0.alloc (.cells #[.int .i64 16777216, .int .i64 0, .int .i64 0] 26)).drew = .ok (goInt 1) (w0.alloc (.cells #[.int .i64 16777216, .int .i64 16777216, .int .i64 0] 26)).drew :=
    copy1 w0.drew #[.int .i64 16777216, .int .i64 0, .int .i64 0] 1 2 2 ⟨w0.heap.size, 0, none⟩ 1 3 (.int .i64 16777216) #[.int .i64 16777216, .int .i64 16777216, .int .i64 0] (by decide) (((Blk.new w0 26 #[.int .i64 16777216, .int .i64 0, .int .i64 0]).cell 0).trans rfl) rfl (by decide) rfl
  have hc3 : (Builtin.copy_ #[25, 25] 3 #[.slice (some ⟨w0.heap.size, 2, none⟩) 1 1, .slice (some ⟨w0.heap.size, 0, none⟩) 2 3]).run Try.prog (w0.alloc (.cells #[.int .i64 16777216, .int .i64 16777216, .int .i64 0] 26)).drew.drew = .ok (goInt 1) (w0.alloc (.cells #[.int .i64 16777216, .int .i64 16777216, .int .i64 16777216] 26)).drew.drew :=
    copy1 w0.drew.drew #[.int .i64 16777216, .int .i64 16777216, .int .i64 0] 2 1 1 ⟨w0.heap.size, 0, none⟩ 2 3 (.int .i64 16777216) #[.int .i64 16777216, .int .i64 16777216, .int .i64 16777216] (by decide) (((Blk.new w0 26 #[.int .i64 16777216, .int .i64 16777216, .int .i64 0]).cell 0).trans rfl) rfl (by decide) rfl
  go_wp2
  refine wp_loop_rounds 3 ?_
  rw [rounds_succ]
  go_wp2
  go_region
  go_wp2
  rw [rounds_succ]
  go_wp2
  go_region
  go_wp2
  rw [rounds_succ]
  go_wp2
  go_ret
  refine ⟨w0.heap.size, rfl, ⟨rfl, by omega, fun _ => ⟨_, rfl, fun j hj => ?_⟩⟩, ((HBW.out.alloc HBW.out.size _).drew).drew⟩
  have hk : Blk (w0.alloc (.cells #[.int .i64 16777216, .int .i64 16777216, .int .i64 16777216] 26)).drew.drew w0.heap.size 26 #[.int .i64 16777216, .int .i64 16777216, .int .i64 16777216] := Blk.new w0 _ _
  obtain rfl | rfl | rfl : j = 0 ∨ j = 1 ∨ j = 2 := by omega
  · exact (hk.cell 0).trans rfl
  · have := (hk.cell 1).trans rfl
    exact this
  · have := (hk.cell 2).trans rfl
    exact this
theorem results_eye (tmps : Array Value) (w : World) (g : Nat) (r c v e : Value) (hp : tmps.getD 2 undef = .pointer (some ⟨g, 0, none⟩)) (he : tmps.getD 3 undef = e) (hg : Blk w g 28 #[r, c, v]) :
    (results Try.f7 tmps).run Try.prog w = .ok (.tuple #[.agg #[r, c, v], e]) w := by
  rw [results_ct (P := Try.prog) (fn := Try.f7) rfl tmps w g 28 #[r, c, v] (0, 0) _ hp hg Try.underlying28 rfl sizeM, he]
def One1 (w : World) (W : World) : Prop := Blk W w.heap.size 28 #[.int .i64 0, .int .i64 0, .slice none 0 0] ∧ Below w.heap.size w W
theorem One1.below {w W W' : World} (h : One1 w W) (hB : Below W.heap.size W W') : One1 w W' := ⟨h.1.below hB, h.2.trans (below_mono hB h.2.size)⟩
set_option maxHeartbeats 2000000 in
theorem eye_three (w : World) :
    Calls Try.prog 7 #[.int .i64 3] w fun e w' => ∃ A2 c2, e = .returned (.tuple #[.agg #[.int .i64 3, .int .i64 3, .slice A2 9 c2], .int .i64 0]) ∧ w'.ownsRow w.heap.size 26 1 (.slice A2 9 c2) 9 (nums .i64 (gridQ (diagQ [16777216, 16777216, 16777216]) 3 3)) ∧ Below w.heap.size w w' := by
  have HK0 : Aside0 (One1 w ((w.alloc (.cells #[.int .i64 0, .int .i64 0, .slice none 0 0] 28)).alloc (.cells #[.int .i64 16777216] 26))) := ⟨(Blk.new w _ _).alloc _, below_two (Below.refl _ _) _ _⟩
  have HR : Aside0 (((w.alloc (.cells #[.int .i64 0, .int .i64 0, .slice none 0 0] 28)).alloc (.cells #[.int .i64 16777216] 26)).cell? ⟨w.heap.size + 1, 0, none⟩ = some (.int .i64 16777216)) := ⟨by
    have := (Blk.new (w.alloc (.cells #[.int .i64 0, .int .i64 0, .slice none 0 0] 28)) 26 #[.int .i64 16777216]).cell 0
    rw [World.size_alloc] at this
    exact this.trans rfl⟩
  have hu := Try.underlying28
  go_enter Try.func7, Try.ntmps7
  go_wp2_with (first
    | (go_at_call 17; refine (repeat_three (w.heap.size + 1) _ HR.out).mono ?_; rintro e w1 ⟨g, rfl, hr, hB⟩; have HRD := Aside0.mk hr; have HK1 := Aside0.mk (HK0.out.below hB); clear hr hB)
    | (go_at_call 5; refine (diag_any (some ⟨g, 0, none⟩) 3 3 [16777216, 16777216, 16777216] w1 HRD.out (by decide) (by decide) (by decide)).mono ?_; rintro e w2 ⟨A2, c2, rfl, hown, hB⟩; have HK2 := Aside0.mk (HK1.out.below hB); have HOW := Aside0.mk (own_less hown HK1.out.2.size); have z0 : w2.cell? ⟨w.heap.size, 0, none⟩ = some (.int .i64 0) := (HK2.out.1.cell 0).trans rfl; have z1 : w2.cell? ⟨w.heap.size, 1, none⟩ = some (.int .i64 0) := (HK2.out.1.cell 1).trans rfl; have z2 : w2.cell? ⟨w.heap.size, 2, none⟩ = some (.slice none 0 0) := (HK2.out.1.cell 2).trans rfl; have zf := HK2.out.1.frozen; clear hB hown))
  have hne := HK2.out.1.not_row (by decide) HOW.out
  exact bodyPost_ret (results_eye _ _ w.heap.size _ _ _ _ rfl rfl (put3 _ _ _ _ _ HK2.out.1)) rfl ⟨A2, c2, rfl, own3 HOW.out hne, below3 HK2.out.2 (Nat.le_refl _)⟩
end Go.Proofs.Ytomdneblpdpiiaa
