import Derived.Test.YtomdneblpdpiiaaMPlain
set_option linter.unusedVariables false
namespace Go.Proofs.Ytomdneblpdpiiaa
open Go.RowKit Go.Joins Go.Proofs.YtomdneblpdpiiaaW.PrintWords Go.Proofs.YtomdneblpdpiiaaW.PrintLast Go.Proofs.YtomdneblpdpiiaaW.PrintMore

theorem eye_three' (w : World) : Calls Try.prog 7 #[.int .i64 3] w fun e w' => ∃ A2 c2, e = .returned (.tuple #[.agg #[.int .i64 3, .int .i64 3, .slice A2 9 c2], .int .i64 0]) ∧ w'.ownsRow w.heap.size 26 1 (.slice A2 9 c2) 9 (nums .i64 (gridQ (diagQ (onesL 3)) 3 3)) ∧ Below w.heap.size w w' := eye_three w
set_option maxRecDepth 100000 in
set_option maxHeartbeats 4000000 in
theorem diags_any (A B : List Int) (a0 a1 a2 b0 b1 b2 : Int) (w : World) (hA : A = [a0, a1, a2]) (hBl : B = [b0, b1, b2]) (ha : ∀ k, -128 ≤ A.getD k 0 ∧ A.getD k 0 ≤ 127) (hb : ∀ k, -128 ≤ B.getD k 0 ∧ B.getD k 0 ≤ 127) :
    Calls Try.prog 3 #[.agg #[.int .i8 a0, .int .i8 a1, .int .i8 a2], .agg #[.int .i8 b0, .int .i8 b1, .int .i8 b2]] w fun e w' => e = .returned (.bool true) ∧ Below w.heap.size w w' := by
  have hba : i8s A = #[.int .i8 a0, .int .i8 a1, .int .i8 a2] := by rw [hA]; rfl
  have hbb : i8s B = #[.int .i8 b0, .int .i8 b1, .int .i8 b2] := by rw [hBl]; rfl
  have hla : A.length = 3 := by rw [hA]; rfl
  have hlb : B.length = 3 := by rw [hBl]; rfl
  rw [← hba, ← hbb]
  have HD0 : Aside0 (∀ W, Below ((w.alloc (.cells (i8s A) 23)).alloc (.cells (i8s B) 23)).heap.size ((w.alloc (.cells (i8s A) 23)).alloc (.cells (i8s B) 23)) W → DInv w A B 0 (.slice none 0 0) (.slice none 0 0) (.slice none 0 0) (.slice none 0 0) W) := ⟨fun W hB => by
    refine ⟨Rows.start _ _, ((Blk.new w _ _).alloc _).below hB, ?_, (below_two (Below.refl _ _) _ _).trans (below_mono hB (by simp; omega))⟩
    have := Blk.new (w.alloc (.cells (i8s A) 23)) 23 (i8s B)
    rw [World.size_alloc] at this
    exact this.below hB⟩
  have HA := Aside0.mk ha
  have HB := Aside0.mk hb
  have HLA := Aside0.mk hla
  have HLB := Aside0.mk hlb
  have HIA := Aside0.mk hba
  have HIB := Aside0.mk hbb
  have HEA := Aside0.mk hA
  have HEB := Aside0.mk hBl
  generalize i8s A = ca at HD0 ⊢
  generalize i8s B = cb at HD0 ⊢
  clear ha hb hla hlb hba hbb hA hBl
  go_enter Try.func3, Try.ntmps3
  go_wp2_with (go_at_call 4; refine (shown_any _).mono ?_; rintro e ws ⟨rfl, hB⟩; have HD1 := Aside0.mk (HD0.out _ hB); clear hB)
  go_loopw [10, 6, 7, 8, 9] (fun s l m n o wr => ∃ k : Nat, k ≤ 3 ∧ s = .int .i64 k ∧ Aside0 (DInv w A B k l m n o wr)) (fun s _ _ _ _ _ => 3 - (intOf s).toNat)
  case atStart => exact ⟨0, Nat.zero_le _, rfl, HD1⟩
  case round =>
    obtain ⟨k, hk, hs, HD⟩ := hrel
    subst hs
    by_cases hk3 : k < 3
    · have HM0 : Aside0 (DMid w A B [u6, u7, u8, u9] [(whole A).take k, (whole B).take k, (prods A B).take k, onesL k] wr) := ⟨⟨HD.out.rows, HD.out.ba, HD.out.bb, HD.out.bel⟩⟩
      have hxa := HA.out k
      have hxb := HB.out k
      have hya := HM0.out.acell k (by rw [HLA.out]; exact hk3)
      have hyb := HM0.out.bcell k (by rw [HLB.out]; exact hk3)
      have HS1 := Aside0.mk (take_whole A k (by rw [HLA.out]; exact hk3))
      have HS2 := Aside0.mk (take_whole B k (by rw [HLB.out]; exact hk3))
      have HS3 := Aside0.mk (take_prods A B k (by rw [HLA.out]; exact hk3) (by rw [HLB.out]; exact hk3))
      have HS4 := Aside0.mk (onesL_succ k)
      generalize hx : A.getD k 0 = x at hxa hya HS1 HS3
      generalize hy : B.getD k 0 = y at hxb hyb HS2 HS3
      have HX := Aside0.mk hx
      have HY := Aside0.mk hy
      have hp := prod_bound x y (by omega) (by omega) (by omega) (by omega)
      have e1 : IntKind.i64.wrap (x * 16777216) = x * 16777216 := by rw [IntKind.wrap_i64]; omega
      have e2 : IntKind.i64.wrap (y * 16777216) = y * 16777216 := by rw [IntKind.wrap_i64]; omega
      have e3 : IntKind.i64.wrap (x * y) = x * y := by rw [IntKind.wrap_i64]; omega
      have e4 : IntKind.i64.wrap (x * y * 16777216) = x * y * 16777216 := by rw [IntKind.wrap_i64]; omega
      have HLEN : Aside0 (((whole A).take k).length ≤ 3 ∧ ((whole B).take k).length ≤ 3 ∧ ((prods A B).take k).length ≤ 3 ∧ (onesL k).length ≤ 3) := ⟨by simp [onesL]; omega⟩
      generalize (whole A).take k = xl at HM0 HS1 HLEN
      generalize (whole B).take k = xm at HM0 HS2 HLEN
      generalize (prods A B).take k = xn at HM0 HS3 HLEN
      generalize onesL k = xo at HM0 HS4 HLEN
      clear hx hy
      go_upto_region 11 with (first
        | (at_builtin; refine print_append_row (w0 := w) w.heap.size rfl _ _ 25 26 .i64 8 rfl Try.underlying25 infoQ (by decide) u6 xl [x * 16777216] (some ⟨wr.heap.size, 0, none⟩) 1 1 rfl rfl (HM0.out.own 0 rfl rfl _) (reads_one wr .i64 _ 26) (HM0.out.bel.alloc HM0.out.bel.size _) (by have := HM0.out.bel.size; simp; omega) (by have := HLEN.out; omega) ?_; intro v1 w1 ho hB hg hb; have HM1 := Aside0.mk (HM0.out.step 0 rfl rfl ho hB hg hb); clear HM0 ho hB hg hb; clear hya hyb; have hya := HM1.out.acell k (by rw [HLA.out]; exact hk3); have hyb := HM1.out.bcell k (by rw [HLB.out]; exact hk3); rw [HX.out] at hya; rw [HY.out] at hyb)
        | (at_builtin; refine print_append_row (w0 := w) w.heap.size rfl _ _ 25 26 .i64 8 rfl Try.underlying25 infoQ (by decide) u7 xm [y * 16777216] (some ⟨w1.heap.size, 0, none⟩) 1 1 rfl rfl (HM1.out.own 1 rfl rfl _) (reads_one w1 .i64 _ 26) (HM1.out.bel.alloc HM1.out.bel.size _) (by have := HM1.out.bel.size; simp; omega) (by have := HLEN.out; omega) ?_; intro v2 w2 ho hB hg hb; have HM2 := Aside0.mk (HM1.out.step 1 rfl rfl ho hB hg hb); clear HM1 ho hB hg hb))
      clear hya hyb e1 e2
      have hya := HM2.out.acell k (by rw [HLA.out]; exact hk3)
      have hyb := HM2.out.bcell k (by rw [HLB.out]; exact hk3)
      rw [HX.out] at hya
      rw [HY.out] at hyb
      obtain ⟨i0, hi0, hz0, hz1, hz2⟩ := info_parts infoQ
      have hbx := HM2.out.bel.size
      have HOW := Aside0.mk (HM2.out.rows.2.1 2 _ _ rfl rfl)
      have hkn : (k : Int) < 3 := by omega
      have e5 : IntKind.i64.wrap x = x := by rw [IntKind.wrap_i64]; omega
      have e6 : IntKind.i64.wrap y = y := by rw [IntKind.wrap_i64]; omega
      go_region_held3 (fun W => W.cell? ⟨w.heap.size, k, none⟩ = some (.int .i8 x) ∧ W.cell? ⟨w.heap.size + 1, k, none⟩ = some (.int .i8 y)) (first | go_keep | exact dmid_two HX HY HLA HLB hk3 HM3)
        ((refine step_append_lies _ (by rfl) _ _ _ (by rfl) w.heap.size 26 i0 _ 1 8 Try.underlying25 hi0 hz0 hz1 hz2 rfl (by omega) u8 xn.length (nums .i64 xn) (by rfl) ((HOW.out.alloc _).drew) ⟨w2.heap.size, 0, none⟩ 1 1 [.int .i64 (x * y * 16777216)] (by rfl) (by rfl) (World.news_of_block (cs := #[.int .i64 (x * y * 16777216)]) (t := 26) (fr := (0, 0)) (heap_alloc_new w2 _)) (by simp [Value.oneCell']) (by omega) (by have := HLEN.out; unfold maxLen; omega) (by have := HLEN.out; omega) (by simp; omega) (w2.heap.size + 1) (by simp) ?_; intro gg cap w3 hown1 hgrow hat hlt; have HM3 := Aside0.mk (HM2.out.lies 2 rfl rfl hown1 hgrow hat); clear hown1 hgrow hat hlt))
      have HSZ := Aside0.mk hbx
      clear e3 e4 e5 e6 hkn hya hyb hbx hi0 hz0 hz1 hz2 HM2 HOW
      go_wp2_with (at_builtin; refine print_append_row (w0 := w) w.heap.size rfl _ _ 25 26 .i64 8 rfl Try.underlying25 infoQ (by decide) u9 xo [16777216] (some ⟨w3.heap.size, 0, none⟩) 1 1 rfl rfl (HM3.out.own 3 rfl rfl _) (reads_one w3 .i64 _ 26) (HM3.out.bel.alloc HM3.out.bel.size _) (by have := HM3.out.bel.size; simp; omega) (by have := HLEN.out; omega) ?_; intro v4 w4 ho hB hg hb; have HM4 := Aside0.mk (HM3.out.step 3 rfl rfl ho hB hg hb); clear HM3 ho hB hg hb)
      go_roundw
      case rel => exact ⟨k + 1, by omega, by go_num, ⟨⟨by rw [HS1.out, HS2.out, HS3.out, HS4.out]; exact HM4.out.rows, HM4.out.ba, HM4.out.bb, HM4.out.bel⟩⟩⟩
      case measure => simp [intOf]; omega
    · obtain rfl : k = 3 := by omega
      obtain ⟨Al, cl, Am, cm, An, cn, Ao, co, rfl, rfl, rfl, rfl, hst⟩ := St.start HD.out HLA.out HLB.out
      have S0 := Aside0.mk hst
      have ha0 := HA.out 0
      have ha1 := HA.out 1
      have ha2 := HA.out 2
      have hb0 := HB.out 0
      have hb1 := HB.out 1
      have hb2 := HB.out 2
      rw [HEA.out] at ha0 ha1 ha2
      rw [HEB.out] at hb0 hb1 hb2
      have OA : Aside0 ((whole A).any oddQ = false) := ⟨by rw [HEA.out]; exact whole_odd a0 a1 a2 ha0 ha1 ha2⟩
      have OB : Aside0 ((whole B).any oddQ = false) := ⟨by rw [HEB.out]; exact whole_odd b0 b1 b2 hb0 hb1 hb2⟩
      have OP : Aside0 ((prods A B).any oddQ = false) := ⟨by rw [HEA.out, HEB.out]; exact prods_odd a0 a1 a2 b0 b1 b2 ha0 ha1 ha2 hb0 hb1 hb2⟩
      have OO : Aside0 ((onesL 3).any oddQ = false) := ⟨by decide⟩
      have HSA : Aside0 (Small (gridQ (diagQ (whole A)) 3 3) 3 3 (diagX A)) := ⟨by rw [HEA.out]; exact small_diag a0 a1 a2 ha0 ha1 ha2⟩
      have HSB : Aside0 (Small (gridQ (diagQ (whole B)) 3 3) 3 3 (diagX B)) := ⟨by rw [HEB.out]; exact small_diag b0 b1 b2 hb0 hb1 hb2⟩
      have HDD : Aside0 (gridQ (fun i k => dotF (diagX A) (diagX B) i k 3 * 16777216) 3 3 = gridQ (diagQ (prods A B)) 3 3) := ⟨by rw [HEA.out, HEB.out]; exact dot_diag a0 a1 a2 b0 b1 b2⟩
      have HL9 : Aside0 (∀ q : Nat → Nat → Int, (gridQ q 3 3).length = 9) := ⟨fun q => gridQ_length q 3 3⟩
      clear ha0 ha1 ha2 hb0 hb1 hb2 hst HEA HEB HIA HIB HD0 HD1 HD
      go_wp2_with (first
        | (go_at_call 5; (with_reducible refine (diag3 Al cl (whole A) _ (S0.out.reads (c := cl) (by simp)) OA.out).mono ?_); rintro e' w1 ⟨A1, c1, rfl, ho, hB⟩; have S1 := Aside0.mk (S0.out.next ho hB); clear S0 ho hB)
        | (go_at_call 5; (with_reducible refine (diag3 Am cm (whole B) _ (S1.out.reads (c := cm) (by simp)) OB.out).mono ?_); rintro e' w2 ⟨A2, c2, rfl, ho, hB⟩; have S2 := Aside0.mk (S1.out.next ho hB); clear S1 ho hB)
        | (go_at_call 5; (with_reducible refine (diag3 An cn (prods A B) _ (S2.out.reads (c := cn) (by simp)) OP.out).mono ?_); rintro e' w3 ⟨A3, c3, rfl, ho, hB⟩; have S3 := Aside0.mk (S2.out.next ho hB); clear S2 ho hB; obtain ⟨x0, x1, x2⟩ := S3.out.cell (g := w1.heap.size) (v := .slice A1 9 c1) (by simp); obtain ⟨y0, y1, y2⟩ := S3.out.cell (g := w2.heap.size) (v := .slice A2 9 c2) (by simp))
        | (go_at_call 6; (with_reducible refine (mul3 A1 A2 c1 c2 _ _ (diagX A) (diagX B) _ _ (S3.out.reads (c := c1) (by simp)) (S3.out.reads (c := c2) (by simp)) HSA.out HSB.out HDD.out).mono ?_); rintro e' w4 ⟨A4, c4, rfl, ho, hB⟩; have S4 := Aside0.mk (S3.out.next ho hB); clear S3 ho hB x0 x1 x2 y0 y1 y2)
        | (go_at_call 7; (with_reducible refine (eye_three' _).mono ?_); rintro e' w5 ⟨A5, c5, rfl, ho, hB⟩; have S5 := Aside0.mk (S4.out.next ho hB); clear S4 ho hB)
        | (go_at_call 5; (with_reducible refine (diag3 Ao co (onesL 3) _ (S5.out.reads (c := co) (by simp)) OO.out).mono ?_); rintro e' w6 ⟨A6, c6, rfl, ho, hB⟩; have S6 := Aside0.mk (S5.out.next ho hB); clear S5 ho hB; obtain ⟨p0, p1, p2⟩ := S6.out.cell (g := w4.heap.size) (v := .slice A4 9 c4) (by simp); obtain ⟨z0, z1, z2⟩ := S6.out.cell (g := w3.heap.size) (v := .slice A3 9 c3) (by simp))
        | (go_at_call 8; (with_reducible refine (same_any A4 A3 c4 c3 9 (gridQ (diagQ (prods A B)) 3 3) 3 3 _ (HL9.out _) (by decide) (S6.out.reads (c := c4) (by simp)) (S6.out.cap (A := A4) (l := gridQ (diagQ (prods A B)) 3 3) (by simp)) (S6.out.reads (c := c3) (by simp)) (S6.out.cap (A := A3) (l := gridQ (diagQ (prods A B)) 3 3) (by simp))).mono ?_); rintro e' w7 ⟨rfl, hB⟩; have S7 := Aside0.mk (S6.out.below hB); clear S6 hB p0 p1 p2 z0 z1 z2; obtain ⟨e0, e1, e2⟩ := S7.out.cell (g := w5.heap.size) (v := .slice A5 9 c5) (by simp); obtain ⟨d0, d1, d2⟩ := S7.out.cell (g := w6.heap.size) (v := .slice A6 9 c6) (by simp))
        | (go_at_call 8; (with_reducible refine (same_any A5 A6 c5 c6 9 (gridQ (diagQ (onesL 3)) 3 3) 3 3 _ (HL9.out _) (by decide) (S7.out.reads (c := c5) (by simp)) (S7.out.cap (A := A5) (l := gridQ (diagQ (onesL 3)) 3 3) (by simp)) (S7.out.reads (c := c6) (by simp)) (S7.out.cap (A := A6) (l := gridQ (diagQ (onesL 3)) 3 3) (by simp))).mono ?_); rintro e' w8 ⟨rfl, hB⟩; have S8 := Aside0.mk (S7.out.below hB); clear S7 hB))
      go_ret
      exact ⟨rfl, S8.out.size⟩
end Go.Proofs.Ytomdneblpdpiiaa
