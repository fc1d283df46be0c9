import Derived.WalkKit
import Derived.LoopTactic
import Derived.Outline
import Derived.Lib.SmallJoins
import Derived.RangeFuncBox
import Derived.BigQuiet
import Derived.BigRegion
import Derived.RegionTactic
import Derived.Deep.QuietTactic
import Derived.Test.YtebedfcemdpedaaProg
import Derived.Test.YtebedfcemdpedaaDelta
import Derived.Test.YtebedfcemdpedaaJoin
import Derived.Laws.IdiomCopy
import Derived.Laws.CopyRow
import Derived.Test.YtebedfcemdpedaaWMore
set_option linter.unusedVariables false
namespace Go.Proofs.Ytebedfcemdpedaa
open Go.RowKit Go.Joins Go.Proofs.YtebedfcemdpedaaW.PrintWords Go.Proofs.YtebedfcemdpedaaW.PrintLast Go.Proofs.YtebedfcemdpedaaW.PrintMore

set_option maxHeartbeats 400000 in
theorem masks_any (n : Nat) (h : n ≤ 1152921504606846976) (w : World) : Calls Try.prog 13 #[.int .i64 n] w fun e w' => e = .returned (.int .i64 ((n + 59) / 60 : Nat)) ∧ w = w' := by
  have e : ((n : Int) + 60 - 1) / 60 = ((n + 59) / 60 : Nat) := by omega
  go_enter Try.func13, Try.ntmps13
  go_wp2
  go_ret
  exact ⟨by rw [← e]; rfl, rfl⟩

set_option maxHeartbeats 400000 in
theorem apply_big (A0 A1 : Option Addr) (n c0 L c1 : Nat) (w : World) (h : 600 < n) (hn : n ≤ 1152921504606846976) :
    Calls Try.prog 11 #[.slice A0 n c0, .slice A1 L c1] w fun e w' => e = .returned (.tuple #[.slice none 0 0, .int .i64 5]) ∧ w = w' := by
  go_enter Try.func11, Try.ntmps11
  go_wp2_with (go_at_call 13; refine (masks_any _ hn _).mono ?_; rintro e w' ⟨rfl, rfl⟩)
  go_ret2
  exact ⟨rfl, rfl⟩
set_option maxHeartbeats 400000 in
theorem apply_more (A0 A1 : Option Addr) (n c0 L c1 : Nat) (w : World) (h : n ≤ 600) (hL : L < (n + 59) / 60) :
    Calls Try.prog 11 #[.slice A0 n c0, .slice A1 L c1] w fun e w' => e = .returned (.tuple #[.slice none 0 0, .int .i64 4]) ∧ w = w' := by
  have h0 : ¬ (600 : Int) < (n : Int) := by omega
  have h1 : (L : Int) < (((n + 59) / 60 : Nat) : Int) := by omega
  obtain ⟨m, hm⟩ : ∃ m, m = (n + 59) / 60 := ⟨_, rfl⟩
  have hn := masks_any n (by omega)
  rw [← hm] at hn h1
  have HN := Aside0.mk hn
  clear hn hm hL
  go_enter Try.func11, Try.ntmps11
  go_wp2_with (go_at_call 13; refine (HN.out _).mono ?_; rintro e w' ⟨rfl, rfl⟩)
  go_ret2
  exact ⟨rfl, rfl⟩

def DPost (w : World) (r : List Int × Int) (e : Ending) (w' : World) : Prop := ∃ v, e = .returned (.tuple #[v, .int .i64 r.2]) ∧ w'.ownsRow w.heap.size 2 1 v r.1.length (nums .i64 r.1) ∧ Below w.heap.size w w'

theorem reads_drop {w : World} {A : Option Addr} {c : Nat} {xs : List Int} (h : ReadsInt w .i64 A xs.length xs) (i : Nat) (hi : i ≤ xs.length) (hc : xs.length ≤ c) : ReadsInt w .i64 (if c = i then A else A.map (·.add i)) (xs.length - i) (xs.drop i) :=
  ReadsOf.drop_ (enc := Value.int .i64) (d := 0) h i hi hc
theorem reads_take' {w : World} {A : Option Addr} {xs : List Int} (h : ReadsInt w .i64 A xs.length xs) (i : Nat) (hi : i ≤ xs.length) : ReadsInt w .i64 A i (xs.take i) := by
  have := reads_take h i hi
  rwa [List.length_take, Nat.min_eq_left hi] at this

theorem own_unfrozen {w : World} {base g n cap : Nat} {e : TypeId} {size : Nat} {xs : List Value} (h : w.ownsRow base e size (.slice (some ⟨g, 0, none⟩) n cap) n xs) (j : Nat) : w.frozen? ⟨g, j, none⟩ = false := by
  obtain ⟨cells, hc⟩ := own_typed h g rfl
  exact blk_frozen hc j
theorem and_one (x : Int) : bits .and .i64 x 1 = x % 2 := by
  show IntKind.i64.wrap ((BitVec.ofInt 64 x &&& BitVec.ofInt 64 1).toNat : Int) = _
  rw [BitVec.toNat_and, BitVec.toNat_ofInt, show (BitVec.ofInt 64 1).toNat = 1 from rfl, Nat.and_one_is_mod, IntKind.wrap_i64]
  omega
theorem copy_made {P : Program} (t ty e : TypeId) (hu : P.underlying t = some (.slice e)) (hs : (P.info? e).map (·.size) = some 1) (W : World) (A : Option Addr) (c : Nat) (xs : List Int) (hr : ReadsInt W .i64 A xs.length xs) :
    (Builtin.copy_ #[t, t] ty #[.slice (some ⟨W.heap.size, 0, none⟩) xs.length xs.length, .slice A xs.length c]).run P (W.alloc (.cells (madeCells #[.int .i64 0] xs.length) e)) = .ok (goInt (xs.length : Nat)) (W.alloc (.cells (nums .i64 xs).toArray e)) := by
  by_cases h0 : xs.length = 0
  · obtain rfl := List.eq_nil_of_length_eq_zero h0
    have e1 : madeCells #[Value.int .i64 0] 0 = #[] := by simp [madeCells]
    have := run_copy_none (P := P) (W.alloc (.cells #[] e)) t t ty e (some ⟨W.heap.size, 0, none⟩) A 0 0 0 c hu hs rfl
    rw [← e1] at this
    rw [show (nums .i64 []).toArray = madeCells #[Value.int .i64 0] 0 from e1.symm]
    exact this
  · obtain ⟨_, hm, hc⟩ := hr
    obtain ⟨ad, rfl, hcell⟩ := hc (by omega)
    have hl : (nums .i64 xs).length = xs.length := nums_length _ _
    have hsz : (madeCells #[Value.int .i64 0] xs.length).size = xs.length := by simp [madeCells]
    have hrun := run_copy_row P (W.alloc (.cells (madeCells #[.int .i64 0] xs.length) e)) t t ty e W.heap.size 0 xs.length xs.length ad xs.length c _ e (nums .i64 xs) hu hs (heap_alloc_new W _) (by rw [hl]; show _ = min _ _; omega)
      (fun j v hv => by
        simp only [nums, List.getElem?_map] at hv
        obtain ⟨y, hy, rfl⟩ := Option.map_eq_some_iff.1 hv
        have hlt := (List.getElem?_eq_some_iff.1 hy).1
        have := hcell j hlt
        rw [List.getD_eq_getElem?_getD, hy] at this
        exact pw_cell_below ((Below.refl _ _).alloc (Nat.le_refl _) _) this) (by rw [hl, hsz]; omega) (fun v hv => by simp only [nums] at hv; obtain ⟨y, _, rfl⟩ := List.mem_map.1 hv; rfl)
    rw [hrun, World.setRow_alloc_new, hl]
    congr 4
    rw [List.take_zero, List.nil_append, List.drop_of_length_le (by rw [Array.length_toList, hsz]; omega), List.append_nil]

set_option maxHeartbeats 1000000 in
theorem apply_any (A0 A1 : Option Addr) (c0 c1 : Nat) (base d : List Int) (w : World) (h : base.length ≤ 600) (hL : (base.length + 59) / 60 ≤ d.length) (hdl : d.length ≤ 1152921504606846) (hr0 : ReadsInt w .i64 A0 base.length base) (hc0 : base.length ≤ c0) (hr1 : ReadsInt w .i64 A1 d.length d) (hc1 : d.length ≤ c1) :
    Calls Try.prog 11 #[.slice A0 base.length c0, .slice A1 d.length c1] w (DPost w (dapply base d)) := by
  have h0 : ¬ (600 : Int) < (base.length : Int) := by omega
  obtain ⟨m, hm⟩ : ∃ m, m = (base.length + 59) / 60 := ⟨_, rfl⟩
  have hn := masks_any base.length (by omega)
  rw [← hm] at hn hL
  have h1 : ¬ (d.length : Int) < (m : Int) := by omega
  have hm10 : m ≤ 10 := by omega
  have HN := Aside0.mk hn
  have HMM := Aside0.mk hm
  have d0 : decide (600 < (base.length : Int)) = false := decide_eq_false h0
  have d1 : decide (d.length < m) = false := decide_eq_false (by omega)
  clear hn hm
  go_enter Try.func11, Try.ntmps11
  go_wp2_with (go_at_call 13; refine (HN.out _).mono ?_; rintro e w' ⟨rfl, rfl⟩)
  go_quiet (fail)
  have hrw := reads_drop (hr1.drewN nq) m hL hc1
  have hrm := reads_take' (hr1.drewN nq) m hL
  have hrb := hr0.drewN nq
  obtain ⟨A', hA'⟩ : ∃ A', (if c1 = m then A1 else Option.map (fun x => x.add m) A1) = A' := ⟨_, rfl⟩
  rw [hA'] at hrw ⊢
  have hrw0 := reads_drop hr1 m hL hc1
  rw [hA'] at hrw0
  clear hA'
  have hB := pw_below_drewN (Below.refl w.heap.size w) nq
  have hsz : (w.drewN nq).heap.size = w.heap.size := rfl
  generalize w.drewN nq = w0 at hrw hrm hrb hB hsz ⊢
  have HSZ := Aside0.mk hsz
  have HB := Aside0.mk hB
  have hlw : (d.drop m).length = d.length - m := List.length_drop
  have hlm : (d.take m).length = m := by rw [List.length_take]; omega
  have ho := ones_any A1 m (d.take m) w0 (by omega) (by rw [hlm]; exact hrm) (by omega)
  rw [hlm] at ho
  have HO := Aside0.mk ho
  have HD : Aside0 (dapply base d = ((if onesL (d.take m) ≠ d.length - m then ([], 2) else match drun (d.take m) base (d.drop m) base.length with
    | none => ([], 2)
    | some (o, ws) => if ws = [] then (o, 0) else ([], 2)) : List Int × Int)) := ⟨by
      unfold dapply
      rw [← HMM.out, if_neg (by omega), if_neg (by omega), hlw]; rfl⟩
  have HL := Aside0.mk hlw
  have HM := Aside0.mk hlm
  clear hsz hB ho hlw hlm
  go_wp2_with fail
  refine HO.out.mono ?_
  rintro e w' ⟨rfl, ⟨n2, rfl⟩⟩
  clear HO
  replace hrw := hrw.drewN n2
  replace hrm := hrm.drewN n2
  replace hrb := hrb.drewN n2
  have hB := pw_below_drewN HB.out n2
  have hsz : (w0.drewN n2).heap.size = w.heap.size := HSZ.out
  clear HB HSZ
  generalize w0.drewN n2 = w1 at hrw hrm hrb hB hsz ⊢
  have hmk := print_make (P := Try.prog) 22 2 .i64 8 Try.underlying22 info2 (by decide) base.length (by omega)
  have hcp := copy_made (P := Try.prog) 22 3 2 Try.underlying22 (by kernel_rfl) w1 A0 c0 base hrb
  by_cases hone : onesL (d.take m) = d.length - m
  · have o1 : ((onesL (d.take m) : Int) != ((d.length - m : Nat) : Int)) = false := by rw [hone]; simp
    have HD2 : Aside0 (dapply base d = ((match drun (d.take m) base (d.drop m) base.length with
    | none => ([], 2)
    | some (o, ws) => if ws = [] then (o, 0) else ([], 2)) : List Int × Int)) := ⟨by rw [HD.out, if_neg (by rw [hone]; simp)]⟩
    have HB := Aside0.mk hB
    have HSZ := Aside0.mk hsz
    have HONE := Aside0.mk hone
    clear hB hsz hone HD
    have HRW := Aside0.mk (hrw0)
    clear hrw hrm hrb
    go_wp2_with fail
    go_loopw [8, 10, 43] (fun v8 _ i wr => ∃ (k : Nat) (o ws : List Int) (Aw : Option Addr) (cw : Nat), k ≤ base.length ∧ i = .int .i64 k ∧ v8 = .slice Aw ws.length cw ∧ Aside0 (drun (d.take m) base (d.drop m) k = some (o, ws)) ∧ Aside0 (ReadsInt w .i64 Aw ws.length ws) ∧ Aside0 (ws.length ≤ cw) ∧
        Aside0 (wr.ownsRow w.heap.size 2 1 (.slice (some ⟨w1.heap.size, 0, none⟩) base.length base.length) base.length (nums .i64 (o ++ base.drop k))) ∧ Aside0 (Below w.heap.size w wr)) (fun _ _ i _ => base.length - (intOf i).toNat)
    case atStart =>
      refine ⟨0, [], d.drop m, A', c1 - m, Nat.zero_le _, rfl, by rw [HL.out], ⟨rfl⟩, ⟨by rw [HL.out]; exact HRW.out⟩, ⟨by rw [HL.out]; omega⟩, ⟨?_⟩, ⟨HB.out.alloc (by rw [HSZ.out]; exact Nat.le_refl _) _⟩⟩
      refine ⟨by simp [nums], .inr ⟨w1.heap.size, base.length, _, rfl, by rw [HSZ.out]; exact Nat.le_refl _, heap_alloc_new w1 _, Nat.le_refl _, by unfold maxLen; omega, by simp [nums], by simp only [nums, List.nil_append, List.drop_zero, Nat.mul_one]; exact List.take_of_length_le (by simp)⟩⟩
    case round =>
      obtain ⟨k, o, ws, Aw, cw, hk, rfl, rfl, HR, HRD, HCW, HOW, HBR⟩ := hrel
      by_cases hlt : k < base.length
      · obtain ⟨ad, e1, hmc⟩ := hr1.2.2 (by have := HMM.out; omega)
        have hkm : k / 60 < m := by have := HMM.out; omega
        have hmask : wr.cell? (ad.add (k / 60)) = some (.int .i64 ((d.take m)[k / 60]?.getD 0)) := by
          have := pw_cell_below HBR.out (hmc (k / 60) (by omega))
          rw [List.getD_eq_getElem?_getD] at this
          rw [List.getElem?_take, if_pos hkm]
          exact this
        subst e1
        clear hmc
        have hand := and_one ((d.take m)[k / 60]?.getD 0 / 2 ^ (k % 60))
        have hbo : bitOf (d.take m) k = (d.take m)[k / 60]?.getD 0 / 2 ^ (k % 60) % 2 := rfl
        rw [← hbo] at hand
        clear hbo
        have hstep : drun (d.take m) base (d.drop m) (k + 1) = dstep (d.take m) k (base[k]?.getD 0) o ws := by simp only [drun, HR.out, Option.bind_some]
        have HST := Aside0.mk hstep
        clear hstep
        generalize (d.take m)[k / 60]?.getD 0 = mw at hmask hand
        rcases bitOf_two (d.take m) k with hb | hb
        · have t1 : (bits BinOp.and IntKind.i64 (mw / 2 ^ (k % 60)) 1 == 0) = true := by rw [hand, hb]; rfl
          have HB0 := Aside0.mk hb
          clear hand hb
          go_wp2
          go_roundw
          case rel =>
            refine ⟨k + 1, o ++ [base[k]?.getD 0], ws, Aw, cw, by omega, by go_num, rfl, ⟨by rw [HST.out]; unfold dstep; rw [if_pos HB0.out]⟩, HRD, HCW, ⟨?_⟩, HBR⟩
            have := HOW.out
            rw [List.drop_eq_getElem_cons hlt] at this
            rw [List.getElem?_eq_getElem hlt, List.append_assoc]
            exact this
          case measure => simp [intOf]; omega
        · have t1 : (bits BinOp.and IntKind.i64 (mw / 2 ^ (k % 60)) 1 == 0) = false := by rw [hand, hb]; rfl
          have HB1 := Aside0.mk hb
          clear hand hb
          obtain ⟨hol, hcnt⟩ := drun_words _ _ _ _ _ _ HR.out
          have hws : 0 < ws.length := by
            have h2 := cnt_le (d.take m) (k + 1) (by rw [HM.out]; have := HMM.out; omega)
            simp only [cnt] at h2
            rw [if_neg (by rw [HB1.out]; decide)] at h2
            have := HONE.out
            have := HL.out
            omega
          obtain ⟨x, r, e2⟩ : ∃ x r, ws = x :: r := by cases ws with
            | nil => simp at hws
            | cons x r => exact ⟨x, r, rfl⟩
          obtain ⟨aw, e3, hwc⟩ := HRD.out.2.2 hws
          subst e3
          have hx0 : wr.cell? aw = some (.int .i64 x) := by
            have := pw_cell_below HBR.out (hwc 0 hws)
            rw [e2] at this
            exact this
          have hok : wr.cell? ⟨w1.heap.size, k, none⟩ = some (.int .i64 (base[k]?.getD 0)) := by
            have := HOW.out.cells (g := w1.heap.size) rfl k (.int .i64 (base[k]?.getD 0)) (by
              simp only [nums, List.getElem?_map]
              rw [List.getElem?_append_right (by omega), hol, Nat.sub_self, List.drop_eq_getElem_cons hlt]
              simp [hlt])
            rwa [add_plain] at this
          have E2 := Aside0.mk e2
          have HOL := Aside0.mk hol
          have HWX := HCW.out
          clear hwc e2 hcnt hol
          have hbk : base[k]?.getD 0 = base[k] := by rw [List.getElem?_eq_getElem hlt]; rfl
          have HBK := Aside0.mk hbk
          clear hbk
          have HST2 := HST
          generalize base[k]?.getD 0 = bk at hok HST HBK
          clear HST2
          by_cases hxb : x = bk
          · have t2 : (x == bk) = true := beq_iff_eq.2 hxb
            have HXB := Aside0.mk hxb
            clear hxb
            go_wp2
            go_quiet (fail)
            go_wp2
            go_ret2
            have hnone : drun (d.take m) base (d.drop m) (k + 1) = none := by
              rw [HST.out]
              unfold dstep
              rw [if_neg (by rw [HB1.out]; decide), E2.out]
              simp only
              rw [if_pos HXB.out]
            rw [HD2.out, drun_none _ _ _ (k + 1) hnone _ (by omega)]
            exact ⟨_, rfl, own_nil _ _ _ _, pw_below_drewN HBR.out nq⟩
          · have t2 : (x == bk) = false := beq_eq_false_iff_ne.2 hxb
            have HXB := Aside0.mk hxb
            clear hxb
            go_wp2
            go_quiet (fail)
            go_wp2
            have hx1 : (wr.drewN nq).cell? aw = some (.int .i64 x) := hx0
            have hok1 : (wr.drewN nq).cell? ⟨w1.heap.size, k, none⟩ = some (.int .i64 bk) := hok
            have hfz1 : (wr.drewN nq).frozen? ⟨w1.heap.size, k, none⟩ = false := own_unfrozen HOW.out k
            have HBR1 := Aside0.mk (pw_below_drewN HBR.out nq)
            have HOW1 := Aside0.mk (pw_own_drewN HOW.out nq)
            clear hx0 hok
            generalize wr.drewN nq = wq at hx1 hok1 hfz1 HBR1 HOW1 ⊢
            have hsr : drun (d.take m) base (d.drop m) (k + 1) = some (o ++ [x], r) := by
              rw [HST.out]
              unfold dstep
              rw [if_neg (by rw [HB1.out]; decide), E2.out]
              simp only
              rw [if_neg HXB.out]
            have HSR := Aside0.mk hsr
            have hlr : r.length = ws.length - 1 := by rw [E2.out]; simp
            have HLR := Aside0.mk hlr
            have hrr := reads_drop (c := cw) HRD.out 1 (by omega) HCW.out
            rw [E2.out, ← E2.out, ← hlr] at hrr
            have HRR := Aside0.mk (show ReadsInt w .i64 (if cw = 1 then some aw else (some aw).map (·.add 1)) r.length r by have := hrr; rw [E2.out] at this; exact this)
            have hset : (o ++ base.drop k).set k x = o ++ [x] ++ base.drop (k + 1) := by
              rw [List.drop_eq_getElem_cons hlt, List.set_append_right _ _ (by rw [HOL.out]; exact Nat.le_refl _), HOL.out, Nat.sub_self, List.set_cons_zero, List.append_assoc]
              rfl
            have HST3 : Aside0 ((wq.setCell ⟨w1.heap.size, k, none⟩ (.int .i64 x)).drew.ownsRow w.heap.size 2 1 (.slice (some ⟨w1.heap.size, 0, none⟩) base.length base.length) base.length (nums .i64 (o ++ [x] ++ base.drop (k + 1)))) := ⟨by
              have := (own_store HOW1.out (k : Int) x).1
              rw [Int.toNat_natCast, hset] at this
              exact pw_own_drewN this 1⟩
            have HB3 : Aside0 (Below w.heap.size w (wq.setCell ⟨w1.heap.size, k, none⟩ (.int .i64 x)).drew) := ⟨pw_below_drewN (HBR1.out.setCell (p := ⟨w1.heap.size, k, none⟩) (by rw [HSZ.out]; exact Nat.le_refl _) _) 1⟩
            clear hsr hlr hrr hset HOW1 HBR1
            by_cases hcw : cw = 1
            · have HC := Aside0.mk hcw
              go_region
              go_wp2
              go_roundw
              case rel => exact ⟨k + 1, o ++ [x], r, some aw, 0, by omega, by go_num, by rw [HLR.out], HSR, ⟨by have := HRR.out; rw [if_pos HC.out] at this; exact this⟩, ⟨by have := HLR.out; omega⟩, HST3, HB3⟩
              case measure => simp [intOf]; omega
            · have HC := Aside0.mk hcw
              go_region
              go_wp2
              go_roundw
              case rel => exact ⟨k + 1, o ++ [x], r, some ⟨aw.block, aw.off + 1, none⟩, cw - 1, by omega, by go_num, by rw [HLR.out], HSR, ⟨by have := HRR.out; rw [if_neg HC.out] at this; exact this⟩, ⟨by have := HLR.out; omega⟩, HST3, HB3⟩
              case measure => simp [intOf]; omega
      · obtain rfl : k = base.length := by omega
        by_cases hws : ws = []
        · have hwl : ws.length = 0 := by rw [hws]; rfl
          have HWS := Aside0.mk hws
          clear hws
          go_wp2
          go_ret2
          rw [HD2.out, HR.out]
          simp only
          rw [if_pos HWS.out]
          have := HOW.out
          obtain ⟨hol, _⟩ := drun_words _ _ _ _ _ _ HR.out
          rw [List.drop_length, List.append_nil, ← hol] at this
          exact ⟨_, rfl, by rw [← hol] at *; exact this, HBR.out⟩
        · have hwl : 0 < ws.length := List.length_pos_iff.2 hws
          have HWS := Aside0.mk hws
          clear hws
          go_wp2
          go_ret2
          rw [HD2.out, HR.out]
          simp only
          rw [if_neg HWS.out]
          exact ⟨_, rfl, own_nil _ _ _ _, HBR.out⟩
  · have o1 : ((onesL (d.take m) : Int) != ((d.length - m : Nat) : Int)) = true := by rw [bne_iff_ne]; omega
    have HD2 : Aside0 (dapply base d = ([], 2)) := ⟨by rw [HD.out, if_pos hone]⟩
    have HB := Aside0.mk hB
    clear hB hsz hone HD
    go_wp2_with fail
    go_ret2
    rw [HD2.out]
    exact ⟨_, rfl, own_nil _ _ _ _, HB.out⟩
end Go.Proofs.Ytebedfcemdpedaa
