import Derived.Test.YtjfolhheejkedaaConcat
import Derived.Test.YtjfolhheejkedaaRef1
import Derived.Deep.RegionWith
import Derived.WalkSpells
set_option linter.unusedVariables false
namespace Go.Proofs.Ytjfolhheejkedaa
open Go.RowKit Go.Joins Go.Proofs.YtjfolhheejkedaaW.PrintWords Go.Proofs.YtjfolhheejkedaaW.PrintLast Go.Proofs.YtjfolhheejkedaaW.PrintMore

theorem tailF_bytes (xs : List Int) : IsBytes (tailF xs) := by
  intro x hx
  simp only [tailF, List.mem_cons, List.not_mem_nil, or_false] at hx
  rcases hx with rfl | rfl | rfl | rfl <;> (unfold tb; simp; omega)
theorem tailF_length (xs : List Int) : (tailF xs).length = 4 := rfl
theorem tail_own {w w1 w' : World} {xs : List Int} (hB : Below w.heap.size w w1) (h : w' = w1.alloc (.cells (nums .u8 (tailF xs)).toArray 5)) :
    w'.ownsRow w.heap.size 5 1 (.slice (some ⟨w1.heap.size, 0, none⟩) 4 4) 4 (nums .u8 (tailF xs)) ∧ Below w.heap.size w w' := by
  subst h
  exact ⟨⟨rfl, .inr ⟨w1.heap.size, 4, _, rfl, hB.size, heap_alloc_new w1 _, Nat.le_refl _, by unfold maxLen; omega, rfl, by simp [nums, tailF]⟩⟩, hB.alloc hB.size _⟩
set_option maxHeartbeats 1000000 in
/-- Seal: the sum laid behind -/
theorem seal_any (A : Option Addr) (c : Nat) (xs : List Int) (w : World) (hb : IsBytes xs) (hx : xs.length ≤ 100000000000) (hr : ReadsInt w .u8 A xs.length xs) :
    Calls Try.prog 21 #[.slice A xs.length c] w fun e w' => ∃ v, e = .returned v ∧ w'.ownsRow w.heap.size 5 1 v (xs.length + 4) (nums .u8 (xs ++ tailF xs)) ∧ Below w.heap.size w w' := by
  go_enter Try.func21, Try.ntmps21
  go_wp2_with fail
  refine (tail_any A c xs w hb hr).mono ?_
  rintro e w2 ⟨w1, rfl, hB, hw⟩
  obtain ⟨ho, hB2⟩ := tail_own hB hw
  have HO := Aside0.mk ho
  have HB := Aside0.mk hB2
  clear ho hB2 hB hw
  generalize w1.heap.size = g1 at HO ⊢
  go_wp2_with fail
  refine (concat_any w2.heap.size c 4 A (some ⟨g1, 0, none⟩) xs (tailF xs) _ ?_ ?_ hx (by rw [tailF_length]; omega) ?_ ?_).mono ?_
  · exact World.cell?_alloc_at _ _ _ _ rfl
  · exact World.cell?_alloc_at _ _ _ _ rfl
  · exact ReadsInt.allocS (ReadsInt.below hr HB.out) _
  · exact ReadsInt.allocS (own_reads' HO.out) _
  rintro e w3 ⟨v, rfl, ho, hB⟩
  go_wp2
  go_ret
  exact ⟨_, rfl, own_less ho (by have := HB.out.size; simp; omega), below_step (HB.out.alloc HB.out.size _) hB⟩

set_option maxHeartbeats 1000000 in
theorem clone_any (A : Option Addr) (c : Nat) (xs : List Int) (w : World) (hx : xs.length ≤ 100000000000) (hr : ReadsInt w .u8 A xs.length xs) :
    Calls Try.prog 35 #[.slice A xs.length c] w fun e w' => ∃ v, e = .returned v ∧ w'.ownsRow w.heap.size 5 1 v xs.length (nums .u8 xs) ∧ Below w.heap.size w w' := by
  cases A with
  | none =>
    have hl : xs = [] := List.eq_nil_of_length_eq_zero (by
      have h := hr.2.2
      exact Nat.eq_zero_of_not_pos fun h0 => by obtain ⟨ad, e, _⟩ := h h0; cases e)
    subst hl
    have hq := fun w => Lib.run_eql_slice_nil (P := Try.prog) w 28 5 none 0 c 0 0 Try.underlying28
    go_enter Try.func35, Try.ntmps35
    go_wp2
    go_ret
    exact ⟨_, rfl, own_nil _ _ _ _, Below.refl _ _⟩
  | some ad =>
    have hq := fun w => Lib.run_eql_slice_nil (P := Try.prog) w 28 5 (some ad) xs.length c 0 0 Try.underlying28
    have hbs : ∀ w, (Instr.buildSlice 28 0 #[]).run Try.prog w = .ok (.slice (some ⟨w.heap.size, 0, none⟩) 0 0) (w.alloc (.cells #[] 5)) := fun _ => by kernel_rfl
    have HE : Aside0 (∀ w0 : World, (w0.alloc (.cells #[] 5)).ownsRow w0.heap.size 5 1 (.slice (some ⟨w0.heap.size, 0, none⟩) 0 0) ([] : List Int).length (nums .u8 [])) :=
      ⟨fun w0 => ⟨rfl, .inr ⟨w0.heap.size, 0, _, rfl, Nat.le_refl _, heap_alloc_new w0 _, Nat.le_refl _, by unfold maxLen; omega, rfl, rfl⟩⟩⟩
    go_enter Try.func35, Try.ntmps35
    go_wp2_with (at_builtin; refine print_append_row (w0 := w) w.heap.size rfl _ _ 28 5 .u8 1 rfl Try.underlying28 info5 (by decide) _ [] xs (some ad) xs.length c rfl rfl (HE.out w) (ReadsInt.allocS hr _) ((Below.refl _ w).alloc (Nat.le_refl _) _) (by simp) (by simp; omega) ?_; intro v1 w2 ho2 hB2 _ _)
    go_ret
    exact ⟨_, rfl, ho2, hB2⟩

theorem tail_any2 (A : Option Addr) (c n : Nat) (xs : List Int) (w : World) (hn : xs.length = n) (hb : IsBytes xs) (hr : ReadsInt w .u8 A n xs) :
    Calls Try.prog 33 #[.slice A n c] w fun e w' => ∃ g, e = .returned (.slice (some ⟨g, 0, none⟩) 4 4) ∧ w'.ownsRow w.heap.size 5 1 (.slice (some ⟨g, 0, none⟩) 4 4) 4 (nums .u8 (tailF xs)) ∧ Below w.heap.size w w' := by
  subst hn
  refine (tail_any A c xs w hb hr).mono ?_
  rintro e w2 ⟨w1, rfl, hB, hw⟩
  obtain ⟨ho, hB2⟩ := tail_own hB hw
  exact ⟨_, rfl, ho, hB2⟩
theorem clone_any2 (A : Option Addr) (c n : Nat) (xs : List Int) (w : World) (hn : xs.length = n) (hx : n ≤ 100000000000) (hr : ReadsInt w .u8 A n xs) :
    Calls Try.prog 35 #[.slice A n c] w fun e w' => ∃ v, e = .returned v ∧ w'.ownsRow w.heap.size 5 1 v n (nums .u8 xs) ∧ Below w.heap.size w w' := by
  subst hn
  exact clone_any A c xs w hx hr
/-- Open: the sum taken off -/
def openF (bs : List Int) : List Int × Int :=
  if bs.length < 4 then ([], 4) else if tailF (bs.take (bs.length - 4)) = bs.drop (bs.length - 4) then (bs.take (bs.length - 4), 0) else ([], 3)
def OPost (w : World) (r : List Int × Int) (e : Ending) (w' : World) : Prop := ∃ v, e = .returned (.tuple #[v, .int .i64 r.2]) ∧ w'.ownsRow w.heap.size 5 1 v r.1.length (nums .u8 r.1) ∧ Below w.heap.size w w'

theorem strOf_inj : ∀ (xs ys : List Int), IsBytes xs → IsBytes ys → ((strOfNums xs).toList == (strOfNums ys).toList) = decide (xs = ys) := by
  intro xs ys hx hy
  have key : ∀ (xs ys : List Int), IsBytes xs → IsBytes ys → (xs.map fun n => UInt8.ofNat n.toNat) = (ys.map fun n => UInt8.ofNat n.toNat) → xs = ys := by
    intro xs
    induction xs with
    | nil => intro ys _ _ h; cases ys with | nil => rfl | cons y ys => simp at h
    | cons x xs ih =>
      intro ys hx hy h
      cases ys with
      | nil => simp at h
      | cons y ys =>
        simp only [List.map_cons, List.cons.injEq] at h
        have h1 := hx x (by simp)
        have h2 := hy y (by simp)
        have h3 := congrArg UInt8.toNat h.1
        rw [UInt8.toNat_ofNat', UInt8.toNat_ofNat', Nat.mod_eq_of_lt (by omega), Nat.mod_eq_of_lt (by omega)] at h3
        rw [ih ys (fun z hz => hx z (by simp [hz])) (fun z hz => hy z (by simp [hz])) h.2, show x = y by omega]
  rw [ByteArray.toList_eq, ByteArray.toList_eq]
  by_cases h : xs = ys
  · rw [h]; simp
  · rw [decide_eq_false h]
    apply Bool.eq_false_iff.2
    intro h2
    exact h (key xs ys hx hy (by simpa [strOfNums] using eq_of_beq h2))
theorem reads_take8 {w : World} {A : Option Addr} {xs : List Int} (h : ReadsInt w .u8 A xs.length xs) (i : Nat) (hi : i ≤ xs.length) : ReadsInt w .u8 A i (xs.take i) := by
  have := reads_take h i hi
  rwa [List.length_take, Nat.min_eq_left hi] at this
theorem reads_drop8 {w : World} {A : Option Addr} {c : Nat} {xs : List Int} (h : ReadsInt w .u8 A xs.length xs) (i : Nat) (hi : i ≤ xs.length) (hc : xs.length ≤ c) : ReadsInt w .u8 (if c = i then A else A.map (·.add i)) (xs.length - i) (xs.drop i) :=
  ReadsOf.drop_ (enc := Value.int .u8) (d := 0) h i hi hc
theorem bytes_eq (A0 : Option Addr) (c0 n0 : Nat) (l0 : List Int) (A1 : Option Addr) (c1 n1 : Nat) (l1 : List Int) (w : World) (h0 : l0.length = n0) (h1 : l1.length = n1) (hb0 : IsBytes l0) (hb1 : IsBytes l1) (hr0 : ReadsInt w .u8 A0 n0 l0) (hc0 : n0 ≤ c0) (hr1 : ReadsInt w .u8 A1 n1 l1) (hc1 : n1 ≤ c1) :
    Calls Try.prog 34 #[.slice A0 n0 c0, .slice A1 n1 c1] w fun e w' => e = .returned (.bool (decide (l0 = l1))) ∧ Drawn0 w w' := by
  subst h0
  subst h1
  have hC0 : Kd.C (Kd.int .u8) w A0 l0.length l0 := Kd.C_of_reads (d := 0) hr0
  have hC1 : Kd.C (Kd.int .u8) w A1 l1.length l1 := Kd.C_of_reads (d := 0) hr1
  exact Ref.bytes_Equal.calls A0 c0 l0 A1 c1 l1 _ w hC0 hc0 hC1 hc1 (by unfold Ref.bytes_Equal.f; rw [strOf_inj _ _ hb0 hb1])

set_option maxHeartbeats 1000000 in
theorem open_any (A : Option Addr) (c : Nat) (bs : List Int) (w : World) (hb : IsBytes bs) (hx : bs.length ≤ 100000000000) (hr : ReadsInt w .u8 A bs.length bs) (hc : bs.length ≤ c) :
    Calls Try.prog 22 #[.slice A bs.length c] w (OPost w (openF bs)) := by
  have hm := hr.2.1
  by_cases h4 : bs.length < 4
  · have HF : Aside0 (openF bs = ([], 4)) := ⟨by unfold openF; rw [if_pos h4]⟩
    have h0 : decide ((bs.length : Int) - 4 < 0) = true := decide_eq_true (by omega)
    have h1 : decide ((bs.length : Int) < 4) = true := decide_eq_true (by omega)
    clear hr hb
    go_enter Try.func22, Try.ntmps22
    go_wp2
    go_ret2
    rw [HF.out]
    exact ⟨_, rfl, own_nil _ _ _ _, Below.refl _ _⟩
  · obtain ⟨m, hm4⟩ : ∃ m, bs.length = m + 4 := ⟨bs.length - 4, by omega⟩
    have HF : Aside0 (openF bs = if tailF (bs.take m) = bs.drop m then (bs.take m, 0) else ([], 3)) := ⟨by unfold openF; rw [if_neg h4, hm4, Nat.add_sub_cancel]⟩
    have hrt := reads_take8 hr m (by omega)
    have hrd := reads_drop8 hr m (by omega) hc
    rw [if_neg (by omega)] at hrd
    rw [hm4] at hr hc hx hrd ⊢
    have HL := Aside0.mk hm4
    have hlt : (bs.take m).length = m := by rw [List.length_take]; omega
    have hld : (bs.drop m).length = m + 4 - m := by rw [List.length_drop]; omega
    have HLT := Aside0.mk hlt
    have HLD := Aside0.mk hld
    have HRT := Aside0.mk hrt
    have HRD := Aside0.mk hrd
    have hcm : ¬ c = m := by omega
    have h0 : decide ((m : Int) < 0) = false := decide_eq_false (by omega)
    clear h4 hm4 hlt hld hrt hrd hm
    go_enter Try.func22, Try.ntmps22
    go_wp2_with fail
    have HRTD : Aside0 (ReadsInt w.drew .u8 A m (bs.take m)) := ⟨HRT.out⟩
    have HRDD : Aside0 (ReadsInt w.drew .u8 (A.map (·.add m)) 4 (bs.drop m)) := ⟨by have := HRD.out; rw [Nat.add_sub_cancel_left] at this; exact this⟩
    have HBD : Aside0 (Below w.heap.size w w.drew) := ⟨(Below.refl _ _).drew⟩
    go_region_with (first | (go_at_call 33; refine (tail_any2 A c m (bs.take m) w.drew HLT.out (hb.take m) HRTD.out).mono ?_; rintro e w2 ⟨g, rfl, ho, hB⟩; have HO := Aside0.mk ho; have HB := Aside0.mk hB; clear ho hB) | (go_at_call 34; refine (bytes_eq (some ⟨g, 0, none⟩) 4 4 (tailF (bs.take m)) (A.map (·.add m)) (c - m) 4 (bs.drop m) w2 rfl ?_ (tailF_bytes _) (hb.drop m) (own_reads' HO.out) (by omega) (ReadsInt.below HRDD.out HB.out) (by omega)).mono ?_; (rw [HLD.out]; omega); rintro e w3 ⟨rfl, ⟨nq, rfl⟩⟩))
    all_goals first | (exact ?_) | skip
    all_goals clear HBD
    all_goals have HBN : Aside0 (Below w.heap.size w (w2.drewN nq)) := ⟨pw_below_drewN (below_step (Below.refl _ w).drew HB.out) nq⟩
    all_goals have HRN : Aside0 (ReadsInt (w2.drewN nq) .u8 A m (bs.take m)) := ⟨ReadsInt.below HRT.out HBN.out⟩
    all_goals generalize w2.drewN nq = w4 at HBN HRN ⊢
    all_goals by_cases heq : tailF (bs.take m) = bs.drop m
    all_goals first
      | (have hd : decide (tailF (bs.take m) = bs.drop m) = true := decide_eq_true heq
         rw [hd]
         have HF2 : Aside0 (openF bs = (bs.take m, 0)) := ⟨by rw [HF.out, if_pos heq]⟩
         clear hd heq HF
         go_wp2_with (go_at_call 35; refine (clone_any2 A c m (bs.take m) w4 HLT.out (by omega) HRN.out).mono ?_; rintro e w5 ⟨v, rfl, ho, hB⟩)
         go_ret2
         rw [HF2.out]
         exact ⟨_, rfl, by rw [HLT.out]; exact own_less ho HBN.out.size, below_step HBN.out hB⟩)
      | (have hd : decide (tailF (bs.take m) = bs.drop m) = false := decide_eq_false heq
         rw [hd]
         have HF2 : Aside0 (openF bs = ([], 3)) := ⟨by rw [HF.out, if_neg heq]⟩
         clear hd heq HF
         go_wp2
         go_ret2
         rw [HF2.out]
         exact ⟨_, rfl, own_nil _ _ _ _, HBN.out⟩)
end Go.Proofs.Ytjfolhheejkedaa
