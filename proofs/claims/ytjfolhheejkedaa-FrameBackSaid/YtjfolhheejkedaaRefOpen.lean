import Derived.Test.YtjfolhheejkedaaRef2
import Derived.Test.YtjfolhheejkedaaOpen
import Derived.Deep.RegionWith
set_option linter.unusedVariables false
namespace Go.Proofs.Ytjfolhheejkedaa.Ref
open Go.RowKit Go.Joins Go.Proofs.YtjfolhheejkedaaW.PrintWords Go.Proofs.YtjfolhheejkedaaW.PrintLast Go.Proofs.YtjfolhheejkedaaW.PrintMore

theorem seal_own (k : Nat) (A : Option Addr) (c n : Nat) (l r : List Int) (w : World) (hn : l.length = n) (hr : ReadsInt w .u8 A n l) (hc : n ≤ c) (h : alidaderef07_Seal.f k l = some r) :
    Calls Try.prog 26 #[.slice A n c] w fun e w' => ∃ v, e = .returned v ∧ w'.ownsRow w.heap.size 5 1 v r.length (nums .u8 r) ∧ Below w.heap.size w w' := by
  subst hn
  refine (alidaderef07_Seal.calls k A c l r w (Kd.C_of_reads (d := 0) hr) hc h).mono ?_
  rintro e w' ⟨v, rfl, hR, hB⟩
  exact ⟨v, rfl, Kd.own_of_R hR, hB⟩
theorem same_own (k : Nat) (A0 : Option Addr) (c0 n0 : Nat) (l0 : List Int) (A1 : Option Addr) (c1 n1 : Nat) (l1 : List Int) (r : Bool) (w : World) (h0 : l0.length = n0) (h1 : l1.length = n1) (hr0 : ReadsInt w .u8 A0 n0 l0) (hc0 : n0 ≤ c0) (hr1 : ReadsInt w .u8 A1 n1 l1) (hc1 : n1 ≤ c1) (h : alidaderef07_Same.f k l0 l1 = some r) :
    Calls Try.prog 15 #[.slice A0 n0 c0, .slice A1 n1 c1] w fun e w' => e = .returned (.bool r) ∧ Below w.heap.size w w' := by
  subst h0
  subst h1
  refine (alidaderef07_Same.calls k A0 c0 l0 A1 c1 l1 r w (Kd.C_of_reads (d := 0) hr0) hc0 (Kd.C_of_reads (d := 0) hr1) hc1 h).mono ?_
  rintro e w' ⟨rfl, hB⟩
  exact ⟨rfl, by first | exact hB | exact hB.below⟩
set_option maxHeartbeats 2000000 in
theorem alidaderef07_Open.calls (k : Nat) (A0 : Option Addr) (c0 : Nat) (l0 : List Int) (r1 : List Int) (r2 : Int) (w : World) (hr0 : Kd.C (Kd.int .u8) w A0 l0.length l0) (hc0 : l0.length ≤ c0) (h : alidaderef07_Open.f k l0 = some (r1, r2)) :
    Calls Try.prog 27 #[.slice A0 l0.length c0] w fun e w' => ∃ v0_ : Value, e = .returned (.tuple #[v0_, .int .i64 r2]) ∧ Kd.R (Kd.int .u8) 5 w' w.heap.size (fun _ => True) v0_ r1 ∧ Below w.heap.size w w' := by
  have hr : ReadsInt w .u8 A0 l0.length l0 := Kd.reads_of_C (d := 0) hr0
  have hm := hr.2.1
  unfold alidaderef07_Open.f at h
  by_cases c2 : (l0.length : Int) < 4
  · rw [if_pos c2] at h
    simp only [Option.some.injEq, Prod.mk.injEq] at h
    obtain ⟨rfl, rfl⟩ := h
    have b1 : decide ((l0.length : Int) < 4) = true := decide_eq_true c2
    clear hr hr0 c2
    go_enter Try.func27, Try.ntmps27
    go_wp2
    go_ret2
    exact ⟨_, rfl, Kd.R_nil _ _ _ _ _, Below.refl _ _⟩
  · rw [if_neg c2] at h
    obtain ⟨m, hm4⟩ : ∃ m, l0.length = m + 4 := ⟨l0.length - 4, by omega⟩
    have hw : wrap64 ((l0.length : Int) - 4) = (m : Int) := by unfold wrap64; omega
    simp only [Option.bind_some] at h
    rw [hw, if_pos (by omega), if_pos (by omega), Int.toNat_natCast] at h
    simp only [List.nil_append, List.length_nil, Nat.zero_add] at h
    split at h
    · rename_i hsz
      obtain ⟨t, hs, h⟩ := Option.bind_eq_some_iff.1 h
      obtain ⟨b, hb, h9⟩ := Option.bind_eq_some_iff.1 h
      have hlt : (l0.take m).length = m := by rw [List.length_take]; omega
      rw [hlt] at hsz
      have hrt := reads_take8 hr m (by omega)
      have HRT := Aside0.mk hrt
      have HR := Aside0.mk hr
      have HS := Aside0.mk hs
      have HBB := Aside0.mk hb
      have HLT := Aside0.mk hlt
      have HL := Aside0.mk hm4
      have HC0 := Aside0.mk hc0
      have HH := Aside0.mk h9
      have HE : Aside0 (∀ w0 : World, (w0.alloc (.cells #[] 5)).ownsRow w0.heap.size 5 1 (.slice (some ⟨w0.heap.size, 0, none⟩) 0 0) ([] : List Int).length (nums .u8 [])) :=
        ⟨fun w0 => ⟨rfl, .inr ⟨w0.heap.size, 0, _, rfl, Nat.le_refl _, heap_alloc_new w0 _, Nat.le_refl _, by unfold maxLen; omega, rfl, rfl⟩⟩⟩
      have hc4 : m ≤ c0 := by omega
      have hmx : m < 140737488355328 := hsz
      rw [hm4] at hm
      have h4 : decide ((m : Int) + 4 < 4) = false := decide_eq_false (by omega)
      rw [hm4]
      clear hr hr0 hrt hs hb hlt hm4 h h9 c2 hw hc0 hsz
      go_enter Try.func27, Try.ntmps27
      go_wp2_with (at_builtin; refine print_append_row (w0 := w) w.heap.size rfl _ _ 28 5 .u8 1 rfl Try.underlying28 info5 (by decide) _ [] (l0.take m) A0 m c0 rfl rfl (HE.out w) (ReadsInt.allocS HRT.out _) ((Below.refl _ w).alloc (Nat.le_refl _) _) (by simp) (by simp; omega) ?_; intro v1 w2 ho2 hB2 _ _)
      rw [List.nil_append, HLT.out] at ho2
      obtain ⟨A1, c1, rfl⟩ := own_slice ho2
      have HO2 := Aside0.mk ho2
      have HB2 := Aside0.mk hB2
      clear ho2 hB2
      cases b
      · have hh : ([], 3) = (r1, r2) := by have := HH.out; simpa using this
        injection hh with e1 e2
        subst e1
        subst e2
        go_wp2_with (first | (go_at_call 26; refine (seal_own k A1 c1 m (l0.take m) t w2 HLT.out (own_reads' HO2.out) (own_cap HO2.out) HS.out).mono ?_; rintro e w3 ⟨v, rfl, ho, hB⟩; obtain ⟨A3, c3, rfl⟩ := own_slice ho; have HO3 := Aside0.mk ho; have HO23 := Aside0.mk (pw_own_below HO2.out hB); have HB3 := Aside0.mk (below_step HB2.out hB); clear ho hB) | (go_at_call 15; refine (same_own k A3 c3 t.length t A0 c0 (m + 4) l0 _ _ rfl HL.out (own_reads' HO3.out) (own_cap HO3.out) (HL.out ▸ ReadsInt.below HR.out HB3.out) (HL.out ▸ HC0.out) HBB.out).mono ?_; rintro e w4 ⟨rfl, hB⟩; have HO4 := Aside0.mk (pw_own_below HO23.out hB); have HB4 := Aside0.mk (below_step HB3.out hB); clear hB))
        go_ret2
        exact ⟨_, rfl, Kd.R_nil _ _ _ _ _, HB4.out⟩
      · have hh : (l0.take m, 0) = (r1, r2) := by have := HH.out; simpa using this
        injection hh with e1 e2
        subst e1
        subst e2
        go_wp2_with (first | (go_at_call 26; refine (seal_own k A1 c1 m (l0.take m) t w2 HLT.out (own_reads' HO2.out) (own_cap HO2.out) HS.out).mono ?_; rintro e w3 ⟨v, rfl, ho, hB⟩; obtain ⟨A3, c3, rfl⟩ := own_slice ho; have HO3 := Aside0.mk ho; have HO23 := Aside0.mk (pw_own_below HO2.out hB); have HB3 := Aside0.mk (below_step HB2.out hB); clear ho hB) | (go_at_call 15; refine (same_own k A3 c3 t.length t A0 c0 (m + 4) l0 _ _ rfl HL.out (own_reads' HO3.out) (own_cap HO3.out) (HL.out ▸ ReadsInt.below HR.out HB3.out) (HL.out ▸ HC0.out) HBB.out).mono ?_; rintro e w4 ⟨rfl, hB⟩; have HO4 := Aside0.mk (pw_own_below HO23.out hB); have HB4 := Aside0.mk (below_step HB3.out hB); clear hB))
        go_ret2
        exact ⟨_, rfl, Kd.R_of_own (by rw [HLT.out]; exact HO4.out) (fun _ _ => trivial), HB4.out⟩
    · cases h
end Go.Proofs.Ytjfolhheejkedaa.Ref
