import Derived.Test.YtjfolhheejkedaaNum
import Derived.Test.YtjfolhheejkedaaIter
set_option linter.unusedVariables false
namespace Go.Proofs.Ytjfolhheejkedaa
open Go.RowKit Go.Joins Go.Proofs.YtjfolhheejkedaaW.PrintWords Go.Proofs.YtjfolhheejkedaaW.PrintLast Go.Proofs.YtjfolhheejkedaaW.PrintMore

/-- n numbers of eight bytes each -/
def numsOf (l : List Int) (n : Nat) : List Int := (List.range n).map fun i => numberF ((l.drop (8 * i)).take 8)
/-- the frame of bytes: kind, numbers, error -/
def decF (bs : List Int) : Int × List Int × Int :=
  if (openF bs).2 ≠ 0 then (0, [], (openF bs).2) else
  match (openF bs).1 with
  | [] => (0, [], 2)
  | x :: t => if longF x = 0 ∨ t.length ≠ 8 * longF x then (0, [], 2) else (x, numsOf t (longF x), 0)
def DecPost (w : World) (r : Int × List Int × Int) (e : Ending) (w' : World) : Prop :=
  ∃ v, e = .returned (.tuple #[.agg #[.int .i64 r.1, v], .int .i64 r.2.2]) ∧ w'.ownsRow w.heap.size 2 1 v r.2.1.length (nums .i64 r.2.1) ∧ Below w.heap.size w w'

theorem size24 : (Try.prog.info? 24).map (·.size) = some 2 := by kernel_rfl
theorem results_dec (tmps : Array Value) (w : World) (g : Nat) (k v e : Value) (hp : tmps.getD 2 undef = .pointer (some ⟨g, 0, none⟩)) (he : tmps.getD 3 undef = e) (hg : w.heap[g]? = some (.cells #[k, v] 24 (0, 0))) :
    (results Try.f10 tmps).run Try.prog w = .ok (.tuple #[.agg #[k, v], e]) w := by
  rw [results_ct (P := Try.prog) (fn := Try.f10) rfl tmps w g 24 #[k, v] (0, 0) _ hp hg Try.underlying24 rfl size24, he]
set_option maxHeartbeats 2000000 in
theorem decode_err (A : Option Addr) (c : Nat) (bs : List Int) (w : World) (hb : IsBytes bs) (hx : bs.length ≤ 100000000000) (hr : ReadsInt w .u8 A bs.length bs) (hc : bs.length ≤ c) (h : (openF bs).2 ≠ 0) :
    Calls Try.prog 10 #[.slice A bs.length c] w (DecPost w (decF bs)) := by
  have HF : Aside0 (decF bs = (0, [], (openF bs).2)) := ⟨by unfold decF; rw [if_pos h]⟩
  have HO := Aside0.mk (fun W hr => open_any A c bs W hb hx hr hc)
  clear hb
  generalize openF bs = r at h HF HO
  have hz : ((r.2 : Int) != 0) = true := bne_iff_ne.2 h
  clear h
  have hu24 := Try.underlying24
  have HR := Aside0.mk (ReadsInt.below hr ((Below.refl _ w).alloc (Nat.le_refl _) (.cells #[.int .i64 0, .slice none 0 0] 24)))
  have hB0 := Aside0.mk ((Below.refl _ w).alloc (Nat.le_refl _) (.cells #[.int .i64 0, .slice none 0 0] 24))
  have hbx := Aside0.mk (heap_alloc_new w (.cells #[.int .i64 0, .slice none 0 0] 24))
  go_enter Try.func10, Try.ntmps10
  go_wp2_with (go_at_call 22; refine (HO.out _ HR.out).mono ?_; rintro e w2 ⟨v, rfl, ho, hB⟩; have HB2 := Aside0.mk (blk_below hbx.out hB); have hc0 : w2.cell? ⟨w.heap.size, 0, none⟩ = _ := blk_cell HB2.out 0; have hc1 : w2.cell? ⟨w.heap.size, 1, none⟩ = _ := blk_cell HB2.out 1; have hf0 := blk_frozen HB2.out 0; have hf1 := blk_frozen HB2.out 1; have HB := Aside0.mk (below_step hB0.out hB); clear hB)
  refine bodyPost_ret (results_dec _ _ w.heap.size _ _ _ rfl rfl (blk_put (blk_put HB2.out 0 _ rfl) 1 _ rfl)) rfl ?_
  rw [HF.out]
  exact ⟨_, rfl, own_nil _ _ _ _, (HB.out.setCell (p := ⟨_, 0, none⟩) (Nat.le_refl _) _).setCell (p := ⟨_, 1, none⟩) (Nat.le_refl _) _⟩
theorem own_head {w : World} {base n c : Nat} {ty : TypeId} {k : IntKind} {A : Option Addr} {x : Int} {t : List Int} (h : w.ownsRow base ty 1 (.slice A n c) n (nums k (x :: t))) : ∃ ad, A = some ad ∧ w.cell? ad = some (.int k x) := by
  obtain ⟨h1, _, h5⟩ := own_reads' h
  have hn : 0 < n := by rw [← h1]; exact Nat.zero_lt_succ _
  obtain ⟨ad, e, h6⟩ := h5 hn
  have h7 := h6 0 hn
  exact ⟨ad, e, h7⟩
theorem below_setCells {w w2 : World} {u v : Value} (h : Below w.heap.size w w2) (nd : Nat) : Below w.heap.size w (((w2.drewN nd).setCell ⟨w.heap.size, 0, none⟩ u).setCell ⟨w.heap.size, 1, none⟩ v) :=
  ((pw_below_drewN h nd).setCell (p := ⟨_, 0, none⟩) (Nat.le_refl _) _).setCell (p := ⟨_, 1, none⟩) (Nat.le_refl _) _
theorem openF_bytes {bs : List Int} (h : IsBytes bs) : IsBytes (openF bs).1 := by
  unfold openF
  split
  · intro x hx; cases hx
  · split
    · exact h.take _
    · intro x hx; cases hx
set_option maxHeartbeats 2000000 in
theorem decode_form (A : Option Addr) (c : Nat) (bs : List Int) (w : World) (hb : IsBytes bs) (hx : bs.length ≤ 100000000000) (hr : ReadsInt w .u8 A bs.length bs) (hc : bs.length ≤ c) (h : (openF bs).2 = 0)
    (h2 : (openF bs).1 = [] ∨ ∃ x t, (openF bs).1 = x :: t ∧ (longF x = 0 ∨ t.length ≠ 8 * longF x)) :
    Calls Try.prog 10 #[.slice A bs.length c] w (DecPost w (decF bs)) := by
  have hbo := openF_bytes hb
  have HF : Aside0 (decF bs = (0, [], 2)) := ⟨by
    unfold decF; rw [if_neg (by rw [h]; decide)]
    rcases h2 with h2 | ⟨x, t, h2, h3⟩
    · rw [h2]
    · rw [h2]; simp only []; rw [if_pos h3]⟩
  have HO := Aside0.mk (fun W hr => open_any A c bs W hb hx hr hc)
  clear hb
  generalize openF bs = r at h HO h2 hbo
  obtain ⟨inn, e0⟩ := r
  simp only at h h2 hbo
  subst h
  have hu24 := Try.underlying24
  have HR := Aside0.mk (ReadsInt.below hr ((Below.refl _ w).alloc (Nat.le_refl _) (.cells #[.int .i64 0, .slice none 0 0] 24)))
  have hB0 := Aside0.mk ((Below.refl _ w).alloc (Nat.le_refl _) (.cells #[.int .i64 0, .slice none 0 0] 24))
  have hbx := Aside0.mk (heap_alloc_new w (.cells #[.int .i64 0, .slice none 0 0] 24))
  clear hr
  rcases h2 with rfl | ⟨x, t, rfl, h2⟩
  · go_enter Try.func10, Try.ntmps10
    go_wp2_with (go_at_call 22; refine (HO.out _ HR.out).mono ?_; rintro e w2 ⟨v, rfl, ho, hB⟩; obtain ⟨A', c', rfl⟩ := own_slice ho; have HB2 := Aside0.mk (blk_below hbx.out hB); have hc0 : w2.cell? ⟨w.heap.size, 0, none⟩ = _ := blk_cell HB2.out 0; have hc1 : w2.cell? ⟨w.heap.size, 1, none⟩ = _ := blk_cell HB2.out 1; have hf0 := blk_frozen HB2.out 0; have hf1 := blk_frozen HB2.out 1; have HB := Aside0.mk (below_step hB0.out hB); clear hB)
    refine bodyPost_ret (results_dec _ _ w.heap.size _ _ _ rfl rfl (blk_put (blk_put HB2.out 0 _ rfl) 1 _ rfl)) rfl ?_
    rw [HF.out]
    exact ⟨_, rfl, own_nil _ _ _ _, (HB.out.setCell (p := ⟨_, 0, none⟩) (Nat.le_refl _) _).setCell (p := ⟨_, 1, none⟩) (Nat.le_refl _) _⟩
  · have hxr := hbo x (by simp)
    have hl := Aside0.mk (long_any x)
    have hle := longF_le x
    have htl : t.length ≤ 100000000000 ∨ True := .inr trivial
    generalize longF x = m at h2 hl hle
    have harm : True := trivial
    by_cases hm : m = 0
    · subst hm
      clear h2 hle
      go_enter Try.func10, Try.ntmps10
      go_wp2_with (first | (go_at_call 22; refine (HO.out _ HR.out).mono ?_; rintro e w2 ⟨v, rfl, ho, hB⟩; obtain ⟨A', c', rfl⟩ := own_slice ho; have HB2 := Aside0.mk (blk_below hbx.out hB); have hc0 : w2.cell? ⟨w.heap.size, 0, none⟩ = _ := blk_cell HB2.out 0; have hc1 : w2.cell? ⟨w.heap.size, 1, none⟩ = _ := blk_cell HB2.out 1; have hf0 := blk_frozen HB2.out 0; have hf1 := blk_frozen HB2.out 1; have HB := Aside0.mk (below_step hB0.out hB); obtain ⟨ad, rfl, hcx⟩ := own_head ho; clear hB) | (go_at_call 12; refine (hl.out _).mono ?_; rintro e w' ⟨rfl, ⟨nd, rfl⟩⟩))
      refine bodyPost_ret (results_dec _ _ w.heap.size _ _ _ rfl rfl (blk_put (blk_put HB2.out 0 _ rfl) 1 _ rfl)) rfl ?_
      rw [HF.out]
      exact ⟨_, rfl, own_nil _ _ _ _, below_setCells HB.out nd⟩
    · have hne : ¬ t.length = 8 * m := h2.resolve_left hm
      have b1 : ((m : Int) == 0) = false := beq_eq_false_iff_ne.2 (by omega)
      have b2 : ((((t.length + 1 : Nat) : Int)) != (1 + 8 * (m : Int))) = true := bne_iff_ne.2 (by omega)
      have b3 : (((t.length : Int) + 1) != (1 + 8 * (m : Int))) = true := bne_iff_ne.2 (by omega)
      clear h2 hne hm
      go_enter Try.func10, Try.ntmps10
      go_wp2_with (first | (go_at_call 22; refine (HO.out _ HR.out).mono ?_; rintro e w2 ⟨v, rfl, ho, hB⟩; obtain ⟨A', c', rfl⟩ := own_slice ho; have HB2 := Aside0.mk (blk_below hbx.out hB); have hc0 : w2.cell? ⟨w.heap.size, 0, none⟩ = _ := blk_cell HB2.out 0; have hc1 : w2.cell? ⟨w.heap.size, 1, none⟩ = _ := blk_cell HB2.out 1; have hf0 := blk_frozen HB2.out 0; have hf1 := blk_frozen HB2.out 1; have HB := Aside0.mk (below_step hB0.out hB); obtain ⟨ad, rfl, hcx⟩ := own_head ho; clear hB) | (go_at_call 12; refine (hl.out _).mono ?_; rintro e w' ⟨rfl, ⟨nd, rfl⟩⟩))
      refine bodyPost_ret (results_dec _ _ w.heap.size _ _ _ rfl rfl (blk_put (blk_put HB2.out 0 _ rfl) 1 _ rfl)) rfl ?_
      rw [HF.out]
      exact ⟨_, rfl, own_nil _ _ _ _, below_setCells HB.out _⟩
end Go.Proofs.Ytjfolhheejkedaa
