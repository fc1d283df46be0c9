import Derived.Test.YtjfolhheejkedaaKind
set_option linter.unusedVariables false
namespace Go.Proofs.Ytjfolhheejkedaa
open Go.RowKit Go.Joins Go.Proofs.YtjfolhheejkedaaW.PrintWords Go.Proofs.YtjfolhheejkedaaW.PrintLast Go.Proofs.YtjfolhheejkedaaW.PrintMore

/-- byte i of a number, the high one first -/
def byteAt (x : Int) (i : Nat) : Int := IntKind.u64.wrap x / 2 ^ (56 - 8 * i) % 256
def eight (x : Int) : List Int := (List.range 8).map (byteAt x)
theorem eight_take (x : Int) (i : Nat) (h : i < 8) : (eight x).take (i + 1) = (eight x).take i ++ [byteAt x i] := by
  unfold eight
  rw [List.take_succ_eq_append_getElem (by simpa using h)]
  simp
def wordsF (k : Int) (xs : List Int) : List Int := (k % 256) :: xs.flatMap eight
theorem words_length (k : Int) (xs : List Int) : (wordsF k xs).length = 1 + 8 * xs.length := by
  unfold wordsF
  rw [List.length_cons]
  have : (xs.flatMap eight).length = 8 * xs.length := by
    induction xs with
    | nil => rfl
    | cons x xs ih => rw [List.flatMap_cons, List.length_append, ih, List.length_cons, show (eight x).length = 8 from rfl]; omega
  omega
def encF (k : Int) (xs : List Int) : List Int := wordsF k xs ++ tailF (wordsF k xs)
def EncPost (w : World) (k : Int) (xs : List Int) (e : Ending) (w' : World) : Prop :=
  Below w.heap.size w w' ∧ if rightF k xs.length = true then ∃ v, e = .returned (.tuple #[v, .int .i64 0]) ∧ w'.ownsRow w.heap.size 5 1 v (5 + 8 * xs.length) (nums .u8 (encF k xs)) else e = .returned (.tuple #[.slice none 0 0, .int .i64 1])
theorem EncPost.no {w w' : World} {k : Int} {xs : List Int} (hB : Below w.heap.size w w') (h : rightF k xs.length = false) : EncPost w k xs (.returned (.tuple #[.slice none 0 0, .int .i64 1])) w' := ⟨hB, by rw [if_neg (by rw [h]; decide)]⟩
theorem EncPost.yes {w w' : World} {k : Int} {xs : List Int} {v : Value} (hB : Below w.heap.size w w') (h : rightF k xs.length = true) (ho : w'.ownsRow w.heap.size 5 1 v (5 + 8 * xs.length) (nums .u8 (encF k xs))) : EncPost w k xs (.returned (.tuple #[v, .int .i64 0])) w' := ⟨hB, by rw [if_pos h]; exact ⟨v, rfl, ho⟩⟩
theorem reads_one (w : World) (k : IntKind) (x : Int) (t : TypeId) : ReadsInt (w.alloc (.cells #[.int k x] t)) k (some ⟨w.heap.size, 0, none⟩) 1 [x] :=
  ⟨by simp, by decide, fun _ => ⟨_, rfl, fun j hj => by
    obtain rfl : j = 0 := by omega
    exact World.cell?_alloc_at _ _ _ _ rfl⟩⟩
theorem own_one {w w1 : World} {t : TypeId} (k : IntKind) (x : Int) (hB : Below w.heap.size w w1) : (w1.alloc (.cells #[.int k x] t)).ownsRow w.heap.size t 1 (.slice (some ⟨w1.heap.size, 0, none⟩) 1 1) 1 (nums k [x]) :=
  ⟨rfl, .inr ⟨w1.heap.size, 1, _, rfl, hB.size, heap_alloc_new w1 _, Nat.le_refl _, by decide, rfl, rfl⟩⟩

theorem byteAt_range (x : Int) (i : Nat) : 0 ≤ byteAt x i ∧ byteAt x i < 256 := by
  unfold byteAt
  generalize IntKind.u64.wrap x / 2 ^ (56 - 8 * i) = y
  omega
theorem eight_bytes (x : Int) : IsBytes (eight x) := fun y hy => by
  obtain ⟨i, _, rfl⟩ := List.mem_map.1 hy
  exact byteAt_range x i
theorem words_bytes (k : Int) (xs : List Int) : IsBytes (wordsF k xs) := fun y hy => by
  rcases List.mem_cons.1 hy with rfl | h
  · omega
  · obtain ⟨x, _, h2⟩ := List.mem_flatMap.1 h
    exact eight_bytes x y h2
theorem seal_any2 (A : Option Addr) (c n : Nat) (xs : List Int) (w : World) (hn : xs.length = n) (hb : IsBytes xs) (hx : n ≤ 100000000000) (hr : ReadsInt w .u8 A n xs) :
    Calls Try.prog 21 #[.slice A n c] w fun e w' => ∃ v, e = .returned v ∧ w'.ownsRow w.heap.size 5 1 v (n + 4) (nums .u8 (xs ++ tailF xs)) ∧ Below w.heap.size w w' := by
  subst hn
  exact seal_any A c xs w hb hx hr
set_option maxHeartbeats 2000000 in
theorem encode_any (k : Int) (A : Option Addr) (c : Nat) (xs : List Int) (w : World) (hr : ReadsInt w .i64 A xs.length xs) :
    Calls Try.prog 9 #[.agg #[.int .i64 k, .slice A xs.length c]] w (EncPost w k xs) := by
  have hm := hr.2.1
  have HR0 := Aside0.mk hr
  clear hr
  have hbox : (World.alloc w (.cells #[.int .i64 k, .slice A xs.length c] 24)).cell? ⟨w.heap.size, 0, none⟩ = some (.int .i64 k) ∧ (World.alloc w (.cells #[.int .i64 k, .slice A xs.length c] 24)).cell? ⟨w.heap.size, 1, none⟩ = some (.slice A xs.length c) := ⟨World.cell?_alloc_at _ _ _ _ rfl, World.cell?_alloc_at _ _ _ _ rfl⟩
  have c0 := hbox.1
  have c1 := hbox.2
  have hu24 := Try.underlying24
  have hB0 : Aside0 (Below w.heap.size w (World.alloc w (.cells #[.int .i64 k, .slice A xs.length c] 24))) := ⟨(Below.refl _ w).alloc (Nat.le_refl _) _⟩
  by_cases hR : rightF k xs.length = true
  · have hl18 : xs.length ≤ 18 := by
      have h2 := longF_le k
      unfold rightF at hR
      simp at hR
      omega
    have HRF := Aside0.mk hR
    have hr17 := right_any k xs.length A c
    rw [hR] at hr17
    have H17 := Aside0.mk hr17
    clear hr17 hR
    go_enter Try.func9, Try.ntmps9
    go_wp2_with (go_at_call 17; refine (H17.out _).mono ?_; rintro e w2 ⟨rfl, hB⟩; have c0' := pw_cell_below hB c0; have c1' := pw_cell_below hB c1; have c1'' := pw_cell_below ((Below.refl _ w2).alloc (Nat.le_refl _) (.cells #[.int .u8 (k % 256)] 5)) c1'; have HB := Aside0.mk (below_step hB0.out hB); clear hB c0 c1)
    have HO := Aside0.mk (own_one (t := 5) .u8 (k % 256) HB.out)
    have HB2 := Aside0.mk (HB.out.alloc HB.out.size (.cells #[.int .u8 (k % 256)] 5))
    generalize w2.heap.size = g2 at HO ⊢
    generalize w2.alloc (.cells #[.int .u8 (k % 256)] 5) = w3 at HO HB2 c1'' ⊢
    clear c0' c1' HB
    have HW0 : Aside0 (∀ j, j < xs.length → (k % 256) :: (xs.take (j + 1)).flatMap eight = ((k % 256) :: (xs.take j).flatMap eight) ++ eight (xs[j]?.getD 0)) := ⟨fun j hj => by
      rw [List.take_succ_eq_append_getElem hj, List.getElem?_eq_getElem hj, List.flatMap_append]; simp⟩
    go_loopw [4, 6, 7, 18, 22] (fun b _ _ i _ wr => ∃ j : Nat, j ≤ xs.length ∧ i = .int .i64 j ∧ Aside0 (wr.ownsRow w.heap.size 5 1 b (1 + 8 * j) (nums .u8 ((k % 256) :: (xs.take j).flatMap eight))) ∧ Aside0 (Below w.heap.size w wr)) (fun _ _ _ i _ _ => xs.length - (intOf i).toNat)
    case atStart => exact ⟨0, Nat.zero_le _, rfl, HO, HB2⟩
    case round =>
      obtain ⟨j, hj, rfl, hown, hB⟩ := hrel
      clear HO HB2 c1''
      by_cases hlt : j < xs.length
      · obtain ⟨ad, e1, hx⟩ := (ReadsInt.below HR0.out hB.out).2.2 (by omega)
        have hx1 : wr.cell? (ad.add j) = some (.int .i64 (xs[j]?.getD 0)) := by have := hx j hlt; rwa [List.getD_eq_getElem?_getD] at this
        subst e1
        clear hx
        have HW := Aside0.mk (HW0.out j hlt)
        generalize xs[j]?.getD 0 = x at hx1 HW
        generalize hpre : (k % 256) :: (xs.take j).flatMap eight = pre at hown HW
        clear hpre
        have HPL : Aside0 (pre.length = 1 + 8 * j) := ⟨own_len hown.out⟩
        go_wp2
        go_loopw [4, 7, 22] (fun b _ i w4 => ∃ q : Nat, q ≤ 8 ∧ i = .int .i64 q ∧ Aside0 (w4.ownsRow w.heap.size 5 1 b (pre ++ (eight x).take q).length (nums .u8 (pre ++ (eight x).take q))) ∧ Aside0 (Below w.heap.size w w4)) (fun _ _ i _ => 8 - (intOf i).toNat)
        case atStart => exact ⟨0, Nat.zero_le _, rfl, ⟨by rw [List.take_zero, List.append_nil, HPL.out]; exact hown.out⟩, hB⟩
        case round =>
          obtain ⟨q, hq, rfl, hown, hB⟩ := ‹∃ q : Nat, _›
          by_cases hq8 : q < 8
          · have HE := Aside0.mk (eight_take x q hq8)
            have hlen : (pre ++ (eight x).take q).length ≤ 1000 := by
              have h2 := List.length_take_le q (eight x)
              rw [List.length_append, HPL.out]
              omega
            generalize hcur : pre ++ (eight x).take q = cur at hown hlen
            have HC : Aside0 (pre ++ (eight x).take (q + 1) = cur ++ [byteAt x q]) := ⟨by rw [HE.out, ← List.append_assoc, hcur]⟩
            clear hcur HE hrel
            go_wp2_with (at_builtin; refine print_append_row (w0 := w) w.heap.size rfl _ _ 28 5 .u8 1 rfl Try.underlying28 info5 (by decide) _ cur [byteAt x q] (some ⟨wr.heap.size, 0, none⟩) 1 1 rfl rfl (hown.out.alloc _) (reads_one wr .u8 (byteAt x q) 5) (hB.out.alloc hB.out.size _) (by have := hB.out.size; simp; omega) (by omega) ?_; intro v1 w5 ho5 hB5 _ _; have HO5 := Aside0.mk ho5; have HB5 := Aside0.mk hB5; clear ho5 hB5)
            go_roundw
            case rel => exact ⟨q + 1, by omega, by go_num, by rw [HC.out]; exact HO5, HB5⟩
            case measure => simp [intOf]; omega
          · obtain rfl : q = 8 := by omega
            have HO8 : Aside0 (wr.ownsRow w.heap.size 5 1 u4 (1 + 8 * (j + 1)) (nums .u8 ((k % 256) :: (xs.take (j + 1)).flatMap eight))) := ⟨by
              have ho := hown.out
              rw [show (eight x).take 8 = eight x from rfl, ← HW.out] at ho
              have hl : (wordsF k (xs.take (j + 1))).length = 1 + 8 * (j + 1) := by rw [words_length, List.length_take]; omega
              exact hl ▸ ho⟩
            clear hown hrel
            go_wp2
            go_roundw
            case rel => exact ⟨j + 1, by omega, by go_num, HO8, hB⟩
            case measure => simp [intOf]; omega
      · obtain rfl : j = xs.length := by omega
        have ho := hown.out
        rw [List.take_length] at ho
        have hl : (wordsF k xs).length = 1 + 8 * xs.length := own_len ho
        clear hown
        obtain ⟨A4, c4, rfl⟩ := own_slice ho
        have HRB := Aside0.mk (own_reads' ho)
        have HL := Aside0.mk hl
        clear ho hl
        go_wp2_with (go_at_call 21; refine (seal_any2 A4 c4 _ (wordsF k xs) _ HL.out (words_bytes _ _) (by omega) HRB.out).mono ?_; rintro e w5 ⟨v, rfl, ho5, hB5⟩)
        go_ret2
        refine EncPost.yes (below_step hB.out hB5) HRF.out ?_
        have := own_less ho5 hB.out.size
        rwa [show 1 + 8 * xs.length + 4 = 5 + 8 * xs.length by omega] at this
  · have hR' : rightF k xs.length = false := by simpa using hR
    clear hR
    have HRF := Aside0.mk hR'
    have hr17 := right_any k xs.length A c
    rw [hR'] at hr17
    have H17 := Aside0.mk hr17
    clear hr17 hR'
    go_enter Try.func9, Try.ntmps9
    go_wp2_with (go_at_call 17; refine (H17.out _).mono ?_; rintro e w2 ⟨rfl, hB⟩)
    go_ret2
    exact EncPost.no (below_step hB0.out hB) HRF.out
end Go.Proofs.Ytjfolhheejkedaa
