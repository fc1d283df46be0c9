import Derived.Test.YtomdneblpdpiiaaMBase
set_option linter.unusedVariables false
namespace Go.Proofs.Ytomdneblpdpiiaa
open Go.RowKit Go.Joins Go.Proofs.YtomdneblpdpiiaaW.PrintWords Go.Proofs.YtomdneblpdpiiaaW.PrintLast Go.Proofs.YtomdneblpdpiiaaW.PrintMore

/-! ### mat.made: a matrix whose numbers are told -/
theorem infoQ : (Try.prog.info? 26).map (fun i => (i.zero, i.size, i.bytes)) = some (some (.int .i64 0), 1, 8) := by kernel_rfl
/-- what is told of the teller: at each place it tells a number and a flag; it lays blocks alone -/
def TellAt (g : Nat) (cap : Array Value) (q : Nat → Nat → Int) (odd : Nat → Nat → Bool) (r c : Nat) (w0 : World) : Prop :=
  ∀ W i k, Below w0.heap.size w0 W → i < r → k < c → Calls Try.prog g (#[.int .i64 (i : Nat), .int .i64 (k : Nat)] ++ cap) W fun e w' => e = .returned (.tuple #[.int .i64 (q i k), .bool (odd i k)]) ∧ Below W.heap.size W w'
def rowQ (q : Nat → Nat → Int) (i c : Nat) : List Int := (List.range c).map (q i)
def gridQ (q : Nat → Nat → Int) (r c : Nat) : List Int := (List.range r).flatMap fun i => rowQ q i c
def rowO (o : Nat → Nat → Bool) (i c : Nat) : Bool := (List.range c).any (o i)
def gridO (o : Nat → Nat → Bool) (r c : Nat) : Bool := (List.range r).any fun i => rowO o i c
theorem rowQ_succ (q : Nat → Nat → Int) (i c : Nat) : rowQ q i (c + 1) = rowQ q i c ++ [q i c] := by simp [rowQ, List.range_succ]
theorem rowO_succ (q : Nat → Nat → Bool) (i c : Nat) : rowO q i (c + 1) = (rowO q i c || q i c) := by simp [rowO, List.range_succ]
theorem gridQ_succ (q : Nat → Nat → Int) (i c : Nat) : gridQ q (i + 1) c = gridQ q i c ++ rowQ q i c := by simp [gridQ, List.range_succ]
theorem gridO_succ (q : Nat → Nat → Bool) (i c : Nat) : gridO q (i + 1) c = (gridO q i c || rowO q i c) := by simp [gridO, List.range_succ]
theorem rowQ_length (q : Nat → Nat → Int) (i c : Nat) : (rowQ q i c).length = c := by simp [rowQ]
theorem gridQ_length (q : Nat → Nat → Int) (r c : Nat) : (gridQ q r c).length = r * c := by
  induction r with
  | zero => simp [gridQ]
  | succ r ih => rw [gridQ_succ, List.length_append, ih, rowQ_length, Nat.add_mul, Nat.one_mul]
/-- the three blocks of the call, and the numbers so far -/
def MInv (w0 : World) (r c : Nat) (xs : List Int) (W : World) : Prop :=
  Blk W w0.heap.size 42 #[.int .i64 (r : Nat), .int .i64 (c : Nat)] ∧ Blk W (w0.heap.size + 1) 28 #[.int .i64 0, .int .i64 0, .slice none 0 0] ∧
  (∃ v, Blk W (w0.heap.size + 2) 28 #[.int .i64 (r : Nat), .int .i64 (c : Nat), v] ∧ W.ownsRow w0.heap.size 26 1 v xs.length (nums .i64 xs)) ∧ Below w0.heap.size w0 W
theorem MInv.below {w0 W W' : World} {r c : Nat} {xs : List Int} (h : MInv w0 r c xs W) (hB : Below W.heap.size W W') : MInv w0 r c xs W' := by
  obtain ⟨h1, h2, ⟨v, h3, h4⟩, h5⟩ := h
  exact ⟨h1.below hB, h2.below hB, ⟨v, h3.below hB, pw_own_below h4 hB⟩, h5.trans (below_mono hB h5.size)⟩
theorem MInv.appended {w0 W w1 : World} {r c : Nat} {xs : List Int} {v v1 : Value} {x : Int} {o : Obj} (h : MInv w0 r c xs W) (h3 : Blk W (w0.heap.size + 2) 28 #[.int .i64 (r : Nat), .int .i64 (c : Nat), v]) (h4 : W.ownsRow w0.heap.size 26 1 v xs.length (nums .i64 xs))
    (ho : w1.ownsRow w0.heap.size 26 1 v1 (xs ++ [x]).length (nums .i64 (xs ++ [x]))) (hB : Below w0.heap.size w0 w1) (hg : (W.alloc o).grownBy w1 v.ownBlock) :
    MInv w0 r c (xs ++ [x]) (w1.setCell ⟨w0.heap.size + 2, 2, none⟩ v1) ∧ Blk w1 (w0.heap.size + 2) 28 #[.int .i64 (r : Nat), .int .i64 (c : Nat), v] := by
  obtain ⟨h1, h2, _, h5⟩ := h
  have k3 := (h3.alloc o).kept hg (h3.not_row (by decide) h4)
  have k1 := (h1.alloc o).kept hg (h1.not_row (by decide) h4)
  have k2 := (h2.alloc o).kept hg (h2.not_row (by decide) h4)
  exact ⟨⟨k1.far (p := ⟨w0.heap.size + 2, 2, none⟩) (by show w0.heap.size ≠ w0.heap.size + 2; omega) v1, k2.far (p := ⟨w0.heap.size + 2, 2, none⟩) (by show w0.heap.size + 1 ≠ w0.heap.size + 2; omega) v1,
    ⟨v1, k3.put 2 v1 rfl, own_setCell (p := ⟨w0.heap.size + 2, 2, none⟩) ho (k3.not_row (by decide) ho) v1⟩, hB.setCell (p := ⟨w0.heap.size + 2, 2, none⟩) (by show w0.heap.size ≤ w0.heap.size + 2; omega) v1⟩, k3⟩
theorem MInv.start (w : World) (r c : Nat) : MInv w r c [] (((w.alloc (.cells #[.int .i64 (r : Nat), .int .i64 (c : Nat)] 42)).alloc (.cells #[.int .i64 0, .int .i64 0, .slice none 0 0] 28)).alloc (.cells #[.int .i64 (r : Nat), .int .i64 (c : Nat), .slice none 0 0] 28)) := by
  refine ⟨((Blk.new w _ _).alloc _).alloc _, ?_, ⟨_, ?_, own_nil _ _ _ _⟩, (below_two (Below.refl _ _) _ _).alloc (by simp; omega) _⟩
  · have := (Blk.new (w.alloc (.cells #[.int .i64 (r : Nat), .int .i64 (c : Nat)] 42)) 28 #[.int .i64 0, .int .i64 0, .slice none 0 0]).alloc (.cells #[.int .i64 (r : Nat), .int .i64 (c : Nat), .slice none 0 0] 28)
    rwa [World.size_alloc] at this
  · have := Blk.new ((w.alloc (.cells #[.int .i64 (r : Nat), .int .i64 (c : Nat)] 42)).alloc (.cells #[.int .i64 0, .int .i64 0, .slice none 0 0] 28)) 28 #[.int .i64 (r : Nat), .int .i64 (c : Nat), .slice none 0 0]
    rwa [World.size_alloc, World.size_alloc] at this
theorem sizeM : (Try.prog.info? 28).map (·.size) = some 3 := by kernel_rfl
theorem results_made (tmps : Array Value) (w : World) (g : Nat) (r c v e : Value) (hp : tmps.getD 4 undef = .pointer (some ⟨g, 0, none⟩)) (he : tmps.getD 5 undef = e) (hg : Blk w g 28 #[r, c, v]) :
    (results Try.f11 tmps).run Try.prog w = .ok (.tuple #[.agg #[r, c, v], e]) w := by
  rw [results_ct (P := Try.prog) (fn := Try.f11) rfl tmps w g 28 #[r, c, v] (0, 0) _ hp hg Try.underlying28 rfl sizeM, he]
set_option maxRecDepth 100000 in
set_option maxHeartbeats 2000000 in
theorem made_any (g : Nat) (cap : Array Value) (q : Nat → Nat → Int) (o : Nat → Nat → Bool) (r c : Nat) (w : World) (hr : r ≤ 100) (hc : c ≤ 100) (eg : ∀ args w, (callFunc g args).run Try.prog w = .ok (.enter g args) w) (hT : TellAt g cap q o r c w) :
    Calls Try.prog 11 #[.agg #[.int .i64 (r : Nat), .int .i64 (c : Nat)], .func (.func g) #[] cap] w fun e w' => ∃ v, e = .returned (.tuple #[.agg #[.int .i64 (r : Nat), .int .i64 (c : Nat), v], .bool (gridO o r c)]) ∧ w'.ownsRow w.heap.size 26 1 v (r * c) (nums .i64 (gridQ q r c)) ∧ Below w.heap.size w w' := by
  have HT := Aside0.mk hT
  have HM0 := Aside0.mk (MInv.start w r c)
  clear hT
  go_enter Try.func11, Try.ntmps11
  go_wp2
  go_loopw [19, 7] (fun s f wr => ∃ i : Nat, i ≤ r ∧ s = .int .i64 i ∧ f = .bool (gridO o i c) ∧ Aside0 (MInv w r c (gridQ q i c) wr)) (fun s _ _ => r - (intOf s).toNat)
  case atStart => exact ⟨0, Nat.zero_le _, rfl, rfl, HM0⟩
  case round =>
    obtain ⟨i, hi, rfl, rfl, HM⟩ := hrel
    by_cases hlt : i < r
    · have hcc : wr.cell? ⟨w.heap.size, 1, none⟩ = some (.int .i64 (c : Nat)) := (HM.out.1.cell 1).trans rfl
      go_wp2
      clear hcc
      obtain ⟨wo, rfl⟩ : ∃ wo : World, wo = wr := ⟨_, rfl⟩
      generalize hxs : gridQ q i c = xs at HM
      generalize hgo : gridO o i c = fo
      have HXS := Aside0.mk hxs
      have HGO := Aside0.mk hgo
      have HXL : Aside0 (xs.length = i * c) := ⟨by rw [← hxs, gridQ_length]⟩
      clear hxs hgo
      go_loopw [24, 7] (fun s f wi => ∃ k : Nat, k ≤ c ∧ s = .int .i64 k ∧ f = .bool (fo || rowO o i k) ∧ Aside0 (MInv w r c (xs ++ rowQ q i k) wi)) (fun s _ _ => c - (intOf s).toNat)
      case atStart => exact ⟨0, Nat.zero_le _, rfl, by simp [rowO], ⟨by simpa [rowQ] using HM.out⟩⟩
      case round =>
        obtain ⟨k, hk, rfl, rfl, HI⟩ := hrel
        by_cases hkt : k < c
        · have HRS : Aside0 (xs ++ rowQ q i (k + 1) = (xs ++ rowQ q i k) ++ [q i k]) := ⟨by rw [rowQ_succ, List.append_assoc]⟩
          have HOS : Aside0 ((fo || rowO o i (k + 1)) = ((fo || rowO o i k) || o i k)) := ⟨by rw [rowO_succ, Bool.or_assoc]⟩
          have HLN : Aside0 ((xs ++ rowQ q i k).length = i * c + k) := ⟨by rw [List.length_append, HXL.out, rowQ_length]⟩
          have HBN : Aside0 (i * c + k ≤ 20000) := ⟨by have := Nat.mul_le_mul hi hc; have := Nat.mul_le_mul hr (Nat.le_refl 100); have h3 : i * c ≤ 100 * 100 := Nat.le_trans (Nat.mul_le_mul hi hc) (Nat.mul_le_mul hr (Nat.le_refl _)); omega⟩
          generalize xs ++ rowQ q i k = ys at HI HRS HLN
          generalize (fo || rowO o i k) = fl at HOS
          have hcall : Calls Try.prog g (#[.int .i64 (i : Nat), .int .i64 (k : Nat)] ++ cap) wr _ := HT.out wr i k HI.out.2.2.2 hlt hkt
          cases fl
          all_goals
            go_wp2_with (first
              | (go_at_fn g; refine (hcall).mono ?_; rintro e w2 ⟨rfl, hB⟩; have HI2 := Aside0.mk (HI.out.below hB); obtain ⟨v, hbk, how⟩ := HI2.out.2.2.1; obtain ⟨A, c0, hv⟩ := own_slice how; subst hv; have hc2 : w2.cell? ⟨w.heap.size + 1 + 1, 2, none⟩ = some (.slice A ys.length c0) := (hbk.cell 2).trans rfl; have HBK := Aside0.mk hbk; have HOW := Aside0.mk how; clear hB hbk how)
              | (at_builtin; refine print_append_row (w0 := w) w.heap.size rfl _ _ 25 26 .i64 8 rfl Try.underlying25 infoQ (by decide) _ ys [q i k] (some ⟨w2.heap.size, 0, none⟩) 1 1 rfl rfl (HOW.out.alloc _) (reads_one w2 .i64 _ 26) (HI2.out.2.2.2.alloc HI2.out.2.2.2.size _) (by have := HI2.out.2.2.2.size; simp; omega) (by rw [HLN.out]; have := HBN.out; omega) ?_; intro v1 w3 ho3 hB3 hg3 _; obtain ⟨A1, c1, hv1⟩ := own_slice ho3; simp only [List.length_append, List.length_cons, List.length_nil, Nat.zero_add] at hv1; subst hv1; have HP3 := Aside0.mk (MInv.appended HI2.out HBK.out HOW.out ho3 hB3 hg3); have hc3 : w3.cell? ⟨w.heap.size + 1 + 1, 2, none⟩ = some (.slice A ys.length c0) := (HP3.out.2.cell 2).trans rfl; have hf3 : w3.frozen? ⟨w.heap.size + 1 + 1, 2, none⟩ = false := HP3.out.2.frozen 2; clear ho3 hB3 hg3))
            go_roundw
            case rel => exact ⟨k + 1, by omega, by go_num, by rw [HOS.out]; rfl, ⟨by rw [HRS.out]; exact HP3.out.1⟩⟩
            case measure => simp [intOf]; omega
        · obtain rfl : k = c := by omega
          have HGS : Aside0 (gridQ q (i + 1) k = xs ++ rowQ q i k) := ⟨by rw [gridQ_succ, HXS.out]⟩
          have HOS : Aside0 (gridO o (i + 1) k = (fo || rowO o i k)) := ⟨by rw [gridO_succ, HGO.out]⟩
          go_wp2
          go_roundw
          case rel => exact ⟨i + 1, by omega, by go_num, by rw [HOS.out], ⟨by rw [HGS.out]; exact HI.out⟩⟩
          case measure => simp [intOf]; omega
    · obtain rfl : i = r := by omega
      obtain ⟨v, hbk, how⟩ := HM.out.2.2.1
      have hz := HM.out.2.1
      have hc0 : wr.cell? ⟨w.heap.size + 1 + 1, 0, none⟩ = some (.int .i64 (i : Nat)) := (hbk.cell 0).trans rfl
      have hc1 : wr.cell? ⟨w.heap.size + 1 + 1, 1, none⟩ = some (.int .i64 (c : Nat)) := (hbk.cell 1).trans rfl
      have hc2 : wr.cell? ⟨w.heap.size + 1 + 1, 2, none⟩ = some v := (hbk.cell 2).trans rfl
      have hz0 : wr.cell? ⟨w.heap.size + 1, 0, none⟩ = some (.int .i64 0) := (hz.cell 0).trans rfl
      have hz1 : wr.cell? ⟨w.heap.size + 1, 1, none⟩ = some (.int .i64 0) := (hz.cell 1).trans rfl
      have hz2 : wr.cell? ⟨w.heap.size + 1, 2, none⟩ = some (.slice none 0 0) := (hz.cell 2).trans rfl
      have hzf : ∀ j, wr.frozen? ⟨w.heap.size + 1, j, none⟩ = false := hz.frozen
      obtain ⟨A, c0, rfl⟩ := own_slice how
      have HOW := Aside0.mk how
      have HZ := Aside0.mk hz
      have HL := Aside0.mk (gridQ_length q i c)
      clear hbk how hz
      go_wp2
      have hne : some (w.heap.size + 1) ≠ (Value.slice A (gridQ q i c).length c0).ownBlock := HZ.out.not_row (by decide) HOW.out
      refine bodyPost_ret (results_made _ _ (w.heap.size + 1) _ _ _ _ rfl rfl (((HZ.out.put 0 _ rfl).put 1 _ rfl).put 2 _ rfl)) rfl ⟨_, rfl, ?_, ?_⟩
      · rw [← HL.out]
        exact own_setCell (p := ⟨w.heap.size + 1, 2, none⟩) (own_setCell (p := ⟨w.heap.size + 1, 1, none⟩) (own_setCell (p := ⟨w.heap.size + 1, 0, none⟩) HOW.out hne _) hne _) hne _
      · exact ((HM.out.2.2.2.setCell (p := ⟨w.heap.size + 1, 0, none⟩) (by show w.heap.size ≤ w.heap.size + 1; omega) _).setCell (p := ⟨w.heap.size + 1, 1, none⟩) (by show w.heap.size ≤ w.heap.size + 1; omega) _).setCell (p := ⟨w.heap.size + 1, 2, none⟩) (by show w.heap.size ≤ w.heap.size + 1; omega) _
end Go.Proofs.Ytomdneblpdpiiaa
