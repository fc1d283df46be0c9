import Derived.Test.YtomdneblpdpiiaaMMul
set_option linter.unusedVariables false
namespace Go.Proofs.Ytomdneblpdpiiaa
open Go.RowKit Go.Joins Go.Proofs.YtomdneblpdpiiaaW.PrintWords Go.Proofs.YtomdneblpdpiiaaW.PrintLast Go.Proofs.YtomdneblpdpiiaaW.PrintMore

theorem mul_enters : ∀ args w, (callFunc 13 args).run Try.prog w = .ok (.enter 13 args) w := enters_of Try.func13 (by kernel_rfl) rfl
theorem results_mul (tmps : Array Value) (w : World) (g : Nat) (r c v e o : Value) (hp : tmps.getD 4 undef = .pointer (some ⟨g, 0, none⟩)) (he : tmps.getD 5 undef = e) (ho : tmps.getD 6 undef = o) (hg : Blk w g 28 #[r, c, v]) :
    (results Try.f6 tmps).run Try.prog w = .ok (.tuple #[.agg #[r, c, v], e, o]) w := by
  rw [results_ctt (P := Try.prog) (fn := Try.f6) rfl tmps w g 28 #[r, c, v] (0, 0) _ hp hg Try.underlying28 rfl sizeM, he, ho]
def Three (w : World) (ca cb : Array Value) (W : World) : Prop := Blk W w.heap.size 28 ca ∧ Blk W (w.heap.size + 1) 28 cb ∧ Blk W (w.heap.size + 2) 28 #[.int .i64 0, .int .i64 0, .slice none 0 0] ∧ Below w.heap.size w W
theorem Three.start (w : World) (ca cb : Array Value) : Three w ca cb (((w.alloc (.cells ca 28)).alloc (.cells cb 28)).alloc (.cells #[.int .i64 0, .int .i64 0, .slice none 0 0] 28)) := by
  refine ⟨((Blk.new w _ _).alloc _).alloc _, ?_, ?_, (below_two (Below.refl _ _) _ _).alloc (by simp; omega) _⟩
  · have := (Blk.new (w.alloc (.cells ca 28)) 28 cb).alloc (.cells #[.int .i64 0, .int .i64 0, .slice none 0 0] 28)
    rwa [World.size_alloc] at this
  · have := Blk.new ((w.alloc (.cells ca 28)).alloc (.cells cb 28)) 28 #[.int .i64 0, .int .i64 0, .slice none 0 0]
    rwa [World.size_alloc, World.size_alloc] at this
theorem Three.below {w W W' : World} {ca cb : Array Value} (h : Three w ca cb W) (hB : Below W.heap.size W W') : Three w ca cb W' := ⟨h.1.below hB, h.2.1.below hB, h.2.2.1.below hB, h.2.2.2.trans (below_mono hB h.2.2.2.size)⟩
theorem Three.alloc {w W : World} {ca cb : Array Value} (h : Three w ca cb W) (o : Obj) : Three w ca cb (W.alloc o) := h.below (below_one W o)
theorem Three.facts {w W : World} {ca cb : Array Value} (h : Three w ca cb W) : W.cell? ⟨w.heap.size + 1 + 1, 0, none⟩ = some (.int .i64 0) ∧ W.cell? ⟨w.heap.size + 1 + 1, 1, none⟩ = some (.int .i64 0) ∧ W.cell? ⟨w.heap.size + 1 + 1, 2, none⟩ = some (.slice none 0 0) ∧ ∀ j, W.frozen? ⟨w.heap.size + 1 + 1, j, none⟩ = false :=
  ⟨(h.2.2.1.cell 0).trans rfl, (h.2.2.1.cell 1).trans rfl, (h.2.2.1.cell 2).trans rfl, h.2.2.1.frozen⟩
set_option maxRecDepth 100000 in
set_option maxHeartbeats 2000000 in
theorem mul_any (A B : Option Addr) (r m c na nb ca cb : Nat) (xs ys : List Int) (X Y : Nat → Nat → Int) (w : World)
    (hra : ReadsInt w .i64 A na xs) (hrb : ReadsInt w .i64 B nb ys) (hna : na = r * m) (hnb : nb = m * c) (hr : r ≤ 8) (hm : m ≤ 8) (hc : c ≤ 8) (hX : Small xs r m X) (hY : Small ys m c Y) :
    Calls Try.prog 6 #[.agg #[.int .i64 (r : Nat), .int .i64 (m : Nat), .slice A na ca], .agg #[.int .i64 (m : Nat), .int .i64 (c : Nat), .slice B nb cb]] w fun e w' => ∃ A2 c2, e = .returned (.tuple #[.agg #[.int .i64 (r : Nat), .int .i64 (c : Nat), .slice A2 (r * c) c2], .bool false, .int .i64 0]) ∧ w'.ownsRow w.heap.size 26 1 (.slice A2 (r * c) c2) (r * c) (nums .i64 (gridQ (fun i k => dotF X Y i k m * 16777216) r c)) ∧ Below w.heap.size w w' := by
  have HK0 := Aside0.mk (Three.start w #[.int .i64 (r : Nat), .int .i64 (m : Nat), .slice A na ca] #[.int .i64 (m : Nat), .int .i64 (c : Nat), .slice B nb cb])
  have HM : Aside0 (∀ W, Three w #[.int .i64 (r : Nat), .int .i64 (m : Nat), .slice A na ca] #[.int .i64 (m : Nat), .int .i64 (c : Nat), .slice B nb cb] W → Calls Try.prog 11 #[.agg #[.int .i64 (r : Nat), .int .i64 (c : Nat)], .func (.func 13) #[] #[.pointer (some ⟨w.heap.size, 0, none⟩), .pointer (some ⟨w.heap.size + 1, 0, none⟩)]] W _) := ⟨fun W h => made_any 13 #[.pointer (some ⟨w.heap.size, 0, none⟩), .pointer (some ⟨w.heap.size + 1, 0, none⟩)] (fun i k => dotF X Y i k m * 16777216) (fun _ _ => false) r c W (by omega) (by omega) mul_enters (tell_mul w.heap.size (w.heap.size + 1) r m c na nb ca cb A B xs ys X Y W h.1 h.2.1 (hra.below h.2.2.2) (hrb.below h.2.2.2) hna hnb hr hm hc hX hY)⟩
  have hgo : gridO (fun _ _ => false) r c = false := by simp [gridO, rowO]
  have hmf : ∀ (fn : Fn) (first cap : Array Value) (w : World), (Instr.makeFunc fn first cap).run Try.prog w = .ok (.func fn first cap) w := fun _ _ _ _ => rfl
  have hmm : ((m : Int) != (m : Int)) = false := by simp
  have hu := Try.underlying28
  generalize (fun i k => dotF X Y i k m * 16777216) = q at HM ⊢
  clear hra hrb hna hnb hX hY
  go_enter Try.func6, Try.ntmps6
  go_wp2_with (go_at_call 11; refine (HM.out _ HK0.out).mono ?_; rintro e w2 ⟨v, rfl, hown, hB⟩; rw [hgo]; obtain ⟨A2, c2, rfl⟩ := own_slice hown; have HK2 := Aside0.mk ((HK0.out.below hB).alloc (.cells #[.int .i64 (r : Nat), .int .i64 (c : Nat), .slice A2 (r * c) c2] 28)); have HOW := Aside0.mk (own_less (own_alloc hown (.cells #[.int .i64 (r : Nat), .int .i64 (c : Nat), .slice A2 (r * c) c2] 28)) HK0.out.2.2.2.size); obtain ⟨z0, z1, z2, zf⟩ := HK2.out.facts; clear hB hown)
  have hne := HK2.out.2.2.1.not_row (by decide) HOW.out
  exact bodyPost_ret (results_mul _ _ (w.heap.size + 2) _ _ _ _ _ rfl rfl rfl (put3 _ _ _ _ _ HK2.out.2.2.1)) rfl ⟨A2, c2, rfl, own3 HOW.out hne, below3 HK2.out.2.2.2 (by omega)⟩
end Go.Proofs.Ytomdneblpdpiiaa
