import Derived.Test.YtomdneblpdpiiaaMDiagW
set_option linter.unusedVariables false
namespace Go.Proofs.Ytomdneblpdpiiaa
open Go.RowKit Go.Joins Go.Proofs.YtomdneblpdpiiaaW.PrintWords Go.Proofs.YtomdneblpdpiiaaW.PrintLast Go.Proofs.YtomdneblpdpiiaaW.PrintMore

set_option maxRecDepth 100000 in
set_option maxHeartbeats 2000000 in
theorem trans_any (A : Option Addr) (r c n cap : Nat) (xs : List Int) (w : World) (hr : ReadsInt w .i64 A n xs) (hn : n = r * c) (hr1 : r ≤ 100) (hc1 : c ≤ 100) :
    Calls Try.prog 9 #[.agg #[.int .i64 (r : Nat), .int .i64 (c : Nat), .slice A n cap]] w fun e w' => ∃ A2 c2, e = .returned (.agg #[.int .i64 (c : Nat), .int .i64 (r : Nat), .slice A2 (c * r) c2]) ∧ w'.ownsRow w.heap.size 26 1 (.slice A2 (c * r) c2) (c * r) (nums .i64 (gridQ (transQ xs c) c r)) ∧ Below w.heap.size w w' := by
  have HK0 := Aside0.mk (Two.start w 28 #[.int .i64 (r : Nat), .int .i64 (c : Nat), .slice A n cap])
  have HM : Aside0 (∀ W, Two w 28 #[.int .i64 (r : Nat), .int .i64 (c : Nat), .slice A n cap] W → Calls Try.prog 11 #[.agg #[.int .i64 (c : Nat), .int .i64 (r : Nat)], .func (.func 18) #[] #[.pointer (some ⟨w.heap.size, 0, none⟩)]] W _) := ⟨fun W h => made_any 18 #[.pointer (some ⟨w.heap.size, 0, none⟩)] (transQ xs c) (fun _ _ => false) c r W hc1 hr1 trans_enters (tell_trans w.heap.size r c n cap A xs W h.1 (hr.below h.2.2) hn hr1 hc1)⟩
  have hgo : gridO (fun _ _ => false) c r = false := by simp [gridO, rowO]
  have hmf : ∀ (fn : Fn) (first cap : Array Value) (w : World), (Instr.makeFunc fn first cap).run Try.prog w = .ok (.func fn first cap) w := fun _ _ _ _ => rfl
  have hu := Try.underlying28
  clear hr hn
  go_enter Try.func9, Try.ntmps9
  go_wp2_with (go_at_call 11; refine (HM.out _ HK0.out).mono ?_; rintro e w2 ⟨v, rfl, hown, hB⟩; rw [hgo]; obtain ⟨A2, c2, rfl⟩ := own_slice hown; have HK2 := Aside0.mk ((HK0.out.below hB).alloc (.cells #[.int .i64 (c : Nat), .int .i64 (r : Nat), .slice A2 (c * r) c2] 28)); have HOW := Aside0.mk (own_less (own_alloc hown (.cells #[.int .i64 (c : Nat), .int .i64 (r : Nat), .slice A2 (c * r) c2] 28)) HK0.out.2.2.size); obtain ⟨z0, z1, z2, zf⟩ := HK2.out.facts; clear hB hown)
  have hne := HK2.out.2.1.not_row (by decide) HOW.out
  exact bodyPost_ret (results_trans _ _ (w.heap.size + 1) _ _ _ rfl (put3 _ _ _ _ _ HK2.out.2.1)) rfl ⟨A2, c2, rfl, own3 HOW.out hne, below3 HK2.out.2.2 (by omega)⟩
end Go.Proofs.Ytomdneblpdpiiaa
