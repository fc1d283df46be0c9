import Derived.Test.YtjfolhheejkedaaEnc
set_option linter.unusedVariables false
namespace Go.Proofs.Ytjfolhheejkedaa
open Go.RowKit Go.Joins Go.Proofs.YtjfolhheejkedaaW.PrintWords Go.Proofs.YtjfolhheejkedaaW.PrintLast Go.Proofs.YtjfolhheejkedaaW.PrintMore

/-- the number of bytes, the high one first -/
def numN (l : List Int) : Nat := l.foldl (fun n x => n * 256 + x.toNat) 0
theorem numN_take (l : List Int) (k : Nat) (h : k < l.length) : numN (l.take (k + 1)) = numN (l.take k) * 256 + (l[k]?.getD 0).toNat := by
  unfold numN
  rw [List.take_succ_eq_append_getElem h, List.getElem?_eq_getElem h, List.foldl_append]
  rfl
theorem numN_lt : ∀ (l : List Int) (c m : Nat), IsBytes l → c < 256 ^ m → l.foldl (fun n x => n * 256 + x.toNat) c < 256 ^ (m + l.length) := by
  intro l
  induction l with
  | nil => intro c m _ h; simpa using h
  | cons x l ih =>
    intro c m hb h
    have hx := hb x (by simp)
    have := ih (c * 256 + x.toNat) (m + 1) (fun y hy => hb y (by simp [hy])) (by rw [Nat.pow_succ]; omega)
    rw [List.length_cons, show m + (l.length + 1) = m + 1 + l.length by omega]
    exact this
theorem numN_bound (l : List Int) (hb : IsBytes l) (k : Nat) (h : k < 8) : numN (l.take k) < 72057594037927936 := by
  have h1 := numN_lt (l.take k) 0 0 (hb.take k) (by decide)
  have h2 : (l.take k).length ≤ 7 := by rw [List.length_take]; omega
  have h3 : 256 ^ (0 + (l.take k).length) ≤ 256 ^ 7 := Nat.pow_le_pow_right (by decide) (by omega)
  unfold numN
  exact Nat.lt_of_lt_of_le h1 h3
theorem or_byte (a x : Nat) (ha : a < 72057594037927936) (hx : x < 256) : bits .or .u64 ((a : Int) * 256) (x : Int) = ((a * 256 + x : Nat) : Int) := by
  have h := u64_or_nat (a * 256) x (by omega) (by omega)
  rw [show ((a * 256 : Nat) : Int) = (a : Int) * 256 by simp] at h
  rw [h]
  have h2 := Nat.shiftLeft_add_eq_or_of_lt (show x < 2 ^ 8 by omega) a
  rw [Nat.shiftLeft_eq] at h2
  rw [show a * 256 = a * 2 ^ 8 from rfl, ← h2]
def numberF (l : List Int) : Int := wrap64 ((numN l : Nat) : Int)
set_option maxHeartbeats 1000000 in
theorem number_any (A : Option Addr) (c n : Nat) (l : List Int) (w : World) (hn : l.length = n) (h8 : n ≤ 8) (hb : IsBytes l) (hr : ReadsInt w .u8 A n l) :
    Calls Try.prog 24 #[.slice A n c] w fun e w' => e = .returned (.int .i64 (numberF l)) ∧ w = w' := by
  subst hn
  have hm := hr.2.1
  have HF : Aside0 (numberF l = wrap64 ((numN l : Nat) : Int)) := ⟨rfl⟩
  have HR := Aside0.mk hr
  clear hr
  go_enter Try.func24, Try.ntmps24
  go_wp2
  go_loop [3, 5, 8] (fun v _ i => ∃ k : Nat, k ≤ l.length ∧ i = .int .i64 k ∧ v = .int .u64 ((numN (l.take k) : Nat) : Int)) (fun _ _ i => l.length - (intOf i).toNat)
  case atStart => exact ⟨0, Nat.zero_le _, rfl, rfl⟩
  case round =>
    obtain ⟨k, hk, rfl, rfl⟩ := hrel
    by_cases hlt : k < l.length
    · obtain ⟨ad, e1, hx⟩ := HR.out.2.2 (by omega)
      have hx1 : w.cell? (ad.add k) = some (.int .u8 (l[k]?.getD 0)) := by have := hx k hlt; rwa [List.getD_eq_getElem?_getD] at this
      subst e1
      clear hx
      have HT := Aside0.mk (numN_take l k hlt)
      have hxb := hb.get k
      have hlt8 := numN_bound l hb k (by omega)
      generalize l[k]?.getD 0 = x at hx1 HT hxb
      generalize numN (l.take k) = a at HT hlt8 ⊢
      have hor := or_byte a x.toNat hlt8 (by omega)
      rw [Int.toNat_of_nonneg hxb.1] at hor
      go_wp2
      go_round
      case rel => exact ⟨k + 1, by omega, by go_num, by rw [HT.out, show ((a : Int) * 256 + max x 0) = ((a * 256 + x.toNat : Nat) : Int) by omega]⟩
      case measure => simp [intOf]; omega
    · obtain rfl : k = l.length := by omega
      have HT : Aside0 (numN (l.take l.length) = numN l) := ⟨by rw [List.take_length]⟩
      go_wp2
      go_ret
      exact ⟨by rw [HF.out, ← HT.out]; rfl, rfl⟩
end Go.Proofs.Ytjfolhheejkedaa
