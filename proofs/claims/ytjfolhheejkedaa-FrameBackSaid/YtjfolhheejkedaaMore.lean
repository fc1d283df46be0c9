import Derived.Test.YtjfolhheejkedaaTable
set_option linter.unusedVariables false
namespace Go.Proofs.Ytjfolhheejkedaa
open Go.RowKit Go.Joins Go.Proofs.YtjfolhheejkedaaW.PrintWords Go.Proofs.YtjfolhheejkedaaW.PrintLast Go.Proofs.YtjfolhheejkedaaW.PrintMore

def IsBytes (xs : List Int) : Prop := ∀ x ∈ xs, 0 ≤ x ∧ x < 256
def moreStep (c : Nat) (x : Int) : Nat := (c / 256) ^^^ tabF ((c % 256) ^^^ x.toNat)
def moreF (c : Nat) (xs : List Int) : Nat := xs.foldl moreStep c
theorem tabF_lt (i : Nat) (h : i < 256) : tabF i < 4294967296 := bitSteps_lt 8 i (by omega)
theorem xor_byte (c : Nat) (x : Int) (h0 : 0 ≤ x) (h1 : x < 256) : (c % 256) ^^^ x.toNat < 256 := Nat.xor_lt_two_pow (n := 8) (by omega) (by omega)
theorem moreStep_lt (c : Nat) (x : Int) (hc : c < 4294967296) (h0 : 0 ≤ x) (h1 : x < 256) : moreStep c x < 4294967296 :=
  Nat.xor_lt_two_pow (n := 32) (by omega) (tabF_lt _ (xor_byte c x h0 h1))
theorem moreF_lt (xs : List Int) : ∀ (c : Nat), c < 4294967296 → IsBytes xs → moreF c xs < 4294967296 := by
  induction xs with
  | nil => intro c h _; exact h
  | cons x xs ih =>
    intro c h hb
    have hx := hb x (by simp)
    exact ih _ (moreStep_lt c x h hx.1 hx.2) (fun y hy => hb y (by simp [hy]))
theorem moreF_take (c : Nat) (xs : List Int) (k : Nat) (h : k < xs.length) : moreF c (xs.take (k + 1)) = moreStep (moreF c (xs.take k)) (xs[k]?.getD 0) := by
  unfold moreF
  rw [List.take_succ_eq_append_getElem h, List.getElem?_eq_getElem h, List.foldl_append]
  rfl
theorem IsBytes.get {xs : List Int} (h : IsBytes xs) (k : Nat) : 0 ≤ xs[k]?.getD 0 ∧ xs[k]?.getD 0 < 256 := by
  by_cases hk : k < xs.length
  · rw [List.getElem?_eq_getElem hk]
    exact h _ (List.getElem_mem hk)
  · rw [List.getElem?_eq_none (by omega)]; exact ⟨by decide, by decide⟩
theorem IsBytes.take {xs : List Int} (h : IsBytes xs) (k : Nat) : IsBytes (xs.take k) := fun x hx => h x (List.mem_of_mem_take hx)
theorem IsBytes.drop {xs : List Int} (h : IsBytes xs) (k : Nat) : IsBytes (xs.drop k) := fun x hx => h x (List.mem_of_mem_drop hx)
theorem IsBytes.append {xs ys : List Int} (h : IsBytes xs) (k : IsBytes ys) : IsBytes (xs ++ ys) := fun x hx => (List.mem_append.1 hx).elim (h x) (k x)

set_option maxHeartbeats 1000000 in
set_option maxRecDepth 100000 in
theorem more_any (c : Nat) (A : Option Addr) (cap : Nat) (xs : List Int) (w : World) (hcb : c < 4294967296) (hb : IsBytes xs) (hr : ReadsInt w .u8 A xs.length xs) :
    Calls Try.prog 41 #[.int .u32 (c : Int), .slice A xs.length cap] w fun e w' => e = .returned (.int .u32 ((moreF c xs : Nat) : Int)) ∧ Below w.heap.size w w' := by
  have hm := hr.2.1
  go_enter Try.func41, Try.ntmps41
  go_wp2_with (first | (refine wpList_alloc76 rfl rfl ?_) | (go_at_call 43; refine (table_any _).mono ?_; rintro e w1 ⟨rfl, hB⟩; have HG := Aside0.mk (heap_alloc_new w1 (.cells (tabCells 0) 76)); have HB := Aside0.mk hB; clear hB) | (refine wpList_store_row rfl 76 _ _ rfl w1.heap.size (tabCells 256) rfl rfl 76 (tabCells 0) HG.out (by rw [tabCells_size]; exact size76) (by rw [tabCells_size, tabCells_size]) (tabCells_one _) ?_))
  have HG2 := Aside0.mk (setRow_heap _ _ _ (tabCells 256) _ _ HG.out)
  have HB2 := Aside0.mk (below_setRow (HB.out.alloc HB.out.size (.cells (tabCells 0) 76)) HB.out.size (tabCells 256))
  generalize (w1.alloc (.cells (tabCells 0) 76)).setRow w1.heap.size (tabCells 256) = w2 at HG2 HB2 ⊢
  obtain ⟨g, hg⟩ : ∃ g, w1.heap.size = g := ⟨_, rfl⟩
  rw [hg] at HG2 ⊢
  clear hg
  clear HG HB
  have q : ∀ i, i < 256 → w2.cell? ⟨g, i, none⟩ = some (.int .u32 ((tabF i : Nat) : Int)) := fun i hi => by
    rw [blk_cell HG2.out, tabCells_get 256 i hi, if_pos hi]
  have Q := Aside0.mk q
  have HR := Aside0.mk (ReadsInt.below hr HB2.out)
  clear q
  go_loop [0, 7, 11] (fun cv _ i => ∃ k : Nat, k ≤ xs.length ∧ i = .int .i64 k ∧ cv = .int .u32 ((moreF c (xs.take k) : Nat) : Int)) (fun _ _ i => xs.length - (intOf i).toNat)
  case atStart => exact ⟨0, Nat.zero_le _, rfl, rfl⟩
  case round =>
    obtain ⟨k, hk, rfl, rfl⟩ := hrel
    by_cases hlt : k < xs.length
    · obtain ⟨ad, e1, hx⟩ := HR.out.2.2 (by omega)
      have hx1 : w2.cell? (ad.add k) = some (.int .u8 (xs[k]?.getD 0)) := by have := hx k hlt; rwa [List.getD_eq_getElem?_getD] at this
      subst e1
      clear hx
      have hxb := hb.get k
      have hc := moreF_lt (xs.take k) c hcb (hb.take k)
      have HS := Aside0.mk (moreF_take c xs k hlt)
      generalize xs[k]?.getD 0 = x at hx1 hxb HS
      generalize moreF c (xs.take k) = cc at hc HS ⊢
      obtain ⟨hx0, hx256⟩ := hxb
      have hxor : bits .xor .u8 ((cc : Int) % 256) x = (((cc % 256) ^^^ x.toNat : Nat) : Int) := by
        have := u8_xor_nat (cc % 256) x.toNat (by omega) (by omega)
        rwa [Int.toNat_of_nonneg hx0] at this
      have hi := xor_byte cc x hx0 hx256
      have hcell := Q.out _ hi
      have ht := tabF_lt _ hi
      have hxor2 : bits .xor .u32 ((cc : Int) / 256) ((tabF ((cc % 256) ^^^ x.toNat) : Nat) : Int) = ((moreStep cc x : Nat) : Int) := by
        rw [show ((cc : Int) / 256) = ((cc / 256 : Nat) : Int) from rfl, u32_xor_nat _ _ (by omega) ht]
        rfl
      generalize (cc % 256) ^^^ x.toNat = ix at hxor hi hcell ht hxor2
      go_wp2
      go_round
      case rel => exact ⟨k + 1, by omega, by go_num, by rw [HS.out]⟩
      case measure => simp [intOf]; omega
    · obtain rfl : k = xs.length := by omega
      have HT : Aside0 (moreF c (xs.take xs.length) = moreF c xs) := ⟨by rw [List.take_length]⟩
      go_wp2
      go_ret
      exact ⟨by rw [← HT.out]; rfl, HB2.out⟩

theorem nat_not (c : Nat) (h : c < 4294967296) : 4294967295 ^^^ c = 4294967295 - c := by
  have e := congrArg BitVec.toNat (BitVec.allOnes_xor (x := BitVec.ofNat 32 c))
  rw [BitVec.toNat_xor, BitVec.toNat_not, BitVec.toNat_ofNat, BitVec.toNat_allOnes, Nat.mod_eq_of_lt (by omega : c < 2 ^ 32)] at e
  exact e
theorem u32_not (c : Nat) (h : c < 4294967296) : bits .xor .u32 IntKind.u32.max (c : Int) = ((4294967295 - c : Nat) : Int) := by
  rw [show IntKind.u32.max = ((4294967295 : Nat) : Int) from rfl, u32_xor_nat _ _ (by omega) h, nat_not c h]
/-- the sum -/
def ofF (xs : List Int) : Nat := 4294967295 - moreF 4294967295 xs
theorem ofF_lt (xs : List Int) (h : IsBytes xs) : ofF xs < 4294967296 := by unfold ofF; omega
set_option maxHeartbeats 1000000 in
theorem of_any (A : Option Addr) (cap : Nat) (xs : List Int) (w : World) (hb : IsBytes xs) (hr : ReadsInt w .u8 A xs.length xs) :
    Calls Try.prog 39 #[.slice A xs.length cap] w fun e w' => e = .returned (.int .u32 ((ofF xs : Nat) : Int)) ∧ Below w.heap.size w w' := by
  have hlt := moreF_lt xs 4294967295 (by decide) hb
  have HF : Aside0 (ofF xs = 4294967295 - moreF 4294967295 xs) := ⟨rfl⟩
  have hm := more_any 4294967295 A cap xs w (by decide) hb hr
  generalize moreF 4294967295 xs = c at hlt HF hm
  have HM := Aside0.mk hm
  have hnot := u32_not c hlt
  have hsg : IntKind.u32.signed = false := rfl
  clear hm
  go_enter Try.func39, Try.ntmps39
  go_wp2_with (go_at_call 41; refine HM.out.mono ?_; rintro e w1 ⟨rfl, hB⟩)
  go_ret
  exact ⟨by rw [HF.out]; rfl, hB⟩

/-- the sum's four bytes -/
def tb (s i k : Nat) : Int := if i < k then ((s / 256 ^ i % 256 : Nat) : Int) else 0
def tailF (xs : List Int) : List Int := [tb (ofF xs) 0 4, tb (ofF xs) 1 4, tb (ofF xs) 2 4, tb (ofF xs) 3 4]
set_option maxHeartbeats 1000000 in
theorem tail_any (A : Option Addr) (cap : Nat) (xs : List Int) (w : World) (hb : IsBytes xs) (hr : ReadsInt w .u8 A xs.length xs) :
    Calls Try.prog 33 #[.slice A xs.length cap] w fun e w' => ∃ w1, e = .returned (.slice (some ⟨w1.heap.size, 0, none⟩) 4 4) ∧ Below w.heap.size w w1 ∧ w' = w1.alloc (.cells (nums .u8 (tailF xs)).toArray 5) := by
  have hlt := ofF_lt xs hb
  have ho := of_any A cap xs w hb hr
  have HT : Aside0 (tailF xs = [tb (ofF xs) 0 4, tb (ofF xs) 1 4, tb (ofF xs) 2 4, tb (ofF xs) 3 4]) := ⟨rfl⟩
  generalize ofF xs = s at hlt HT ho
  have HO := Aside0.mk ho
  clear ho
  have hmk : ∀ w, (Instr.makeSlice 28 (.int .i64 4) (.int .i64 4)).run Try.prog w = .ok (.slice (some ⟨w.heap.size, 0, none⟩) 4 4) (w.alloc (.cells #[.int .u8 0, .int .u8 0, .int .u8 0, .int .u8 0] 5)) := fun _ => by kernel_rfl
  go_enter Try.func33, Try.ntmps33
  go_wp2_with (go_at_call 39; refine HO.out.mono ?_; rintro e w1 ⟨rfl, hB⟩; have HB := Aside0.mk hB; clear hB)
  go_loopw [5, 9] (fun _ i wr => ∃ k : Nat, k ≤ 4 ∧ i = .int .i64 k ∧ wr = w1.alloc (.cells #[.int .u8 (tb s 0 k), .int .u8 (tb s 1 k), .int .u8 (tb s 2 k), .int .u8 (tb s 3 k)] 5)) (fun _ i _ => 4 - (intOf i).toNat)
  case atStart => exact ⟨0, by omega, rfl, rfl⟩
  case round =>
    obtain ⟨k, hk, rfl, rfl⟩ := hrel
    obtain rfl | rfl | rfl | rfl | rfl : k = 0 ∨ k = 1 ∨ k = 2 ∨ k = 3 ∨ k = 4 := by omega
    · go_wp2
      go_roundw
      case rel => exact ⟨1, by omega, rfl, by simp [tb]⟩
      case measure => simp [intOf]
    · go_wp2
      go_roundw
      case rel => exact ⟨2, by omega, rfl, by simp [tb]⟩
      case measure => simp [intOf]
    · go_wp2
      go_roundw
      case rel => exact ⟨3, by omega, rfl, by simp [tb]⟩
      case measure => simp [intOf]
    · go_wp2
      go_roundw
      case rel =>
        have h4 : (s : Int) / 16777216 % 256 = (s : Int) / 16777216 := by omega
        exact ⟨4, by omega, rfl, by simp [tb, h4]⟩
      case measure => simp [intOf]
    · go_wp2
      go_ret
      exact ⟨w1, rfl, HB.out, by rw [HT.out]; rfl⟩
end Go.Proofs.Ytjfolhheejkedaa
