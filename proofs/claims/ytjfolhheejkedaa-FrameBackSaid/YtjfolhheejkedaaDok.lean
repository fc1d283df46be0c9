import Derived.RangeFuncBox
import Derived.RangeFuncNested
import Derived.RangeFuncLeaves
import Derived.OwnWalkIn
import Derived.TacticsInMore
import Derived.Maps.AppendAt
import Derived.Stop.RegionWithIn
import Derived.Shelf.RegionOpen
import Derived.Test.YtjfolhheejkedaaDec
set_option linter.unusedVariables false
namespace Go.Proofs.Ytjfolhheejkedaa
open Go.RowKit Go.Shelf Go.Joins Go.Proofs.YtjfolhheejkedaaW.PrintWords Go.Proofs.YtjfolhheejkedaaW.PrintLast Go.Proofs.YtjfolhheejkedaaW.PrintMore
attribute [local go_sem] Oper.semAt_some
attribute [-go_sem] Go.Builtin.append_

theorem frame_cell0 (w : World) (N : Nat) : ((w.drewN N).alloc (.cells #[.int .i64 0, .slice none 0 0] 24)).cell? ⟨w.heap.size, 0, none⟩ = some (.int .i64 0) := blk_cell (heap_alloc_new (w.drewN N) _) 0
theorem frame_cell1 (w : World) (N : Nat) : ((w.drewN N).alloc (.cells #[.int .i64 0, .slice none 0 0] 24)).cell? ⟨w.heap.size, 1, none⟩ = some (.slice none 0 0) := blk_cell (heap_alloc_new (w.drewN N) _) 1
theorem frame_froz (w : World) (i N : Nat) : ((w.drewN N).alloc (.cells #[.int .i64 0, .slice none 0 0] 24)).frozen? ⟨w.heap.size, i, none⟩ = false := blk_frozen (heap_alloc_new (w.drewN N) _) i
/-- a frame's kind and numbers lie in block B -/
def Framed (W : World) (B : Nat) (k : Int) (v : Value) : Prop := W.heap[B]? = some (.cells #[.int .i64 k, v] 24 (0, 0))
theorem Framed.lt {W : World} {B : Nat} {k : Int} {v : Value} (h : Framed W B k v) : B < W.heap.size := blk_lt h
theorem Framed.cell {W : World} {B : Nat} {k : Int} {v : Value} (h : Framed W B k v) : W.cell? ⟨B, 1, none⟩ = some v := blk_cell h 1
theorem Framed.cell0 {W : World} {B : Nat} {k : Int} {v : Value} (h : Framed W B k v) : W.cell? ⟨B, 0, none⟩ = some (.int .i64 k) := blk_cell h 0
theorem Framed.kept {W W' : World} {row : Option Nat} {B : Nat} {k : Int} {v : Value} (h : Framed W B k v) (hg : W.grownBy W' row) (hne : some B ≠ row) : Framed W' B k v := (hg.block B h.lt hne).trans h
theorem Framed.alloc {W : World} {B : Nat} {k : Int} {v : Value} (h : Framed W B k v) (o : Obj) : Framed (W.alloc o) B k v := h.kept (World.grownBy_alloc W o none) (by simp)
theorem Framed.set {W : World} {B : Nat} {k : Int} {v : Value} (v' : Value) (h : Framed W B k v) : Framed (W.setCell ⟨B, 1, none⟩ v') B k v' := blk_put h 1 v' rfl
theorem grownBy_setCell1 (W : World) (b i : Nat) (v : Value) : W.grownBy (W.setCell ⟨b, i, none⟩ v) (some b) :=
  ⟨rfl, rfl, rfl, (KeepsWalks.setCell W _ v).size, fun k _ hk => Below.heap_setCell _ _ _ k (fun e => hk (by rw [e]))⟩
theorem Framed.not_row {W : World} {B : Nat} {e : TypeId} {k : Int} {u : Value} (h : Framed W B k u) (hte : 24 ≠ e) {base size n : Nat} {v : Value} {xs : List Value} (hr : W.ownsRow base e size v n xs) : some B ≠ v.ownBlock := by
  rcases hr.2 with ⟨rfl, _⟩ | ⟨g, cap, cur, rfl, _, hgb, _⟩
  · simp [Value.ownBlock]
  · intro e'
    obtain rfl : B = g := by simpa [Value.ownBlock] using e'
    have := (show W.heap[B]? = _ from h).symm.trans hgb
    simp at this
    exact hte this.2
theorem holdsFrame_own {β : Type} (n₀ B : Nat) (kd : Int) (e : TypeId) (size : Nat) (k : β → Nat) (f : β → List Value) : Own (fun s W => ∃ v, Framed W B kd v ∧ W.ownsRow n₀ e size v (k s) (f s)) := by
  rintro s X Y row ⟨v, hv, hr⟩ hg hrow
  refine ⟨v, hv.kept hg (fun e' => ?_), hr.kept hg ?_⟩
  · obtain ⟨o, ho, hc⟩ := hrow B e'.symm
    rw [show X.heap[B]? = _ from hv] at ho; cases ho; cases hc
  · rcases hr.2 with ⟨rfl, _⟩ | ⟨g, cap, cur, rfl, _, hgb, _⟩
    · exact .inl rfl
    · refine .inr fun e' => ?_
      obtain ⟨o, ho, hc⟩ := hrow g (by simpa [Value.ownBlock] using e'.symm)
      rw [hgb] at ho; cases ho; cases hc
theorem Framed.appended {W w1 : World} {n₀ B : Nat} {kd : Int} {e : TypeId} {size : Nat} {v v' : Value} {k m : Nat} {xs ys : List Value} {tmp : Obj}
    (hv : Framed W B kd v) (hte : 24 ≠ e) (hrow : W.ownsRow n₀ e size v k xs) (hn₀ : n₀ ≤ W.heap.size) (hB : n₀ ≤ B)
    (hown' : w1.ownsRow n₀ e size v' m ys) (hgrow : (W.alloc tmp).grownBy w1 v.ownBlock) :
    Framed w1 B kd v ∧ Framed (w1.setCell ⟨B, 1, none⟩ v') B kd v' ∧ (w1.setCell ⟨B, 1, none⟩ v').ownsRow n₀ e size v' m ys ∧ KeepsOthers W (w1.setCell ⟨B, 1, none⟩ v') ∧ Below n₀ W (w1.setCell ⟨B, 1, none⟩ v') := by
  have hv1 : Framed w1 B kd v := (hv.alloc tmp).kept hgrow (hv.not_row hte hrow)
  refine ⟨hv1, hv1.set v', hown'.kept (grownBy_setCell1 w1 B 1 v') (.inr (hv1.not_row hte hown').symm), ?_, ?_⟩
  · refine ((KeepsOthers.alloc W tmp).trans (KeepsOthers.of_grownBy hgrow fun j o ej hj => ?_)).trans (KeepsOthers.setCell _ _ _)
    rcases (hrow.alloc tmp).2 with ⟨rfl, _⟩ | ⟨g, cap, cur, rfl, _, hgb, _⟩
    · simp [Value.ownBlock] at ej
    · obtain rfl : g = j := by simpa [Value.ownBlock] using ej
      rw [hgb] at hj; cases hj; rfl
  · refine (((Below.refl n₀ W).alloc hn₀ tmp).grown hgrow (by simp; omega) fun j ej => ?_).setCell (p := ⟨B, 1, none⟩) hB v'
    rcases hrow.2 with ⟨rfl, _⟩ | ⟨g, cap, cur, rfl, hb, _, _⟩
    · simp [Value.ownBlock] at ej
    · obtain rfl : g = j := by simpa [Value.ownBlock] using ej
      exact hb
theorem frame_laid (w : World) (N : Nat) (x : Int) (w4 : World) (h : (((w.drewN N).alloc (.cells #[.int .i64 0, .slice none 0 0] 24)).setCell ⟨w.heap.size, 0, none⟩ (.int .i64 x)).setCell ⟨w.heap.size, 1, none⟩ (.slice none 0 0) = w4) :
    Framed w4 w.heap.size x (.slice none 0 0) ∧ Below w.heap.size w w4 ∧ w4.heap.size = w.heap.size + 1 := by
  subst h
  refine ⟨blk_put (blk_put (heap_alloc_new (w.drewN N) _) 0 _ rfl) 1 _ rfl, (((pw_below_drewN (Below.refl _ w) N).alloc (Nat.le_refl _) _).setCell (p := ⟨_, 0, none⟩) (Nat.le_refl _) _).setCell (p := ⟨_, 1, none⟩) (Nat.le_refl _) _, ?_⟩
  simp [World.setCell, World.alloc]
theorem chunk_fr (n : Nat) (w2 : World) (N : Nat) (x : Int) (a : Option Addr) (len cap : Nat) :
    CallsIn Fence.wide n Try.prog 23 #[.slice a len cap, .int .i64 8] ((((w2.drewN N).alloc (.cells #[.int .i64 0, .slice none 0 0] 24)).setCell ⟨w2.heap.size, 0, none⟩ (.int .i64 x)).setCell ⟨w2.heap.size, 1, none⟩ (.slice none 0 0)) fun e w' =>
      ∃ w4, Framed w4 w2.heap.size x (.slice none 0 0) ∧ Below w2.heap.size w2 w4 ∧ w4.heap.size = w2.heap.size + 1 ∧
        e = .returned (.func (.func 36) #[] #[.pointer (some ⟨w2.heap.size + 1, 0, none⟩), .pointer (some ⟨w2.heap.size + 1 + 1, 0, none⟩)]) ∧ w' = (w4.alloc (.cells #[.slice a len cap] 28)).alloc (.cells #[.int .i64 8] 3) := by
  generalize hw : (((w2.drewN N).alloc (.cells #[.int .i64 0, .slice none 0 0] 24)).setCell ⟨w2.heap.size, 0, none⟩ (.int .i64 x)).setCell ⟨w2.heap.size, 1, none⟩ (.slice none 0 0) = w4
  obtain ⟨h1, h2, h3⟩ := frame_laid _ _ _ _ hw
  refine (chunk_in n a len cap w4).mono ?_
  rintro e w' ⟨rfl, rfl⟩
  rw [h3]
  exact ⟨w4, h1, h2, h3, rfl, rfl⟩
def numsAt (t : List Int) (pre : List Nat) : List Int := pre.map fun i => numberF ((t.drop (8 * i)).take 8)
theorem info2 : (Try.prog.info? 2).map (fun i => (i.zero, i.size, i.bytes)) = some (some (.int .i64 0), 1, 8) := by kernel_rfl
theorem grownBy_undrew {W w1 : World} {r : Option Nat} (h : W.drew.grownBy w1 r) : W.grownBy w1 r := ⟨h.1, h.2, h.3, h.4, h.5⟩
theorem dec_fin (w W : World) (D g : Nat) (x : Int) (A5 : Option Addr) (n c5 : Nat) (ns : List Int) {o : Obj} (hgs : w.heap.size < g) (hD : D ≠ w.heap.size) (hd : W.heap[w.heap.size]? = some (.cells #[.int .i64 0, .slice none 0 0] 24 (0, 0)))
    (hrow : W.ownsRow g 2 1 (.slice A5 n c5) n (nums .i64 ns)) (hB : Below w.heap.size w W) (hK : W.heap[D]? = some o) (ho : o.isCells = false) (hw : o.isWalk = false) (hDw : w.heap.size ≤ D) :
    ((((W.setCell ⟨w.heap.size, 0, none⟩ (.int .i64 x)).setCell ⟨w.heap.size, 1, none⟩ (.slice A5 n c5)).putObj D (.deferred none)).heap[w.heap.size]? = some (.cells #[.int .i64 x, .slice A5 n c5] 24 (0, 0))) ∧
    (((W.setCell ⟨w.heap.size, 0, none⟩ (.int .i64 x)).setCell ⟨w.heap.size, 1, none⟩ (.slice A5 n c5)).putObj D (.deferred none)).ownsRow g 2 1 (.slice A5 n c5) n (nums .i64 ns) ∧
    Below w.heap.size w (((W.setCell ⟨w.heap.size, 0, none⟩ (.int .i64 x)).setCell ⟨w.heap.size, 1, none⟩ (.slice A5 n c5)).putObj D (.deferred none)) := by
  have h2 := (Below.heap_setCell (W.setCell ⟨w.heap.size, 0, none⟩ (.int .i64 x)) ⟨w.heap.size, 1, none⟩ (.slice A5 n c5) D hD).trans ((Below.heap_setCell W ⟨w.heap.size, 0, none⟩ (.int .i64 x) D hD).trans hK)
  have hne : (Value.slice A5 n c5).ownBlock ≠ some w.heap.size := fun e => by have := own_base hrow _ e; omega
  refine ⟨(World.putObj_heap_other (Ne.symm hD)).trans (blk_put (blk_put hd 0 _ rfl) 1 _ rfl), ?_, ?_⟩
  · exact ownsRow_putObj ((hrow.kept (grownBy_setCell1 W _ 0 _) (.inr hne)).kept (grownBy_setCell1 _ _ 1 _) (.inr hne)) _ h2 ho
  · exact ((hB.setCell (p := ⟨_, 0, none⟩) (Nat.le_refl _) _).setCell (p := ⟨_, 1, none⟩) (Nat.le_refl _) _).trans (belowK_b (w := w) (Nat.le_refl _) _ D _ _ hDw h2 ho hw)
theorem below_mono {B B' : Nat} {w w' : World} (h : Below B w w') (hl : B' ≤ B) : Below B' w w' := ⟨h.os, h.tape, h.output, h.size, fun k hk => h.block k (by omega)⟩
theorem reads_part {W : World} {k : IntKind} {a : Addr} {n : Nat} {t : List Int} (h : ReadsInt W k (some a) n t) (i : Nat) : ReadsInt W k (some (a.add i)) (min 8 (n - i)) ((t.drop i).take 8) := by
  obtain ⟨h1, h2, h3⟩ := h
  refine ⟨by simp [h1], by omega, fun h0 => ?_⟩
  obtain ⟨ad, e, h4⟩ := h3 (by omega)
  obtain rfl := Option.some.inj e
  refine ⟨_, rfl, fun j hj => ?_⟩
  have := h4 (i + j) (by omega)
  rw [add_add, this]
  rw [List.getD_eq_getElem?_getD, List.getD_eq_getElem?_getD, List.getElem?_take_of_lt (by omega), List.getElem?_drop]
set_option maxRecDepth 100000 in
set_option maxHeartbeats 2000000 in
theorem decode_ok (A : Option Addr) (c : Nat) (bs : List Int) (w : World) (hb : IsBytes bs) (hx : bs.length ≤ 100000000000) (hr : ReadsInt w .u8 A bs.length bs) (hc : bs.length ≤ c) (h : (openF bs).2 = 0)
    (x : Int) (t : List Int) (h2 : (openF bs).1 = x :: t) (m : Nat) (hm : longF x = m) (hm0 : 0 < m) (ht : t.length = 8 * m) :
    Calls Try.prog 10 #[.slice A bs.length c] w (DecPost w (decF bs)) := by
  have hbo := openF_bytes hb
  have HF : Aside0 (decF bs = (x, numsOf t m, 0)) := ⟨by
    unfold decF; rw [if_neg (by rw [h]; decide), h2]; simp only []; rw [if_neg (by omega), hm]⟩
  have HO := Aside0.mk (fun W hr => open_any A c bs W hb hx hr hc)
  have hle := longF_le x
  have hl := Aside0.mk (long_any x)
  rw [hm] at hl hle
  clear hb hm
  generalize openF bs = r at h HO h2 hbo
  obtain ⟨inn, e0⟩ := r
  simp only at h h2 hbo
  subst h
  subst h2
  have hxr := hbo x (by simp)
  have hu24 := Try.underlying24
  have HR := Aside0.mk (ReadsInt.below hr ((Below.refl _ w).alloc (Nat.le_refl _) (.cells #[.int .i64 0, .slice none 0 0] 24)))
  have hB0 := Aside0.mk ((Below.refl _ w).alloc (Nat.le_refl _) (.cells #[.int .i64 0, .slice none 0 0] 24))
  have hbx := Aside0.mk (heap_alloc_new w (.cells #[.int .i64 0, .slice none 0 0] 24))
  clear hr
  have b1 : ((m : Int) == 0) = false := beq_eq_false_iff_ne.2 (by omega)
  have b3 : (((t.length : Int) + 1) != (1 + 8 * (m : Int))) = false := bne_eq_false_iff_eq.2 (by omega)
  have b4 : ((8 * (m : Int) + 1) != (1 + 8 * (m : Int))) = false := bne_eq_false_iff_eq.2 (by omega)
  have b0 : ((8 * (m : Int) + 1) == 0) = false := beq_eq_false_iff_ne.2 (by omega)
  clear b3
  refine (callsIn_wide (n := 5)).1 ?_
  refine callsIn_of_wp_marks Try.func10 rfl trivial ?_ rfl
  simp only [Try.ntmps10, List.size_toArray, List.length_cons, List.length_nil, Nat.reduceAdd, Nat.reduceSub, Array.replicate_succ, Array.replicate_zero, List.push_toArray, List.append_toArray, List.nil_append, List.cons_append]
  gi_wp2_with (first | (refine ⟨trivial, ?_⟩; gi_at_call 22; refine ((callsIn_wide (n := _)).2 (HO.out _ HR.out)).mono ?_; rintro e w2 ⟨v, rfl, ho, hB⟩; obtain ⟨A', c', rfl⟩ := own_slice ho; have HB2 := Aside0.mk (blk_below hbx.out hB); have HO2 := Aside0.mk ho; have hc9 : ¬ c' = 1 := (by have := own_cap ho; rw [List.length_cons] at this; omega); have HB := Aside0.mk (below_step hB0.out hB); obtain ⟨ad, rfl, hcx⟩ := own_head ho; have hq0 := frame_cell0 w2; have hq1 := frame_cell1 w2; have hg0 := frame_froz w2 0; have hg1 := frame_froz w2 1; clear hB ho) | (refine ⟨trivial, ?_⟩; gi_at_call 23; refine (chunk_fr _ _ _ _ _ _ _).mono ?_; rintro e w' ⟨w4, hF4, hB4, hs4, rfl, rfl⟩) | (refine ⟨trivial, ?_⟩; gi_at_call 12; refine ((callsIn_wide (n := _)).2 (hl.out _)).mono ?_; rintro e w' ⟨rfl, ⟨nd, rfl⟩⟩))
  have hrt := reads_drop8 (own_reads' HO2.out) 1 (by simp) (own_cap HO2.out)
  rw [if_neg hc9] at hrt
  have hRT : ReadsInt w2 .u8 (some (ad.add 1)) (8 * m) t := by
    have e : (x :: t).length - 1 = 8 * m := by rw [List.length_cons]; omega
    rw [e] at hrt
    exact hrt
  clear hrt
  have HRT := Aside0.mk hRT
  have hbt : IsBytes t := fun y hy => hbo y (by simp [hy])
  have hgs : w.heap.size < w2.heap.size := blk_lt HB2.out
  clear hRT hbo hcx hq0 hq1 hg0 hg1 hl HO HR hx hc b1 b0 b4
  obtain ⟨g, hg⟩ : ∃ g, g = w2.heap.size := ⟨_, rfl⟩
  rw [← hg] at hF4 hB4 hs4 hgs ⊢
  have HG := Aside0.mk hg
  clear hg
  have bS := Boxed.new w4 28 (.slice (some (ad.add 1)) (8 * m) (c' - 1))
  have bN := Boxed.new (w4.alloc (.cells #[.slice (some (ad.add 1)) (8 * m) (c' - 1)] 28)) 3 (.int .i64 8)
  rw [hs4] at bS
  rw [World.size_alloc, hs4] at bN
  have e7 : (8 * m + 7) / 8 = m := by omega
  refine wpIn_rangeFunc_ownG rfl (by decide) (gf := 36) (lb := #[.pointer (some ⟨g + 1, 0, none⟩), .pointer (some ⟨g + 1 + 1, 0, none⟩)]) rfl trivial (enters_of Try.func36 (by kernel_rfl) rfl)
    (chunk_stops 4 (g + 1) (g + 1 + 1) (8 * m) (c' - 1) (some (ad.add 1)) (fun _ => ⟨_, rfl⟩) (by have := own_cap HO2.out; rw [List.length_cons] at this; omega) (by omega) _ (by simp [hs4]) (by simp [hs4]) (bS.alloc _).cell bN.cell) keepsTwo_t (keepsTwo_b (by simp [hs4]) (by simp [hs4])) (Below.refl _ _) (fun _ => rfl)
    (fun pre W => ((∃ v, Framed W g x v ∧ W.ownsRow g 2 1 v pre.length (nums .i64 (numsAt t pre))) ∧ Below g w2 W) ∧ Boxed W (g + 1) 28 (.slice (some (ad.add 1)) (8 * m) (c' - 1)) ∧ Boxed W (g + 1 + 1) 3 (.int .i64 8))
    (fun _ _ _ => False)
    (OwnFrom.and (OwnFrom.and (Own.from (holdsFrame_own g g x 2 1 (fun pre => pre.length) (fun pre => nums .i64 (numsAt t pre))) _) (ownFrom_below (Nat.le_of_eq HG.out) (by simp [hs4]; omega))) (OwnFrom.and (Own.from (boxed_own _ _ (fun _ => _)) _) (Own.from (boxed_own _ _ (fun _ => _)) _)))
    (fun _ _ _ _ _ hs _ _ => hs)
    ⟨⟨⟨_, (hF4.alloc _).alloc _, World.ownsRow_nil _ _ _ _⟩, (hB4.alloc (by have := HG.out; omega) _).alloc (by have := HG.out; simp; omega) _⟩, bS.alloc _, bN⟩
    (fun y => { tmps := #[Value.slice A bs.length c, undef, Value.pointer (some { block := w.heap.size, off := 0 }),
          Value.int IntKind.i64 0, Value.slice (some ad) (8 * m + 1) c', Value.int IntKind.i64 0,
          Value.pointer (some { block := g, off := 0 }), part (some (ad.add 1)) (8 * m) y,
          Value.tuple #[Value.slice (some ad) (8 * m + 1) c', Value.int IntKind.i64 0], Value.slice A bs.length c,
          Value.tuple #[Value.slice (some ad) (8 * m + 1) c', Value.int IntKind.i64 0],
          Value.slice (some ad) (8 * m + 1) c', Value.int IntKind.i64 0, Value.bool false, Value.int IntKind.i64 0,
          Value.bool false, undef, undef, Value.bool false, Value.slice (some ad) (8 * m + 1) c',
          Value.int IntKind.i64 (8 * (m : Int) + 1), Value.bool false, Value.bool false, Value.slice (some ad) (8 * m + 1) c',
          Value.pointer (some ad), Value.int IntKind.u8 x, Value.int IntKind.i64 x, Value.int IntKind.i64 (m : Int),
          Value.bool false, Value.bool false, Value.bool false, Value.slice (some ad) (8 * m + 1) c',
          Value.int IntKind.i64 (8 * (m : Int) + 1), Value.slice (some ad) (8 * m + 1) c', Value.pointer (some ad),
          Value.int IntKind.u8 x, Value.int IntKind.i64 x, Value.int IntKind.i64 (m : Int), Value.int IntKind.i64 (8 * (m : Int)),
          Value.int IntKind.i64 (1 + 8 * (m : Int)), Value.bool false, Value.bool false, undef,
          Value.slice (some ad) (8 * m + 1) c', Value.pointer (some ad), Value.int IntKind.u8 x,
          Value.int IntKind.i64 x, Value.agg #[Value.int IntKind.i64 x, Value.slice none 0 0],
          Value.slice (some ad) (8 * m + 1) c',
          Value.slice (some { block := ad.block, off := ad.off + 1 }) (8 * m) (c' - 1),
          Value.func (Fn.func 36) #[]
            #[Value.pointer (some { block := g + 1, off := 0 }),
              Value.pointer (some { block := g + 1 + 1, off := 0 })],
          part (some (ad.add 1)) (8 * m) y, undef, undef, undef, undef, undef, undef, undef, undef], defers := [] }) ?assign ?body ?done ?stop
  case assign =>
    intro l x W K hK
    gi_wp2
    exact hK
  case body =>
    rintro l pre y W ⟨⟨⟨v, hv, hrow⟩, hB⟩, h1, h2⟩ hlt
    have hc := hv.cell
    have hB' : Below w2.heap.size w2 W := by have h9 := hB; rw [HG.out] at h9; exact h9
    have hrp := reads_part (HRT.out.below hB') (8 * y)
    clear hB'
    have hbp : IsBytes ((t.drop (8 * y)).take 8) := (hbt.drop _).take _
    have HNB := Aside0.mk (number_any ((some (ad.add 1)).map fun a => a.add (8 * y)) (min 8 (8 * m - 8 * y)) (min 8 (8 * m - 8 * y)) _ W.drew hrp.1 (Nat.min_le_left _ _) hbp hrp)
    have hnum : numsAt t (pre ++ [y]) = numsAt t pre ++ [numberF ((t.drop (8 * y)).take 8)] := by simp [numsAt]
    have HNUM := Aside0.mk hnum
    generalize numberF ((t.drop (8 * y)).take 8) = N at HNB HNUM
    clear hnum hbp hrp
    obtain ⟨i0, hi, hz0, hz1, hz2⟩ := info_parts info2
    obtain ⟨v', w1, hap, hown', hgrow, _, _⟩ := run_append_own_at (P := Try.prog) (w := (W.alloc (.cells #[.int .i64 N] 2)).drew) g 22 22 2 i0 (.int .i64 0) 1 8 Try.underlying22 hi hz0 hz1 hz2 rfl (by decide) v pre.length _ ((hrow.alloc _).drew) ⟨W.heap.size, 0, none⟩ 1 1 [.int .i64 N] rfl
      (World.news_of_block (cs := #[.int .i64 N]) (t := 2) (fr := (0, 0)) (heap_alloc_new W _)) (fun u hu => by simp only [List.mem_cons, List.not_mem_nil, or_false] at hu; subst hu; rfl) (by simp only [maxLen]; omega) (by omega) (by have := hB.size; have := HG.out; simp; omega)
    obtain ⟨g', cap', rfl⟩ := ownsRow_succ hown'
    obtain ⟨hv1, hv2, hr2, hk2, hb2⟩ := hv.appended (by decide) hrow (by have := hB.size; have := HG.out; omega) (Nat.le_refl _) hown' (grownBy_undrew hgrow)
    have hc1 := hv1.cell
    have hf1 : w1.frozen? ⟨g, 1, none⟩ = false := blk_frozen hv1 1
    have h11 := (((h1.alloc _).kept (grownBy_undrew hgrow) (h1.not_row (by decide) hrow)).kept (grownBy_setCell1 _ g 1 (.slice (some ⟨g', 0, none⟩) (pre.length + 1) cap')) (by intro e; injection e with e; omega))
    have h22 := (((h2.alloc _).kept (grownBy_undrew hgrow) (h2.not_row (by decide) hrow)).kept (grownBy_setCell1 _ g 1 (.slice (some ⟨g', 0, none⟩) (pre.length + 1) cap')) (by intro e; injection e with e; omega))
    have HK := Aside0.mk hk2
    have hca := (hv.alloc (.cells #[.int .i64 N] 2)).cell
    gi_wp2
    gi_region_with (first | (refine ⟨trivial, ?_⟩; gi_at_call 24; refine ((callsIn_wide (n := _)).2 HNB.out).mono ?_; rintro e w' ⟨rfl, rfl⟩) | fail)
    all_goals clear hc hca hc1 hf1 hap HNB
    all_goals gi_wp2
    all_goals
      refine ⟨HK.out.from _, ⟨h11.trans h1.symm, h22.trans h2.symm⟩, ⟨⟨_, hv2, ?_⟩, hB.trans hb2⟩, h11, h22⟩
      rw [HNUM.out, List.length_append]
      simpa [nums] using hr2
  case done =>
    rintro D ys W hD rfl ⟨⟨⟨v, hv, hrow⟩, hB⟩, _⟩ hK
    rw [e7] at hrow
    have hc0 := hv.cell0
    have hc1 := hv.cell
    have hd : W.heap[w.heap.size]? = _ := (hB.block _ hgs).trans HB2.out
    have hd0 : W.cell? ⟨w.heap.size, 0, none⟩ = _ := blk_cell hd 0
    have hd1 : W.cell? ⟨w.heap.size, 1, none⟩ = _ := blk_cell hd 1
    have hf0 := blk_frozen hd 0
    have hf1 := blk_frozen hd 1
    have HD := Aside0.mk hd
    clear hd
    have hB' := hB
    obtain ⟨A5, c5, rfl⟩ := own_slice hrow
    gi_wp2
    have hDg : w.heap.size ≠ D := by simp [hs4] at hD; omega
    have hneb : ∀ u, (W.setCell ⟨w.heap.size, 0, none⟩ u).heap[D]? = W.heap[D]? := fun u => Below.heap_setCell W ⟨w.heap.size, 0, none⟩ u D (fun e => hDg e.symm)
    refine ⟨by simp, .inl ⟨_, _, rfl, run_takeDeferred ((Below.heap_setCell _ ⟨w.heap.size, 1, none⟩ _ D (fun e => hDg e.symm)).trans ((hneb _).trans hK)), ?_⟩⟩
    obtain ⟨k1, k2, k3⟩ := dec_fin w W D g x A5 _ c5 (numsAt t (upto m)) hgs (fun e => hDg e.symm) HD.out hrow (Below.trans HB.out (below_mono hB' (Nat.le_of_lt hgs))) hK rfl rfl (by simp [hs4] at hD; omega)
    refine ⟨_, results_dec _ _ w.heap.size _ _ _ rfl rfl k1, ?_⟩
    rw [HF.out]
    refine ⟨_, rfl, ?_, k3⟩
    have := own_less k2 (Nat.le_of_lt hgs)
    rw [upto_length] at this ⊢
    simpa [numsAt, numsOf, upto] using this
  case stop =>
    rintro D c pre W _ _ h _
    exact h.elim
end Go.Proofs.Ytjfolhheejkedaa
