import Derived.Test.YtecnjlcfoobepaaGreatDoorRefAdd
import Derived.Test.YtecnjlcfoobepaaGreatDoorRefMake
namespace Go.Proofs.YtecnjlcfoobepaaGreatDoor
open Go.RowKit
set_option linter.unusedSimpArgs false
set_option linter.unusedVariables false
theorem IsI.shape {w : World} {B : Nat} {V : Value} {z : Int} (h : IsI w B V z) : ∃ g A l c, V = .agg #[.bool g, .slice A l c] := by
 obtain ⟨v, h1, h2⟩ := h
 obtain ⟨A, l, c, rfl⟩ := h2.form
 exact ⟨_, A, l, c, h1⟩
theorem IsQ.shape {w : World} {B : Nat} {V : Value} {q : Rat} (h : IsQ w B V q) : ∃ g A l c A' l' c', V = .agg #[.bool g, .slice A l c, .slice A' l' c'] := by
 obtain ⟨v, v', h1, h2, h3⟩ := h
 obtain ⟨A, l, c, rfl⟩ := h2.form
 obtain ⟨A', l', c', rfl⟩ := h3.form
 exact ⟨_, A, l, c, A', l', c', h1⟩
theorem IsI.parts {w : World} {B : Nat} {g : Bool} {v : Value} {z : Int} (h : IsI w B (.agg #[.bool g, v]) z) : decide (z < 0) = g ∧ IsN w B v z.natAbs := by
 obtain ⟨v', h1, h2⟩ := h
 simp at h1
 obtain ⟨rfl, rfl⟩ := h1
 exact ⟨rfl, h2⟩
theorem IsI.of {w : World} {B a : Nat} {g : Bool} {v : Value} {z : Int} (h : IsN w B v z.natAbs) (hg : decide (z < 0) = g) : IsI w B (.agg #[.bool g, v]) z := ⟨v, by rw [hg], h⟩
theorem IsQ.parts {w : World} {B : Nat} {g : Bool} {v v' : Value} {q : Rat} (h : IsQ w B (.agg #[.bool g, v, v']) q) : decide (q.num < 0) = g ∧ IsN w B v q.num.natAbs ∧ IsN w B v' q.den := by
 obtain ⟨u, u', h1, h2, h3⟩ := h
 simp at h1
 obtain ⟨rfl, rfl, rfl⟩ := h1
 exact ⟨rfl, h2, h3⟩
theorem IsQ.num {w : World} {B : Nat} {g : Bool} {v v' : Value} {q : Rat} (h : IsQ w B (.agg #[.bool g, v, v']) q) : IsI w B (.agg #[.bool g, v]) q.num := by
 obtain ⟨h1, h2, h3⟩ := h.parts
 exact ⟨v, by rw [h1], h2⟩
theorem IsQ.mk {w : World} {B : Nat} {g : Bool} {v v' : Value} {q : Rat} (h : IsI w B (.agg #[.bool g, v]) q.num) (h' : IsN w B v' q.den) : IsQ w B (.agg #[.bool g, v, v']) q := by
 obtain ⟨h1, h2⟩ := h.parts
 exact ⟨v, v', by rw [h1], h2, h'⟩
theorem retI_done {w W wn : World} {z : Int} {g l c : Nat} {t : TypeId} {ng : Bool} {A : Option Addr} (hB : Below w.heap.size w W) (hc : Below W.heap.size W wn) (hI : IsI wn wn.heap.size (.agg #[.bool ng, .slice A l c]) z)
  (hr : Blk wn g t #[.bool false, .slice none 0 0]) (hg : w.heap.size ≤ g) : RetI z w (.returned (.agg #[.bool ng, .slice A l c])) ((wn.setCell ⟨g, 0, none⟩ (.bool ng)).setCell ⟨g, 1, none⟩ (.slice A l c)) := by
 obtain ⟨h1, h2⟩ := hI.parts
 refine ⟨_, rfl, ⟨.slice A l c, by rw [h1], ?_⟩, bset2 (bthen hB hc) hg _ _⟩
 rw [World.size_setCell, World.size_setCell]
 exact h2.set2 hr (bool_ne _) (slice_ne _ _ _) _ _ (bool_ne _)
theorem retQ_done {w W wn : World} {q : Rat} {g l c l' c' : Nat} {t : TypeId} {ng : Bool} {A A' : Option Addr} (hB : Below w.heap.size w W) (hc : Below W.heap.size W wn) (hQ : IsQ wn wn.heap.size (.agg #[.bool ng, .slice A l c, .slice A' l' c']) q)
  (hr : Blk wn g t #[.bool false, .slice none 0 0, .slice none 0 0]) (hg : w.heap.size ≤ g) : RetQ q w (.returned (.agg #[.bool ng, .slice A l c, .slice A' l' c'])) (((wn.setCell ⟨g, 0, none⟩ (.bool ng)).setCell ⟨g, 1, none⟩ (.slice A l c)).setCell ⟨g, 2, none⟩ (.slice A' l' c')) := by
 obtain ⟨h1, h2, h3⟩ := hQ.parts
 refine ⟨_, rfl, ⟨.slice A l c, .slice A' l' c', by rw [h1], ?_, ?_⟩, bset3 (bthen hB hc) hg _ _ _⟩
 ·rw [World.size_setCell, World.size_setCell, World.size_setCell]
  exact h2.set3 hr (bool_ne _) (slice_ne _ _ _) (slice_ne _ _ _) _ _ _ (bool_ne _) (slice_ne _ _ _)
 ·rw [World.size_setCell, World.size_setCell, World.size_setCell]
  exact h3.set3 hr (bool_ne _) (slice_ne _ _ _) (slice_ne _ _ _) _ _ _ (bool_ne _) (slice_ne _ _ _)
theorem ref_mkI (neg : Bool) (a B : Nat) (va : Value) (w : World) (h : IsN w B va a) (hB : B ≤ w.heap.size) : Calls Tryz.prog 115 #[.bool neg, va] w (RetI (signed neg a) w) :=
 (ref_I neg a B va w h hB).mono fun e w' ⟨h1, h2⟩ => ⟨_, h1, ⟨va, rfl, by rw [signed_abs]; exact (h.next hB h2).more (Nat.le_trans hB h2.size)⟩, h2⟩
set_option maxRecDepth 100000 in
theorem ref_intOf (z : Int) (w : World) (h0 : -9223372036854775808 ≤ z) (h1 : z ≤ 9223372036854775807) : Calls Tryz.prog 77 #[.int .i64 z] w (RetI z w) := by
 have b0 := Blk.new w 68 #[.bool false, .slice none 0 0]
 have hB := balloc1 w (.cells #[.bool false, .slice none 0 0] 68)
 have hzs := b0.lt
 by_cases hz : z < 0
 ·obtain ⟨a, ha⟩ : ∃ a : Nat, (a : Int) = -z := ⟨z.natAbs, by omega⟩
  have e1 : IntKind.u64.wrap (-(IntKind.u64.wrap z)) = (a : Int) := by
   simp only [IntKind.wrap, IntKind.bits, IntKind.signed]
   simp
   omega
  have hal : a < 18446744073709551616 := by omega
  have hsg : signed true a = z := by unfold signed; simp; omega
  have hdz : decide (z < 0) = true := decide_eq_true hz
  have HM : Hid (∀ w' v, IsN w' w'.heap.size v a → Calls Tryz.prog 115 #[.bool true, v] w' (RetI z w')) := Lib.hid fun w' v hv => by
   have := ref_mkI true a _ v w' hv (Nat.le_refl _)
   rw [hsg] at this
   exact this
  clear hsg ha
  go_enter Tryz.func77, Tryz.ntmps77
  go_wp2_with fail
  generalize w.alloc (.cells #[.bool false, .slice none 0 0] 68) = W at *
  refine (ref_natOf a W hal).mono ?_
  rintro e w1 ⟨v1, rfl, hR1, hw1⟩
  obtain ⟨A1, l1, c1, rfl⟩ := hR1.form
  have b0 := b0.below hw1 hzs
  go_wp2_with fail
  refine (HM.out _ _ hR1).mono ?_
  rintro e w2 ⟨v2, rfl, hR2, hw2⟩
  obtain ⟨g2, A2, l2, c2, rfl⟩ := hR2.shape
  have c2 := b0.below hw2 b0.lt
  obtain ⟨c2q0, c2q1, c2f0, c2f1, c2s0, c2s1⟩ := c2.f2
  go_wp2
  refine bodyPost_ret (v := .agg #[.bool g2, .slice A2 l2 _]) (by simp [results, Tryz.results77, go_sem, c2s0, c2s1]; rfl) rfl ?_
  exact retI_done hB (bthen hw1 hw2) hR2 c2 (by omega)
 ·obtain ⟨a, ha⟩ : ∃ a : Nat, (a : Int) = z := ⟨z.natAbs, by omega⟩
  subst ha
  have hal : a < 18446744073709551616 := by omega
  have e1 : IntKind.u64.wrap (a : Int) = (a : Int) := by rw [wrap_u64_of _ (by omega) (by omega)]
  have HM : Hid (∀ w' v, IsN w' w'.heap.size v a → Calls Tryz.prog 115 #[.bool false, v] w' (RetI (a : Int) w')) := Lib.hid fun w' v hv => ref_mkI false a _ v w' hv (Nat.le_refl _)
  go_enter Tryz.func77, Tryz.ntmps77
  go_wp2_with fail
  generalize w.alloc (.cells #[.bool false, .slice none 0 0] 68) = W at *
  refine (ref_natOf a W hal).mono ?_
  rintro e w1 ⟨v1, rfl, hR1, hw1⟩
  obtain ⟨A1, l1, c1, rfl⟩ := hR1.form
  have b0 := b0.below hw1 hzs
  go_wp2_with fail
  refine (HM.out _ _ hR1).mono ?_
  rintro e w2 ⟨v2, rfl, hR2, hw2⟩
  obtain ⟨g2, A2, l2, c2, rfl⟩ := hR2.shape
  have c2 := b0.below hw2 b0.lt
  obtain ⟨c2q0, c2q1, c2f0, c2f1, c2s0, c2s1⟩ := c2.f2
  go_wp2
  refine bodyPost_ret (v := .agg #[.bool g2, .slice A2 l2 _]) (by simp [results, Tryz.results77, go_sem, c2s0, c2s1]; rfl) rfl ?_
  exact retI_done hB (bthen hw1 hw2) hR2 c2 (by omega)
end Go.Proofs.YtecnjlcfoobepaaGreatDoor
