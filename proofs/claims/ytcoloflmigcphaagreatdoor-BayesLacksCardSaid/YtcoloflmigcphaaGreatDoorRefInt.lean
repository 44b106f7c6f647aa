import Derived.Test.YtcoloflmigcphaaGreatDoorRefAdd
import Derived.Test.YtcoloflmigcphaaGreatDoorRefMake
namespace Go.Proofs.YtcoloflmigcphaaGreatDoor
set_option maxRecDepth 100000
open Go.RowKit
set_option linter.all false
theorem IsI.shape {w : World} {B : Nat} {V : Value} {z : Int} (h : IsI w B V z) : ∃ g A l c, V = .agg #[.bool g, .slice A l c] := by
 obtain ⟨v, h1, h2⟩ := h
 obtain ⟨A, l, c, rfl⟩ := h2.form
 exact ⟨_, A, l, c, h1⟩
theorem IsQ.shape {w : World} {B : Nat} {V : Value} {q : Rat} (h : IsQ w B V q) : ∃ g A l c A' l' c', V = .agg #[.bool g, .slice A l c, .slice A' l' c'] := by
 obtain ⟨v, v', h1, h2, h3⟩ := h
 obtain ⟨A, l, c, rfl⟩ := h2.form
 obtain ⟨A', l', c', rfl⟩ := h3.form
 exact ⟨_, A, l, c, A', l', c', h1⟩
theorem IsI.parts {w : World} {B : Nat} {g : Bool} {v : Value} {z : Int} (h : IsI w B (.agg #[.bool g, v]) z) : decide (z < 0) = g /\ IsN w B v z.natAbs := by
 obtain ⟨v', h1, h2⟩ := h
 simp at h1
 obtain ⟨rfl, rfl⟩ := h1
 exact ⟨rfl, h2⟩
theorem IsI.of {w : World} {B a : Nat} {g : Bool} {v : Value} {z : Int} (h : IsN w B v z.natAbs) (hg : decide (z < 0) = g) : IsI w B (.agg #[.bool g, v]) z := ⟨v, by rw [hg], h⟩
theorem IsQ.parts {w : World} {B : Nat} {g : Bool} {v v' : Value} {q : Rat} (h : IsQ w B (.agg #[.bool g, v, v']) q) : decide (q.num < 0) = g /\ IsN w B v q.num.natAbs /\ IsN w B v' q.den := by
 obtain ⟨u, u', h1, h2, h3⟩ := h
 simp at h1
 obtain ⟨rfl, rfl, rfl⟩ := h1
 exact ⟨rfl, h2, h3⟩
theorem IsQ.num {w : World} {B : Nat} {g : Bool} {v v' : Value} {q : Rat} (h : IsQ w B (.agg #[.bool g, v, v']) q) : IsI w B (.agg #[.bool g, v]) q.num := by
 obtain ⟨h1, h2, h3⟩ := h.parts
 exact ⟨v, by rw [h1], h2⟩
theorem IsQ.mk {w : World} {B : Nat} {g : Bool} {v v' : Value} {q : Rat} (h : IsI w B (.agg #[.bool g, v]) q.num) (h' : IsN w B v' q.den) : IsQ w B (.agg #[.bool g, v, v']) q := by
 obtain ⟨h1, h2⟩ := h.parts
 exact ⟨v, v', by rw [h1], h2, h'⟩
theorem Ja6 {w W wn : World} {z : Int} {g l c : Nat} {t : TypeId} {ng : Bool} {A : Option Addr} (hB : Below w.heap.size w W) (hc : Below W.heap.size W wn) (hI : IsI wn wn.heap.size (.agg #[.bool ng, .slice A l c]) z)
  (hr : Blk wn g t #[.bool false, .slice none 0 0]) (hg : w.heap.size <= g) : Jiv z w (.returned (.agg #[.bool ng, .slice A l c])) ((wn.setCell ⟨g, 0, none⟩ (.bool ng)).setCell ⟨g, 1, none⟩ (.slice A l c)) := by
 obtain ⟨h1, h2⟩ := hI.parts
 refine ⟨_, rfl, ⟨.slice A l c, by rw [h1], ?_⟩, Xo (Ja hB hc) hg _ _⟩
 rw [World.size_setCell, World.size_setCell]
 exact h2.set2 hr (Xx _) (Qs _ _ _) _ _ (Xx _)
theorem Jd4 {w W wn : World} {q : Rat} {g l c l' c' : Nat} {t : TypeId} {ng : Bool} {A A' : Option Addr} (hB : Below w.heap.size w W) (hc : Below W.heap.size W wn) (hQ : IsQ wn wn.heap.size (.agg #[.bool ng, .slice A l c, .slice A' l' c']) q)
  (hr : Blk wn g t #[.bool false, .slice none 0 0, .slice none 0 0]) (hg : w.heap.size <= g) : Jmv q w (.returned (.agg #[.bool ng, .slice A l c, .slice A' l' c'])) (((wn.setCell ⟨g, 0, none⟩ (.bool ng)).setCell ⟨g, 1, none⟩ (.slice A l c)).setCell ⟨g, 2, none⟩ (.slice A' l' c')) := by
 obtain ⟨h1, h2, h3⟩ := hQ.parts
 refine ⟨_, rfl, ⟨.slice A l c, .slice A' l' c', by rw [h1], ?_, ?_⟩, Kw (Ja hB hc) hg _ _ _⟩
 ·rw [World.size_setCell, World.size_setCell, World.size_setCell]
  exact h2.set3 hr (Xx _) (Qs _ _ _) (Qs _ _ _) _ _ _ (Xx _) (Qs _ _ _)
 rw [World.size_setCell, World.size_setCell, World.size_setCell]
 exact h3.set3 hr (Xx _) (Qs _ _ _) (Qs _ _ _) _ _ _ (Xx _) (Qs _ _ _)
theorem Je1 (neg : Bool) (a B : Nat) (va : Value) (w : World) (h : IsN w B va a) (hB : B <= w.heap.size) : Calls Tryz.prog 115 #[.bool neg, va] w (Jiv (signed neg a) w) :=
 (Jm1 neg a B va w h hB).mono fun e w' ⟨h1, h2⟩ => ⟨_, h1, ⟨va, rfl, by rw [Jcl]; exact (h.next hB h2).more (nt hB h2.size)⟩, h2⟩
theorem Jpr (z : Int) (B : Nat) (V : Value) (w : World) (h : IsI w B V z) : Calls Tryz.prog 105 #[V] w (Ret (.int .i64 z.sign) w) := by
 obtain ⟨n0, A0, l0, c0c, rfl⟩ := h.shape
 obtain ⟨hd, hn⟩ := h.parts
 have hl : l0 = (Jd z.natAbs).length := by
  obtain ⟨A', c', h1, _⟩ := hn
  injection h1
 have hz := Ks z.natAbs
 rw [<- hl] at hz
 have hs : (l0 = 0 /\ z.sign = 0) \/ (((l0 : Int) == 0) = false /\ n0 = true /\ z.sign = -1) \/ (((l0 : Int) == 0) = false /\ n0 = false /\ z.sign = 1) := by
  rcases Int.lt_trichotomy z 0 with h1 | h1 | h1
  ·right; left
   exact ⟨by simp; omega, by rw [<- hd]; exact decide_eq_true h1, Int.sign_eq_neg_one_of_neg h1⟩
  ·left
   subst h1
   exact ⟨hz.2 rfl, rfl⟩
  right; right
  exact ⟨by simp; omega, by rw [<- hd]; exact decide_eq_false (by omega), Int.sign_eq_one_of_pos h1⟩
 clear h hd hn hl hz
 obtain ⟨b0, hB, hZ⟩ := bx1 w 26 #[.bool n0, .slice A0 l0 c0c]
 rcases hs with ⟨rfl, h2⟩ | ⟨h1, rfl, h2⟩ | ⟨h1, rfl, h2⟩
 all_goals
  rw [h2]
  clear h2
  go_enter Tryz.func105, Tryz.ntmps105
  go_wp2
  go_ret
  exact ⟨rfl, hB⟩
theorem Jd5 (z : Int) (w : World) (h0 : -9223372036854775808 <= z) (h1 : z <= 9223372036854775807) : Calls Tryz.prog 97 #[.int .i64 z] w (Jiv z w) := by
 have b0 := Blk.new w 26 #[.bool false, .slice none 0 0]
 have hB := Jb w (.cells #[.bool false, .slice none 0 0] 26)
 have p9 := b0.lt
 by_cases hz : z < 0
 ·obtain ⟨a, ha⟩ : ∃ a : Nat, (a : Int) = -z := ⟨z.natAbs, by omega⟩
  have e1 : IntKind.u64.wrap (-(IntKind.u64.wrap z)) = (a : Int) := by
   simp only [IntKind.wrap, IntKind.bits, IntKind.signed]
   simp
   omega
  have l6 : a < 18446744073709551616 := by omega
  have q8 : signed true a = z := by unfold signed; simp; omega
  have s9 : decide (z < 0) = true := decide_eq_true hz
  have HM : Hid (∀ w' v, IsN w' w'.heap.size v a -> Calls Tryz.prog 115 #[.bool true, v] w' (Jiv z w')) := lh fun w' v hv => by
   have := Je1 true a _ v w' hv zd
   rw [q8] at this
   exact this
  clear q8 ha
  go_enter Tryz.func97, Tryz.ntmps97
  go_wp2_with fail
  generalize w.alloc (.cells #[.bool false, .slice none 0 0] 26) = W at *
  refine (Ja8 a W l6).mono ?_
  rintro e w1 ⟨v1, rfl, j7, j8⟩
  obtain ⟨A1, l1, c1, rfl⟩ := j7.form
  have b0 := b0.below j8 p9
  go_wp2_with fail
  refine (HM.out _ _ j7).mono ?_
  rintro e w2 ⟨v2, rfl, j9, l5⟩
  obtain ⟨g2, A2, l2, c2, rfl⟩ := j9.shape
  have c2 := b0.below l5 b0.lt
  obtain ⟨l7, o0, o9, p8, j0, j6⟩ := c2.f2
  go_wp2
  refine bodyPost_ret (v := .agg #[.bool g2, .slice A2 l2 _]) (by simp [results, Tryz.results97, go_sem, j0, j6]; rfl) rfl ?_
  exact Ja6 hB (Ja j8 l5) j9 c2 (by omega)
 obtain ⟨a, ha⟩ : ∃ a : Nat, (a : Int) = z := ⟨z.natAbs, by omega⟩
 subst ha
 have l6 : a < 18446744073709551616 := by omega
 have e1 : IntKind.u64.wrap (a : Int) = (a : Int) := by rw [Jc _ (by omega) (by omega)]
 have HM : Hid (∀ w' v, IsN w' w'.heap.size v a -> Calls Tryz.prog 115 #[.bool false, v] w' (Jiv (a : Int) w')) := lh fun w' v hv => Je1 false a _ v w' hv zd
 go_enter Tryz.func97, Tryz.ntmps97
 go_wp2_with fail
 generalize w.alloc (.cells #[.bool false, .slice none 0 0] 26) = W at *
 refine (Ja8 a W l6).mono ?_
 rintro e w1 ⟨v1, rfl, j7, j8⟩
 obtain ⟨A1, l1, c1, rfl⟩ := j7.form
 have b0 := b0.below j8 p9
 go_wp2_with fail
 refine (HM.out _ _ j7).mono ?_
 rintro e w2 ⟨v2, rfl, j9, l5⟩
 obtain ⟨g2, A2, l2, c2, rfl⟩ := j9.shape
 have c2 := b0.below l5 b0.lt
 obtain ⟨l7, o0, o9, p8, j0, j6⟩ := c2.f2
 go_wp2
 refine bodyPost_ret (v := .agg #[.bool g2, .slice A2 l2 _]) (by simp [results, Tryz.results97, go_sem, j0, j6]; rfl) rfl ?_
 exact Ja6 hB (Ja j8 l5) j9 c2 (by omega)
