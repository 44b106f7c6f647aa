/-
  The plain law of DicePicks: weights times a number above 0, or with one more 0, pick the same.
-/
import Derived.Test.YtjmbpnogicdkgaaGreatDoorPick
import Derived.Test.YtjmbpnogicdkgaaGreatDoorRefRow
namespace Go.Proofs.YtjmbpnogicdkgaaGreatDoor
open Go.RowKit
set_option linter.unusedSimpArgs false
set_option linter.unusedVariables false

theorem foldl_addQ (l : List Rat) : ∀ a : Rat, l.foldl (· + ·) a = a + sumQ l := by
  induction l with
  | nil => intro a; show a = a + 0; rw [Rat.add_zero]
  | cons x l ih =>
    intro a
    show l.foldl (· + ·) (a + x) = a + l.foldl (· + ·) (0 + x)
    rw [ih, ih (0 + x), Rat.zero_add, Rat.add_assoc]
theorem sumQ_cons (x : Rat) (l : List Rat) : sumQ (x :: l) = x + sumQ l := by
  show l.foldl (· + ·) (0 + x) = _
  rw [foldl_addQ, Rat.zero_add]
theorem sumQ_app (l m : List Rat) : sumQ (l ++ m) = sumQ l + sumQ m := by
  show (l ++ m).foldl (· + ·) 0 = _
  rw [List.foldl_append, foldl_addQ]
  rfl
theorem sumQ_scale (l : List Rat) (k : Rat) : sumQ (l.map (· * k)) = sumQ l * k := by
  induction l with
  | nil => show (0 : Rat) = 0 * k; rw [Rat.zero_mul]
  | cons x l ih => rw [List.map_cons, sumQ_cons, sumQ_cons, ih, Rat.add_mul]
theorem sumQ_nonneg (l : List Rat) (h : ∀ x ∈ l, 0 ≤ x) : 0 ≤ sumQ l := by
  induction l with
  | nil => exact Rat.le_refl
  | cons x l ih =>
    rw [sumQ_cons]
    exact Rat.add_nonneg (h x (by simp)) (ih fun y hy => h y (by simp [hy]))
/-- the partial sum behind index j is above the part u of the sum -/
def Above (l : List Rat) (u j : Nat) : Prop := ((u : Int) : Rat) * sumQ l < sumQ (l.take (j + 1)) * ((18446744073709551616 : Int) : Rat)
theorem above_scale (l : List Rat) (u j : Nat) (k : Rat) (hk : 0 < k) : Above (l.map (· * k)) u j ↔ Above l u j := by
  unfold Above
  rw [← List.map_take, sumQ_scale, sumQ_scale, ← Rat.mul_assoc, Rat.mul_assoc (sumQ (l.take (j + 1))), Rat.mul_comm k, ← Rat.mul_assoc, Rat.mul_lt_mul_right hk]
theorem above_snoc (l : List Rat) (u j : Nat) (hj : j < l.length) : Above (l ++ [0]) u j ↔ Above l u j := by
  unfold Above
  have e : sumQ ([0] : List Rat) = 0 := by show (0 : Rat) + 0 = 0; rw [Rat.add_zero]
  rw [sumQ_app, e, Rat.add_zero, List.take_append_of_le_length (by omega)]
theorem above_last (l : List Rat) (u : Nat) (hu : u < 18446744073709551616) (hs : 0 < sumQ l) : l ≠ [] ∧ Above l u (l.length - 1) := by
  have hl : l ≠ [] := by
    rintro rfl
    exact Rat.lt_irrefl hs
  refine ⟨hl, ?_⟩
  have h0 : 0 < l.length := List.length_pos_iff.2 hl
  unfold Above
  rw [List.take_of_length_le (by omega), Rat.mul_comm (sumQ l), Rat.mul_lt_mul_right hs, Rat.intCast_lt_intCast]
  omega
/-- i is the first such index -/
def FirstAbove (l : List Rat) (u i : Nat) : Prop := i < l.length ∧ Above l u i ∧ ∀ j, j < i → ¬ Above l u j
theorem pick_first {l : List Rat} {u i : Nat} {ok : Bool} (h : PickRes l u i ok) (hx : ∃ j, j < l.length ∧ Above l u j) : ok = true ∧ FirstAbove l u i := by
  obtain ⟨j, hj, ha⟩ := hx
  rcases h with ⟨h1, h2, h3, h4⟩ | ⟨h1, h2, h3⟩
  · exact ⟨h1, h2, h3, h4⟩
  · exact absurd ha (h3 j hj)
theorem first_same {l l' : List Rat} {u i i' : Nat} (h : FirstAbove l u i) (h' : FirstAbove l' u i') (hlen : l.length ≤ l'.length) (he : ∀ j, j < l.length → (Above l' u j ↔ Above l u j)) : i' = i := by
  obtain ⟨h1, h2, h3⟩ := h
  obtain ⟨k1, k2, k3⟩ := h'
  rcases Nat.lt_trichotomy i' i with hl | hl | hl
  · exact absurd ((he i' (by omega)).1 k2) (h3 i' hl)
  · exact hl
  · exact absurd ((he i h1).2 h2) (k3 i hl)
theorem first_pos {l : List Rat} {u i : Nat} (h : FirstAbove l u i) (hn : ∀ x ∈ l, 0 ≤ x) : ∃ q, l[i]? = some q ∧ q ≠ 0 := by
  obtain ⟨h1, h2, h3⟩ := h
  have hq : l[i]? = some l[i] := List.getElem?_eq_getElem h1
  refine ⟨l[i], hq, fun h0 => ?_⟩
  rw [h0] at hq
  have e := sumQ_take l i 0 hq
  rw [Rat.add_zero] at e
  unfold Above at h2
  rw [e] at h2
  cases i with
  | zero =>
    have e2 : sumQ (l.take 0) = 0 := rfl
    rw [e2, Rat.zero_mul] at h2
    have h5 : (0 : Rat) ≤ ((u : Int) : Rat) := Rat.intCast_nonneg.2 (by omega)
    exact absurd h2 (Rat.not_lt.2 (Rat.mul_nonneg h5 (sumQ_nonneg l hn)))
  | succ j => exact h3 j (by omega) h2
/-- what a pick from the state s answers, and the state behind it -/
def PickAns (l : List Rat) (s i : Nat) (ok : Bool) (s' : Nat) : Prop := (sumQ l = 0 ∧ i = 0 ∧ ok = false ∧ s' = s) ∨ (sumQ l ≠ 0 ∧ PickRes l (Dice.next s) i ok ∧ s' = Dice.step s)
theorem picks_same (l : List Rat) (k : Rat) (hk : 0 < k) (hn : ∀ x ∈ l, 0 ≤ x) {s i1 i2 i3 s1 s2 s3 : Nat} {o1 o2 o3 : Bool} (h1 : PickAns l s i1 o1 s1) (h2 : PickAns (l.map (· * k)) s i2 o2 s2) (h3 : PickAns (l ++ [0]) s i3 o3 s3) :
    i2 = i1 ∧ i3 = i1 ∧ o2 = o1 ∧ o3 = o1 ∧ s2 = s1 ∧ s3 = s1 ∧ ((o1 = true ∧ ∃ q, l[i1]? = some q ∧ q ≠ 0) ∨ (o1 = false ∧ sumQ l = 0)) := by
  have e2 := sumQ_scale l k
  have e3 : sumQ (l ++ [0]) = sumQ l := by
    have e : sumQ ([0] : List Rat) = 0 := by show (0 : Rat) + 0 = 0; rw [Rat.add_zero]
    rw [sumQ_app, e, Rat.add_zero]
  have hk0 : k ≠ 0 := fun h => Rat.lt_irrefl (h ▸ hk)
  by_cases hz : sumQ l = 0
  · rw [hz, Rat.zero_mul] at e2
    rw [hz] at e3
    rcases h1 with ⟨_, a1, a2, a3⟩ | ⟨a, _⟩
    · rcases h2 with ⟨_, b1, b2, b3⟩ | ⟨b, _⟩
      · rcases h3 with ⟨_, c1, c2, c3⟩ | ⟨c, _⟩
        · subst a1; subst a2; subst a3; subst b1; subst b2; subst b3; subst c1; subst c2; subst c3
          exact ⟨rfl, rfl, rfl, rfl, rfl, rfl, .inr ⟨rfl, hz⟩⟩
        · exact absurd e3 c
      · exact absurd e2 b
    · exact absurd hz a
  · have hpos : 0 < sumQ l := Rat.lt_of_le_of_ne (sumQ_nonneg l hn) (Ne.symm hz)
    have z2 : sumQ (l.map (· * k)) ≠ 0 := fun h => Rat.lt_irrefl (show (0 : Rat) < 0 by
      have := Rat.mul_pos hpos hk
      rw [← e2, h] at this
      exact this)
    have z3 : sumQ (l ++ [0]) ≠ 0 := by rw [e3]; exact hz
    rcases h1 with ⟨a, _⟩ | ⟨_, a1, a2⟩
    · exact absurd a hz
    · rcases h2 with ⟨b, _⟩ | ⟨_, b1, b2⟩
      · exact absurd b z2
      · rcases h3 with ⟨c, _⟩ | ⟨_, c1, c2⟩
        · exact absurd c z3
        · have hu := Dice.next_lt s
          obtain ⟨hl, hla⟩ := above_last l _ hu hpos
          have hlen := List.length_pos_iff.2 hl
          obtain ⟨p1, f1⟩ := pick_first a1 ⟨_, by omega, hla⟩
          obtain ⟨p2, f2⟩ := pick_first b1 ⟨l.length - 1, by rw [List.length_map]; omega, (above_scale l _ _ k hk).2 hla⟩
          obtain ⟨p3, f3⟩ := pick_first c1 ⟨l.length - 1, by rw [List.length_append]; omega, (above_snoc l _ _ (by omega)).2 hla⟩
          have q2 := first_same f1 f2 (by rw [List.length_map]; exact Nat.le_refl _) fun j _ => above_scale l _ j k hk
          have q3 := first_same f1 f3 (by rw [List.length_append]; omega) fun j hj => above_snoc l _ j hj
          exact ⟨q2, q3, by rw [p2, p1], by rw [p3, p1], by rw [b2, a2], by rw [c2, a2], .inl ⟨p1, first_pos f1 hn⟩⟩
theorem absQ_nonneg (q : Rat) : 0 ≤ absQ q := by
  rw [← Rat.num_nonneg, (absQ_parts q).1]
  omega
theorem absQ_size {m : Nat} {q : Rat} (h : QS m q) : QS m (absQ q) := by
  obtain ⟨h1, h2⟩ := absQ_parts q
  constructor
  · rw [h1, Int.natAbs_natCast]; exact h.1
  · rw [h2]; exact h.2
theorem sign_nonneg {q : Rat} (h : 0 ≤ q) : 0 ≤ q.num.sign := Int.sign_nonneg_iff.2 (Rat.num_nonneg.2 h)
theorem sign_ne {q : Rat} (h : q ≠ 0) : q.num.sign ≠ 0 := fun e => h (Rat.num_eq_zero.1 (Int.sign_eq_zero_iff_zero.1 e))
/-- behind a pick of weights that are not below 0 -/
theorem pick_ans {b s : Nat} {l : List Rat} {w w' : World} {e : Ending} (h : PickPost b s l w e w') (hn : ∀ x ∈ l, 0 ≤ x) (hd : Blk w b 125 #[.int .u64 (s : Int)]) :
    ∃ (i : Nat) (ok : Bool) (s' : Nat), e = .returned (.tuple #[.int .i64 (i : Int), .bool ok]) ∧ PickAns l s i ok s' ∧ Blk w' b 125 #[.int .u64 (s' : Int)] ∧ Exc b w w' := by
  rcases h with ⟨hbad, rfl, hb⟩ | ⟨_, hs, i, ok, hr, rfl, hon, hbk⟩
  · have hz : sumQ l = 0 := by
      rcases hbad with ⟨x, hx, hx0⟩ | h0
      · have := sign_nonneg (hn x hx)
        omega
      · exact h0
    exact ⟨0, false, s, rfl, .inl ⟨hz, rfl, rfl, rfl⟩, hd.below hb hd.lt, Exc.of hb⟩
  · exact ⟨i, ok, _, rfl, .inr ⟨hs, hr, rfl⟩, hbk, hon.exc⟩
end Go.Proofs.YtjmbpnogicdkgaaGreatDoor
