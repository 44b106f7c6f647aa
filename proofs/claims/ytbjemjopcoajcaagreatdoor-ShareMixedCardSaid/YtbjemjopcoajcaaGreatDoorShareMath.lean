/-
  The plain law of chapter 37: the sum by sets, as the program and as the document have it.
-/
import Derived.Test.YtbjemjopcoajcaaGreatDoorLin
namespace Go.Proofs.YtbjemjopcoajcaaGreatDoor
set_option linter.unusedSimpArgs false
set_option linter.unusedVariables false

def onesF : Nat → Nat → Nat
  | 0, _ => 0
  | f + 1, x => x % 2 + onesF f (x / 2)
/-- how many columns a set has -/
def ones (x : Nat) : Nat := onesF 10 x
def bitOn (k c : Nat) : Bool := k / 2 ^ c % 2 == 1
def facts : List Nat := [1, 1, 2, 6, 24, 120, 720, 5040, 40320, 362880, 3628800]
def fact (n : Nat) : Nat := facts.getD n 1
def wtQ (n k : Nat) : Rat := Rat.divInt ((fact k * fact (n - 1 - k) : Nat) : Int) (fact n : Int)
/-- what column c adds to the sets below k of each size -/
def gainsQ (v : List Rat) (n c : Nat) : Nat → List Rat
  | 0 => List.replicate n 0
  | k + 1 => if bitOn k c then gainsQ v n c k else (gainsQ v n c k).set (ones k) ((gainsQ v n c k).getD (ones k) 0 + (v.getD (k + 2 ^ c) 0 - v.getD k 0))
def accQ (n : Nat) (g : List Rat) : Nat → Rat
  | 0 => 0
  | j + 1 => accQ n g j + wtQ n j * g.getD j 0
def shareQ (v : List Rat) (n c : Nat) : Rat := accQ n (gainsQ v n c (2 ^ n)) n
def sharesQ (v : List Rat) (n : Nat) : List Rat := (List.range n).map (shareQ v n)
theorem gainsQ_len (v : List Rat) (n c : Nat) : ∀ k, (gainsQ v n c k).length = n := by
  intro k
  induction k with
  | zero => simp [gainsQ]
  | succ k ih =>
    unfold gainsQ
    split
    · exact ih
    · rw [List.length_set, ih]
theorem sharesQ_len (v : List Rat) (n : Nat) : (sharesQ v n).length = n := by simp [sharesQ]
theorem sharesQ_at (v : List Rat) {n c : Nat} (h : c < n) : (sharesQ v n)[c]? = some (shareQ v n c) := by
  unfold sharesQ
  rw [List.getElem?_map, List.getElem?_range h]
  rfl
theorem pow10 {n : Nat} (h : n ≤ 10) : 2 ^ n ≤ 1024 := Nat.pow_le_pow_right (n := 2) (by omega) h
set_option maxRecDepth 100000 in
theorem ones_lt0 : ∀ n, n < 11 → ∀ k, k < 2 ^ n → ∀ c, c < n → bitOn k c = false → ones k < n := by decide +kernel
theorem ones_lt {n k c : Nat} (hn : n ≤ 10) (hk : k < 2 ^ n) (hc : c < n) (h : bitOn k c = false) : ones k < n := ones_lt0 n (by omega) k hk c hc h
set_option maxRecDepth 100000 in
theorem with_lt0 : ∀ n, n < 11 → ∀ k, k < 2 ^ n → ∀ c, c < n → bitOn k c = false → k + 2 ^ c < 2 ^ n ∧ k ||| 2 ^ c = k + 2 ^ c := by decide +kernel
theorem with_lt {n k c : Nat} (hn : n ≤ 10) (hk : k < 2 ^ n) (hc : c < n) (h : bitOn k c = false) : k + 2 ^ c < 2 ^ n ∧ k ||| 2 ^ c = k + 2 ^ c := with_lt0 n (by omega) k hk c hc h
theorem accQ_set (n i : Nat) (g : List Rat) (d : Rat) (hi : i < g.length) : ∀ j, accQ n (g.set i (g.getD i 0 + d)) j = accQ n g j + (if i < j then wtQ n i * d else 0) := by
  intro j
  induction j with
  | zero => show (0 : Rat) = 0 + (if i < 0 then _ else 0); rw [if_neg (by omega), Rat.add_zero]
  | succ j ih =>
    show accQ n (g.set i (g.getD i 0 + d)) j + wtQ n j * (g.set i (g.getD i 0 + d)).getD j 0 = (accQ n g j + wtQ n j * g.getD j 0) + _
    rw [ih]
    by_cases h : i = j
    · subst h
      rw [if_neg (Nat.lt_irrefl _), if_pos (by omega), List.getD_eq_getElem?_getD, List.getElem?_set_self hi, Option.getD_some, Rat.mul_add, Rat.add_zero, Rat.add_assoc]
    · rw [List.getD_eq_getElem?_getD, List.getElem?_set_ne h, ← List.getD_eq_getElem?_getD]
      by_cases h2 : i < j
      · rw [if_pos h2, if_pos (by omega), Rat.add_assoc, Rat.add_comm (wtQ n i * d), Rat.add_assoc]
      · rw [if_neg h2, if_neg (by omega), Rat.add_zero, Rat.add_zero]
/-- the sum by sets -/
def setsQ (v : List Rat) (n c : Nat) : Nat → Rat
  | 0 => 0
  | k + 1 => if bitOn k c then setsQ v n c k else setsQ v n c k + wtQ n (ones k) * (v.getD (k + 2 ^ c) 0 - v.getD k 0)
theorem accQ_zero (n m : Nat) : ∀ j, accQ n (List.replicate m 0) j = 0 := by
  intro j
  induction j with
  | zero => rfl
  | succ j ih =>
    show accQ n (List.replicate m 0) j + wtQ n j * (List.replicate m (0 : Rat)).getD j 0 = 0
    have e : (List.replicate m (0 : Rat)).getD j 0 = 0 := by
      rw [List.getD_eq_getElem?_getD, List.getElem?_replicate]
      split <;> rfl
    rw [ih, e, Rat.mul_zero, Rat.add_zero]
theorem sets_gains (v : List Rat) {n c : Nat} (hn : n ≤ 10) (hc : c < n) : ∀ k, k ≤ 2 ^ n → accQ n (gainsQ v n c k) n = setsQ v n c k := by
  intro k
  induction k with
  | zero => intro _; exact accQ_zero n n n
  | succ k ih =>
    intro hk
    unfold gainsQ setsQ
    cases h : bitOn k c with
    | true =>
      rw [if_pos rfl, if_pos rfl]
      exact ih (by omega)
    | false =>
      rw [if_neg (by simp), if_neg (by simp), accQ_set n _ _ _ (by rw [gainsQ_len]; exact ones_lt hn (by omega) hc h), if_pos (ones_lt hn (by omega) hc h), ih (by omega)]
theorem shareQ_sets (v : List Rat) {n c : Nat} (hn : n ≤ 10) (hc : c < n) : shareQ v n c = setsQ v n c (2 ^ n) := sets_gains v hn hc _ (Nat.le_refl _)
/-! ### linear forms -/
def subF (a b : List Rat) : List Rat := addF a (scaleF (-1) b)
theorem addF_len {a b : List Rat} {m : Nat} (ha : a.length = m) (hb : b.length = m) : (addF a b).length = m := by
  unfold addF
  rw [List.length_zipWith, ha, hb, Nat.min_self]
theorem scaleF_len (k : Rat) {a : List Rat} {m : Nat} (ha : a.length = m) : (scaleF k a).length = m := by
  unfold scaleF
  rw [List.length_map, ha]
theorem unitF_len (n i : Nat) : (unitF n i).length = n := by simp [unitF, zeroF]
theorem dot_sub {a b : List Rat} (v : List Rat) (h : a.length = b.length) : dotQ (subF a b) v = dotQ a v - dotQ b v := by
  unfold subF
  rw [dot_add _ _ _ (by rw [scaleF_len (m := a.length) _ h.symm]), dot_scale, Rat.sub_eq_add_neg, Rat.neg_mul, Rat.one_mul]
theorem dot_unit' {n i : Nat} {v : List Rat} (hv : v.length = n) (hi : i < n) : dotQ (unitF n i) v = v.getD i 0 := by
  rw [dot_unit n i v (v.getD i 0) hi]
  rw [List.getD_eq_getElem?_getD]
  cases h : v[i]? with
  | none => rw [List.getElem?_eq_none_iff] at h; omega
  | some x => rfl
/-- the form of the sum by sets; u k: the form of the worth of the set k -/
def setsF (u : Nat → List Rat) (m n c : Nat) : Nat → List Rat
  | 0 => zeroF m
  | k + 1 => if bitOn k c then setsF u m n c k else addF (setsF u m n c k) (scaleF (wtQ n (ones k)) (subF (u (k + 2 ^ c)) (u k)))
theorem setsF_dot (u : Nat → List Rat) (m : Nat) (v t : List Rat) {n c : Nat} (hn : n ≤ 10) (hc : c < n) (hu : ∀ k, k < 2 ^ n → (u k).length = m ∧ dotQ (u k) v = t.getD k 0) :
    ∀ k, k ≤ 2 ^ n → (setsF u m n c k).length = m ∧ dotQ (setsF u m n c k) v = setsQ t n c k := by
  intro k
  induction k with
  | zero => intro _; exact ⟨by simp [setsF, zeroF], dot_zero m v⟩
  | succ k ih =>
    intro hk
    obtain ⟨h1, h2⟩ := ih (by omega)
    unfold setsF setsQ
    cases h : bitOn k c with
    | true =>
      rw [if_pos rfl, if_pos rfl]
      exact ⟨h1, h2⟩
    | false =>
      obtain ⟨u1, u2⟩ := hu k (by omega)
      obtain ⟨u3, u4⟩ := hu (k + 2 ^ c) (with_lt hn (by omega) hc h).1
      have hs : (subF (u (k + 2 ^ c)) (u k)).length = m := addF_len u3 (scaleF_len _ u1)
      rw [if_neg (by simp), if_neg (by simp)]
      refine ⟨addF_len h1 (scaleF_len _ hs), ?_⟩
      rw [dot_add _ _ _ (by rw [h1, scaleF_len _ hs]), dot_scale, dot_sub _ (by rw [u3, u1]), h2, u2, u4]
/-! ### the laws -/
/-- shares are additive over tables -/
theorem setsQ_add (x y z : List Rat) {n c : Nat} (hn : n ≤ 10) (hc : c < n) (h : ∀ k, k < 2 ^ n → z.getD k 0 = x.getD k 0 + y.getD k 0) : ∀ k, k ≤ 2 ^ n → setsQ z n c k = setsQ x n c k + setsQ y n c k := by
  intro k
  induction k with
  | zero => intro _; show (0 : Rat) = 0 + 0; rw [Rat.add_zero]
  | succ k ih =>
    intro hk
    have h1 := ih (by omega)
    unfold setsQ
    cases hb : bitOn k c with
    | true => rw [if_pos rfl, if_pos rfl, if_pos rfl]; exact h1
    | false =>
      rw [if_neg (by simp), if_neg (by simp), if_neg (by simp), h1, h k (by omega), h _ (with_lt hn (by omega) hc hb).1]
      generalize setsQ x n c k = a
      generalize setsQ y n c k = b
      generalize x.getD k 0 = x0
      generalize y.getD k 0 = y0
      generalize x.getD (k + 2 ^ c) 0 = x1
      generalize y.getD (k + 2 ^ c) 0 = y1
      generalize wtQ n (ones k) = w
      have e : (x1 + y1) - (x0 + y0) = (x1 - x0) + (y1 - y0) := by
        rw [Rat.sub_eq_add_neg, Rat.sub_eq_add_neg, Rat.sub_eq_add_neg, Rat.neg_add]
        rw [Rat.add_assoc, Rat.add_assoc, ← Rat.add_assoc y1, Rat.add_comm y1 (-x0), Rat.add_assoc]
      rw [e, Rat.mul_add, Rat.add_assoc, Rat.add_assoc, ← Rat.add_assoc b, Rat.add_comm b, Rat.add_assoc]
/-- a column that adds nothing has the share 0 -/
theorem setsQ_dumb (y : List Rat) {n c : Nat} (hn : n ≤ 10) (hc : c < n) (h : ∀ k, k < 2 ^ n → bitOn k c = false → y.getD (k + 2 ^ c) 0 = y.getD k 0) : ∀ k, k ≤ 2 ^ n → setsQ y n c k = 0 := by
  intro k
  induction k with
  | zero => intro _; rfl
  | succ k ih =>
    intro hk
    have h1 := ih (by omega)
    unfold setsQ
    cases hb : bitOn k c with
    | true => rw [if_pos rfl]; exact h1
    | false => rw [if_neg (by simp), h1, h k (by omega) hb, Rat.sub_self, Rat.mul_zero, Rat.add_zero]
/-- the weights of the sets below k without the column c, times the factorial of n -/
def setsN (n c : Nat) : Nat → Nat
  | 0 => 0
  | k + 1 => if bitOn k c then setsN n c k else setsN n c k + fact (ones k) * fact (n - 1 - ones k)
theorem fact_pos : ∀ n, n < 11 → fact n ≠ 0 := by decide
theorem wtQ_mul (n k : Nat) (hn : n ≤ 10) : wtQ n k * ((fact n : Int) : Rat) = ((fact k * fact (n - 1 - k) : Nat) : Int) := by
  have h0 := fact_pos n (by omega)
  have h1 : ((fact n : Int) : Rat) ≠ 0 := by
    intro e
    exact h0 (by exact_mod_cast Rat.intCast_inj.1 (e.trans rfl))
  unfold wtQ
  rw [Rat.divInt_eq_div]
  exact Rat.div_mul_cancel h1
/-- of a sum of single worths -/
theorem setsQ_single (v : List Rat) (w : Rat) {n c : Nat} (hn : n ≤ 10) (hc : c < n) (h : ∀ k, k < 2 ^ n → bitOn k c = false → v.getD (k + 2 ^ c) 0 - v.getD k 0 = w) :
    ∀ k, k ≤ 2 ^ n → setsQ v n c k * ((fact n : Int) : Rat) = ((setsN n c k : Nat) : Int) * w := by
  intro k
  induction k with
  | zero => intro _; show (0 : Rat) * _ = ((0 : Int) : Rat) * w; rw [Rat.zero_mul]; exact (Rat.zero_mul w).symm
  | succ k ih =>
    intro hk
    have h1 := ih (by omega)
    unfold setsQ setsN
    cases hb : bitOn k c with
    | true => rw [if_pos rfl, if_pos rfl]; exact h1
    | false =>
      rw [if_neg (by simp), if_neg (by simp), Rat.add_mul, h1, h k (by omega) hb, Rat.mul_assoc, Rat.mul_comm w, ← Rat.mul_assoc, wtQ_mul _ _ hn, ← Rat.add_mul, ← Rat.intCast_add, Int.natCast_add]
set_option maxRecDepth 100000 in
theorem setsN_all : ∀ n, n < 11 → ∀ c, c < n → setsN n c (2 ^ n) = fact n := by decide +kernel
theorem shareQ_single (v : List Rat) (w : Rat) {n c : Nat} (hn : n ≤ 10) (hc : c < n) (h : ∀ k, k < 2 ^ n → bitOn k c = false → v.getD (k + 2 ^ c) 0 - v.getD k 0 = w) : shareQ v n c = w := by
  have h0 := fact_pos n (by omega)
  have h1 : ((fact n : Int) : Rat) ≠ 0 := by
    intro e
    exact h0 (by exact_mod_cast Rat.intCast_inj.1 (e.trans rfl))
  have h2 := setsQ_single v w hn hc h (2 ^ n) (Nat.le_refl _)
  rw [setsN_all n (by omega) c hc, Rat.mul_comm _ w] at h2
  rw [shareQ_sets v hn hc]
  have h3 : setsQ v n c (2 ^ n) * ((fact n : Int) : Rat) * ((fact n : Int) : Rat)⁻¹ = w * ((fact n : Int) : Rat) * ((fact n : Int) : Rat)⁻¹ := by rw [h2]
  rwa [Rat.mul_assoc, Rat.mul_assoc, Rat.mul_inv_cancel _ h1, Rat.mul_one, Rat.mul_one] at h3
end Go.Proofs.YtbjemjopcoajcaaGreatDoor
