/-
  Linear forms over a table of fractions: two of them are equal where their coefficients are.
  The plain law of chapter 37: the sum by sets, as the program and as the document have it.
  Chapter 37 for at most four columns: linear forms, compared one by one.
-/
import Derived.Test.YtbjemjopcoajcaaGreatDoorMathA
/-! Linear forms over a table of fractions: two of them are equal where their coefficients are. -/
namespace Go.Proofs.YtbjemjopcoajcaaGreatDoor
set_option linter.unusedSimpArgs false
set_option linter.unusedVariables false

/-- the form with the coefficients c, at the table v -/
def dotQ : List Rat → List Rat → Rat
  | c :: cs, x :: xs => c * x + dotQ cs xs
  | _, _ => 0
def addF (a b : List Rat) : List Rat := List.zipWith (· + ·) a b
def scaleF (k : Rat) (a : List Rat) : List Rat := a.map (k * ·)
def zeroF (n : Nat) : List Rat := List.replicate n 0
def unitF (n i : Nat) : List Rat := (zeroF n).set i 1
theorem dotQ_nil (a : List Rat) : dotQ a [] = 0 := by cases a <;> rfl
theorem dot_zero (n : Nat) : ∀ v : List Rat, dotQ (zeroF n) v = 0 := by
  induction n with
  | zero => intro v; rfl
  | succ n ih =>
    intro v
    cases v with
    | nil => rfl
    | cons x v =>
      show 0 * x + dotQ (zeroF n) v = 0
      rw [ih, Rat.zero_mul, Rat.add_zero]
theorem dot_add (a : List Rat) : ∀ b v : List Rat, a.length = b.length → dotQ (addF a b) v = dotQ a v + dotQ b v := by
  induction a with
  | nil =>
    intro b v h
    obtain rfl : b = [] := List.eq_nil_of_length_eq_zero h.symm
    show (0 : Rat) = 0 + 0
    rw [Rat.add_zero]
  | cons x a ih =>
    intro b v h
    cases b with
    | nil => simp at h
    | cons y b =>
      cases v with
      | nil => show (0 : Rat) = 0 + 0; rw [Rat.add_zero]
      | cons z v =>
        show (x + y) * z + dotQ (addF a b) v = (x * z + dotQ a v) + (y * z + dotQ b v)
        rw [ih b v (by simpa using h), Rat.add_mul]
        rw [Rat.add_assoc, Rat.add_assoc, ← Rat.add_assoc (y * z), Rat.add_comm (y * z) (dotQ a v), Rat.add_assoc]
theorem dot_scale (k : Rat) (a : List Rat) : ∀ v : List Rat, dotQ (scaleF k a) v = k * dotQ a v := by
  induction a with
  | nil => intro v; show (0 : Rat) = k * 0; rw [Rat.mul_zero]
  | cons x a ih =>
    intro v
    cases v with
    | nil => show (0 : Rat) = k * 0; rw [Rat.mul_zero]
    | cons z v =>
      show (k * x) * z + dotQ (scaleF k a) v = k * (x * z + dotQ a v)
      rw [ih, Rat.mul_add, Rat.mul_assoc]
theorem dot_unit (n : Nat) : ∀ (i : Nat) (v : List Rat) (x : Rat), i < n → v[i]? = some x → dotQ (unitF n i) v = x := by
  induction n with
  | zero => intro i v x hi; omega
  | succ n ih =>
    intro i v x hi hv
    cases v with
    | nil => simp at hv
    | cons y v =>
      cases i with
      | zero =>
        simp at hv
        subst hv
        show 1 * y + dotQ (zeroF n) v = y
        rw [dot_zero, Rat.one_mul, Rat.add_zero]
      | succ i =>
        have h := ih i v x (by omega) (by simpa using hv)
        show 0 * y + dotQ (unitF n i) v = x
        rw [h, Rat.zero_mul, Rat.zero_add]
end Go.Proofs.YtbjemjopcoajcaaGreatDoor

/-! The plain law of chapter 37: the sum by sets, as the program and as the document have it. -/
namespace Go.Proofs.YtbjemjopcoajcaaGreatDoor
set_option linter.unusedSimpArgs false
set_option linter.unusedVariables false

def onesF : Nat → Nat → Nat
  | 0, _ => 0
  | f + 1, x => x % 2 + onesF f (x / 2)
/-- how many columns a set has -/
def ones (x : Nat) : Nat := onesF 10 x
def bitOn (k c : Nat) : Bool := k / 2 ^ c % 2 == 1
def facts : List Nat := [1, 1, 2, 6, 24, 120, 720, 5040, 40320, 362880, 3628800]
def fact (n : Nat) : Nat := facts.getD n 1
def wtQ (n k : Nat) : Rat := Rat.divInt ((fact k * fact (n - 1 - k) : Nat) : Int) (fact n : Int)
/-- what column c adds to the sets below k of each size -/
def gainsQ (v : List Rat) (n c : Nat) : Nat → List Rat
  | 0 => List.replicate n 0
  | k + 1 => if bitOn k c then gainsQ v n c k else (gainsQ v n c k).set (ones k) ((gainsQ v n c k).getD (ones k) 0 + (v.getD (k + 2 ^ c) 0 - v.getD k 0))
def accQ (n : Nat) (g : List Rat) : Nat → Rat
  | 0 => 0
  | j + 1 => accQ n g j + wtQ n j * g.getD j 0
def shareQ (v : List Rat) (n c : Nat) : Rat := accQ n (gainsQ v n c (2 ^ n)) n
def sharesQ (v : List Rat) (n : Nat) : List Rat := (List.range n).map (shareQ v n)
theorem gainsQ_len (v : List Rat) (n c : Nat) : ∀ k, (gainsQ v n c k).length = n := by
  intro k
  induction k with
  | zero => simp [gainsQ]
  | succ k ih =>
    unfold gainsQ
    split
    · exact ih
    · rw [List.length_set, ih]
theorem sharesQ_len (v : List Rat) (n : Nat) : (sharesQ v n).length = n := by simp [sharesQ]
theorem sharesQ_at (v : List Rat) {n c : Nat} (h : c < n) : (sharesQ v n)[c]? = some (shareQ v n c) := by
  unfold sharesQ
  rw [List.getElem?_map, List.getElem?_range h]
  rfl
theorem pow10 {n : Nat} (h : n ≤ 10) : 2 ^ n ≤ 1024 := Nat.pow_le_pow_right (n := 2) (by omega) h
set_option maxRecDepth 100000 in
theorem ones_lt0 : ∀ n, n < 11 → ∀ k, k < 2 ^ n → ∀ c, c < n → bitOn k c = false → ones k < n := by decide +kernel
theorem ones_lt {n k c : Nat} (hn : n ≤ 10) (hk : k < 2 ^ n) (hc : c < n) (h : bitOn k c = false) : ones k < n := ones_lt0 n (by omega) k hk c hc h
set_option maxRecDepth 100000 in
theorem with_lt0 : ∀ n, n < 11 → ∀ k, k < 2 ^ n → ∀ c, c < n → bitOn k c = false → k + 2 ^ c < 2 ^ n ∧ k ||| 2 ^ c = k + 2 ^ c := by decide +kernel
theorem with_lt {n k c : Nat} (hn : n ≤ 10) (hk : k < 2 ^ n) (hc : c < n) (h : bitOn k c = false) : k + 2 ^ c < 2 ^ n ∧ k ||| 2 ^ c = k + 2 ^ c := with_lt0 n (by omega) k hk c hc h
theorem accQ_set (n i : Nat) (g : List Rat) (d : Rat) (hi : i < g.length) : ∀ j, accQ n (g.set i (g.getD i 0 + d)) j = accQ n g j + (if i < j then wtQ n i * d else 0) := by
  intro j
  induction j with
  | zero => show (0 : Rat) = 0 + (if i < 0 then _ else 0); rw [if_neg (by omega), Rat.add_zero]
  | succ j ih =>
    show accQ n (g.set i (g.getD i 0 + d)) j + wtQ n j * (g.set i (g.getD i 0 + d)).getD j 0 = (accQ n g j + wtQ n j * g.getD j 0) + _
    rw [ih]
    by_cases h : i = j
    · subst h
      rw [if_neg (Nat.lt_irrefl _), if_pos (by omega), List.getD_eq_getElem?_getD, List.getElem?_set_self hi, Option.getD_some, Rat.mul_add, Rat.add_zero, Rat.add_assoc]
    · rw [List.getD_eq_getElem?_getD, List.getElem?_set_ne h, ← List.getD_eq_getElem?_getD]
      by_cases h2 : i < j
      · rw [if_pos h2, if_pos (by omega), Rat.add_assoc, Rat.add_comm (wtQ n i * d), Rat.add_assoc]
      · rw [if_neg h2, if_neg (by omega), Rat.add_zero, Rat.add_zero]
/-- the sum by sets -/
def setsQ (v : List Rat) (n c : Nat) : Nat → Rat
  | 0 => 0
  | k + 1 => if bitOn k c then setsQ v n c k else setsQ v n c k + wtQ n (ones k) * (v.getD (k + 2 ^ c) 0 - v.getD k 0)
theorem accQ_zero (n m : Nat) : ∀ j, accQ n (List.replicate m 0) j = 0 := by
  intro j
  induction j with
  | zero => rfl
  | succ j ih =>
    show accQ n (List.replicate m 0) j + wtQ n j * (List.replicate m (0 : Rat)).getD j 0 = 0
    have e : (List.replicate m (0 : Rat)).getD j 0 = 0 := by
      rw [List.getD_eq_getElem?_getD, List.getElem?_replicate]
      split <;> rfl
    rw [ih, e, Rat.mul_zero, Rat.add_zero]
theorem sets_gains (v : List Rat) {n c : Nat} (hn : n ≤ 10) (hc : c < n) : ∀ k, k ≤ 2 ^ n → accQ n (gainsQ v n c k) n = setsQ v n c k := by
  intro k
  induction k with
  | zero => intro _; exact accQ_zero n n n
  | succ k ih =>
    intro hk
    unfold gainsQ setsQ
    cases h : bitOn k c with
    | true =>
      rw [if_pos rfl, if_pos rfl]
      exact ih (by omega)
    | false =>
      rw [if_neg (by simp), if_neg (by simp), accQ_set n _ _ _ (by rw [gainsQ_len]; exact ones_lt hn (by omega) hc h), if_pos (ones_lt hn (by omega) hc h), ih (by omega)]
theorem shareQ_sets (v : List Rat) {n c : Nat} (hn : n ≤ 10) (hc : c < n) : shareQ v n c = setsQ v n c (2 ^ n) := sets_gains v hn hc _ (Nat.le_refl _)
/-! ### linear forms -/
def subF (a b : List Rat) : List Rat := addF a (scaleF (-1) b)
theorem addF_len {a b : List Rat} {m : Nat} (ha : a.length = m) (hb : b.length = m) : (addF a b).length = m := by
  unfold addF
  rw [List.length_zipWith, ha, hb, Nat.min_self]
theorem scaleF_len (k : Rat) {a : List Rat} {m : Nat} (ha : a.length = m) : (scaleF k a).length = m := by
  unfold scaleF
  rw [List.length_map, ha]
theorem unitF_len (n i : Nat) : (unitF n i).length = n := by simp [unitF, zeroF]
theorem dot_sub {a b : List Rat} (v : List Rat) (h : a.length = b.length) : dotQ (subF a b) v = dotQ a v - dotQ b v := by
  unfold subF
  rw [dot_add _ _ _ (by rw [scaleF_len (m := a.length) _ h.symm]), dot_scale, Rat.sub_eq_add_neg, Rat.neg_mul, Rat.one_mul]
theorem dot_unit' {n i : Nat} {v : List Rat} (hv : v.length = n) (hi : i < n) : dotQ (unitF n i) v = v.getD i 0 := by
  rw [dot_unit n i v (v.getD i 0) hi]
  rw [List.getD_eq_getElem?_getD]
  cases h : v[i]? with
  | none => rw [List.getElem?_eq_none_iff] at h; omega
  | some x => rfl
/-- the form of the sum by sets; u k: the form of the worth of the set k -/
def setsF (u : Nat → List Rat) (m n c : Nat) : Nat → List Rat
  | 0 => zeroF m
  | k + 1 => if bitOn k c then setsF u m n c k else addF (setsF u m n c k) (scaleF (wtQ n (ones k)) (subF (u (k + 2 ^ c)) (u k)))
theorem setsF_dot (u : Nat → List Rat) (m : Nat) (v t : List Rat) {n c : Nat} (hn : n ≤ 10) (hc : c < n) (hu : ∀ k, k < 2 ^ n → (u k).length = m ∧ dotQ (u k) v = t.getD k 0) :
    ∀ k, k ≤ 2 ^ n → (setsF u m n c k).length = m ∧ dotQ (setsF u m n c k) v = setsQ t n c k := by
  intro k
  induction k with
  | zero => intro _; exact ⟨by simp [setsF, zeroF], dot_zero m v⟩
  | succ k ih =>
    intro hk
    obtain ⟨h1, h2⟩ := ih (by omega)
    unfold setsF setsQ
    cases h : bitOn k c with
    | true =>
      rw [if_pos rfl, if_pos rfl]
      exact ⟨h1, h2⟩
    | false =>
      obtain ⟨u1, u2⟩ := hu k (by omega)
      obtain ⟨u3, u4⟩ := hu (k + 2 ^ c) (with_lt hn (by omega) hc h).1
      have hs : (subF (u (k + 2 ^ c)) (u k)).length = m := addF_len u3 (scaleF_len _ u1)
      rw [if_neg (by simp), if_neg (by simp)]
      refine ⟨addF_len h1 (scaleF_len _ hs), ?_⟩
      rw [dot_add _ _ _ (by rw [h1, scaleF_len _ hs]), dot_scale, dot_sub _ (by rw [u3, u1]), h2, u2, u4]
/-! ### the laws -/
/-- shares are additive over tables -/
theorem setsQ_add (x y z : List Rat) {n c : Nat} (hn : n ≤ 10) (hc : c < n) (h : ∀ k, k < 2 ^ n → z.getD k 0 = x.getD k 0 + y.getD k 0) : ∀ k, k ≤ 2 ^ n → setsQ z n c k = setsQ x n c k + setsQ y n c k := by
  intro k
  induction k with
  | zero => intro _; show (0 : Rat) = 0 + 0; rw [Rat.add_zero]
  | succ k ih =>
    intro hk
    have h1 := ih (by omega)
    unfold setsQ
    cases hb : bitOn k c with
    | true => rw [if_pos rfl, if_pos rfl, if_pos rfl]; exact h1
    | false =>
      rw [if_neg (by simp), if_neg (by simp), if_neg (by simp), h1, h k (by omega), h _ (with_lt hn (by omega) hc hb).1]
      generalize setsQ x n c k = a
      generalize setsQ y n c k = b
      generalize x.getD k 0 = x0
      generalize y.getD k 0 = y0
      generalize x.getD (k + 2 ^ c) 0 = x1
      generalize y.getD (k + 2 ^ c) 0 = y1
      generalize wtQ n (ones k) = w
      have e : (x1 + y1) - (x0 + y0) = (x1 - x0) + (y1 - y0) := by
        rw [Rat.sub_eq_add_neg, Rat.sub_eq_add_neg, Rat.sub_eq_add_neg, Rat.neg_add]
        rw [Rat.add_assoc, Rat.add_assoc, ← Rat.add_assoc y1, Rat.add_comm y1 (-x0), Rat.add_assoc]
      rw [e, Rat.mul_add, Rat.add_assoc, Rat.add_assoc, ← Rat.add_assoc b, Rat.add_comm b, Rat.add_assoc]
/-- a column that adds nothing has the share 0 -/
theorem setsQ_dumb (y : List Rat) {n c : Nat} (hn : n ≤ 10) (hc : c < n) (h : ∀ k, k < 2 ^ n → bitOn k c = false → y.getD (k + 2 ^ c) 0 = y.getD k 0) : ∀ k, k ≤ 2 ^ n → setsQ y n c k = 0 := by
  intro k
  induction k with
  | zero => intro _; rfl
  | succ k ih =>
    intro hk
    have h1 := ih (by omega)
    unfold setsQ
    cases hb : bitOn k c with
    | true => rw [if_pos rfl]; exact h1
    | false => rw [if_neg (by simp), h1, h k (by omega) hb, Rat.sub_self, Rat.mul_zero, Rat.add_zero]
/-- the weights of the sets below k without the column c, times the factorial of n -/
def setsN (n c : Nat) : Nat → Nat
  | 0 => 0
  | k + 1 => if bitOn k c then setsN n c k else setsN n c k + fact (ones k) * fact (n - 1 - ones k)
theorem fact_pos : ∀ n, n < 11 → fact n ≠ 0 := by decide
theorem wtQ_mul (n k : Nat) (hn : n ≤ 10) : wtQ n k * ((fact n : Int) : Rat) = ((fact k * fact (n - 1 - k) : Nat) : Int) := by
  have h0 := fact_pos n (by omega)
  have h1 : ((fact n : Int) : Rat) ≠ 0 := by
    intro e
    exact h0 (by exact_mod_cast Rat.intCast_inj.1 (e.trans rfl))
  unfold wtQ
  rw [Rat.divInt_eq_div]
  exact Rat.div_mul_cancel h1
/-- of a sum of single worths -/
theorem setsQ_single (v : List Rat) (w : Rat) {n c : Nat} (hn : n ≤ 10) (hc : c < n) (h : ∀ k, k < 2 ^ n → bitOn k c = false → v.getD (k + 2 ^ c) 0 - v.getD k 0 = w) :
    ∀ k, k ≤ 2 ^ n → setsQ v n c k * ((fact n : Int) : Rat) = ((setsN n c k : Nat) : Int) * w := by
  intro k
  induction k with
  | zero => intro _; show (0 : Rat) * _ = ((0 : Int) : Rat) * w; rw [Rat.zero_mul]; exact (Rat.zero_mul w).symm
  | succ k ih =>
    intro hk
    have h1 := ih (by omega)
    unfold setsQ setsN
    cases hb : bitOn k c with
    | true => rw [if_pos rfl, if_pos rfl]; exact h1
    | false =>
      rw [if_neg (by simp), if_neg (by simp), Rat.add_mul, h1, h k (by omega) hb, Rat.mul_assoc, Rat.mul_comm w, ← Rat.mul_assoc, wtQ_mul _ _ hn, ← Rat.add_mul, ← Rat.intCast_add, Int.natCast_add]
set_option maxRecDepth 100000 in
theorem setsN_all : ∀ n, n < 11 → ∀ c, c < n → setsN n c (2 ^ n) = fact n := by decide +kernel
theorem shareQ_single (v : List Rat) (w : Rat) {n c : Nat} (hn : n ≤ 10) (hc : c < n) (h : ∀ k, k < 2 ^ n → bitOn k c = false → v.getD (k + 2 ^ c) 0 - v.getD k 0 = w) : shareQ v n c = w := by
  have h0 := fact_pos n (by omega)
  have h1 : ((fact n : Int) : Rat) ≠ 0 := by
    intro e
    exact h0 (by exact_mod_cast Rat.intCast_inj.1 (e.trans rfl))
  have h2 := setsQ_single v w hn hc h (2 ^ n) (Nat.le_refl _)
  rw [setsN_all n (by omega) c hc, Rat.mul_comm _ w] at h2
  rw [shareQ_sets v hn hc]
  have h3 : setsQ v n c (2 ^ n) * ((fact n : Int) : Rat) * ((fact n : Int) : Rat)⁻¹ = w * ((fact n : Int) : Rat) * ((fact n : Int) : Rat)⁻¹ := by rw [h2]
  rwa [Rat.mul_assoc, Rat.mul_assoc, Rat.mul_inv_cancel _ h1, Rat.mul_one, Rat.mul_one] at h3
end Go.Proofs.YtbjemjopcoajcaaGreatDoor

/-! Chapter 37 for at most four columns: linear forms, compared one by one. -/
namespace Go.Proofs.YtbjemjopcoajcaaGreatDoor
set_option linter.unusedSimpArgs false
set_option linter.unusedVariables false

/-! ### what each adds, as they come -/
def turnsGo (v : List Rat) : List Nat → Nat → List Rat → List Rat
  | [], _, l => l
  | c :: o, s, l => turnsGo v o (s ||| 2 ^ c) (l.set c (v.getD (s ||| 2 ^ c) 0 - v.getD s 0))
def turnQ (v : List Rat) : List Nat → Nat → Nat → Rat
  | [], _, _ => 0
  | x :: o, s, c => if x = c then v.getD (s ||| 2 ^ x) 0 - v.getD s 0 else turnQ v o (s ||| 2 ^ x) c
theorem turnsGo_len (v : List Rat) (o : List Nat) : ∀ s l, (turnsGo v o s l).length = l.length := by
  induction o with
  | nil => intro s l; rfl
  | cons c o ih => intro s l; unfold turnsGo; rw [ih, List.length_set]
theorem turnsGo_at (v : List Rat) (o : List Nat) (hn : o.Nodup) : ∀ s l c, c < l.length → (turnsGo v o s l)[c]? = if c ∈ o then some (turnQ v o s c) else l[c]? := by
  induction o with
  | nil => intro s l c _; simp [turnsGo]
  | cons x o ih =>
    intro s l c hc
    obtain ⟨h1, h2⟩ := List.nodup_cons.1 hn
    unfold turnsGo turnQ
    rw [ih h2 _ _ _ (by rw [List.length_set]; exact hc)]
    by_cases h : x = c
    · subst h
      rw [if_neg h1, if_pos (by simp), if_pos rfl, List.getElem?_set_self hc]
    · rw [List.getElem?_set_ne h, if_neg h]
      by_cases h3 : c ∈ o
      · rw [if_pos h3, if_pos (by simp [h3])]
      · rw [if_neg h3, if_neg (by simp [h3]; exact fun e => h e.symm)]
def insertAt (o : List Nat) (k n : Nat) : List Nat := o.take k ++ n :: o.drop k
/-- all orders of n columns -/
def ordersL : Nat → List (List Nat)
  | 0 => [[]]
  | n + 1 => (ordersL n).flatMap fun o => (List.range (n + 1)).map fun k => insertAt o k n
theorem orders_insert {n k : Nat} {o : List Nat} (ho : o ∈ ordersL n) (hk : k ≤ n) : insertAt o k n ∈ ordersL (n + 1) :=
  List.mem_flatMap.2 ⟨o, ho, List.mem_map.2 ⟨k, List.mem_range.2 (by omega), rfl⟩⟩
theorem orders_fine : ∀ n, n < 5 → ∀ o ∈ ordersL n, o.length = n ∧ o.Nodup ∧ (∀ c ∈ o, c < n) ∧ ∀ c, c < n → c ∈ o := by decide +kernel
/-- all lists of m numbers below n -/
def listsL (n : Nat) : Nat → List (List Nat)
  | 0 => [[]]
  | m + 1 => (listsL n m).flatMap fun o => (List.range n).map fun k => k :: o
theorem mem_listsL (n : Nat) (o : List Nat) (h : ∀ c ∈ o, c < n) : o ∈ listsL n o.length := by
  induction o with
  | nil => exact List.mem_singleton.2 rfl
  | cons c o ih =>
    exact List.mem_flatMap.2 ⟨o, ih (fun x hx => h x (by simp [hx])), List.mem_map.2 ⟨c, List.mem_range.2 (h c (by simp)), rfl⟩⟩
theorem lists_all : ∀ n, n < 5 → ∀ o ∈ listsL n n, o.Nodup → ∀ c, c < n → c ∈ o := by decide +kernel
theorem all_in {n : Nat} (hn : n ≤ 4) {o : List Nat} (hl : o.length = n) (h : ∀ c ∈ o, c < n) (hd : o.Nodup) {c : Nat} (hc : c < n) : c ∈ o := by
  have := mem_listsL n o h
  rw [hl] at this
  exact lists_all n (by omega) o this hd c hc
theorem or_lt {s c n : Nat} (hs : s < 2 ^ n) (hc : c < n) : s ||| 2 ^ c < 2 ^ n := Nat.or_lt_two_pow hs (Nat.pow_lt_pow_right (by omega) hc)
/-! ### forms -/
def tabF (n k : Nat) : List Rat := unitF (2 ^ n) k
def turnF (n : Nat) : List Nat → Nat → Nat → List Rat
  | [], _, _ => zeroF (2 ^ n)
  | x :: o, s, c => if x = c then subF (tabF n (s ||| 2 ^ x)) (tabF n s) else turnF n o (s ||| 2 ^ x) c
theorem tabF_dot {n k : Nat} {v : List Rat} (hv : v.length = 2 ^ n) (hk : k < 2 ^ n) : (tabF n k).length = 2 ^ n ∧ dotQ (tabF n k) v = v.getD k 0 := ⟨unitF_len _ _, dot_unit' hv hk⟩
theorem turnF_dot {n : Nat} {v : List Rat} (hv : v.length = 2 ^ n) (o : List Nat) (ho : ∀ c ∈ o, c < n) : ∀ s c, s < 2 ^ n → (turnF n o s c).length = 2 ^ n ∧ dotQ (turnF n o s c) v = turnQ v o s c := by
  induction o with
  | nil => intro s c _; exact ⟨by simp [turnF, zeroF], dot_zero _ _⟩
  | cons x o ih =>
    intro s c hs
    have hx := or_lt hs (ho x (by simp))
    unfold turnF turnQ
    by_cases h : x = c
    · rw [if_pos h, if_pos h]
      obtain ⟨u1, u2⟩ := tabF_dot hv hx
      obtain ⟨u3, u4⟩ := tabF_dot hv hs
      exact ⟨addF_len u1 (scaleF_len _ u3), by rw [dot_sub _ (by rw [u1, u3]), u2, u4]⟩
    · rw [if_neg h, if_neg h]
      exact ih (fun c hc => ho c (by simp [hc])) _ _ hx
/-- a sum of forms -/
def foldF (m : Nat) (l : List (List Rat)) : List Rat := l.foldl addF (zeroF m)
theorem foldF_dot {m : Nat} (v : List Rat) (l : List (List Rat)) (hl : ∀ f ∈ l, f.length = m) : (foldF m l).length = m ∧ dotQ (foldF m l) v = (l.map fun f => dotQ f v).foldl (· + ·) 0 := by
  have h : ∀ (l : List (List Rat)) (a : List Rat), (∀ f ∈ l, f.length = m) → a.length = m → (l.foldl addF a).length = m ∧ dotQ (l.foldl addF a) v = (l.map fun f => dotQ f v).foldl (· + ·) (dotQ a v) := by
    intro l
    induction l with
    | nil => intro a _ ha; exact ⟨ha, rfl⟩
    | cons f l ih =>
      intro a h1 ha
      have hf := h1 f (by simp)
      obtain ⟨i1, i2⟩ := ih (addF a f) (fun g hg => h1 g (by simp [hg])) (addF_len ha hf)
      refine ⟨i1, ?_⟩
      show dotQ (l.foldl addF (addF a f)) v = (l.map fun f => dotQ f v).foldl (· + ·) (dotQ a v + dotQ f v)
      rw [i2, dot_add _ _ _ (by rw [ha, hf])]
  have := h l (zeroF m) hl (by simp [zeroF])
  rw [dot_zero] at this
  exact this
def shareF (n c : Nat) : List Rat := setsF (tabF n) (2 ^ n) n c (2 ^ n)
theorem shareF_dot {n c : Nat} {v : List Rat} (hv : v.length = 2 ^ n) (hn : n ≤ 10) (hc : c < n) : (shareF n c).length = 2 ^ n ∧ dotQ (shareF n c) v = shareQ v n c := by
  rw [shareQ_sets v hn hc]
  exact setsF_dot (tabF n) (2 ^ n) v v hn hc (fun k hk => tabF_dot hv hk) _ (Nat.le_refl _)
/-- the mean over all orders -/
def meanQ (v : List Rat) (n c : Nat) : Rat := ((ordersL n).map fun o => turnQ v o 0 c).foldl (· + ·) 0 / (((ordersL n).length : Int) : Rat)
def meanF (n c : Nat) : List Rat := foldF (2 ^ n) ((ordersL n).map fun o => turnF n o 0 c)
set_option maxRecDepth 100000 in
theorem mean_forms : ∀ n, n < 5 → ∀ c, c < n → meanF n c = scaleF (((ordersL n).length : Int) : Rat) (shareF n c) := by decide +kernel
theorem orders_len : ∀ n, n < 5 → (ordersL n).length ≠ 0 := by decide +kernel
theorem mean_share {n c : Nat} {v : List Rat} (hv : v.length = 2 ^ n) (hn : n ≤ 4) (hc : c < n) : meanQ v n c = shareQ v n c := by
  have hl : ∀ f ∈ (ordersL n).map (fun o => turnF n o 0 c), f.length = 2 ^ n := by
    intro f hf
    obtain ⟨o, ho, rfl⟩ := List.mem_map.1 hf
    exact (turnF_dot hv o (orders_fine n (by omega) o ho).2.2.1 0 c (Nat.two_pow_pos n)).1
  have h1 := (foldF_dot v _ hl).2
  rw [List.map_map] at h1
  have h2 : ((ordersL n).map ((fun f => dotQ f v) ∘ fun o => turnF n o 0 c)) = (ordersL n).map fun o => turnQ v o 0 c :=
    List.map_congr_left fun o ho => (turnF_dot hv o (orders_fine n (by omega) o ho).2.2.1 0 c (Nat.two_pow_pos n)).2
  rw [h2] at h1
  have h3 := mean_forms n (by omega) c hc
  unfold meanF at h3
  rw [h3, dot_scale, (shareF_dot hv (by omega) hc).2] at h1
  have h0 : (((ordersL n).length : Int) : Rat) ≠ 0 := by
    intro e
    have := orders_len n (by omega)
    exact this (by exact_mod_cast Rat.intCast_inj.1 (e.trans rfl))
  unfold meanQ
  rw [← h1, Rat.mul_comm, Rat.div_def, Rat.mul_assoc, Rat.mul_inv_cancel _ h0, Rat.mul_one]
/-! ### sums -/
set_option maxRecDepth 100000 in
theorem fair_forms : ∀ n, n < 5 → 0 < n → foldF (2 ^ n) ((List.range n).map (shareF n)) = subF (tabF n (2 ^ n - 1)) (tabF n 0) := by decide +kernel
/-- shares add up to what all are worth more than none -/
theorem fair_sum {n : Nat} {v : List Rat} (hv : v.length = 2 ^ n) (hn : n ≤ 4) (hn1 : 0 < n) : (sharesQ v n).foldl (· + ·) 0 = v.getD (2 ^ n - 1) 0 - v.getD 0 0 := by
  have hl : ∀ f ∈ (List.range n).map (shareF n), f.length = 2 ^ n := by
    intro f hf
    obtain ⟨c, hc, rfl⟩ := List.mem_map.1 hf
    exact (shareF_dot hv (by omega) (List.mem_range.1 hc)).1
  have h1 := (foldF_dot v _ hl).2
  rw [List.map_map] at h1
  have h2 : (List.range n).map ((fun f => dotQ f v) ∘ shareF n) = sharesQ v n :=
    List.map_congr_left fun c hc => (shareF_dot hv (by omega) (List.mem_range.1 hc)).2
  have hp := Nat.two_pow_pos n
  obtain ⟨u1, u2⟩ := tabF_dot (k := 2 ^ n - 1) hv (by omega)
  obtain ⟨u3, u4⟩ := tabF_dot (k := 0) hv (by omega)
  rw [h2, fair_forms n (by omega) hn1, dot_sub _ (by rw [u1, u3]), u2, u4] at h1
  exact h1.symm
set_option maxRecDepth 100000 in
theorem turns_forms : ∀ n, n < 5 → 0 < n → ∀ o ∈ ordersL n, foldF (2 ^ n) ((List.range n).map (turnF n o 0)) = subF (tabF n (2 ^ n - 1)) (tabF n 0) := by decide +kernel
theorem list_at {l : List Rat} {n : Nat} {f : Nat → Rat} (hl : l.length = n) (h : ∀ c, c < n → l[c]? = some (f c)) : l = (List.range n).map f := by
  apply List.ext_getElem?
  intro c
  by_cases hc : c < n
  · rw [h c hc, List.getElem?_map, List.getElem?_range hc]; rfl
  · rw [List.getElem?_eq_none (by omega), List.getElem?_eq_none (by simp; omega)]
/-- whichever order they come in, what they add is the same in all -/
theorem turns_sum {n : Nat} {v : List Rat} {o : List Nat} (hv : v.length = 2 ^ n) (hn : n ≤ 4) (hn1 : 0 < n) (ho : o ∈ ordersL n) : (turnsGo v o 0 (List.replicate n 0)).foldl (· + ·) 0 = v.getD (2 ^ n - 1) 0 - v.getD 0 0 := by
  obtain ⟨f1, f2, f3, f4⟩ := orders_fine n (by omega) o ho
  have hp := Nat.two_pow_pos n
  have e : turnsGo v o 0 (List.replicate n 0) = (List.range n).map (turnQ v o 0) := by
    refine list_at (by rw [turnsGo_len]; simp) fun c hc => ?_
    rw [turnsGo_at v o f2 _ _ _ (by simpa using hc), if_pos (f4 c hc)]
  have hl : ∀ f ∈ (List.range n).map (turnF n o 0), f.length = 2 ^ n := by
    intro f hf
    obtain ⟨c, hc, rfl⟩ := List.mem_map.1 hf
    exact (turnF_dot hv o f3 0 c hp).1
  have h1 := (foldF_dot v _ hl).2
  rw [List.map_map] at h1
  have h2 : (List.range n).map ((fun f => dotQ f v) ∘ turnF n o 0) = (List.range n).map (turnQ v o 0) :=
    List.map_congr_left fun c hc => (turnF_dot hv o f3 0 c hp).2
  obtain ⟨u1, u2⟩ := tabF_dot (k := 2 ^ n - 1) hv (by omega)
  obtain ⟨u3, u4⟩ := tabF_dot (k := 0) hv (by omega)
  rw [h2, turns_forms n (by omega) hn1 o ho, dot_sub _ (by rw [u1, u3]), u2, u4] at h1
  rw [e]
  exact h1.symm
/-! ### twins -/
def swapAt (a b k : Nat) : Nat := if k / 2 ^ b % 2 < k / 2 ^ a % 2 then k ^^^ 2 ^ a ^^^ 2 ^ b else k
set_option maxRecDepth 100000 in
theorem twin_forms : ∀ n, n < 5 → ∀ a, a < n → ∀ b, b < n → (∀ k, k < 2 ^ n → swapAt a b k < 2 ^ n) ∧
    setsF (fun k => tabF n (swapAt a b k)) (2 ^ n) n a (2 ^ n) = setsF (fun k => tabF n (swapAt a b k)) (2 ^ n) n b (2 ^ n) := by decide +kernel
/-- two columns that may change places have one share -/
theorem twins {n a b : Nat} {v t : List Rat} (hv : v.length = 2 ^ n) (hn : n ≤ 4) (ha : a < n) (hb : b < n) (ht : ∀ k, k < 2 ^ n → t.getD k 0 = v.getD (swapAt a b k) 0) : shareQ t n a = shareQ t n b := by
  obtain ⟨h1, h2⟩ := twin_forms n (by omega) a ha b hb
  have hu : ∀ k, k < 2 ^ n → (tabF n (swapAt a b k)).length = 2 ^ n ∧ dotQ (tabF n (swapAt a b k)) v = t.getD k 0 := fun k hk => by
    rw [ht k hk]
    exact tabF_dot hv (h1 k hk)
  have e1 := (setsF_dot (fun k => tabF n (swapAt a b k)) (2 ^ n) v t (by omega) ha hu _ (Nat.le_refl _)).2
  have e2 := (setsF_dot (fun k => tabF n (swapAt a b k)) (2 ^ n) v t (by omega) hb hu _ (Nat.le_refl _)).2
  rw [shareQ_sets t (by omega) ha, shareQ_sets t (by omega) hb, ← e1, ← e2, h2]
end Go.Proofs.YtbjemjopcoajcaaGreatDoor
