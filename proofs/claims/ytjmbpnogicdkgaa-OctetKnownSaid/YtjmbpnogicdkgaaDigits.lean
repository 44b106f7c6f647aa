/-
  Numbers as lists of digits of any base, the lowest first: plain mathematics for the walks of the long arithmetic.
-/
namespace Go.Proofs.Ytjmbpnogicdkgaa
set_option linter.unusedSimpArgs false
set_option linter.unusedVariables false

/-- the number of a list of digits -/
def dv (β : Nat) : List Nat → Nat
  | [] => 0
  | x :: r => x + β * dv β r
/-- every digit is below the base -/
def Dig (β : Nat) (l : List Nat) : Prop := ∀ x ∈ l, x < β

section
variable {β : Nat} {l r : List Nat}
theorem dv_nil : dv β [] = 0 := rfl
theorem dv_cons (x : Nat) (r : List Nat) : dv β (x :: r) = x + β * dv β r := rfl
theorem dv_append (a b : List Nat) : dv β (a ++ b) = dv β a + β ^ a.length * dv β b := by
  induction a with
  | nil => simp [dv]
  | cons x r ih =>
    simp only [List.cons_append, dv, List.length_cons, ih]
    rw [Nat.pow_succ, Nat.mul_add, Nat.mul_comm (β ^ r.length) β, Nat.mul_assoc, Nat.add_assoc]
theorem Dig.nil : Dig β [] := fun x h => by cases h
theorem Dig.cons {x : Nat} (hx : x < β) (h : Dig β r) : Dig β (x :: r) := fun y hy => by
  rcases List.mem_cons.1 hy with rfl | hy
  · exact hx
  · exact h y hy
theorem Dig.append (h : Dig β l) (h' : Dig β r) : Dig β (l ++ r) := fun y hy => by
  rcases List.mem_append.1 hy with hy | hy
  · exact h y hy
  · exact h' y hy
theorem Dig.take (h : Dig β l) (k : Nat) : Dig β (l.take k) := fun x hx => h x (List.mem_of_mem_take hx)
theorem Dig.drop (h : Dig β l) (k : Nat) : Dig β (l.drop k) := fun x hx => h x (List.mem_of_mem_drop hx)
theorem Dig.get (h : Dig β l) {k x : Nat} (hx : l[k]? = some x) : x < β := h x (List.mem_of_getElem? hx)
theorem Dig.set_ (h : Dig β l) (k : Nat) {x : Nat} (hx : x < β) : Dig β (l.set k x) := fun y hy => by
  rcases List.mem_or_eq_of_mem_set hy with hy | rfl
  · exact h y hy
  · exact hx
theorem Dig.rep (hβ : 0 < β) (n : Nat) : Dig β (List.replicate n 0) := fun x hx => by
  rw [(List.mem_replicate.1 hx).2]
  exact hβ
theorem dv_rep (n : Nat) : dv β (List.replicate n 0) = 0 := by
  induction n with
  | zero => rfl
  | succ n ih => rw [List.replicate_succ, dv_cons, ih]; simp
theorem dv_lt (h : Dig β l) : dv β l < β ^ l.length := by
  induction l with
  | nil => simp [dv]
  | cons x r ih =>
    have hx : x < β := h x (by simp)
    have h1 := ih (fun y hy => h y (by simp [hy]))
    simp only [dv, List.length_cons, Nat.pow_succ]
    have h2 : β * (dv β r + 1) ≤ β * β ^ r.length := Nat.mul_le_mul_left _ h1
    rw [Nat.mul_add, Nat.mul_one] at h2
    rw [Nat.mul_comm (β ^ r.length) β]
    omega
theorem dv_split (k : Nat) (hk : k ≤ l.length) : dv β l = dv β (l.take k) + β ^ k * dv β (l.drop k) := by
  have h := dv_append (β := β) (l.take k) (l.drop k)
  rw [List.take_append_drop, List.length_take, Nat.min_eq_left hk] at h
  exact h
/-- one digit is changed -/
theorem dv_set {k x : Nat} (s : Nat) (hx : l[k]? = some x) : dv β (l.set k s) + x * β ^ k = dv β l + s * β ^ k := by
  induction l generalizing k with
  | nil => simp at hx
  | cons y r ih =>
    cases k with
    | zero =>
      simp at hx
      subst hx
      simp only [List.set_cons_zero, dv, Nat.pow_zero, Nat.mul_one]
      omega
    | succ k =>
      rw [List.getElem?_cons_succ] at hx
      have h1 := ih hx
      simp only [List.set_cons_succ, dv, Nat.pow_succ]
      rw [← Nat.mul_assoc, ← Nat.mul_assoc, Nat.mul_comm _ β, Nat.mul_comm (s * β ^ k) β, Nat.add_assoc, Nat.add_assoc, ← Nat.mul_add, ← Nat.mul_add, h1]
theorem dv_take_succ {k x : Nat} (hx : l[k]? = some x) : dv β (l.take (k + 1)) = dv β (l.take k) + x * β ^ k := by
  have hk : k < l.length := (List.getElem?_eq_some_iff.1 hx).1
  rw [List.take_add_one, hx, Option.toList_some, dv_append, List.length_take, Nat.min_eq_left (by omega)]
  simp only [dv, Nat.mul_zero, Nat.add_zero]
  rw [Nat.mul_comm]
theorem dv_take_out {k : Nat} (hk : l.length ≤ k) : dv β (l.take k) = dv β l := by rw [List.take_of_length_le hk]
theorem dv_drop {k x : Nat} (hx : l[k]? = some x) : dv β (l.drop k) = x + β * dv β (l.drop (k + 1)) := by
  have hk : k < l.length := (List.getElem?_eq_some_iff.1 hx).1
  rw [List.drop_eq_getElem_cons hk, dv_cons]
  rw [List.getElem?_eq_getElem hk] at hx
  rw [Option.some.inj hx]
theorem dv_drop_out {k : Nat} (hk : l.length ≤ k) : dv β (l.drop k) = 0 := by rw [List.drop_of_length_le hk]; rfl
theorem dv_div (h : Dig β l) (hβ : 0 < β) (k : Nat) : dv β l / β ^ k = dv β (l.drop k) := by
  rcases Nat.lt_or_ge k l.length with hk | hk
  · rw [dv_split k (by omega), Nat.add_mul_div_left _ _ (Nat.pow_pos hβ), Nat.div_eq_of_lt, Nat.zero_add]
    have := dv_lt (h.take k)
    rw [List.length_take, Nat.min_eq_left (by omega)] at this
    exact this
  · rw [dv_drop_out hk, Nat.div_eq_of_lt]
    exact Nat.lt_of_lt_of_le (dv_lt h) (Nat.pow_le_pow_right hβ hk)
theorem dv_mod (h : Dig β l) (hβ : 0 < β) (k : Nat) : dv β l % β ^ k = dv β (l.take k) := by
  rcases Nat.lt_or_ge k l.length with hk | hk
  · rw [dv_split k (by omega), Nat.add_mul_mod_self_left, Nat.mod_eq_of_lt]
    have := dv_lt (h.take k)
    rw [List.length_take, Nat.min_eq_left (by omega)] at this
    exact this
  · rw [dv_take_out hk, Nat.mod_eq_of_lt]
    exact Nat.lt_of_lt_of_le (dv_lt h) (Nat.pow_le_pow_right hβ hk)
theorem dv_ge {k x : Nat} (hx : l[k]? = some x) : x * β ^ k ≤ dv β l := by
  have hk : k < l.length := (List.getElem?_eq_some_iff.1 hx).1
  rw [dv_split k (by omega), dv_drop hx, Nat.mul_add, Nat.mul_comm x]
  omega
/-- digits of a small number above its places are 0 -/
theorem dv_high {k : Nat} (h : Dig β l) (hβ : 0 < β) (hlt : dv β l < β ^ k) : dv β (l.drop k) = 0 := by
  rw [← dv_div h hβ, Nat.div_eq_of_lt hlt]
theorem dv_zero {k x : Nat} (hβ : 0 < β) (h0 : dv β l = 0) (hx : l[k]? = some x) : x = 0 := by
  have h1 := dv_ge (β := β) hx
  rw [h0] at h1
  have h2 : 0 < β ^ k := Nat.pow_pos hβ
  rcases Nat.eq_zero_or_pos x with h3 | h3
  · exact h3
  · have := Nat.mul_pos h3 h2
    omega

/-- without the highest digits that are 0 -/
def trimL : List Nat → List Nat
  | [] => []
  | x :: r => if x = 0 ∧ trimL r = [] then [] else x :: trimL r
theorem trimL_dv (l : List Nat) : dv β (trimL l) = dv β l := by
  induction l with
  | nil => rfl
  | cons x r ih =>
    simp only [trimL]
    split
    · rename_i h
      rw [h.2] at ih
      rw [dv_cons, ← ih, h.1]
      simp [dv]
    · rw [dv_cons, dv_cons, ih]
theorem trimL_len (l : List Nat) : (trimL l).length ≤ l.length := by
  induction l with
  | nil => simp [trimL]
  | cons x r ih =>
    simp only [trimL]
    split
    · simp
    · simp [ih]
theorem trimL_take (l : List Nat) : trimL l = l.take (trimL l).length := by
  induction l with
  | nil => rfl
  | cons x r ih =>
    simp only [trimL]
    split
    · simp
    · rw [List.length_cons, List.take_succ_cons, ← ih]
theorem trimL_snoc0 (l : List Nat) : trimL (l ++ [0]) = trimL l := by
  induction l with
  | nil => rfl
  | cons x r ih => simp only [List.cons_append, trimL, ih]
theorem trimL_snoc (l : List Nat) (x : Nat) (hx : x ≠ 0) : trimL (l ++ [x]) = l ++ [x] := by
  induction l with
  | nil => simp [trimL, hx]
  | cons y r ih => simp [trimL, ih]
theorem trimL_last (l : List Nat) : (trimL l).getLast? ≠ some 0 := by
  induction l with
  | nil => simp [trimL]
  | cons x r ih =>
    simp only [trimL]
    split
    · simp
    · rename_i h
      by_cases hr : trimL r = []
      · rw [hr]
        simp
        intro hx
        exact h ⟨hx, hr⟩
      · rw [List.getLast?_cons]
        obtain ⟨y, hy⟩ : ∃ y, (trimL r).getLast? = some y := by
          cases h1 : (trimL r).getLast? with
          | none => exact absurd (List.getLast?_eq_none_iff.1 h1) hr
          | some y => exact ⟨y, rfl⟩
        rw [hy] at ih ⊢
        simpa using ih
theorem Dig.trimL (h : Dig β l) : Dig β (trimL l) := by
  rw [trimL_take]
  exact h.take _
end

/-! ### the guess of a quotient's digit -/

/-- T: the rest's highest digits; D: the divisor's; the guess, the greatest g below β with g * D ≤ T, is the quotient or 1 more -/
theorem guess_ok {β P T D X V g : Nat} (hP : 0 < P) (hT : X / P = T) (hD : V / P = D) (hX : X < β * V) (hDb : β ≤ D + 1) (hg : g < β) (hgT : g * D ≤ T) (hmax : g + 1 < β → T < (g + 1) * D) :
    X / V ≤ g ∧ g ≤ X / V + 1 := by
  have hV : 0 < V := by
    rcases Nat.eq_zero_or_pos V with h | h
    · subst h; simp at hX
    · exact h
  have hXT : P * T ≤ X ∧ X < P * T + P := by
    rw [← hT]
    have h1 := Nat.div_add_mod X P
    have h2 := Nat.mod_lt X hP
    omega
  have hVD : P * D ≤ V ∧ V < P * D + P := by
    rw [← hD]
    have h1 := Nat.div_add_mod V P
    have h2 := Nat.mod_lt V hP
    omega
  constructor
  · -- X / V ≤ g
    by_cases hgb : g + 1 < β
    · have hm := hmax hgb
      apply Nat.le_of_lt_succ
      rw [Nat.div_lt_iff_lt_mul hV]
      have h1 : P * (T + 1) ≤ P * ((g + 1) * D) := Nat.mul_le_mul_left _ hm
      have h2 : P * ((g + 1) * D) = (g + 1) * (P * D) := by rw [Nat.mul_left_comm]
      have h3 : (g + 1) * (P * D) ≤ (g + 1) * V := Nat.mul_le_mul_left _ hVD.1
      rw [Nat.mul_add, Nat.mul_one] at h1
      exact Nat.lt_of_lt_of_le (by omega) (Nat.le_trans (Nat.le_of_eq h2) h3)
    · obtain rfl : β = g + 1 := by omega
      exact Nat.le_of_lt_succ ((Nat.div_lt_iff_lt_mul hV).2 hX)
  · -- g ≤ X / V + 1
    cases g with
    | zero => exact Nat.zero_le _
    | succ k =>
      apply Nat.succ_le_succ
      rw [Nat.le_div_iff_mul_le hV]
      have h1 : k * V ≤ k * (P * D + P) := Nat.mul_le_mul_left _ (by omega)
      have h2 : k * (P * D + P) = P * (k * D + k) := by
        rw [Nat.mul_add, Nat.mul_left_comm, Nat.mul_comm k P, ← Nat.mul_add]
      have h3 : k * D + k ≤ T := by
        rw [Nat.succ_mul] at hgT
        omega
      have h4 : P * (k * D + k) ≤ P * T := Nat.mul_le_mul_left _ h3
      omega
end Go.Proofs.Ytjmbpnogicdkgaa
