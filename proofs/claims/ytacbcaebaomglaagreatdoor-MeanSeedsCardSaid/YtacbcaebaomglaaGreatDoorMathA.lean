import Derived.Test.YtacbcaebaomglaaGreatDoorMem
import Derived.Lib.ItoaNum
namespace Go.Proofs.YtacbcaebaomglaaGreatDoor
set_option linter.all false
def dv (β : Nat) : List Nat -> Nat
 | [] => 0
 | x :: r => x + β * dv β r
def Dig (β : Nat) (l : List Nat) : Prop := ∀ x ∈ l, x < β
section
variable {β : Nat} {l r : List Nat}
theorem Up : dv β [] = 0 := rfl
theorem Xw (x : Nat) (r : List Nat) : dv β (x :: r) = x + β * dv β r := rfl
theorem Yk (a b : List Nat) : dv β (a ++ b) = dv β a + β ^ a.length * dv β b := by
 induction a with
 | nil => simp [dv]
 | cons x r ih =>
  simp only [List.cons_append, dv, List.length_cons, ih]
  rw [Nat.pow_succ, Nat.mul_add, Nat.mul_comm (β ^ r.length) β, Nat.mul_assoc, Nat.add_assoc]
theorem Dig.nil : Dig β [] := fun x h => by cases h
theorem Dig.cons {x : Nat} (hx : x < β) (h : Dig β r) : Dig β (x :: r) := fun y hy => by
 rcases List.mem_cons.1 hy with rfl | hy
 ·exact hx
 exact h y hy
theorem Dig.append (h : Dig β l) (h' : Dig β r) : Dig β (l ++ r) := fun y hy => by
 rcases List.mem_append.1 hy with hy | hy
 ·exact h y hy
 exact h' y hy
theorem Dig.take (h : Dig β l) (k : Nat) : Dig β (l.take k) := fun x hx => h x (List.mem_of_mem_take hx)
theorem Dig.drop (h : Dig β l) (k : Nat) : Dig β (l.drop k) := fun x hx => h x (List.mem_of_mem_drop hx)
theorem Dig.get (h : Dig β l) {k x : Nat} (hx : l[k]? = some x) : x < β := h x (List.mem_of_getElem? hx)
theorem Dig.set_ (h : Dig β l) (k : Nat) {x : Nat} (hx : x < β) : Dig β (l.set k x) := fun y hy => by
 rcases List.mem_or_eq_of_mem_set hy with hy | rfl
 ·exact h y hy
 exact hx
theorem Dig.rep (hβ : 0 < β) (n : Nat) : Dig β (List.replicate n 0) := fun x hx => by
 rw [(List.mem_replicate.1 hx).2]
 exact hβ
theorem Kk (n : Nat) : dv β (List.replicate n 0) = 0 := by
 induction n with
 | zero => rfl
 | succ n ih => rw [List.replicate_succ, Xw, ih]; simp
theorem Xm (h : Dig β l) : dv β l < β ^ l.length := by
 induction l with
 | nil => simp [dv]
 | cons x r ih =>
  have hx : x < β := h x (by simp)
  have h1 := ih (fun y hy => h y (by simp [hy]))
  simp only [dv, List.length_cons, Nat.pow_succ]
  have h2 : β * (dv β r + 1) <= β * β ^ r.length := Nat.mul_le_mul_left _ h1
  rw [Nat.mul_add, Nat.mul_one] at h2
  rw [Nat.mul_comm (β ^ r.length) β]
  omega
theorem Xl (k : Nat) (hk : k <= l.length) : dv β l = dv β (l.take k) + β ^ k * dv β (l.drop k) := by
 have h := Yk (β := β) (l.take k) (l.drop k)
 rw [List.take_append_drop, List.length_take, Nat.min_eq_left hk] at h
 exact h
theorem Yx {k x : Nat} (s : Nat) (hx : l[k]? = some x) : dv β (l.set k s) + x * β ^ k = dv β l + s * β ^ k := by
 induction l generalizing k with
 | nil => simp at hx
 | cons y r ih =>
  cases k with
  | zero =>
   simp at hx
   subst hx
   simp only [List.set_cons_zero, dv, Nat.pow_zero, Nat.mul_one]
   omega
  | succ k =>
   rw [List.getElem?_cons_succ] at hx
   have h1 := ih hx
   simp only [List.set_cons_succ, dv, Nat.pow_succ]
   rw [<- Nat.mul_assoc, <- Nat.mul_assoc, Nat.mul_comm _ β, Nat.mul_comm (s * β ^ k) β, Nat.add_assoc, Nat.add_assoc, <- Nat.mul_add, <- Nat.mul_add, h1]
theorem Js {k x : Nat} (hx : l[k]? = some x) : dv β (l.take (k + 1)) = dv β (l.take k) + x * β ^ k := by
 have hk : k < l.length := (List.getElem?_eq_some_iff.1 hx).1
 rw [List.take_add_one, hx, Option.toList_some, Yk, List.length_take, Nat.min_eq_left (by omega)]
 simp only [dv, Nat.mul_zero, Nat.add_zero]
 rw [Nat.mul_comm]
theorem Qo {k : Nat} (hk : l.length <= k) : dv β (l.take k) = dv β l := by rw [List.take_of_length_le hk]
theorem Qb {k x : Nat} (hx : l[k]? = some x) : dv β (l.drop k) = x + β * dv β (l.drop (k + 1)) := by
 have hk : k < l.length := (List.getElem?_eq_some_iff.1 hx).1
 rw [List.drop_eq_getElem_cons hk, Xw]
 rw [List.getElem?_eq_getElem hk] at hx
 rw [Option.some.inj hx]
theorem Xe {k : Nat} (hk : l.length <= k) : dv β (l.drop k) = 0 := by rw [List.drop_of_length_le hk]; rfl
theorem Yr (h : Dig β l) (hβ : 0 < β) (k : Nat) : dv β l / β ^ k = dv β (l.drop k) := by
 rcases Nat.lt_or_ge k l.length with hk | hk
 ·rw [Xl k (by omega), Nat.add_mul_div_left _ _ (Nat.pow_pos hβ), Nat.div_eq_of_lt, Nat.zero_add]
  have := Xm (h.take k)
  rw [List.length_take, Nat.min_eq_left (by omega)] at this
  exact this
 rw [Xe hk, Nat.div_eq_of_lt]
 exact Nat.lt_of_lt_of_le (Xm h) (Nat.pow_le_pow_right hβ hk)
theorem Jok (h : Dig β l) (hβ : 0 < β) (k : Nat) : dv β l % β ^ k = dv β (l.take k) := by
 rcases Nat.lt_or_ge k l.length with hk | hk
 ·rw [Xl k (by omega), Nat.add_mul_mod_self_left, Nat.mod_eq_of_lt]
  have := Xm (h.take k)
  rw [List.length_take, Nat.min_eq_left (by omega)] at this
  exact this
 rw [Qo hk, Nat.mod_eq_of_lt]
 exact Nat.lt_of_lt_of_le (Xm h) (Nat.pow_le_pow_right hβ hk)
theorem Jfw {k x : Nat} (hx : l[k]? = some x) : x * β ^ k <= dv β l := by
 have hk : k < l.length := (List.getElem?_eq_some_iff.1 hx).1
 rw [Xl k (by omega), Qb hx, Nat.mul_add, Nat.mul_comm x]
 omega
theorem Km {k : Nat} (h : Dig β l) (hβ : 0 < β) (j9 : dv β l < β ^ k) : dv β (l.drop k) = 0 := by
 rw [<- Yr h hβ, Nat.div_eq_of_lt j9]
theorem Ja2 {k x : Nat} (hβ : 0 < β) (h0 : dv β l = 0) (hx : l[k]? = some x) : x = 0 := by
 have h1 := Jfw (β := β) hx
 rw [h0] at h1
 have h2 : 0 < β ^ k := Nat.pow_pos hβ
 rcases Nat.eq_zero_or_pos x with h3 | h3
 ·exact h3
 have := Nat.mul_pos h3 h2
 omega
def trimL : List Nat -> List Nat
 | [] => []
 | x :: r => if x = 0 /\ trimL r = [] then [] else x :: trimL r
theorem Jdi (l : List Nat) : dv β (trimL l) = dv β l := by
 induction l with
 | nil => rfl
 | cons x r ih =>
  simp only [trimL]
  split
  ·rename_i h
   rw [h.2] at ih
   rw [Xw, <- ih, h.1]
   simp [dv]
  rw [Xw, Xw, ih]
theorem Us (l : List Nat) : (trimL l).length <= l.length := by
 induction l with
 | nil => simp [trimL]
 | cons x r ih =>
  simp only [trimL]
  split
  ·simp
  simp [ih]
theorem Zy (l : List Nat) : trimL l = l.take (trimL l).length := by
 induction l with
 | nil => rfl
 | cons x r ih =>
  simp only [trimL]
  split
  ·simp
  rw [List.length_cons, List.take_succ_cons, <- ih]
theorem Jhe (l : List Nat) : trimL (l ++ [0]) = trimL l := by
 induction l with
 | nil => rfl
 | cons x r ih => simp only [List.cons_append, trimL, ih]
theorem Jir (l : List Nat) (x : Nat) (hx : x ≠ 0) : trimL (l ++ [x]) = l ++ [x] := by
 induction l with
 | nil => simp [trimL, hx]
 | cons y r ih => simp [trimL, ih]
theorem Jdh (l : List Nat) : (trimL l).getLast? ≠ some 0 := by
 induction l with
 | nil => simp [trimL]
 | cons x r ih =>
  simp only [trimL]
  split
  ·simp
  rename_i h
  by_cases hr : trimL r = []
  ·rw [hr]
   simp
   intro hx
   exact h ⟨hx, hr⟩
  rw [List.getLast?_cons]
  obtain ⟨y, hy⟩ : ∃ y, (trimL r).getLast? = some y := by
   cases h1 : (trimL r).getLast? with
   | none => exact absurd (List.getLast?_eq_none_iff.1 h1) hr
   | some y => exact ⟨y, rfl⟩
  rw [hy] at ih ⊢
  simpa using ih
theorem Dig.trimL (h : Dig β l) : Dig β (trimL l) := by
 rw [Zy]
 exact h.take _
end
theorem Jic {β P T D X V g : Nat} (hP : 0 < P) (hT : X / P = T) (hD : V / P = D) (hX : X < β * V) (o9 : β <= D + 1) (hg : g < β) (o0 : g * D <= T) (j7 : g + 1 < β -> T < (g + 1) * D) :
  X / V <= g /\ g <= X / V + 1 := by
 have hV : 0 < V := by
  rcases Nat.eq_zero_or_pos V with h | h
  ·subst h; simp at hX
  exact h
 have p7 : P * T <= X /\ X < P * T + P := by
  rw [<- hT]
  have h1 := Nat.div_add_mod X P
  have h2 := Nat.mod_lt X hP
  omega
 have o6 : P * D <= V /\ V < P * D + P := by
  rw [<- hD]
  have h1 := Nat.div_add_mod V P
  have h2 := Nat.mod_lt V hP
  omega
 constructor
 ·
  by_cases j8 : g + 1 < β
  ·have hm := j7 j8
   apply Nat.le_of_lt_succ
   rw [Nat.div_lt_iff_lt_mul hV]
   have h1 : P * (T + 1) <= P * ((g + 1) * D) := Nat.mul_le_mul_left _ hm
   have h2 : P * ((g + 1) * D) = (g + 1) * (P * D) := by rw [Nat.mul_left_comm]
   have h3 : (g + 1) * (P * D) <= (g + 1) * V := Nat.mul_le_mul_left _ o6.1
   rw [Nat.mul_add, Nat.mul_one] at h1
   exact Nat.lt_of_lt_of_le (by omega) (nt (Nat.le_of_eq h2) h3)
  obtain rfl : β = g + 1 := by omega
  exact Nat.le_of_lt_succ ((Nat.div_lt_iff_lt_mul hV).2 hX)
 
 cases g with
 | zero => exact Nat.zero_le _
 | succ k =>
  apply Nat.succ_le_succ
  rw [Nat.le_div_iff_mul_le hV]
  have h1 : k * V <= k * (P * D + P) := Nat.mul_le_mul_left _ (by omega)
  have h2 : k * (P * D + P) = P * (k * D + k) := by
   rw [Nat.mul_add, Nat.mul_left_comm, Nat.mul_comm k P, <- Nat.mul_add]
  have h3 : k * D + k <= T := by
   rw [Nat.succ_mul] at o0
   omega
  have h4 : P * (k * D + k) <= P * T := Nat.mul_le_mul_left _ h3
  omega
section
variable {β : Nat} {l : List Nat}
theorem Ua {i a b c s c' X : Nat} (hx : l[i]? = some a) (hs : s + β * c' = a + b + c) (he : dv β l + c * β ^ i = X) : dv β (l.set i s) + c' * β ^ (i + 1) = X + b * β ^ i := by
 have h1 := Yx (β := β) s hx
 have h2 := congrArg (· * β ^ i) hs
 simp only [Nat.add_mul] at h2
 have h3 : c' * β ^ (i + 1) = β * c' * β ^ i := by rw [Nat.pow_succ, <- Nat.mul_assoc, Nat.mul_right_comm, Nat.mul_comm c' β]
 rw [h3]
 omega
theorem Ut {i a b c s c' X Y : Nat} (hx : l[i]? = some a) (hs : s + b + c = a + β * c') (he : dv β l + Y = X + c * β ^ i) : dv β (l.set i s) + (Y + b * β ^ i) = X + c' * β ^ (i + 1) := by
 have h1 := Yx (β := β) s hx
 have h2 := congrArg (· * β ^ i) hs
 simp only [Nat.add_mul] at h2
 have h3 : c' * β ^ (i + 1) = β * c' * β ^ i := by rw [Nat.pow_succ, <- Nat.mul_assoc, Nat.mul_right_comm, Nat.mul_comm c' β]
 rw [h3]
 omega
theorem Jij {a m n c s c' : Nat} (ha : a < β) (hm : m < β) (hn : n < β) (hc : c < β) (hs : s + β * c' = a + m * n + c) : c' < β := by
 rcases Nat.lt_or_ge c' β with h | h
 ·exact h
 exfalso
 have h1 : β * β <= β * c' := Nat.mul_le_mul_left _ h
 have h2 : m * n <= (β - 1) * (β - 1) := Nat.mul_le_mul (by omega) (by omega)
 obtain ⟨k, rfl⟩ : ∃ k, β = k + 1 := ⟨β - 1, by omega⟩
 rw [Nat.add_sub_cancel] at h2
 have h3 : (k + 1) * (k + 1) = k * k + 2 * k + 1 := by
  rw [Nat.add_mul, Nat.mul_add]
  omega
 omega
end
def GI (β v1 v0 u u0 g R : Nat) : Prop := g * v1 + R = u /\ (g + 1 < β -> u * β + u0 < (g + 1) * (v1 * β + v0))
section
variable {β v1 v0 u u0 g R : Nat}
theorem Jgv (hv : 0 < v1) (h0 : u0 < β) : GI β v1 v0 u u0 (u / v1) (u % v1) := by
 refine ⟨by rw [Nat.mul_comm]; exact Nat.div_add_mod u v1, fun _ => ?_⟩
 have h1 := Nat.div_add_mod u v1
 have h2 := Nat.mod_lt u hv
 have h3 : u + 1 <= (u / v1 + 1) * v1 := by rw [Nat.add_mul, Nat.one_mul, Nat.mul_comm (u / v1)]; omega
 have h4 := Nat.mul_le_mul_right β h3
 rw [Nat.add_mul u 1] at h4
 have h5 : (u / v1 + 1) * v1 * β <= (u / v1 + 1) * (v1 * β + v0) := by
  rw [Nat.mul_assoc]
  exact Nat.mul_le_mul_left _ (by omega)
 omega
theorem Joj (u1 : Nat) (hu : u = β * v1 + u1) (hβ : 0 < β) : GI β v1 v0 u u0 (β - 1) (u1 + v1) := by
 refine ⟨?_, fun h => by omega⟩
 obtain ⟨k, rfl⟩ : ∃ k, β = k + 1 := ⟨β - 1, by omega⟩
 rw [hu, Nat.add_sub_cancel, Nat.add_mul]
 omega
theorem Kj (h : GI β v1 v0 u u0 g R) (hg : β <= g \/ R * β + u0 < g * v0) (h0 : 0 < g) : GI β v1 v0 u u0 (g - 1) (R + v1) := by
 obtain ⟨k, rfl⟩ : ∃ k, g = k + 1 := ⟨g - 1, by omega⟩
 obtain ⟨h1, h2⟩ := h
 rw [Nat.add_sub_cancel]
 refine ⟨by rw [<- h1, Nat.add_mul]; omega, fun hk => ?_⟩
 rcases hg with hg | hg
 ·omega
 rw [<- h1, Nat.mul_add, Nat.add_mul, <- Nat.mul_assoc]
 omega
theorem Uh (h : GI β v1 v0 u u0 g R) (j8 : g < β) (p8 : v0 < β) (hg : β <= R \/ g * v0 <= R * β + u0) : g * (v1 * β + v0) <= u * β + u0 := by
 obtain ⟨h1, h2⟩ := h
 rw [<- h1, Nat.mul_add, Nat.add_mul, <- Nat.mul_assoc]
 rcases hg with hg | hg
 ·have h3 : g * v0 <= β * β := Nat.mul_le_mul (by omega) (by omega)
  have h4 : β * β <= R * β := Nat.mul_le_mul_right _ hg
  omega
 omega
theorem Jj4 (h : GI β v1 v0 u u0 g R) (hR : β <= R) (hu : u < (v1 + 1) * β) : g < β := by
 obtain ⟨h1, h2⟩ := h
 rw [Nat.add_mul] at hu
 rcases Nat.lt_or_ge g β with h | h
 ·exact h
 have := Nat.mul_le_mul_right v1 h
 rw [Nat.mul_comm v1 β] at hu
 omega
end
section
variable {X X' V P M g : Nat}
theorem Jed (j6 : 0 < V * P) (hg : X / (V * P) <= g) (he : X' + g * V * P = X) : g = X / (V * P) /\ X' = X % (V * P) := by
 have h1 : g * (V * P) <= X := by rw [<- Nat.mul_assoc]; omega
 have h2 : g <= X / (V * P) := (Nat.le_div_iff_mul_le j6).2 h1
 have h3 : g = X / (V * P) := by omega
 refine ⟨h3, ?_⟩
 have h4 := Nat.div_add_mod X (V * P)
 rw [<- h3, Nat.mul_comm (V * P) g, <- Nat.mul_assoc] at h4
 omega
theorem Jee {c Y : Nat} (j6 : 0 < V * P) (p9 : V * P <= M) (hg : g <= X / (V * P) + 1) (he : X' + g * V * P = X + M) (q8 : X' < M) (hY : Y < M) (hb : Y + c * M = X' + V * P) :
  0 < g /\ g - 1 = X / (V * P) /\ Y = X % (V * P) := by
 have h0 := Nat.div_add_mod X (V * P)
 have hm := Nat.mod_lt X j6
 have h1 : X < g * (V * P) := by rw [<- Nat.mul_assoc]; omega
 have h2 : X / (V * P) < g := (Nat.div_lt_iff_lt_mul j6).2 h1
 have h3 : g = X / (V * P) + 1 := by omega
 generalize X / (V * P) = q at *
 subst h3
 refine ⟨by omega, by omega, ?_⟩
 have h4 : (q + 1) * V * P = V * P * q + V * P := by rw [Nat.mul_assoc, Nat.add_mul, Nat.one_mul, Nat.mul_comm q]
 rw [h4] at he
 have hc : c = 1 := by
  rcases Nat.lt_or_ge c 1 with h | h
  ·obtain rfl : c = 0 := by omega
   omega
  rcases Nat.lt_or_ge c 2 with h5 | h5
  ·omega
  have := Nat.mul_le_mul_right M h5
  omega
 subst hc
 omega
end
theorem Jg (n : Nat) : IntKind.u64.wrap (n : Int) = ((n % 18446744073709551616 : Nat) : Int) := by
 simp [IntKind.wrap, IntKind.bits, IntKind.signed]
theorem Jr (n : Nat) : IntKind.u32.wrap (n : Int) = ((n % 4294967296 : Nat) : Int) := by
 simp [IntKind.wrap, IntKind.bits, IntKind.signed]
theorem Jrj (a b : Nat) (ha : a < 18446744073709551616) (hb : b < 18446744073709551616) : bits .xor .u64 (a : Int) (b : Int) = ((a ^^^ b : Nat) : Int) := by
 have h : a ^^^ b < 2 ^ 64 := Nat.xor_lt_two_pow (by omega) (by omega)
 have e8 : a % 2 ^ 64 = a := Nat.mod_eq_of_lt (by omega)
 have e9 : b % 2 ^ 64 = b := Nat.mod_eq_of_lt (by omega)
 have e : bits .xor .u64 (a : Int) (b : Int) = IntKind.u64.wrap (((BitVec.ofInt 64 (a : Int)) ^^^ (BitVec.ofInt 64 (b : Int))).toNat : Int) := rfl
 rw [e, BitVec.ofInt_natCast, BitVec.ofInt_natCast, BitVec.toNat_xor, BitVec.toNat_ofNat, BitVec.toNat_ofNat, e8, e9, Jg, Nat.mod_eq_of_lt (by omega)]
theorem Job (a b : Nat) (ha : a < 4294967296) (hb : b < 4294967296) : bits .or .u32 (a : Int) (b : Int) = ((a ||| b : Nat) : Int) := by
 have h : a ||| b < 2 ^ 32 := Nat.or_lt_two_pow (by omega) (by omega)
 have e8 : a % 2 ^ 32 = a := Nat.mod_eq_of_lt (by omega)
 have e9 : b % 2 ^ 32 = b := Nat.mod_eq_of_lt (by omega)
 have e : bits .or .u32 (a : Int) (b : Int) = IntKind.u32.wrap (((BitVec.ofInt 32 (a : Int)) ||| (BitVec.ofInt 32 (b : Int))).toNat : Int) := rfl
 rw [e, BitVec.ofInt_natCast, BitVec.ofInt_natCast, BitVec.toNat_or, BitVec.toNat_ofNat, BitVec.toNat_ofNat, e8, e9, Jr, Nat.mod_eq_of_lt (by omega)]
theorem Jab (a b : Nat) (ha : a < 18446744073709551616) (hb : b < 18446744073709551616) : bits .or .u64 (a : Int) (b : Int) = ((a ||| b : Nat) : Int) := by
 have h : a ||| b < 2 ^ 64 := Nat.or_lt_two_pow (by omega) (by omega)
 have e8 : a % 2 ^ 64 = a := Nat.mod_eq_of_lt (by omega)
 have e9 : b % 2 ^ 64 = b := Nat.mod_eq_of_lt (by omega)
 have e : bits .or .u64 (a : Int) (b : Int) = IntKind.u64.wrap (((BitVec.ofInt 64 (a : Int)) ||| (BitVec.ofInt 64 (b : Int))).toNat : Int) := rfl
 rw [e, BitVec.ofInt_natCast, BitVec.ofInt_natCast, BitVec.toNat_or, BitVec.toNat_ofNat, BitVec.toNat_ofNat, e8, e9, Jg, Nat.mod_eq_of_lt (by omega)]
theorem Jj8 (a b : Nat) (ha : a < 18446744073709551616) (hb : b < 18446744073709551616) : bits .and .u64 (a : Int) (b : Int) = ((a &&& b : Nat) : Int) := by
 have h : a &&& b < 2 ^ 64 := Nat.and_lt_two_pow _ (by omega)
 have e8 : a % 2 ^ 64 = a := Nat.mod_eq_of_lt (by omega)
 have e9 : b % 2 ^ 64 = b := Nat.mod_eq_of_lt (by omega)
 have e : bits .and .u64 (a : Int) (b : Int) = IntKind.u64.wrap (((BitVec.ofInt 64 (a : Int)) &&& (BitVec.ofInt 64 (b : Int))).toNat : Int) := rfl
 rw [e, BitVec.ofInt_natCast, BitVec.ofInt_natCast, BitVec.toNat_and, BitVec.toNat_ofNat, BitVec.toNat_ofNat, e8, e9, Jg, Nat.mod_eq_of_lt (by omega)]
theorem Jsg {a b : Nat} (ha : a < 18446744073709551616) (hb : b < 18446744073709551616) : a ^^^ b < 18446744073709551616 :=
 Nat.xor_lt_two_pow (n := 64) (by omega) (by omega)
theorem Jas {k : IntKind} {a b : Int} (h : a = b) : Ending.returned (.int k a) = .returned (.int k b) := by rw [h]
namespace Dice
def step (s : Nat) : Nat := (s + 11400714819323198485) % 18446744073709551616
def mixA (z : Nat) : Nat := ((z ^^^ (z / 1073741824)) * 13787848793156543929) % 18446744073709551616
def mixB (z : Nat) : Nat := ((z ^^^ (z / 134217728)) * 10723151780598845931) % 18446744073709551616
def Js3 (z : Nat) : Nat := z ^^^ (z / 2147483648)
def mix (z : Nat) : Nat := Js3 (mixB (mixA z))
def next (s : Nat) : Nat := mix (step s)
theorem step_lt (s : Nat) : step s < 18446744073709551616 := Nat.mod_lt _ (by omega)
theorem mixA_lt (z : Nat) : mixA z < 18446744073709551616 := Nat.mod_lt _ (by omega)
theorem mixB_lt (z : Nat) : mixB z < 18446744073709551616 := Nat.mod_lt _ (by omega)
theorem Js2 (z : Nat) : mix z < 18446744073709551616 := by
 unfold mix Js3
 exact Jsg (mixB_lt _) (Nat.lt_of_le_of_lt (Nat.div_le_self _ _) (mixB_lt _))
theorem next_lt (s : Nat) : next s < 18446744073709551616 := Js2 _
theorem step_walk (s : Nat) : IntKind.u64.wrap ((s : Int) + 11400714819323198485) = ((step s : Nat) : Int) := Jg (s + 11400714819323198485)
theorem mixA_walk (z : Nat) (h : z < 18446744073709551616) : IntKind.u64.wrap (bits .xor .u64 (z : Int) ((z : Int) / 1073741824) * 13787848793156543929) = ((mixA z : Nat) : Int) := by
 have e1 : bits .xor .u64 (z : Int) ((z : Int) / 1073741824) = ((z ^^^ (z / 1073741824) : Nat) : Int) := Jrj z (z / 1073741824) h (Nat.lt_of_le_of_lt (Nat.div_le_self _ _) h)
 rw [e1]
 exact Jg ((z ^^^ (z / 1073741824)) * 13787848793156543929)
theorem mixB_walk (z : Nat) (h : z < 18446744073709551616) : IntKind.u64.wrap (bits .xor .u64 (z : Int) ((z : Int) / 134217728) * 10723151780598845931) = ((mixB z : Nat) : Int) := by
 have e1 : bits .xor .u64 (z : Int) ((z : Int) / 134217728) = ((z ^^^ (z / 134217728) : Nat) : Int) := Jrj z (z / 134217728) h (Nat.lt_of_le_of_lt (Nat.div_le_self _ _) h)
 rw [e1]
 exact Jg ((z ^^^ (z / 134217728)) * 10723151780598845931)
theorem mixC_walk (z : Nat) (h : z < 18446744073709551616) : bits .xor .u64 (z : Int) ((z : Int) / 2147483648) = ((Js3 z : Nat) : Int) :=
 Jrj z (z / 2147483648) h (Nat.lt_of_le_of_lt (Nat.div_le_self _ _) h)
theorem Jsn : mix 0 = 0 := by decide +kernel
def Gap (s k : Nat) : Prop := (s + k * 11400714819323198485) % 18446744073709551616 = 0
theorem Jsb (s k t : Nat) (h : s < 18446744073709551616) (d : 18446744073709551616 * t + k = (18446744073709551616 - s) * 17428512612931826493) : (s + k * 11400714819323198485) % 18446744073709551616 = 0 := by
 omega
theorem gap_exists (s : Nat) (h : s < 18446744073709551616) : ∃ k, 1 <= k /\ k <= 36893488147419103232 /\ Gap s k := by
 have d : ∀ m : Nat, ∃ k t : Nat, k < 18446744073709551616 /\ 18446744073709551616 * t + k = m :=
  fun m => ⟨m % 18446744073709551616, m / 18446744073709551616, Nat.mod_lt _ (by omega), Nat.div_add_mod _ _⟩
 obtain ⟨k, t, e, d⟩ := d ((18446744073709551616 - s) * 17428512612931826493)
 have g := Jsb s k t h d
 clear d
 refine ⟨k + 18446744073709551616, by omega, by omega, ?_⟩
 unfold Gap
 have : s + (k + 18446744073709551616) * 11400714819323198485 = (s + k * 11400714819323198485) + 11400714819323198485 * 18446744073709551616 := by omega
 rw [this, Nat.add_mul_mod_self_right, g]
theorem gap_step (s k : Nat) (h : Gap s (k + 1)) : Gap (step s) k := by unfold Gap step at *; omega
theorem gap_zero (s : Nat) (h : Gap s 1) : next s = 0 := by
 have : step s = 0 := by unfold Gap step at *; omega
 unfold next
 rw [this, Jsn]
def Jms : Nat -> Nat -> Nat -> Nat × Nat
 | 0, _, s => (0, s)
 | f + 1, last, s => if next s <= last then (next s, step s) else Jms f last (step s)
theorem Jrx (last : Nat) : ∀ (k s f1 f2 : Nat), Gap s k -> 1 <= k -> k <= f1 -> k <= f2 -> Jms f1 last s = Jms f2 last s := by
 intro k
 induction k with
 | zero => intro s f1 f2 _ h; omega
 | succ k ih =>
  intro s f1 f2 hg _ h1 h2
  obtain ⟨g1, rfl⟩ : ∃ g, f1 = g + 1 := ⟨f1 - 1, by omega⟩
  obtain ⟨g2, rfl⟩ : ∃ g, f2 = g + 1 := ⟨f2 - 1, by omega⟩
  simp only [Jms]
  by_cases hk : k = 0
  ·subst hk
   have := gap_zero s hg
   simp [this]
  split
  ·rfl
  exact ih (step s) g1 g2 (gap_step s k hg) (by omega) (by omega) (by omega)
theorem Jrw (f last s : Nat) : Jms (f + 1) last s = if next s <= last then (next s, step s) else Jms f last (step s) := by simp only [Jms]
noncomputable def fuelX : { n : Nat // 36893488147419103232 <= n } := Classical.choice ⟨⟨36893488147419103232, Nat.le_refl _⟩⟩
noncomputable def Jo7 : Nat := fuelX.1
theorem Jso : 36893488147419103232 <= Jo7 := fuelX.2
noncomputable def draw (last s : Nat) : Nat × Nat := Jms Jo7 last s
theorem draw_step (last s : Nat) (h : s < 18446744073709551616) : draw last s = if next s <= last then (next s, step s) else draw last (step s) := by
 obtain ⟨k, h1, h2, hg⟩ := gap_exists s h
 have hf := Jso
 unfold draw
 rw [Jrx last k s Jo7 (Jo7 + 1) hg h1 (by omega) (by omega), Jrw]
theorem Js0 (last s : Nat) (h : s < 18446744073709551616) : (draw last s).1 <= last /\ (draw last s).2 < 18446744073709551616 := by
 obtain ⟨k, h1, h2, hg⟩ := gap_exists s h
 clear h2
 induction k generalizing s with
 | zero => omega
 | succ k ih =>
  rw [draw_step last s h]
  split
  ·exact ⟨by assumption, step_lt _⟩
  by_cases hk : k = 0
  ·subst hk
   have := gap_zero s hg
   omega
  exact ih (step s) (step_lt _) (by omega) (gap_step s k hg)
attribute [irreducible] draw
def last (n : Nat) : Nat := 18446744073709551615 - (18446744073709551615 % n + 1) % n
noncomputable def below (n s : Nat) : Nat × Nat := ((draw (last n) s).1 % n, (draw (last n) s).2)
theorem below_fst (n s : Nat) : (below n s).1 = (draw (last n) s).1 % n := by simp only [below]
theorem below_snd (n s : Nat) : (below n s).2 = (draw (last n) s).2 := by simp only [below]
theorem below_lt (n s : Nat) (hn : 0 < n) : (below n s).1 < n := by
 rw [below_fst]
 exact Nat.mod_lt _ hn
theorem below_state (n s : Nat) (h : s < 18446744073709551616) : (below n s).2 < 18446744073709551616 := by
 rw [below_snd]
 exact (Js0 (last n) s h).2
attribute [irreducible] below
end Dice
def Um : Nat -> Nat -> List Nat
 | 0, _ => []
 | f + 1, n => if n = 0 then [] else n % 18446744073709551616 :: Um f (n / 18446744073709551616)
def Jf (n : Nat) : List Nat := Um n n
def val : List Nat -> Nat
 | [] => 0
 | x :: r => x + 18446744073709551616 * val r
def W64 (l : List Nat) : Prop := ∀ x ∈ l, x < 18446744073709551616
def Jlf (l : List Nat) : Prop := l.getLast? ≠ some 0
theorem Jg8 : ∀ (f g n : Nat), n <= f -> n <= g -> Um f n = Um g n := by
 intro f
 induction f with
 | zero =>
  intro g n h1 h2
  obtain rfl : n = 0 := by omega
  cases g <;> simp [Um]
 | succ f ih =>
  intro g n h1 h2
  by_cases h : n = 0
  ·subst h; cases g <;> simp [Um]
  obtain ⟨g, rfl⟩ : ∃ k, g = k + 1 := ⟨g - 1, by omega⟩
  simp only [Um, if_neg h]
  rw [ih g _ (by omega) (by omega)]
theorem Qh : Jf 0 = [] := rfl
theorem Qd (n : Nat) (h : n ≠ 0) : Jf n = n % 18446744073709551616 :: Jf (n / 18446744073709551616) := by
 unfold Jf
 obtain ⟨k, rfl⟩ : ∃ k, n = k + 1 := ⟨n - 1, by omega⟩
 rw [show Um (k + 1) (k + 1) = (k + 1) % 18446744073709551616 :: Um k ((k + 1) / 18446744073709551616) from by simp only [Um, if_neg h]]
 rw [Jg8 k _ _ (by omega) zd]
theorem Jao (n : Nat) : val (Jf n) = n := by
 induction n using Nat.strongRecOn with
 | ind n ih =>
  by_cases h : n = 0
  ·subst h; rw [Qh]; rfl
  rw [Qd n h]
  simp only [val]
  rw [ih _ (by omega)]
  omega
theorem Kp (n : Nat) : W64 (Jf n) := by
 induction n using Nat.strongRecOn with
 | ind n ih =>
  by_cases h : n = 0
  ·subst h; rw [Qh]; intro x hx; cases hx
  rw [Qd n h]
  intro x hx
  rcases List.mem_cons.1 hx with rfl | hx
  ·exact Nat.mod_lt _ (by omega)
  exact ih _ (by omega) x hx
theorem Jip (n : Nat) : Jlf (Jf n) := by
 induction n using Nat.strongRecOn with
 | ind n ih =>
  unfold Jlf
  by_cases h : n = 0
  ·subst h; rw [Qh]; simp
  rw [Qd n h]
  by_cases h2 : n / 18446744073709551616 = 0
  ·rw [h2, Qh]
   simp
   omega
  rw [Qd _ h2, List.getLast?_cons_cons, <- Qd _ h2]
  exact ih _ (by omega)
theorem Jkd : ∀ (l : List Nat), W64 l -> Jlf l -> Jf (val l) = l := by
 intro l
 induction l with
 | nil => intro _ _; rfl
 | cons x r ih =>
  intro hw ht
  have hx : x < 18446744073709551616 := hw x (by simp)
  have hr : W64 r := fun y hy => hw y (by simp [hy])
  have o7 : Jlf r := by
   unfold Jlf at *
   cases r with
   | nil => simp
   | cons y s => rw [List.getLast?_cons_cons] at ht; exact ht
  have ih' := ih hr o7
  simp only [val]
  by_cases h : x + 18446744073709551616 * val r = 0
  ·have h1 : val r = 0 := by omega
   rw [h1, Qh] at ih'
   subst ih'
   have : x = 0 := by omega
   subst this
   exact absurd rfl ht
  rw [Qd _ h, show (x + 18446744073709551616 * val r) % 18446744073709551616 = x from by omega, show (x + 18446744073709551616 * val r) / 18446744073709551616 = val r from by omega, ih']
theorem Jiq (a b : List Nat) : val (a ++ b) = val a + 18446744073709551616 ^ a.length * val b := by
 induction a with
 | nil => simp [val]
 | cons x r ih =>
  simp only [List.cons_append, val, List.length_cons, ih]
  rw [Nat.pow_succ, Nat.mul_add, Nat.mul_comm (18446744073709551616 ^ r.length) 18446744073709551616, Nat.mul_assoc, Nat.add_assoc]
theorem Jn6 (l : List Nat) (h : W64 l) : val l < 18446744073709551616 ^ l.length := by
 induction l with
 | nil => simp [val]
 | cons x r ih =>
  have hx : x < 18446744073709551616 := h x (by simp)
  have := ih (fun y hy => h y (by simp [hy]))
  simp only [val, List.length_cons, Nat.pow_succ]
  omega
def leB (x : Nat) : List UInt8 := [UInt8.ofNat x, UInt8.ofNat (x / 256), UInt8.ofNat (x / 65536), UInt8.ofNat (x / 16777216), UInt8.ofNat (x / 4294967296), UInt8.ofNat (x / 1099511627776), UInt8.ofNat (x / 281474976710656), UInt8.ofNat (x / 72057594037927936)]
theorem Jby (x : Nat) : (leB x).length = 8 := rfl
def more (n : Nat) : List UInt8 := (Jf n).tail.flatMap leB
def mo (n : Nat) : ByteArray := ⟨(more n).toArray⟩
def lo (n : Nat) : Nat := n % 18446744073709551616
def Jh (n : Nat) : Value := .agg #[.int .u64 (lo n : Int), .string (mo n)]
theorem Jd7 (l : List Nat) : (l.flatMap leB).length = 8 * l.length := by
 induction l with
 | nil => rfl
 | cons x r ih => simp only [List.flatMap_cons, List.length_append, ih, Jby, List.length_cons]; omega
theorem Jfs (l : List Nat) : ∀ k, (l.flatMap leB).drop (8 * k) = (l.drop k).flatMap leB := by
 induction l with
 | nil => intro k; simp
 | cons x r ih =>
  intro k
  cases k with
  | zero => rfl
  | succ k =>
   rw [List.flatMap_cons, List.drop_succ_cons, <- ih k, show 8 * (k + 1) = (leB x).length + 8 * k from by rw [Jby]; omega]
   rw [List.drop_append, List.drop_of_length_le (by omega)]
   simp
theorem Vj (n : Nat) : (mo n).size = 8 * ((Jf n).length - 1) := by
 show (more n).toArray.size = _
 unfold more
 rw [List.size_toArray, Jd7, List.length_tail]
theorem Qa (n : Nat) (h : n < 18446744073709551616) : mo n = ⟨#[]⟩ := by
 unfold mo more
 by_cases h0 : n = 0
 ·subst h0; rfl
 rw [Qd n h0, show n / 18446744073709551616 = 0 from by omega, Qh]
 rfl
theorem Ju (n : Nat) (h : n < 18446744073709551616) : lo n = n := Nat.mod_eq_of_lt h
theorem Jg6 (n : Nat) (h : n < 18446744073709551616) (h0 : n ≠ 0) : Jf n = [n] := by
 rw [Qd n h0, show n / 18446744073709551616 = 0 from by omega, Qh, Nat.mod_eq_of_lt h]
theorem Ye (n : Nat) (h : ¬ n < 18446744073709551616) : 2 <= (Jf n).length := by
 rw [Qd n (by omega), Qd (n / 18446744073709551616) (by omega)]
 simp
theorem Jba (n : Nat) (h : n ≠ 0) : Jf n = lo n :: (Jf n).tail := by
 rw [Qd n h]
 rfl
def Je (n : Nat) : Nat := if n = 0 then 0 else n.log2 + 1
theorem Jf2 : Je 0 = 0 := rfl
theorem Jg3 (n k : Nat) (h1 : 2 ^ k <= n) (h2 : n < 2 ^ (k + 1)) : Je n = k + 1 := by
 have h0 : n ≠ 0 := by have := Nat.two_pow_pos k; omega
 unfold Je
 rw [if_neg h0, (Nat.log2_eq_iff h0).2 ⟨h1, h2⟩]
theorem Xn (n : Nat) (h : n ≠ 0) : 1 <= Je n /\ 2 ^ (Je n - 1) <= n /\ n < 2 ^ Je n := by
 unfold Je
 rw [if_neg h]
 exact ⟨by omega, Nat.log2_self_le h, Nat.lt_log2_self⟩
theorem Qz (n : Nat) : 0 < Je n ↔ n ≠ 0 := by
 unfold Je
 by_cases h : n = 0
 ·subst h; simp
 simp [h]
theorem Uk (n : Nat) : n < 2 ^ Je n := by
 by_cases h : n = 0
 ·subst h; decide
 exact (Xn n h).2.2
theorem Jeh (a t j : Nat) (ha : a < 2 ^ j) (ht : t ≠ 0) : Je (a + 2 ^ j * t) = j + Je t := by
 obtain ⟨h1, h2, h3⟩ := Xn t ht
 obtain ⟨k, hk⟩ : ∃ k, Je t = k + 1 := ⟨Je t - 1, by omega⟩
 rw [hk] at h2 h3 ⊢
 rw [<- Nat.add_assoc]
 apply Jg3
 ·rw [Nat.pow_add]
  have : 2 ^ j * 2 ^ (k + 1 - 1) <= 2 ^ j * t := Nat.mul_le_mul_left _ h2
  simp at this
  omega
 rw [show j + k + 1 = j + (k + 1) from by omega, Nat.pow_add]
 have : 2 ^ j * (t + 1) <= 2 ^ j * 2 ^ (k + 1) := Nat.mul_le_mul_left _ h3
 rw [Nat.mul_add] at this
 omega
theorem Vb (x : Nat) (h : x < 18446744073709551616) : Lib.bitLen x = Je x := by
 by_cases h0 : x = 0
 ·subst h0; exact Lib.bitLenAux_zero 64
 obtain ⟨h1, h2, h3⟩ := Lib.bitLenAux_bounds 64 x h h0
 unfold Lib.bitLen
 generalize Lib.bitLenAux 64 x = k at *
 obtain ⟨j, rfl⟩ : ∃ j, k = j + 1 := ⟨k - 1, by omega⟩
 rw [Jg3 x j (by simpa using h2) h3]
def top (n : Nat) : Nat := (Jf n).getLastD 0
theorem Xx (n : Nat) (h : n ≠ 0) : Jf n = (Jf n).dropLast ++ [top n] /\ top n ≠ 0 /\ top n < 18446744073709551616 := by
 have j0 : Jf n ≠ [] := by rw [Qd n h]; simp
 have h1 : top n = (Jf n).getLast j0 := by
  unfold top
  rw [List.getLastD_eq_getLast?, List.getLast?_eq_some_getLast j0]
  rfl
 refine ⟨?_, ?_, ?_⟩
 ·rw [h1, List.dropLast_concat_getLast]
 ·have := Jip n
  unfold Jlf at this
  rw [List.getLast?_eq_some_getLast j0] at this
  rw [h1]
  intro h2
  exact this (by rw [h2])
 rw [h1]
 exact Kp n _ (List.getLast_mem j0)
theorem Ky (n : Nat) (h : n ≠ 0) : Je n = 64 * ((Jf n).length - 1) + Je (top n) := by
 obtain ⟨h1, h2, h3⟩ := Xx n h
 have hv := Jao n
 rw [h1, Jiq] at hv
 have hw : W64 (Jf n).dropLast := fun x hx => Kp n x ((List.dropLast_sublist _).subset hx)
 have hl := Jn6 _ hw
 have e : val [top n] = top n := by simp [val]
 rw [e, List.length_dropLast] at hv
 rw [List.length_dropLast] at hl
 have p : (18446744073709551616 : Nat) ^ ((Jf n).length - 1) = 2 ^ (64 * ((Jf n).length - 1)) := by
  rw [Nat.pow_mul]
 rw [p] at hv hl
 have := Jeh _ (top n) _ hl h2
 rw [hv] at this
 exact this
theorem Jmm (n : Nat) (h : ¬ n < 18446744073709551616) : (mo n).data.toList.drop ((mo n).size - 8) = leB (top n) := by
 have hb := Ye n h
 obtain ⟨h1, _, _⟩ := Xx n (by omega)
 rw [Vj]
 have e : (mo n).data.toList = (Jf n).tail.flatMap leB := rfl
 rw [e, show 8 * ((Jf n).length - 1) - 8 = 8 * ((Jf n).length - 2) from by omega, Jfs]
 have hd : (Jf n).tail.drop ((Jf n).length - 2) = [top n] := by
  rw [List.drop_tail]
  rw [show (Jf n).length - 2 + 1 = (Jf n).dropLast.length from by rw [List.length_dropLast]; omega]
  conv => lhs; rw [h1]
  rw [List.dropLast_concat, List.drop_left]
 rw [hd]
 simp
theorem Zw (n k : Nat) (h : n < 2 ^ k) : Je n <= k := by
 by_cases h0 : n = 0
 ·subst h0
  exact Nat.zero_le _
 obtain ⟨h1, h2, h3⟩ := Xn n h0
 rcases Nat.lt_or_ge k (Je n) with h4 | h4
 ·exfalso
  have : 2 ^ k <= 2 ^ (Je n - 1) := Nat.pow_le_pow_right (by omega) (by omega)
  omega
 exact h4
theorem Jz {a b : Nat} (h : a <= b) : Je a <= Je b := Zw _ _ (Nat.lt_of_le_of_lt h (Uk b))
theorem Jej (a b : Nat) : Je (a + b) <= max (Je a) (Je b) + 1 := by
 apply Zw
 have h1 : a < 2 ^ max (Je a) (Je b) := Nat.lt_of_lt_of_le (Uk a) (Nat.pow_le_pow_right (by omega) (by omega))
 have h2 : b < 2 ^ max (Je a) (Je b) := Nat.lt_of_lt_of_le (Uk b) (Nat.pow_le_pow_right (by omega) (by omega))
 rw [Nat.pow_succ]
 omega
theorem Kz (a b : Nat) : Je (a * b) <= Je a + Je b := by
 apply Zw
 rw [Nat.pow_add]
 exact Nat.mul_lt_mul'' (Uk a) (Uk b)
theorem Yd (n : Nat) (h : n < 18446744073709551616) : Je n <= 64 := Zw n 64 (by omega)
theorem Jd3 {n k : Nat} (h : Je n <= k) : n < 2 ^ k := Nat.lt_of_lt_of_le (Uk n) (Nat.pow_le_pow_right (by omega) h)
def Uo : Nat -> Nat -> List Nat
 | 0, _ => []
 | f + 1, n => if n = 0 then [] else n % 4294967296 :: Uo f (n / 4294967296)
def Jc (n : Nat) : List Nat := Uo n n
theorem Jh5 : ∀ (f g n : Nat), n <= f -> n <= g -> Uo f n = Uo g n := by
 intro f
 induction f with
 | zero =>
  intro g n h1 h2
  obtain rfl : n = 0 := by omega
  cases g <;> simp [Uo]
 | succ f ih =>
  intro g n h1 h2
  by_cases h : n = 0
  ·subst h; cases g <;> simp [Uo]
  obtain ⟨g, rfl⟩ : ∃ k, g = k + 1 := ⟨g - 1, by omega⟩
  simp only [Uo, if_neg h]
  rw [ih g _ (by omega) (by omega)]
theorem Ql : Jc 0 = [] := rfl
theorem Yi (n : Nat) (h : n ≠ 0) : Jc n = n % 4294967296 :: Jc (n / 4294967296) := by
 unfold Jc
 obtain ⟨k, rfl⟩ : ∃ k, n = k + 1 := ⟨n - 1, by omega⟩
 rw [show Uo (k + 1) (k + 1) = (k + 1) % 4294967296 :: Uo k ((k + 1) / 4294967296) from by simp only [Uo, if_neg h]]
 rw [Jh5 k _ _ (by omega) zd]
theorem Qg (n : Nat) : dv 4294967296 (Jc n) = n := by
 induction n using Nat.strongRecOn with
 | ind n ih =>
  by_cases h : n = 0
  ·subst h; rw [Ql]; rfl
  rw [Yi n h, Xw, ih _ (by omega)]
  omega
theorem Jq (n : Nat) : Dig 4294967296 (Jc n) := by
 induction n using Nat.strongRecOn with
 | ind n ih =>
  by_cases h : n = 0
  ·subst h; rw [Ql]; exact Dig.nil
  rw [Yi n h]
  exact Dig.cons (Nat.mod_lt _ (by omega)) (ih _ (by omega))
theorem Jja (n : Nat) : (Jc n).getLast? ≠ some 0 := by
 induction n using Nat.strongRecOn with
 | ind n ih =>
  by_cases h : n = 0
  ·subst h; rw [Ql]; simp
  rw [Yi n h]
  by_cases h2 : n / 4294967296 = 0
  ·rw [h2, Ql]
   simp
   omega
  rw [Yi _ h2, List.getLast?_cons_cons, <- Yi _ h2]
  exact ih _ (by omega)
theorem Jkx : ∀ (l : List Nat), Dig 4294967296 l -> l.getLast? ≠ some 0 -> Jc (dv 4294967296 l) = l := by
 intro l
 induction l with
 | nil => intro _ _; rfl
 | cons x r ih =>
  intro hw ht
  have hx : x < 4294967296 := hw x (by simp)
  have hr : Dig 4294967296 r := fun y hy => hw y (by simp [hy])
  cases r with
  | nil =>
   have h0 : x ≠ 0 := by simpa using ht
   rw [Xw, Up, Nat.mul_zero, Nat.add_zero, Yi x h0, Nat.mod_eq_of_lt hx, Nat.div_eq_of_lt hx, Ql]
  | cons y s =>
   have h1 := ih hr (by rwa [List.getLast?_cons_cons] at ht)
   have j0 : dv 4294967296 (y :: s) ≠ 0 := fun h => by rw [h, Ql] at h1; cases h1
   rw [Xw]
   generalize dv 4294967296 (y :: s) = z at *
   rw [Yi _ (by omega), show (x + 4294967296 * z) % 4294967296 = x by omega, show (x + 4294967296 * z) / 4294967296 = z by omega, h1]
theorem Jma (l : List Nat) (h : Dig 4294967296 l) : Jc (dv 4294967296 l) = trimL l := by
 rw [<- Jdi (β := 4294967296) l]
 exact Jkx _ h.trimL (Jdh l)
theorem Xj (n : Nat) : n < 4294967296 ^ (Jc n).length := by
 have := Xm (Jq n)
 rwa [Qg] at this
theorem Kn (n : Nat) : (Jc n).length = 0 ↔ n = 0 := by
 constructor
 ·intro h
  have := Xj n
  rw [h] at this
  simpa using this
 intro h
 rw [h, Ql]
 rfl
theorem Jci (n : Nat) (h : n ≠ 0) : ∃ t, (Jc n)[(Jc n).length - 1]? = some t /\ t ≠ 0 /\ t < 4294967296 := by
 have h1 : 0 < (Jc n).length := by
  rcases Nat.eq_zero_or_pos (Jc n).length with h0 | h0
  ·exact absurd ((Kn n).1 h0) h
  exact h0
 refine ⟨(Jc n)[(Jc n).length - 1], List.getElem?_eq_getElem (by omega), ?_, ?_⟩
 ·intro h2
  apply Jja n
  rw [List.getLast?_eq_getElem?, List.getElem?_eq_getElem (by omega), h2]
 exact Jq n _ (List.getElem_mem _)
theorem Jd4 (n : Nat) (h : n ≠ 0) : 4294967296 ^ ((Jc n).length - 1) <= n := by
 obtain ⟨t, h1, h2, h3⟩ := Jci n h
 have := Jfw (β := 4294967296) h1
 rw [Qg] at this
 refine nt ?_ this
 exact Nat.le_mul_of_pos_left _ (by omega)
theorem Jbw {a b : Nat} (h : (Jc a).length < (Jc b).length) : a < b := by
 have hb : b ≠ 0 := fun e => by subst e; rw [Ql] at h; simp at h
 refine Nat.lt_of_lt_of_le (Xj a) (nt ?_ (Jd4 b hb))
 exact Nat.pow_le_pow_right (by omega) (by omega)
theorem Jbx {n k : Nat} (h : n < 4294967296 ^ k) : (Jc n).length <= k := by
 rcases Nat.lt_or_ge k (Jc n).length with h1 | h1
 ·have hn : n ≠ 0 := fun e => by subst e; rw [Ql] at h1; simp at h1
  have h2 := Jd4 n hn
  have h3 : 4294967296 ^ k <= 4294967296 ^ ((Jc n).length - 1) := Nat.pow_le_pow_right (by omega) (by omega)
  omega
 exact h1
theorem Yc {a b : Nat} (h : a <= b) : (Jc a).length <= (Jc b).length := Jbx (Nat.lt_of_le_of_lt h (Xj b))
theorem Jhu (k : Nat) : (4294967296 : Nat) ^ k = 2 ^ (32 * k) := by rw [Nat.pow_mul]
theorem Vl (n k : Nat) (h : Je n <= 32 * k) : (Jc n).length <= k := Jbx (by rw [Jhu]; exact Jd3 h)
theorem Jei (n : Nat) : Je n <= 32 * (Jc n).length := Zw _ _ (by rw [<- Jhu]; exact Xj n)
theorem Jad (n : Nat) (hn : Je n <= 1099511627776) : (Jc n).length <= 34359738368 := Vl n _ (by omega)
theorem Jfn (n : Nat) (h : n < 4294967296) (h0 : n ≠ 0) : Jc n = [n] := by
 rw [Yi n h0, Nat.mod_eq_of_lt h, Nat.div_eq_of_lt h, Ql]
theorem Jil {n t : Nat} (h : (Jc n)[(Jc n).length - 1]? = some t) (ht : t ≠ 0) : Je n = 32 * ((Jc n).length - 1) + Je t := by
 have o8 : (Jc n).length - 1 < (Jc n).length := (List.getElem?_eq_some_iff.1 h).1
 have e := Xl (β := 4294967296) (l := Jc n) ((Jc n).length - 1) (by omega)
 have e2 := Qb (β := 4294967296) h
 rw [show (Jc n).length - 1 + 1 = (Jc n).length by omega, Xe zd, Nat.mul_zero, Nat.add_zero] at e2
 rw [Qg, e2] at e
 have hl := Xm ((Jq n).take ((Jc n).length - 1))
 rw [List.length_take, Nat.min_eq_left (by omega), Jhu] at hl
 rw [Jhu] at e
 have := Jeh _ t _ hl ht
 rw [<- e] at this
 exact this
