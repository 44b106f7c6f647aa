import Derived.Test.YtacbcaebaomglaaGreatDoorMem
import Derived.Lib.ItoaNum
namespace Go.Proofs.YtacbcaebaomglaaGreatDoor
set_option linter.all false
def dv (β : Nat) : List Nat -> Nat
 | [] => 0
 | x :: r => x + β * dv β r
def Dig (β : Nat) (l : List Nat) : Prop := ∀ x ∈ l, x < β
section
variable {β : Nat} {l r : List Nat}
theorem Ur : dv β [] = 0 := rfl
theorem Xm (x : Nat) (r : List Nat) : dv β (x :: r) = x + β * dv β r := rfl
theorem Yh (a b : List Nat) : dv β (a ++ b) = dv β a + β ^ a.length * dv β b := by
 induction a with
 | nil => simp [dv]
 | cons x r ih =>
  simp only [List.cons_append, dv, List.length_cons, ih]
  rw [Nat.pow_succ, Nat.mul_add, Nat.mul_comm (β ^ r.length) β, Nat.mul_assoc, Nat.add_assoc]
theorem Dig.nil : Dig β [] := fun x h => by cases h
theorem Dig.cons {x : Nat} (hx : x < β) (h : Dig β r) : Dig β (x :: r) := fun y hy => by
 rcases List.mem_cons.1 hy with rfl | hy
 ·exact hx
 exact h y hy
theorem Dig.append (h : Dig β l) (h' : Dig β r) : Dig β (l ++ r) := fun y hy => by
 rcases List.mem_append.1 hy with hy | hy
 ·exact h y hy
 exact h' y hy
theorem Dig.take (h : Dig β l) (k : Nat) : Dig β (l.take k) := fun x hx => h x (List.mem_of_mem_take hx)
theorem Dig.drop (h : Dig β l) (k : Nat) : Dig β (l.drop k) := fun x hx => h x (List.mem_of_mem_drop hx)
theorem Dig.get (h : Dig β l) {k x : Nat} (hx : l[k]? = some x) : x < β := h x (List.mem_of_getElem? hx)
theorem Dig.set_ (h : Dig β l) (k : Nat) {x : Nat} (hx : x < β) : Dig β (l.set k x) := fun y hy => by
 rcases List.mem_or_eq_of_mem_set hy with hy | rfl
 ·exact h y hy
 exact hx
theorem Dig.rep (hβ : 0 < β) (n : Nat) : Dig β (List.replicate n 0) := fun x hx => by
 rw [(List.mem_replicate.1 hx).2]
 exact hβ
theorem Yo (n : Nat) : dv β (List.replicate n 0) = 0 := by
 induction n with
 | zero => rfl
 | succ n ih => rw [List.replicate_succ, Xm, ih]; simp
theorem Xf (h : Dig β l) : dv β l < β ^ l.length := by
 induction l with
 | nil => simp [dv]
 | cons x r ih =>
  have hx : x < β := h x (by simp)
  have h1 := ih (fun y hy => h y (by simp [hy]))
  simp only [dv, List.length_cons, Nat.pow_succ]
  have h2 : β * (dv β r + 1) <= β * β ^ r.length := Nat.mul_le_mul_left _ h1
  rw [Nat.mul_add, Nat.mul_one] at h2
  rw [Nat.mul_comm (β ^ r.length) β]
  omega
theorem Qz (k : Nat) (hk : k <= l.length) : dv β l = dv β (l.take k) + β ^ k * dv β (l.drop k) := by
 have h := Yh (β := β) (l.take k) (l.drop k)
 rw [List.take_append_drop, List.length_take, Nat.min_eq_left hk] at h
 exact h
theorem Yd {k x : Nat} (s : Nat) (hx : l[k]? = some x) : dv β (l.set k s) + x * β ^ k = dv β l + s * β ^ k := by
 induction l generalizing k with
 | nil => simp at hx
 | cons y r ih =>
  cases k with
  | zero =>
   simp at hx
   subst hx
   simp only [List.set_cons_zero, dv, Nat.pow_zero, Nat.mul_one]
   omega
  | succ k =>
   rw [List.getElem?_cons_succ] at hx
   have h1 := ih hx
   simp only [List.set_cons_succ, dv, Nat.pow_succ]
   rw [<- Nat.mul_assoc, <- Nat.mul_assoc, Nat.mul_comm _ β, Nat.mul_comm (s * β ^ k) β, Nat.add_assoc, Nat.add_assoc, <- Nat.mul_add, <- Nat.mul_add, h1]
theorem Jt {k x : Nat} (hx : l[k]? = some x) : dv β (l.take (k + 1)) = dv β (l.take k) + x * β ^ k := by
 have hk : k < l.length := (List.getElem?_eq_some_iff.1 hx).1
 rw [List.take_add_one, hx, Option.toList_some, Yh, List.length_take, Nat.min_eq_left (by omega)]
 simp only [dv, Nat.mul_zero, Nat.add_zero]
 rw [Nat.mul_comm]
theorem Qj {k : Nat} (hk : l.length <= k) : dv β (l.take k) = dv β l := by rw [List.take_of_length_le hk]
theorem Jv {k x : Nat} (hx : l[k]? = some x) : dv β (l.drop k) = x + β * dv β (l.drop (k + 1)) := by
 have hk : k < l.length := (List.getElem?_eq_some_iff.1 hx).1
 rw [List.drop_eq_getElem_cons hk, Xm]
 rw [List.getElem?_eq_getElem hk] at hx
 rw [Option.some.inj hx]
theorem Qv {k : Nat} (hk : l.length <= k) : dv β (l.drop k) = 0 := by rw [List.drop_of_length_le hk]; rfl
theorem Zh (h : Dig β l) (hβ : 0 < β) (k : Nat) : dv β l / β ^ k = dv β (l.drop k) := by
 rcases Nat.lt_or_ge k l.length with hk | hk
 ·rw [Qz k (by omega), Nat.add_mul_div_left _ _ (Nat.pow_pos hβ), Nat.div_eq_of_lt, Nat.zero_add]
  have := Xf (h.take k)
  rw [List.length_take, Nat.min_eq_left (by omega)] at this
  exact this
 rw [Qv hk, Nat.div_eq_of_lt]
 exact Nat.lt_of_lt_of_le (Xf h) (Nat.pow_le_pow_right hβ hk)
theorem Jlo (h : Dig β l) (hβ : 0 < β) (k : Nat) : dv β l % β ^ k = dv β (l.take k) := by
 rcases Nat.lt_or_ge k l.length with hk | hk
 ·rw [Qz k (by omega), Nat.add_mul_mod_self_left, Nat.mod_eq_of_lt]
  have := Xf (h.take k)
  rw [List.length_take, Nat.min_eq_left (by omega)] at this
  exact this
 rw [Qj hk, Nat.mod_eq_of_lt]
 exact Nat.lt_of_lt_of_le (Xf h) (Nat.pow_le_pow_right hβ hk)
theorem Jdk {k x : Nat} (hx : l[k]? = some x) : x * β ^ k <= dv β l := by
 have hk : k < l.length := (List.getElem?_eq_some_iff.1 hx).1
 rw [Qz k (by omega), Jv hx, Nat.mul_add, Nat.mul_comm x]
 omega
theorem Yw {k : Nat} (h : Dig β l) (hβ : 0 < β) (j9 : dv β l < β ^ k) : dv β (l.drop k) = 0 := by
 rw [<- Zh h hβ, Nat.div_eq_of_lt j9]
theorem Jaj {k x : Nat} (hβ : 0 < β) (h0 : dv β l = 0) (hx : l[k]? = some x) : x = 0 := by
 have h1 := Jdk (β := β) hx
 rw [h0] at h1
 have h2 : 0 < β ^ k := Nat.pow_pos hβ
 rcases Nat.eq_zero_or_pos x with h3 | h3
 ·exact h3
 have := Nat.mul_pos h3 h2
 omega
def trimL : List Nat -> List Nat
 | [] => []
 | x :: r => if x = 0 /\ trimL r = [] then [] else x :: trimL r
theorem Jbh (l : List Nat) : dv β (trimL l) = dv β l := by
 induction l with
 | nil => rfl
 | cons x r ih =>
  simp only [trimL]
  split
  ·rename_i h
   rw [h.2] at ih
   rw [Xm, <- ih, h.1]
   simp [dv]
  rw [Xm, Xm, ih]
theorem Kg (l : List Nat) : (trimL l).length <= l.length := by
 induction l with
 | nil => simp [trimL]
 | cons x r ih =>
  simp only [trimL]
  split
  ·simp
  simp [ih]
theorem Xx (l : List Nat) : trimL l = l.take (trimL l).length := by
 induction l with
 | nil => rfl
 | cons x r ih =>
  simp only [trimL]
  split
  ·simp
  rw [List.length_cons, List.take_succ_cons, <- ih]
theorem Jey (l : List Nat) : trimL (l ++ [0]) = trimL l := by
 induction l with
 | nil => rfl
 | cons x r ih => simp only [List.cons_append, trimL, ih]
theorem Jf0 (l : List Nat) (x : Nat) (hx : x ≠ 0) : trimL (l ++ [x]) = l ++ [x] := by
 induction l with
 | nil => simp [trimL, hx]
 | cons y r ih => simp [trimL, ih]
theorem Jbg (l : List Nat) : (trimL l).getLast? ≠ some 0 := by
 induction l with
 | nil => simp [trimL]
 | cons x r ih =>
  simp only [trimL]
  split
  ·simp
  rename_i h
  by_cases hr : trimL r = []
  ·rw [hr]
   simp
   intro hx
   exact h ⟨hx, hr⟩
  rw [List.getLast?_cons]
  obtain ⟨y, hy⟩ : ∃ y, (trimL r).getLast? = some y := by
   cases h1 : (trimL r).getLast? with
   | none => exact absurd (List.getLast?_eq_none_iff.1 h1) hr
   | some y => exact ⟨y, rfl⟩
  rw [hy] at ih ⊢
  simpa using ih
theorem Dig.trimL (h : Dig β l) : Dig β (trimL l) := by
 rw [Xx]
 exact h.take _
end
theorem Jfm {β P T D X V g : Nat} (hP : 0 < P) (hT : X / P = T) (hD : V / P = D) (hX : X < β * V) (o7 : β <= D + 1) (hg : g < β) (l5 : g * D <= T) (j7 : g + 1 < β -> T < (g + 1) * D) :
  X / V <= g /\ g <= X / V + 1 := by
 have hV : 0 < V := by
  rcases Nat.eq_zero_or_pos V with h | h
  ·subst h; simp at hX
  exact h
 have o8 : P * T <= X /\ X < P * T + P := by
  rw [<- hT]
  have h1 := Nat.div_add_mod X P
  have h2 := Nat.mod_lt X hP
  omega
 have l7 : P * D <= V /\ V < P * D + P := by
  rw [<- hD]
  have h1 := Nat.div_add_mod V P
  have h2 := Nat.mod_lt V hP
  omega
 constructor
 ·
  by_cases j8 : g + 1 < β
  ·have hm := j7 j8
   apply Nat.le_of_lt_succ
   rw [Nat.div_lt_iff_lt_mul hV]
   have h1 : P * (T + 1) <= P * ((g + 1) * D) := Nat.mul_le_mul_left _ hm
   have h2 : P * ((g + 1) * D) = (g + 1) * (P * D) := by rw [Nat.mul_left_comm]
   have h3 : (g + 1) * (P * D) <= (g + 1) * V := Nat.mul_le_mul_left _ l7.1
   rw [Nat.mul_add, Nat.mul_one] at h1
   exact Nat.lt_of_lt_of_le (by omega) (nt (Nat.le_of_eq h2) h3)
  obtain rfl : β = g + 1 := by omega
  exact Nat.le_of_lt_succ ((Nat.div_lt_iff_lt_mul hV).2 hX)
 
 cases g with
 | zero => exact Nat.zero_le _
 | succ k =>
  apply Nat.succ_le_succ
  rw [Nat.le_div_iff_mul_le hV]
  have h1 : k * V <= k * (P * D + P) := Nat.mul_le_mul_left _ (by omega)
  have h2 : k * (P * D + P) = P * (k * D + k) := by
   rw [Nat.mul_add, Nat.mul_left_comm, Nat.mul_comm k P, <- Nat.mul_add]
  have h3 : k * D + k <= T := by
   rw [Nat.succ_mul] at l5
   omega
  have h4 : P * (k * D + k) <= P * T := Nat.mul_le_mul_left _ h3
  omega
section
variable {β : Nat} {l : List Nat}
theorem Kq {i a b c s c' X : Nat} (hx : l[i]? = some a) (hs : s + β * c' = a + b + c) (he : dv β l + c * β ^ i = X) : dv β (l.set i s) + c' * β ^ (i + 1) = X + b * β ^ i := by
 have h1 := Yd (β := β) s hx
 have h2 := congrArg (· * β ^ i) hs
 simp only [Nat.add_mul] at h2
 have h3 : c' * β ^ (i + 1) = β * c' * β ^ i := by rw [Nat.pow_succ, <- Nat.mul_assoc, Nat.mul_right_comm, Nat.mul_comm c' β]
 rw [h3]
 omega
theorem Kh {i a b c s c' X Y : Nat} (hx : l[i]? = some a) (hs : s + b + c = a + β * c') (he : dv β l + Y = X + c * β ^ i) : dv β (l.set i s) + (Y + b * β ^ i) = X + c' * β ^ (i + 1) := by
 have h1 := Yd (β := β) s hx
 have h2 := congrArg (· * β ^ i) hs
 simp only [Nat.add_mul] at h2
 have h3 : c' * β ^ (i + 1) = β * c' * β ^ i := by rw [Nat.pow_succ, <- Nat.mul_assoc, Nat.mul_right_comm, Nat.mul_comm c' β]
 rw [h3]
 omega
theorem Jfr {a m n c s c' : Nat} (ha : a < β) (hm : m < β) (hn : n < β) (hc : c < β) (hs : s + β * c' = a + m * n + c) : c' < β := by
 rcases Nat.lt_or_ge c' β with h | h
 ·exact h
 exfalso
 have h1 : β * β <= β * c' := Nat.mul_le_mul_left _ h
 have h2 : m * n <= (β - 1) * (β - 1) := Nat.mul_le_mul (by omega) (by omega)
 obtain ⟨k, rfl⟩ : ∃ k, β = k + 1 := ⟨β - 1, by omega⟩
 rw [Nat.add_sub_cancel] at h2
 have h3 : (k + 1) * (k + 1) = k * k + 2 * k + 1 := by
  rw [Nat.add_mul, Nat.mul_add]
  omega
 omega
end
def GI (β v1 v0 u u0 g R : Nat) : Prop := g * v1 + R = u /\ (g + 1 < β -> u * β + u0 < (g + 1) * (v1 * β + v0))
section
variable {β v1 v0 u u0 g R : Nat}
theorem Jee (hv : 0 < v1) (h0 : u0 < β) : GI β v1 v0 u u0 (u / v1) (u % v1) := by
 refine ⟨by rw [Nat.mul_comm]; exact Nat.div_add_mod u v1, fun _ => ?_⟩
 have h1 := Nat.div_add_mod u v1
 have h2 := Nat.mod_lt u hv
 have h3 : u + 1 <= (u / v1 + 1) * v1 := by rw [Nat.add_mul, Nat.one_mul, Nat.mul_comm (u / v1)]; omega
 have h4 := Nat.mul_le_mul_right β h3
 rw [Nat.add_mul u 1] at h4
 have h5 : (u / v1 + 1) * v1 * β <= (u / v1 + 1) * (v1 * β + v0) := by
  rw [Nat.mul_assoc]
  exact Nat.mul_le_mul_left _ (by omega)
 omega
theorem Jln (u1 : Nat) (hu : u = β * v1 + u1) (hβ : 0 < β) : GI β v1 v0 u u0 (β - 1) (u1 + v1) := by
 refine ⟨?_, fun h => by omega⟩
 obtain ⟨k, rfl⟩ : ∃ k, β = k + 1 := ⟨β - 1, by omega⟩
 rw [hu, Nat.add_sub_cancel, Nat.add_mul]
 omega
theorem Yb (h : GI β v1 v0 u u0 g R) (hg : β <= g \/ R * β + u0 < g * v0) (h0 : 0 < g) : GI β v1 v0 u u0 (g - 1) (R + v1) := by
 obtain ⟨k, rfl⟩ : ∃ k, g = k + 1 := ⟨g - 1, by omega⟩
 obtain ⟨h1, h2⟩ := h
 rw [Nat.add_sub_cancel]
 refine ⟨by rw [<- h1, Nat.add_mul]; omega, fun hk => ?_⟩
 rcases hg with hg | hg
 ·omega
 rw [<- h1, Nat.mul_add, Nat.add_mul, <- Nat.mul_assoc]
 omega
theorem Yv (h : GI β v1 v0 u u0 g R) (j8 : g < β) (o9 : v0 < β) (hg : β <= R \/ g * v0 <= R * β + u0) : g * (v1 * β + v0) <= u * β + u0 := by
 obtain ⟨h1, h2⟩ := h
 rw [<- h1, Nat.mul_add, Nat.add_mul, <- Nat.mul_assoc]
 rcases hg with hg | hg
 ·have h3 : g * v0 <= β * β := Nat.mul_le_mul (by omega) (by omega)
  have h4 : β * β <= R * β := Nat.mul_le_mul_right _ hg
  omega
 omega
theorem Jg5 (h : GI β v1 v0 u u0 g R) (hR : β <= R) (hu : u < (v1 + 1) * β) : g < β := by
 obtain ⟨h1, h2⟩ := h
 rw [Nat.add_mul] at hu
 rcases Nat.lt_or_ge g β with h | h
 ·exact h
 have := Nat.mul_le_mul_right v1 h
 rw [Nat.mul_comm v1 β] at hu
 omega
end
section
variable {X X' V P M g : Nat}
theorem Jb8 (j6 : 0 < V * P) (hg : X / (V * P) <= g) (he : X' + g * V * P = X) : g = X / (V * P) /\ X' = X % (V * P) := by
 have h1 : g * (V * P) <= X := by rw [<- Nat.mul_assoc]; omega
 have h2 : g <= X / (V * P) := (Nat.le_div_iff_mul_le j6).2 h1
 have h3 : g = X / (V * P) := by omega
 refine ⟨h3, ?_⟩
 have h4 := Nat.div_add_mod X (V * P)
 rw [<- h3, Nat.mul_comm (V * P) g, <- Nat.mul_assoc] at h4
 omega
theorem Jb9 {c Y : Nat} (j6 : 0 < V * P) (p0 : V * P <= M) (hg : g <= X / (V * P) + 1) (he : X' + g * V * P = X + M) (p7 : X' < M) (hY : Y < M) (hb : Y + c * M = X' + V * P) :
  0 < g /\ g - 1 = X / (V * P) /\ Y = X % (V * P) := by
 have h0 := Nat.div_add_mod X (V * P)
 have hm := Nat.mod_lt X j6
 have h1 : X < g * (V * P) := by rw [<- Nat.mul_assoc]; omega
 have h2 : X / (V * P) < g := (Nat.div_lt_iff_lt_mul j6).2 h1
 have h3 : g = X / (V * P) + 1 := by omega
 generalize X / (V * P) = q at *
 subst h3
 refine ⟨by omega, by omega, ?_⟩
 have h4 : (q + 1) * V * P = V * P * q + V * P := by rw [Nat.mul_assoc, Nat.add_mul, Nat.one_mul, Nat.mul_comm q]
 rw [h4] at he
 have hc : c = 1 := by
  rcases Nat.lt_or_ge c 1 with h | h
  ·obtain rfl : c = 0 := by omega
   omega
  rcases Nat.lt_or_ge c 2 with h5 | h5
  ·omega
  have := Nat.mul_le_mul_right M h5
  omega
 subst hc
 omega
end
theorem Jg (n : Nat) : IntKind.u64.wrap (n : Int) = ((n % 18446744073709551616 : Nat) : Int) := by
 simp [IntKind.wrap, IntKind.bits, IntKind.signed]
theorem Jy (n : Nat) : IntKind.u32.wrap (n : Int) = ((n % 4294967296 : Nat) : Int) := by
 simp [IntKind.wrap, IntKind.bits, IntKind.signed]
theorem Jld (a b : Nat) (ha : a < 4294967296) (hb : b < 4294967296) : bits .or .u32 (a : Int) (b : Int) = ((a ||| b : Nat) : Int) := by
 have h : a ||| b < 2 ^ 32 := Nat.or_lt_two_pow (by omega) (by omega)
 have e8 : a % 2 ^ 32 = a := Nat.mod_eq_of_lt (by omega)
 have e9 : b % 2 ^ 32 = b := Nat.mod_eq_of_lt (by omega)
 have e : bits .or .u32 (a : Int) (b : Int) = IntKind.u32.wrap (((BitVec.ofInt 32 (a : Int)) ||| (BitVec.ofInt 32 (b : Int))).toNat : Int) := rfl
 rw [e, BitVec.ofInt_natCast, BitVec.ofInt_natCast, BitVec.toNat_or, BitVec.toNat_ofNat, BitVec.toNat_ofNat, e8, e9, Jy, Nat.mod_eq_of_lt (by omega)]
theorem Ul (a b : Nat) (ha : a < 18446744073709551616) (hb : b < 18446744073709551616) : bits .or .u64 (a : Int) (b : Int) = ((a ||| b : Nat) : Int) := by
 have h : a ||| b < 2 ^ 64 := Nat.or_lt_two_pow (by omega) (by omega)
 have e8 : a % 2 ^ 64 = a := Nat.mod_eq_of_lt (by omega)
 have e9 : b % 2 ^ 64 = b := Nat.mod_eq_of_lt (by omega)
 have e : bits .or .u64 (a : Int) (b : Int) = IntKind.u64.wrap (((BitVec.ofInt 64 (a : Int)) ||| (BitVec.ofInt 64 (b : Int))).toNat : Int) := rfl
 rw [e, BitVec.ofInt_natCast, BitVec.ofInt_natCast, BitVec.toNat_or, BitVec.toNat_ofNat, BitVec.toNat_ofNat, e8, e9, Jg, Nat.mod_eq_of_lt (by omega)]
theorem Jg9 (a b : Nat) (ha : a < 18446744073709551616) (hb : b < 18446744073709551616) : bits .and .u64 (a : Int) (b : Int) = ((a &&& b : Nat) : Int) := by
 have h : a &&& b < 2 ^ 64 := Nat.and_lt_two_pow _ (by omega)
 have e8 : a % 2 ^ 64 = a := Nat.mod_eq_of_lt (by omega)
 have e9 : b % 2 ^ 64 = b := Nat.mod_eq_of_lt (by omega)
 have e : bits .and .u64 (a : Int) (b : Int) = IntKind.u64.wrap (((BitVec.ofInt 64 (a : Int)) &&& (BitVec.ofInt 64 (b : Int))).toNat : Int) := rfl
 rw [e, BitVec.ofInt_natCast, BitVec.ofInt_natCast, BitVec.toNat_and, BitVec.toNat_ofNat, BitVec.toNat_ofNat, e8, e9, Jg, Nat.mod_eq_of_lt (by omega)]
theorem Uz {k : IntKind} {a b : Int} (h : a = b) : Ending.returned (.int k a) = .returned (.int k b) := by rw [h]
namespace Dice
def Jla (s : Nat) : Nat := (s + 11400714819323198485) % 18446744073709551616
def mixA (z : Nat) : Nat := ((z ^^^ (z / 1073741824)) * 13787848793156543929) % 18446744073709551616
def mixB (z : Nat) : Nat := ((z ^^^ (z / 134217728)) * 10723151780598845931) % 18446744073709551616
def mixC (z : Nat) : Nat := z ^^^ (z / 2147483648)
def mix (z : Nat) : Nat := mixC (mixB (mixA z))
def next (s : Nat) : Nat := mix (Jla s)
def Jj1 : Nat -> Nat -> Nat -> Nat × Nat
 | 0, _, s => (0, s)
 | f + 1, Jgb, s => if next s <= Jgb then (next s, Jla s) else Jj1 f Jgb (Jla s)
noncomputable def fuelX : { n : Nat // 36893488147419103232 <= n } := Classical.choice ⟨⟨36893488147419103232, Nat.le_refl _⟩⟩
noncomputable def Jl9 : Nat := fuelX.1
noncomputable def Jlp (Jgb s : Nat) : Nat × Nat := Jj1 Jl9 Jgb s
attribute [irreducible] Jlp
def Jgb (n : Nat) : Nat := 18446744073709551615 - (18446744073709551615 % n + 1) % n
noncomputable def below (n s : Nat) : Nat × Nat := ((Jlp (Jgb n) s).1 % n, (Jlp (Jgb n) s).2)
attribute [irreducible] below
end Dice
def Ka : Nat -> Nat -> List Nat
 | 0, _ => []
 | f + 1, n => if n = 0 then [] else n % 18446744073709551616 :: Ka f (n / 18446744073709551616)
def Jf (n : Nat) : List Nat := Ka n n
def val : List Nat -> Nat
 | [] => 0
 | x :: r => x + 18446744073709551616 * val r
def W64 (l : List Nat) : Prop := ∀ x ∈ l, x < 18446744073709551616
def Jie (l : List Nat) : Prop := l.getLast? ≠ some 0
theorem Jes : ∀ (f g n : Nat), n <= f -> n <= g -> Ka f n = Ka g n := by
 intro f
 induction f with
 | zero =>
  intro g n h1 h2
  obtain rfl : n = 0 := by omega
  cases g <;> simp [Ka]
 | succ f ih =>
  intro g n h1 h2
  by_cases h : n = 0
  ·subst h; cases g <;> simp [Ka]
  obtain ⟨g, rfl⟩ : ∃ k, g = k + 1 := ⟨g - 1, by omega⟩
  simp only [Ka, if_neg h]
  rw [ih g _ (by omega) (by omega)]
theorem Qd : Jf 0 = [] := rfl
theorem Qb (n : Nat) (h : n ≠ 0) : Jf n = n % 18446744073709551616 :: Jf (n / 18446744073709551616) := by
 unfold Jf
 obtain ⟨k, rfl⟩ : ∃ k, n = k + 1 := ⟨n - 1, by omega⟩
 rw [show Ka (k + 1) (k + 1) = (k + 1) % 18446744073709551616 :: Ka k ((k + 1) / 18446744073709551616) from by simp only [Ka, if_neg h]]
 rw [Jes k _ _ (by omega) zd]
theorem Ux (n : Nat) : val (Jf n) = n := by
 induction n using Nat.strongRecOn with
 | ind n ih =>
  by_cases h : n = 0
  ·subst h; rw [Qd]; rfl
  rw [Qb n h]
  simp only [val]
  rw [ih _ (by omega)]
  omega
theorem Yi (n : Nat) : W64 (Jf n) := by
 induction n using Nat.strongRecOn with
 | ind n ih =>
  by_cases h : n = 0
  ·subst h; rw [Qd]; intro x hx; cases hx
  rw [Qb n h]
  intro x hx
  rcases List.mem_cons.1 hx with rfl | hx
  ·exact Nat.mod_lt _ (by omega)
  exact ih _ (by omega) x hx
theorem Jfy (n : Nat) : Jie (Jf n) := by
 induction n using Nat.strongRecOn with
 | ind n ih =>
  unfold Jie
  by_cases h : n = 0
  ·subst h; rw [Qd]; simp
  rw [Qb n h]
  by_cases h2 : n / 18446744073709551616 = 0
  ·rw [h2, Qd]
   simp
   omega
  rw [Qb _ h2, List.getLast?_cons_cons, <- Qb _ h2]
  exact ih _ (by omega)
theorem Jhf : ∀ (l : List Nat), W64 l -> Jie l -> Jf (val l) = l := by
 intro l
 induction l with
 | nil => intro _ _; rfl
 | cons x r ih =>
  intro hw ht
  have hx : x < 18446744073709551616 := hw x (by simp)
  have hr : W64 r := fun y hy => hw y (by simp [hy])
  have o0 : Jie r := by
   unfold Jie at *
   cases r with
   | nil => simp
   | cons y s => rw [List.getLast?_cons_cons] at ht; exact ht
  have ih' := ih hr o0
  simp only [val]
  by_cases h : x + 18446744073709551616 * val r = 0
  ·have h1 : val r = 0 := by omega
   rw [h1, Qd] at ih'
   subst ih'
   have : x = 0 := by omega
   subst this
   exact absurd rfl ht
  rw [Qb _ h, show (x + 18446744073709551616 * val r) % 18446744073709551616 = x from by omega, show (x + 18446744073709551616 * val r) / 18446744073709551616 = val r from by omega, ih']
theorem Jfz (a b : List Nat) : val (a ++ b) = val a + 18446744073709551616 ^ a.length * val b := by
 induction a with
 | nil => simp [val]
 | cons x r ih =>
  simp only [List.cons_append, val, List.length_cons, ih]
  rw [Nat.pow_succ, Nat.mul_add, Nat.mul_comm (18446744073709551616 ^ r.length) 18446744073709551616, Nat.mul_assoc, Nat.add_assoc]
theorem Jk6 (l : List Nat) (h : W64 l) : val l < 18446744073709551616 ^ l.length := by
 induction l with
 | nil => simp [val]
 | cons x r ih =>
  have hx : x < 18446744073709551616 := h x (by simp)
  have := ih (fun y hy => h y (by simp [hy]))
  simp only [val, List.length_cons, Nat.pow_succ]
  omega
def leB (x : Nat) : List UInt8 := [UInt8.ofNat x, UInt8.ofNat (x / 256), UInt8.ofNat (x / 65536), UInt8.ofNat (x / 16777216), UInt8.ofNat (x / 4294967296), UInt8.ofNat (x / 1099511627776), UInt8.ofNat (x / 281474976710656), UInt8.ofNat (x / 72057594037927936)]
theorem Jah (x : Nat) : (leB x).length = 8 := rfl
def more (n : Nat) : List UInt8 := (Jf n).tail.flatMap leB
def mo (n : Nat) : ByteArray := ⟨(more n).toArray⟩
def lo (n : Nat) : Nat := n % 18446744073709551616
def Jh (n : Nat) : Value := .agg #[.int .u64 (lo n : Int), .string (mo n)]
theorem Jb2 (l : List Nat) : (l.flatMap leB).length = 8 * l.length := by
 induction l with
 | nil => rfl
 | cons x r ih => simp only [List.flatMap_cons, List.length_append, ih, Jah, List.length_cons]; omega
theorem Jdg (l : List Nat) : ∀ k, (l.flatMap leB).drop (8 * k) = (l.drop k).flatMap leB := by
 induction l with
 | nil => intro k; simp
 | cons x r ih =>
  intro k
  cases k with
  | zero => rfl
  | succ k =>
   rw [List.flatMap_cons, List.drop_succ_cons, <- ih k, show 8 * (k + 1) = (leB x).length + 8 * k from by rw [Jah]; omega]
   rw [List.drop_append, List.drop_of_length_le (by omega)]
   simp
theorem Kx (n : Nat) : (mo n).size = 8 * ((Jf n).length - 1) := by
 show (more n).toArray.size = _
 unfold more
 rw [List.size_toArray, Jb2, List.length_tail]
theorem Ju (n : Nat) (h : n < 18446744073709551616) : mo n = ⟨#[]⟩ := by
 unfold mo more
 by_cases h0 : n = 0
 ·subst h0; rfl
 rw [Qb n h0, show n / 18446744073709551616 = 0 from by omega, Qd]
 rfl
theorem Jo (n : Nat) (h : n < 18446744073709551616) : lo n = n := Nat.mod_eq_of_lt h
theorem Jeq (n : Nat) (h : n < 18446744073709551616) (h0 : n ≠ 0) : Jf n = [n] := by
 rw [Qb n h0, show n / 18446744073709551616 = 0 from by omega, Qd, Nat.mod_eq_of_lt h]
theorem Za (n : Nat) (h : ¬ n < 18446744073709551616) : 2 <= (Jf n).length := by
 rw [Qb n (by omega), Qb (n / 18446744073709551616) (by omega)]
 simp
theorem Vo (n : Nat) (h : n ≠ 0) : Jf n = lo n :: (Jf n).tail := by
 rw [Qb n h]
 rfl
def Je (n : Nat) : Nat := if n = 0 then 0 else n.log2 + 1
theorem Jdq : Je 0 = 0 := rfl
theorem Jeo (n k : Nat) (h1 : 2 ^ k <= n) (h2 : n < 2 ^ (k + 1)) : Je n = k + 1 := by
 have h0 : n ≠ 0 := by have := Nat.two_pow_pos k; omega
 unfold Je
 rw [if_neg h0, (Nat.log2_eq_iff h0).2 ⟨h1, h2⟩]
theorem Xa (n : Nat) (h : n ≠ 0) : 1 <= Je n /\ 2 ^ (Je n - 1) <= n /\ n < 2 ^ Je n := by
 unfold Je
 rw [if_neg h]
 exact ⟨by omega, Nat.log2_self_le h, Nat.lt_log2_self⟩
theorem Qq (n : Nat) : 0 < Je n ↔ n ≠ 0 := by
 unfold Je
 by_cases h : n = 0
 ·subst h; simp
 simp [h]
theorem Yy (n : Nat) : n < 2 ^ Je n := by
 by_cases h : n = 0
 ·subst h; decide
 exact (Xa n h).2.2
theorem Jcc (a t j : Nat) (ha : a < 2 ^ j) (ht : t ≠ 0) : Je (a + 2 ^ j * t) = j + Je t := by
 obtain ⟨h1, h2, h3⟩ := Xa t ht
 obtain ⟨k, hk⟩ : ∃ k, Je t = k + 1 := ⟨Je t - 1, by omega⟩
 rw [hk] at h2 h3 ⊢
 rw [<- Nat.add_assoc]
 apply Jeo
 ·rw [Nat.pow_add]
  have : 2 ^ j * 2 ^ (k + 1 - 1) <= 2 ^ j * t := Nat.mul_le_mul_left _ h2
  simp at this
  omega
 rw [show j + k + 1 = j + (k + 1) from by omega, Nat.pow_add]
 have : 2 ^ j * (t + 1) <= 2 ^ j * 2 ^ (k + 1) := Nat.mul_le_mul_left _ h3
 rw [Nat.mul_add] at this
 omega
theorem Kp (x : Nat) (h : x < 18446744073709551616) : Lib.bitLen x = Je x := by
 by_cases h0 : x = 0
 ·subst h0; exact Lib.bitLenAux_zero 64
 obtain ⟨h1, h2, h3⟩ := Lib.bitLenAux_bounds 64 x h h0
 unfold Lib.bitLen
 generalize Lib.bitLenAux 64 x = k at *
 obtain ⟨j, rfl⟩ : ∃ j, k = j + 1 := ⟨k - 1, by omega⟩
 rw [Jeo x j (by simpa using h2) h3]
def top (n : Nat) : Nat := (Jf n).getLastD 0
theorem Xd (n : Nat) (h : n ≠ 0) : Jf n = (Jf n).dropLast ++ [top n] /\ top n ≠ 0 /\ top n < 18446744073709551616 := by
 have j0 : Jf n ≠ [] := by rw [Qb n h]; simp
 have h1 : top n = (Jf n).getLast j0 := by
  unfold top
  rw [List.getLastD_eq_getLast?, List.getLast?_eq_some_getLast j0]
  rfl
 refine ⟨?_, ?_, ?_⟩
 ·rw [h1, List.dropLast_concat_getLast]
 ·have := Jfy n
  unfold Jie at this
  rw [List.getLast?_eq_some_getLast j0] at this
  rw [h1]
  intro h2
  exact this (by rw [h2])
 rw [h1]
 exact Yi n _ (List.getLast_mem j0)
theorem Yp (n : Nat) (h : n ≠ 0) : Je n = 64 * ((Jf n).length - 1) + Je (top n) := by
 obtain ⟨h1, h2, h3⟩ := Xd n h
 have hv := Ux n
 rw [h1, Jfz] at hv
 have hw : W64 (Jf n).dropLast := fun x hx => Yi n x ((List.dropLast_sublist _).subset hx)
 have hl := Jk6 _ hw
 have e : val [top n] = top n := by simp [val]
 rw [e, List.length_dropLast] at hv
 rw [List.length_dropLast] at hl
 have p : (18446744073709551616 : Nat) ^ ((Jf n).length - 1) = 2 ^ (64 * ((Jf n).length - 1)) := by
  rw [Nat.pow_mul]
 rw [p] at hv hl
 have := Jcc _ (top n) _ hl h2
 rw [hv] at this
 exact this
theorem Jjr (n : Nat) (h : ¬ n < 18446744073709551616) : (mo n).data.toList.drop ((mo n).size - 8) = leB (top n) := by
 have hb := Za n h
 obtain ⟨h1, _, _⟩ := Xd n (by omega)
 rw [Kx]
 have e : (mo n).data.toList = (Jf n).tail.flatMap leB := rfl
 rw [e, show 8 * ((Jf n).length - 1) - 8 = 8 * ((Jf n).length - 2) from by omega, Jdg]
 have hd : (Jf n).tail.drop ((Jf n).length - 2) = [top n] := by
  rw [List.drop_tail]
  rw [show (Jf n).length - 2 + 1 = (Jf n).dropLast.length from by rw [List.length_dropLast]; omega]
  conv => lhs; rw [h1]
  rw [List.dropLast_concat, List.drop_left]
 rw [hd]
 simp
theorem Xw (n k : Nat) (h : n < 2 ^ k) : Je n <= k := by
 by_cases h0 : n = 0
 ·subst h0
  exact Nat.zero_le _
 obtain ⟨h1, h2, h3⟩ := Xa n h0
 rcases Nat.lt_or_ge k (Je n) with h4 | h4
 ·exfalso
  have : 2 ^ k <= 2 ^ (Je n - 1) := Nat.pow_le_pow_right (by omega) (by omega)
  omega
 exact h4
theorem Jw {a b : Nat} (h : a <= b) : Je a <= Je b := Xw _ _ (Nat.lt_of_le_of_lt h (Yy b))
theorem Jfv (a b : Nat) : Je (a + b) <= max (Je a) (Je b) + 1 := by
 apply Xw
 have h1 : a < 2 ^ max (Je a) (Je b) := Nat.lt_of_lt_of_le (Yy a) (Nat.pow_le_pow_right (by omega) (by omega))
 have h2 : b < 2 ^ max (Je a) (Je b) := Nat.lt_of_lt_of_le (Yy b) (Nat.pow_le_pow_right (by omega) (by omega))
 rw [Nat.pow_succ]
 omega
theorem Jam (a b : Nat) : Je (a * b) <= Je a + Je b := by
 apply Xw
 rw [Nat.pow_add]
 exact Nat.mul_lt_mul'' (Yy a) (Yy b)
theorem Xz (n : Nat) (h : n < 18446744073709551616) : Je n <= 64 := Xw n 64 (by omega)
theorem Jbx {n k : Nat} (h : Je n <= k) : n < 2 ^ k := Nat.lt_of_lt_of_le (Yy n) (Nat.pow_le_pow_right (by omega) h)
def Kc : Nat -> Nat -> List Nat
 | 0, _ => []
 | f + 1, n => if n = 0 then [] else n % 4294967296 :: Kc f (n / 4294967296)
def Jd (n : Nat) : List Nat := Kc n n
theorem Jfg : ∀ (f g n : Nat), n <= f -> n <= g -> Kc f n = Kc g n := by
 intro f
 induction f with
 | zero =>
  intro g n h1 h2
  obtain rfl : n = 0 := by omega
  cases g <;> simp [Kc]
 | succ f ih =>
  intro g n h1 h2
  by_cases h : n = 0
  ·subst h; cases g <;> simp [Kc]
  obtain ⟨g, rfl⟩ : ∃ k, g = k + 1 := ⟨g - 1, by omega⟩
  simp only [Kc, if_neg h]
  rw [ih g _ (by omega) (by omega)]
theorem Qh : Jd 0 = [] := rfl
theorem Ze (n : Nat) (h : n ≠ 0) : Jd n = n % 4294967296 :: Jd (n / 4294967296) := by
 unfold Jd
 obtain ⟨k, rfl⟩ : ∃ k, n = k + 1 := ⟨n - 1, by omega⟩
 rw [show Kc (k + 1) (k + 1) = (k + 1) % 4294967296 :: Kc k ((k + 1) / 4294967296) from by simp only [Kc, if_neg h]]
 rw [Jfg k _ _ (by omega) zd]
theorem Qg (n : Nat) : dv 4294967296 (Jd n) = n := by
 induction n using Nat.strongRecOn with
 | ind n ih =>
  by_cases h : n = 0
  ·subst h; rw [Qh]; rfl
  rw [Ze n h, Xm, ih _ (by omega)]
  omega
theorem Jr (n : Nat) : Dig 4294967296 (Jd n) := by
 induction n using Nat.strongRecOn with
 | ind n ih =>
  by_cases h : n = 0
  ·subst h; rw [Qh]; exact Dig.nil
  rw [Ze n h]
  exact Dig.cons (Nat.mod_lt _ (by omega)) (ih _ (by omega))
theorem Jga (n : Nat) : (Jd n).getLast? ≠ some 0 := by
 induction n using Nat.strongRecOn with
 | ind n ih =>
  by_cases h : n = 0
  ·subst h; rw [Qh]; simp
  rw [Ze n h]
  by_cases h2 : n / 4294967296 = 0
  ·rw [h2, Qh]
   simp
   omega
  rw [Ze _ h2, List.getLast?_cons_cons, <- Ze _ h2]
  exact ih _ (by omega)
theorem Jhv : ∀ (l : List Nat), Dig 4294967296 l -> l.getLast? ≠ some 0 -> Jd (dv 4294967296 l) = l := by
 intro l
 induction l with
 | nil => intro _ _; rfl
 | cons x r ih =>
  intro hw ht
  have hx : x < 4294967296 := hw x (by simp)
  have hr : Dig 4294967296 r := fun y hy => hw y (by simp [hy])
  cases r with
  | nil =>
   have h0 : x ≠ 0 := by simpa using ht
   rw [Xm, Ur, Nat.mul_zero, Nat.add_zero, Ze x h0, Nat.mod_eq_of_lt hx, Nat.div_eq_of_lt hx, Qh]
  | cons y s =>
   have h1 := ih hr (by rwa [List.getLast?_cons_cons] at ht)
   have j0 : dv 4294967296 (y :: s) ≠ 0 := fun h => by rw [h, Qh] at h1; cases h1
   rw [Xm]
   generalize dv 4294967296 (y :: s) = z at *
   rw [Ze _ (by omega), show (x + 4294967296 * z) % 4294967296 = x by omega, show (x + 4294967296 * z) / 4294967296 = z by omega, h1]
theorem Jjc (l : List Nat) (h : Dig 4294967296 l) : Jd (dv 4294967296 l) = trimL l := by
 rw [<- Jbh (β := 4294967296) l]
 exact Jhv _ h.trimL (Jbg l)
theorem Xp (n : Nat) : n < 4294967296 ^ (Jd n).length := by
 have := Xf (Jr n)
 rwa [Qg] at this
theorem Km (n : Nat) : (Jd n).length = 0 ↔ n = 0 := by
 constructor
 ·intro h
  have := Xp n
  rw [h] at this
  simpa using this
 intro h
 rw [h, Qh]
 rfl
theorem Jaw (n : Nat) (h : n ≠ 0) : ∃ t, (Jd n)[(Jd n).length - 1]? = some t /\ t ≠ 0 /\ t < 4294967296 := by
 have h1 : 0 < (Jd n).length := by
  rcases Nat.eq_zero_or_pos (Jd n).length with h0 | h0
  ·exact absurd ((Km n).1 h0) h
  exact h0
 refine ⟨(Jd n)[(Jd n).length - 1], List.getElem?_eq_getElem (by omega), ?_, ?_⟩
 ·intro h2
  apply Jga n
  rw [List.getLast?_eq_getElem?, List.getElem?_eq_getElem (by omega), h2]
 exact Jr n _ (List.getElem_mem _)
theorem Jby (n : Nat) (h : n ≠ 0) : 4294967296 ^ ((Jd n).length - 1) <= n := by
 obtain ⟨t, h1, h2, h3⟩ := Jaw n h
 have := Jdk (β := 4294967296) h1
 rw [Qg] at this
 refine nt ?_ this
 exact Nat.le_mul_of_pos_left _ (by omega)
theorem Jaf {a b : Nat} (h : (Jd a).length < (Jd b).length) : a < b := by
 have hb : b ≠ 0 := fun e => by subst e; rw [Qh] at h; simp at h
 refine Nat.lt_of_lt_of_le (Xp a) (nt ?_ (Jby b hb))
 exact Nat.pow_le_pow_right (by omega) (by omega)
theorem Jag {n k : Nat} (h : n < 4294967296 ^ k) : (Jd n).length <= k := by
 rcases Nat.lt_or_ge k (Jd n).length with h1 | h1
 ·have hn : n ≠ 0 := fun e => by subst e; rw [Qh] at h1; simp at h1
  have h2 := Jby n hn
  have h3 : 4294967296 ^ k <= 4294967296 ^ ((Jd n).length - 1) := Nat.pow_le_pow_right (by omega) (by omega)
  omega
 exact h1
theorem Zn {a b : Nat} (h : a <= b) : (Jd a).length <= (Jd b).length := Jag (Nat.lt_of_le_of_lt h (Xp b))
theorem Je7 (k : Nat) : (4294967296 : Nat) ^ k = 2 ^ (32 * k) := by rw [Nat.pow_mul]
theorem Vs (n k : Nat) (h : Je n <= 32 * k) : (Jd n).length <= k := Jag (by rw [Je7]; exact Jbx h)
theorem Jcd (n : Nat) : Je n <= 32 * (Jd n).length := Xw _ _ (by rw [<- Je7]; exact Xp n)
theorem Un (n : Nat) (hn : Je n <= 1099511627776) : (Jd n).length <= 34359738368 := Vs n _ (by omega)
theorem Jda (n : Nat) (h : n < 4294967296) (h0 : n ≠ 0) : Jd n = [n] := by
 rw [Ze n h0, Nat.mod_eq_of_lt h, Nat.div_eq_of_lt h, Qh]
theorem Jft {n t : Nat} (h : (Jd n)[(Jd n).length - 1]? = some t) (ht : t ≠ 0) : Je n = 32 * ((Jd n).length - 1) + Je t := by
 have o6 : (Jd n).length - 1 < (Jd n).length := (List.getElem?_eq_some_iff.1 h).1
 have e := Qz (β := 4294967296) (l := Jd n) ((Jd n).length - 1) (by omega)
 have e2 := Jv (β := 4294967296) h
 rw [show (Jd n).length - 1 + 1 = (Jd n).length by omega, Qv zd, Nat.mul_zero, Nat.add_zero] at e2
 rw [Qg, e2] at e
 have hl := Xf ((Jr n).take ((Jd n).length - 1))
 rw [List.length_take, Nat.min_eq_left (by omega), Je7] at hl
 rw [Je7] at e
 have := Jcc _ t _ hl ht
 rw [<- e] at this
 exact this
