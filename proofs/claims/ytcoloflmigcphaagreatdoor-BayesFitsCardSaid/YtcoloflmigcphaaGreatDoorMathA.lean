import Derived.Test.YtcoloflmigcphaaGreatDoorMem
import Derived.Lib.ItoaNum
namespace Go.Proofs.YtcoloflmigcphaaGreatDoor
set_option linter.all false
def dv (β : Nat) : List Nat -> Nat
 | [] => 0
 | x :: r => x + β * dv β r
def Dig (β : Nat) (l : List Nat) : Prop := ∀ x ∈ l, x < β
section
variable {β : Nat} {l r : List Nat}
theorem Ux : dv β [] = 0 := rfl
theorem Xv (x : Nat) (r : List Nat) : dv β (x :: r) = x + β * dv β r := rfl
theorem Yp (a b : List Nat) : dv β (a ++ b) = dv β a + β ^ a.length * dv β b := by
 induction a with
 | nil => simp [dv]
 | cons x r ih =>
  simp only [List.cons_append, dv, List.length_cons, ih]
  rw [Nat.pow_succ, Nat.mul_add, Nat.mul_comm (β ^ r.length) β, Nat.mul_assoc, Nat.add_assoc]
theorem Dig.nil : Dig β [] := fun x h => by cases h
theorem Dig.cons {x : Nat} (hx : x < β) (h : Dig β r) : Dig β (x :: r) := fun y hy => by
 rcases List.mem_cons.1 hy with rfl | hy
 ·exact hx
 exact h y hy
theorem Dig.append (h : Dig β l) (h' : Dig β r) : Dig β (l ++ r) := fun y hy => by
 rcases List.mem_append.1 hy with hy | hy
 ·exact h y hy
 exact h' y hy
theorem Dig.take (h : Dig β l) (k : Nat) : Dig β (l.take k) := fun x hx => h x (List.mem_of_mem_take hx)
theorem Dig.drop (h : Dig β l) (k : Nat) : Dig β (l.drop k) := fun x hx => h x (List.mem_of_mem_drop hx)
theorem Dig.get (h : Dig β l) {k x : Nat} (hx : l[k]? = some x) : x < β := h x (List.mem_of_getElem? hx)
theorem Dig.set_ (h : Dig β l) (k : Nat) {x : Nat} (hx : x < β) : Dig β (l.set k x) := fun y hy => by
 rcases List.mem_or_eq_of_mem_set hy with hy | rfl
 ·exact h y hy
 exact hx
theorem Dig.rep (hβ : 0 < β) (n : Nat) : Dig β (List.replicate n 0) := fun x hx => by
 rw [(List.mem_replicate.1 hx).2]
 exact hβ
theorem Yx (n : Nat) : dv β (List.replicate n 0) = 0 := by
 induction n with
 | zero => rfl
 | succ n ih => rw [List.replicate_succ, Xv, ih]; simp
theorem Xm (h : Dig β l) : dv β l < β ^ l.length := by
 induction l with
 | nil => simp [dv]
 | cons x r ih =>
  have hx : x < β := h x (by simp)
  have h1 := ih (fun y hy => h y (by simp [hy]))
  simp only [dv, List.length_cons, Nat.pow_succ]
  have h2 : β * (dv β r + 1) <= β * β ^ r.length := Nat.mul_le_mul_left _ h1
  rw [Nat.mul_add, Nat.mul_one] at h2
  rw [Nat.mul_comm (β ^ r.length) β]
  omega
theorem Xd (k : Nat) (hk : k <= l.length) : dv β l = dv β (l.take k) + β ^ k * dv β (l.drop k) := by
 have h := Yp (β := β) (l.take k) (l.drop k)
 rw [List.take_append_drop, List.length_take, Nat.min_eq_left hk] at h
 exact h
theorem Yl {k x : Nat} (s : Nat) (hx : l[k]? = some x) : dv β (l.set k s) + x * β ^ k = dv β l + s * β ^ k := by
 induction l generalizing k with
 | nil => simp at hx
 | cons y r ih =>
  cases k with
  | zero =>
   simp at hx
   subst hx
   simp only [List.set_cons_zero, dv, Nat.pow_zero, Nat.mul_one]
   omega
  | succ k =>
   rw [List.getElem?_cons_succ] at hx
   have h1 := ih hx
   simp only [List.set_cons_succ, dv, Nat.pow_succ]
   rw [<- Nat.mul_assoc, <- Nat.mul_assoc, Nat.mul_comm _ β, Nat.mul_comm (s * β ^ k) β, Nat.add_assoc, Nat.add_assoc, <- Nat.mul_add, <- Nat.mul_add, h1]
theorem Jv {k x : Nat} (hx : l[k]? = some x) : dv β (l.take (k + 1)) = dv β (l.take k) + x * β ^ k := by
 have hk : k < l.length := (List.getElem?_eq_some_iff.1 hx).1
 rw [List.take_add_one, hx, Option.toList_some, Yp, List.length_take, Nat.min_eq_left (by omega)]
 simp only [dv, Nat.mul_zero, Nat.add_zero]
 rw [Nat.mul_comm]
theorem Qm {k : Nat} (hk : l.length <= k) : dv β (l.take k) = dv β l := by rw [List.take_of_length_le hk]
theorem Qa {k x : Nat} (hx : l[k]? = some x) : dv β (l.drop k) = x + β * dv β (l.drop (k + 1)) := by
 have hk : k < l.length := (List.getElem?_eq_some_iff.1 hx).1
 rw [List.drop_eq_getElem_cons hk, Xv]
 rw [List.getElem?_eq_getElem hk] at hx
 rw [Option.some.inj hx]
theorem Qx {k : Nat} (hk : l.length <= k) : dv β (l.drop k) = 0 := by rw [List.drop_of_length_le hk]; rfl
theorem Zx (h : Dig β l) (hβ : 0 < β) (k : Nat) : dv β l / β ^ k = dv β (l.drop k) := by
 rcases Nat.lt_or_ge k l.length with hk | hk
 ·rw [Xd k (by omega), Nat.add_mul_div_left _ _ (Nat.pow_pos hβ), Nat.div_eq_of_lt, Nat.zero_add]
  have := Xm (h.take k)
  rw [List.length_take, Nat.min_eq_left (by omega)] at this
  exact this
 rw [Qx hk, Nat.div_eq_of_lt]
 exact Nat.lt_of_lt_of_le (Xm h) (Nat.pow_le_pow_right hβ hk)
theorem Jnt (h : Dig β l) (hβ : 0 < β) (k : Nat) : dv β l % β ^ k = dv β (l.take k) := by
 rcases Nat.lt_or_ge k l.length with hk | hk
 ·rw [Xd k (by omega), Nat.add_mul_mod_self_left, Nat.mod_eq_of_lt]
  have := Xm (h.take k)
  rw [List.length_take, Nat.min_eq_left (by omega)] at this
  exact this
 rw [Qm hk, Nat.mod_eq_of_lt]
 exact Nat.lt_of_lt_of_le (Xm h) (Nat.pow_le_pow_right hβ hk)
theorem Jek {k x : Nat} (hx : l[k]? = some x) : x * β ^ k <= dv β l := by
 have hk : k < l.length := (List.getElem?_eq_some_iff.1 hx).1
 rw [Xd k (by omega), Qa hx, Nat.mul_add, Nat.mul_comm x]
 omega
theorem Kg {k : Nat} (h : Dig β l) (hβ : 0 < β) (aA : dv β l < β ^ k) : dv β (l.drop k) = 0 := by
 rw [<- Zx h hβ, Nat.div_eq_of_lt aA]
theorem Jaq {k x : Nat} (hβ : 0 < β) (h0 : dv β l = 0) (hx : l[k]? = some x) : x = 0 := by
 have h1 := Jek (β := β) hx
 rw [h0] at h1
 have h2 : 0 < β ^ k := Nat.pow_pos hβ
 rcases Nat.eq_zero_or_pos x with h3 | h3
 ·exact h3
 have := Nat.mul_pos h3 h2
 omega
def trimL : List Nat -> List Nat
 | [] => []
 | x :: r => if x = 0 /\ trimL r = [] then [] else x :: trimL r
theorem Jci (l : List Nat) : dv β (trimL l) = dv β l := by
 induction l with
 | nil => rfl
 | cons x r ih =>
  simp only [trimL]
  split
  ·rename_i h
   rw [h.2] at ih
   rw [Xv, <- ih, h.1]
   simp [dv]
  rw [Xv, Xv, ih]
theorem Kn (l : List Nat) : (trimL l).length <= l.length := by
 induction l with
 | nil => simp [trimL]
 | cons x r ih =>
  simp only [trimL]
  split
  ·simp
  simp [ih]
theorem Zc (l : List Nat) : trimL l = l.take (trimL l).length := by
 induction l with
 | nil => rfl
 | cons x r ih =>
  simp only [trimL]
  split
  ·simp
  rw [List.length_cons, List.take_succ_cons, <- ih]
theorem Jf6 (l : List Nat) : trimL (l ++ [0]) = trimL l := by
 induction l with
 | nil => rfl
 | cons x r ih => simp only [List.cons_append, trimL, ih]
theorem Jhp (l : List Nat) (x : Nat) (hx : x ≠ 0) : trimL (l ++ [x]) = l ++ [x] := by
 induction l with
 | nil => simp [trimL, hx]
 | cons y r ih => simp [trimL, ih]
theorem Jch (l : List Nat) : (trimL l).getLast? ≠ some 0 := by
 induction l with
 | nil => simp [trimL]
 | cons x r ih =>
  simp only [trimL]
  split
  ·simp
  rename_i h
  by_cases hr : trimL r = []
  ·rw [hr]
   simp
   intro hx
   exact h ⟨hx, hr⟩
  rw [List.getLast?_cons]
  obtain ⟨y, hy⟩ : ∃ y, (trimL r).getLast? = some y := by
   cases h1 : (trimL r).getLast? with
   | none => exact absurd (List.getLast?_eq_none_iff.1 h1) hr
   | some y => exact ⟨y, rfl⟩
  rw [hy] at ih ⊢
  simpa using ih
theorem Dig.trimL (h : Dig β l) : Dig β (trimL l) := by
 rw [Zc]
 exact h.take _
end
theorem Jg1 {β P T D X V g : Nat} (hP : 0 < P) (hT : X / P = T) (hD : V / P = D) (hX : X < β * V) (p9 : β <= D + 1) (hg : g < β) (aB : g * D <= T) (j9 : g + 1 < β -> T < (g + 1) * D) :
  X / V <= g /\ g <= X / V + 1 := by
 have hV : 0 < V := by
  rcases Nat.eq_zero_or_pos V with h | h
  ·subst h; simp at hX
  exact h
 have aD : P * T <= X /\ X < P * T + P := by
  rw [<- hT]
  have h1 := Nat.div_add_mod X P
  have h2 := Nat.mod_lt X hP
  omega
 have o0 : P * D <= V /\ V < P * D + P := by
  rw [<- hD]
  have h1 := Nat.div_add_mod V P
  have h2 := Nat.mod_lt V hP
  omega
 constructor
 ·
  by_cases y9 : g + 1 < β
  ·have hm := j9 y9
   apply Nat.le_of_lt_succ
   rw [Nat.div_lt_iff_lt_mul hV]
   have h1 : P * (T + 1) <= P * ((g + 1) * D) := Nat.mul_le_mul_left _ hm
   have h2 : P * ((g + 1) * D) = (g + 1) * (P * D) := by rw [Nat.mul_left_comm]
   have h3 : (g + 1) * (P * D) <= (g + 1) * V := Nat.mul_le_mul_left _ o0.1
   rw [Nat.mul_add, Nat.mul_one] at h1
   exact Nat.lt_of_lt_of_le (by omega) (nt (Nat.le_of_eq h2) h3)
  obtain rfl : β = g + 1 := by omega
  exact Nat.le_of_lt_succ ((Nat.div_lt_iff_lt_mul hV).2 hX)
 
 cases g with
 | zero => exact Nat.zero_le _
 | succ k =>
  apply Nat.succ_le_succ
  rw [Nat.le_div_iff_mul_le hV]
  have h1 : k * V <= k * (P * D + P) := Nat.mul_le_mul_left _ (by omega)
  have h2 : k * (P * D + P) = P * (k * D + k) := by
   rw [Nat.mul_add, Nat.mul_left_comm, Nat.mul_comm k P, <- Nat.mul_add]
  have h3 : k * D + k <= T := by
   rw [Nat.succ_mul] at aB
   omega
  have h4 : P * (k * D + k) <= P * T := Nat.mul_le_mul_left _ h3
  omega
section
variable {β : Nat} {l : List Nat}
theorem Ky {i a b c s c' X : Nat} (hx : l[i]? = some a) (hs : s + β * c' = a + b + c) (he : dv β l + c * β ^ i = X) : dv β (l.set i s) + c' * β ^ (i + 1) = X + b * β ^ i := by
 have h1 := Yl (β := β) s hx
 have h2 := congrArg (· * β ^ i) hs
 simp only [Nat.add_mul] at h2
 have h3 : c' * β ^ (i + 1) = β * c' * β ^ i := by rw [Nat.pow_succ, <- Nat.mul_assoc, Nat.mul_right_comm, Nat.mul_comm c' β]
 rw [h3]
 omega
theorem Ko {i a b c s c' X Y : Nat} (hx : l[i]? = some a) (hs : s + b + c = a + β * c') (he : dv β l + Y = X + c * β ^ i) : dv β (l.set i s) + (Y + b * β ^ i) = X + c' * β ^ (i + 1) := by
 have h1 := Yl (β := β) s hx
 have h2 := congrArg (· * β ^ i) hs
 simp only [Nat.add_mul] at h2
 have h3 : c' * β ^ (i + 1) = β * c' * β ^ i := by rw [Nat.pow_succ, <- Nat.mul_assoc, Nat.mul_right_comm, Nat.mul_comm c' β]
 rw [h3]
 omega
theorem Jg8 {a m n c s c' : Nat} (ha : a < β) (hm : m < β) (hn : n < β) (hc : c < β) (hs : s + β * c' = a + m * n + c) : c' < β := by
 rcases Nat.lt_or_ge c' β with h | h
 ·exact h
 exfalso
 have h1 : β * β <= β * c' := Nat.mul_le_mul_left _ h
 have h2 : m * n <= (β - 1) * (β - 1) := Nat.mul_le_mul (by omega) (by omega)
 obtain ⟨k, rfl⟩ : ∃ k, β = k + 1 := ⟨β - 1, by omega⟩
 rw [Nat.add_sub_cancel] at h2
 have h3 : (k + 1) * (k + 1) = k * k + 2 * k + 1 := by
  rw [Nat.add_mul, Nat.mul_add]
  omega
 omega
end
def GI (β v1 v0 u u0 g R : Nat) : Prop := g * v1 + R = u /\ (g + 1 < β -> u * β + u0 < (g + 1) * (v1 * β + v0))
section
variable {β v1 v0 u u0 g R : Nat}
theorem Jfl (hv : 0 < v1) (h0 : u0 < β) : GI β v1 v0 u u0 (u / v1) (u % v1) := by
 refine ⟨by rw [Nat.mul_comm]; exact Nat.div_add_mod u v1, fun _ => ?_⟩
 have h1 := Nat.div_add_mod u v1
 have h2 := Nat.mod_lt u hv
 have h3 : u + 1 <= (u / v1 + 1) * v1 := by rw [Nat.add_mul, Nat.one_mul, Nat.mul_comm (u / v1)]; omega
 have h4 := Nat.mul_le_mul_right β h3
 rw [Nat.add_mul u 1] at h4
 have h5 : (u / v1 + 1) * v1 * β <= (u / v1 + 1) * (v1 * β + v0) := by
  rw [Nat.mul_assoc]
  exact Nat.mul_le_mul_left _ (by omega)
 omega
theorem Jnq (u1 : Nat) (hu : u = β * v1 + u1) (hβ : 0 < β) : GI β v1 v0 u u0 (β - 1) (u1 + v1) := by
 refine ⟨?_, fun h => by omega⟩
 obtain ⟨k, rfl⟩ : ∃ k, β = k + 1 := ⟨β - 1, by omega⟩
 rw [hu, Nat.add_sub_cancel, Nat.add_mul]
 omega
theorem Yk (h : GI β v1 v0 u u0 g R) (hg : β <= g \/ R * β + u0 < g * v0) (h0 : 0 < g) : GI β v1 v0 u u0 (g - 1) (R + v1) := by
 obtain ⟨k, rfl⟩ : ∃ k, g = k + 1 := ⟨g - 1, by omega⟩
 obtain ⟨h1, h2⟩ := h
 rw [Nat.add_sub_cancel]
 refine ⟨by rw [<- h1, Nat.add_mul]; omega, fun hk => ?_⟩
 rcases hg with hg | hg
 ·omega
 rw [<- h1, Nat.mul_add, Nat.add_mul, <- Nat.mul_assoc]
 omega
theorem Kf (h : GI β v1 v0 u u0 g R) (y9 : g < β) (s9 : v0 < β) (hg : β <= R \/ g * v0 <= R * β + u0) : g * (v1 * β + v0) <= u * β + u0 := by
 obtain ⟨h1, h2⟩ := h
 rw [<- h1, Nat.mul_add, Nat.add_mul, <- Nat.mul_assoc]
 rcases hg with hg | hg
 ·have h3 : g * v0 <= β * β := Nat.mul_le_mul (by omega) (by omega)
  have h4 : β * β <= R * β := Nat.mul_le_mul_right _ hg
  omega
 omega
theorem Ji5 (h : GI β v1 v0 u u0 g R) (hR : β <= R) (hu : u < (v1 + 1) * β) : g < β := by
 obtain ⟨h1, h2⟩ := h
 rw [Nat.add_mul] at hu
 rcases Nat.lt_or_ge g β with h | h
 ·exact h
 have := Nat.mul_le_mul_right v1 h
 rw [Nat.mul_comm v1 β] at hu
 omega
end
section
variable {X X' V P M g : Nat}
theorem Jc0 (j8 : 0 < V * P) (hg : X / (V * P) <= g) (he : X' + g * V * P = X) : g = X / (V * P) /\ X' = X % (V * P) := by
 have h1 : g * (V * P) <= X := by rw [<- Nat.mul_assoc]; omega
 have h2 : g <= X / (V * P) := (Nat.le_div_iff_mul_le j8).2 h1
 have h3 : g = X / (V * P) := by omega
 refine ⟨h3, ?_⟩
 have h4 := Nat.div_add_mod X (V * P)
 rw [<- h3, Nat.mul_comm (V * P) g, <- Nat.mul_assoc] at h4
 omega
theorem Jc1 {c Y : Nat} (j8 : 0 < V * P) (aE : V * P <= M) (hg : g <= X / (V * P) + 1) (he : X' + g * V * P = X + M) (aF : X' < M) (hY : Y < M) (hb : Y + c * M = X' + V * P) :
  0 < g /\ g - 1 = X / (V * P) /\ Y = X % (V * P) := by
 have h0 := Nat.div_add_mod X (V * P)
 have hm := Nat.mod_lt X j8
 have h1 : X < g * (V * P) := by rw [<- Nat.mul_assoc]; omega
 have h2 : X / (V * P) < g := (Nat.div_lt_iff_lt_mul j8).2 h1
 have h3 : g = X / (V * P) + 1 := by omega
 generalize X / (V * P) = q at *
 subst h3
 refine ⟨by omega, by omega, ?_⟩
 have h4 : (q + 1) * V * P = V * P * q + V * P := by rw [Nat.mul_assoc, Nat.add_mul, Nat.one_mul, Nat.mul_comm q]
 rw [h4] at he
 have hc : c = 1 := by
  rcases Nat.lt_or_ge c 1 with h | h
  ·obtain rfl : c = 0 := by omega
   omega
  rcases Nat.lt_or_ge c 2 with h5 | h5
  ·omega
  have := Nat.mul_le_mul_right M h5
  omega
 subst hc
 omega
end
theorem Jf (n : Nat) : IntKind.u64.wrap (n : Int) = ((n % 18446744073709551616 : Nat) : Int) := by
 simp [IntKind.wrap, IntKind.bits, IntKind.signed]
theorem Qb (n : Nat) : IntKind.u32.wrap (n : Int) = ((n % 4294967296 : Nat) : Int) := by
 simp [IntKind.wrap, IntKind.bits, IntKind.signed]
theorem Jne (a b : Nat) (ha : a < 4294967296) (hb : b < 4294967296) : bits .or .u32 (a : Int) (b : Int) = ((a ||| b : Nat) : Int) := by
 have h : a ||| b < 2 ^ 32 := Nat.or_lt_two_pow (by omega) (by omega)
 have j0 : a % 2 ^ 32 = a := Nat.mod_eq_of_lt (by omega)
 have j6 : b % 2 ^ 32 = b := Nat.mod_eq_of_lt (by omega)
 have e : bits .or .u32 (a : Int) (b : Int) = IntKind.u32.wrap (((BitVec.ofInt 32 (a : Int)) ||| (BitVec.ofInt 32 (b : Int))).toNat : Int) := rfl
 rw [e, BitVec.ofInt_natCast, BitVec.ofInt_natCast, BitVec.toNat_or, BitVec.toNat_ofNat, BitVec.toNat_ofNat, j0, j6, Qb, Nat.mod_eq_of_lt (by omega)]
theorem Ut (a b : Nat) (ha : a < 18446744073709551616) (hb : b < 18446744073709551616) : bits .or .u64 (a : Int) (b : Int) = ((a ||| b : Nat) : Int) := by
 have h : a ||| b < 2 ^ 64 := Nat.or_lt_two_pow (by omega) (by omega)
 have j0 : a % 2 ^ 64 = a := Nat.mod_eq_of_lt (by omega)
 have j6 : b % 2 ^ 64 = b := Nat.mod_eq_of_lt (by omega)
 have e : bits .or .u64 (a : Int) (b : Int) = IntKind.u64.wrap (((BitVec.ofInt 64 (a : Int)) ||| (BitVec.ofInt 64 (b : Int))).toNat : Int) := rfl
 rw [e, BitVec.ofInt_natCast, BitVec.ofInt_natCast, BitVec.toNat_or, BitVec.toNat_ofNat, BitVec.toNat_ofNat, j0, j6, Jf, Nat.mod_eq_of_lt (by omega)]
theorem Jja (a b : Nat) (ha : a < 18446744073709551616) (hb : b < 18446744073709551616) : bits .and .u64 (a : Int) (b : Int) = ((a &&& b : Nat) : Int) := by
 have h : a &&& b < 2 ^ 64 := Nat.and_lt_two_pow _ (by omega)
 have j0 : a % 2 ^ 64 = a := Nat.mod_eq_of_lt (by omega)
 have j6 : b % 2 ^ 64 = b := Nat.mod_eq_of_lt (by omega)
 have e : bits .and .u64 (a : Int) (b : Int) = IntKind.u64.wrap (((BitVec.ofInt 64 (a : Int)) &&& (BitVec.ofInt 64 (b : Int))).toNat : Int) := rfl
 rw [e, BitVec.ofInt_natCast, BitVec.ofInt_natCast, BitVec.toNat_and, BitVec.toNat_ofNat, BitVec.toNat_ofNat, j0, j6, Jf, Nat.mod_eq_of_lt (by omega)]
theorem Jb9 {k : IntKind} {a b : Int} (h : a = b) : Ending.returned (.int k a) = .returned (.int k b) := by rw [h]
namespace Dice
def step (s : Nat) : Nat := (s + 11400714819323198485) % 18446744073709551616
def mixA (z : Nat) : Nat := ((z ^^^ (z / 1073741824)) * 13787848793156543929) % 18446744073709551616
def mixB (z : Nat) : Nat := ((z ^^^ (z / 134217728)) * 10723151780598845931) % 18446744073709551616
def mixC (z : Nat) : Nat := z ^^^ (z / 2147483648)
def mix (z : Nat) : Nat := mixC (mixB (mixA z))
def next (s : Nat) : Nat := mix (step s)
def Jlv : Nat -> Nat -> Nat -> Nat × Nat
 | 0, _, s => (0, s)
 | f + 1, Jh5, s => if next s <= Jh5 then (next s, step s) else Jlv f Jh5 (step s)
noncomputable def fuelX : { n : Nat // 36893488147419103232 <= n } := Classical.choice ⟨⟨36893488147419103232, Nat.le_refl _⟩⟩
noncomputable def Jog : Nat := fuelX.1
noncomputable def Jnu (Jh5 s : Nat) : Nat × Nat := Jlv Jog Jh5 s
attribute [irreducible] Jnu
def Jh5 (n : Nat) : Nat := 18446744073709551615 - (18446744073709551615 % n + 1) % n
noncomputable def below (n s : Nat) : Nat × Nat := ((Jnu (Jh5 n) s).1 % n, (Jnu (Jh5 n) s).2)
attribute [irreducible] below
end Dice
def Kl : Nat -> Nat -> List Nat
 | 0, _ => []
 | f + 1, n => if n = 0 then [] else n % 18446744073709551616 :: Kl f (n / 18446744073709551616)
def words (n : Nat) : List Nat := Kl n n
def val : List Nat -> Nat
 | [] => 0
 | x :: r => x + 18446744073709551616 * val r
def W64 (l : List Nat) : Prop := ∀ x ∈ l, x < 18446744073709551616
def Jkk (l : List Nat) : Prop := l.getLast? ≠ some 0
theorem Jfy : ∀ (f g n : Nat), n <= f -> n <= g -> Kl f n = Kl g n := by
 intro f
 induction f with
 | zero =>
  intro g n h1 h2
  obtain rfl : n = 0 := by omega
  cases g <;> simp [Kl]
 | succ f ih =>
  intro g n h1 h2
  by_cases h : n = 0
  ·subst h; cases g <;> simp [Kl]
  obtain ⟨g, rfl⟩ : ∃ k, g = k + 1 := ⟨g - 1, by omega⟩
  simp only [Kl, if_neg h]
  rw [ih g _ (by omega) (by omega)]
theorem Qf : words 0 = [] := rfl
theorem Qd (n : Nat) (h : n ≠ 0) : words n = n % 18446744073709551616 :: words (n / 18446744073709551616) := by
 unfold words
 obtain ⟨k, rfl⟩ : ∃ k, n = k + 1 := ⟨n - 1, by omega⟩
 rw [show Kl (k + 1) (k + 1) = (k + 1) % 18446744073709551616 :: Kl k ((k + 1) / 18446744073709551616) from by simp only [Kl, if_neg h]]
 rw [Jfy k _ _ (by omega) zd]
theorem Vg (n : Nat) : val (words n) = n := by
 induction n using Nat.strongRecOn with
 | ind n ih =>
  by_cases h : n = 0
  ·subst h; rw [Qf]; rfl
  rw [Qd n h]
  simp only [val]
  rw [ih _ (by omega)]
  omega
theorem Yq (n : Nat) : W64 (words n) := by
 induction n using Nat.strongRecOn with
 | ind n ih =>
  by_cases h : n = 0
  ·subst h; rw [Qf]; intro x hx; cases hx
  rw [Qd n h]
  intro x hx
  rcases List.mem_cons.1 hx with rfl | hx
  ·exact Nat.mod_lt _ (by omega)
  exact ih _ (by omega) x hx
theorem Jhm (n : Nat) : Jkk (words n) := by
 induction n using Nat.strongRecOn with
 | ind n ih =>
  unfold Jkk
  by_cases h : n = 0
  ·subst h; rw [Qf]; simp
  rw [Qd n h]
  by_cases h2 : n / 18446744073709551616 = 0
  ·rw [h2, Qf]
   simp
   omega
  rw [Qd _ h2, List.getLast?_cons_cons, <- Qd _ h2]
  exact ih _ (by omega)
theorem Jje : ∀ (l : List Nat), W64 l -> Jkk l -> words (val l) = l := by
 intro l
 induction l with
 | nil => intro _ _; rfl
 | cons x r ih =>
  intro hw ht
  have hx : x < 18446744073709551616 := hw x (by simp)
  have hr : W64 r := fun y hy => hw y (by simp [hy])
  have o9 : Jkk r := by
   unfold Jkk at *
   cases r with
   | nil => simp
   | cons y s => rw [List.getLast?_cons_cons] at ht; exact ht
  have ih' := ih hr o9
  simp only [val]
  by_cases h : x + 18446744073709551616 * val r = 0
  ·have h1 : val r = 0 := by omega
   rw [h1, Qf] at ih'
   subst ih'
   have : x = 0 := by omega
   subst this
   exact absurd rfl ht
  rw [Qd _ h, show (x + 18446744073709551616 * val r) % 18446744073709551616 = x from by omega, show (x + 18446744073709551616 * val r) / 18446744073709551616 = val r from by omega, ih']
theorem Jhn (a b : List Nat) : val (a ++ b) = val a + 18446744073709551616 ^ a.length * val b := by
 induction a with
 | nil => simp [val]
 | cons x r ih =>
  simp only [List.cons_append, val, List.length_cons, ih]
  rw [Nat.pow_succ, Nat.mul_add, Nat.mul_comm (18446744073709551616 ^ r.length) 18446744073709551616, Nat.mul_assoc, Nat.add_assoc]
theorem Jm9 (l : List Nat) (h : W64 l) : val l < 18446744073709551616 ^ l.length := by
 induction l with
 | nil => simp [val]
 | cons x r ih =>
  have hx : x < 18446744073709551616 := h x (by simp)
  have := ih (fun y hy => h y (by simp [hy]))
  simp only [val, List.length_cons, Nat.pow_succ]
  omega
def leB (x : Nat) : List UInt8 := [UInt8.ofNat x, UInt8.ofNat (x / 256), UInt8.ofNat (x / 65536), UInt8.ofNat (x / 16777216), UInt8.ofNat (x / 4294967296), UInt8.ofNat (x / 1099511627776), UInt8.ofNat (x / 281474976710656), UInt8.ofNat (x / 72057594037927936)]
theorem Jap (x : Nat) : (leB x).length = 8 := rfl
def more (n : Nat) : List UInt8 := (words n).tail.flatMap leB
def mo (n : Nat) : ByteArray := ⟨(more n).toArray⟩
def lo (n : Nat) : Nat := n % 18446744073709551616
def Jg (n : Nat) : Value := .agg #[.int .u64 (lo n : Int), .string (mo n)]
theorem Jcy (l : List Nat) : (l.flatMap leB).length = 8 * l.length := by
 induction l with
 | nil => rfl
 | cons x r ih => simp only [List.flatMap_cons, List.length_append, ih, Jap, List.length_cons]; omega
theorem Jeh (l : List Nat) : ∀ k, (l.flatMap leB).drop (8 * k) = (l.drop k).flatMap leB := by
 induction l with
 | nil => intro k; simp
 | cons x r ih =>
  intro k
  cases k with
  | zero => rfl
  | succ k =>
   rw [List.flatMap_cons, List.drop_succ_cons, <- ih k, show 8 * (k + 1) = (leB x).length + 8 * k from by rw [Jap]; omega]
   rw [List.drop_append, List.drop_of_length_le (by omega)]
   simp
theorem Ui (n : Nat) : (mo n).size = 8 * ((words n).length - 1) := by
 show (more n).toArray.size = _
 unfold more
 rw [List.size_toArray, Jcy, List.length_tail]
theorem Jy (n : Nat) (h : n < 18446744073709551616) : mo n = ⟨#[]⟩ := by
 unfold mo more
 by_cases h0 : n = 0
 ·subst h0; rfl
 rw [Qd n h0, show n / 18446744073709551616 = 0 from by omega, Qf]
 rfl
theorem Jp (n : Nat) (h : n < 18446744073709551616) : lo n = n := Nat.mod_eq_of_lt h
theorem Jfw (n : Nat) (h : n < 18446744073709551616) (h0 : n ≠ 0) : words n = [n] := by
 rw [Qd n h0, show n / 18446744073709551616 = 0 from by omega, Qf, Nat.mod_eq_of_lt h]
theorem Zf (n : Nat) (h : ¬ n < 18446744073709551616) : 2 <= (words n).length := by
 rw [Qd n (by omega), Qd (n / 18446744073709551616) (by omega)]
 simp
theorem Vw (n : Nat) (h : n ≠ 0) : words n = lo n :: (words n).tail := by
 rw [Qd n h]
 rfl
def Je (n : Nat) : Nat := if n = 0 then 0 else n.log2 + 1
theorem Jep : Je 0 = 0 := rfl
theorem Jfr (n k : Nat) (h1 : 2 ^ k <= n) (h2 : n < 2 ^ (k + 1)) : Je n = k + 1 := by
 have h0 : n ≠ 0 := by have := Nat.two_pow_pos k; omega
 unfold Je
 rw [if_neg h0, (Nat.log2_eq_iff h0).2 ⟨h1, h2⟩]
theorem Xe (n : Nat) (h : n ≠ 0) : 1 <= Je n /\ 2 ^ (Je n - 1) <= n /\ n < 2 ^ Je n := by
 unfold Je
 rw [if_neg h]
 exact ⟨by omega, Nat.log2_self_le h, Nat.lt_log2_self⟩
theorem Qv (n : Nat) : 0 < Je n ↔ n ≠ 0 := by
 unfold Je
 by_cases h : n = 0
 ·subst h; simp
 simp [h]
theorem Kj (n : Nat) : n < 2 ^ Je n := by
 by_cases h : n = 0
 ·subst h; decide
 exact (Xe n h).2.2
theorem Jc4 (a t j : Nat) (ha : a < 2 ^ j) (ht : t ≠ 0) : Je (a + 2 ^ j * t) = j + Je t := by
 obtain ⟨h1, h2, h3⟩ := Xe t ht
 obtain ⟨k, hk⟩ : ∃ k, Je t = k + 1 := ⟨Je t - 1, by omega⟩
 rw [hk] at h2 h3 ⊢
 rw [<- Nat.add_assoc]
 apply Jfr
 ·rw [Nat.pow_add]
  have : 2 ^ j * 2 ^ (k + 1 - 1) <= 2 ^ j * t := Nat.mul_le_mul_left _ h2
  simp at this
  omega
 rw [show j + k + 1 = j + (k + 1) from by omega, Nat.pow_add]
 have : 2 ^ j * (t + 1) <= 2 ^ j * 2 ^ (k + 1) := Nat.mul_le_mul_left _ h3
 rw [Nat.mul_add] at this
 omega
theorem Kx (x : Nat) (h : x < 18446744073709551616) : Lib.bitLen x = Je x := by
 by_cases h0 : x = 0
 ·subst h0; exact Lib.bitLenAux_zero 64
 obtain ⟨h1, h2, h3⟩ := Lib.bitLenAux_bounds 64 x h h0
 unfold Lib.bitLen
 generalize Lib.bitLenAux 64 x = k at *
 obtain ⟨j, rfl⟩ : ∃ j, k = j + 1 := ⟨k - 1, by omega⟩
 rw [Jfr x j (by simpa using h2) h3]
def top (n : Nat) : Nat := (words n).getLastD 0
theorem Xj (n : Nat) (h : n ≠ 0) : words n = (words n).dropLast ++ [top n] /\ top n ≠ 0 /\ top n < 18446744073709551616 := by
 have j7 : words n ≠ [] := by rw [Qd n h]; simp
 have h1 : top n = (words n).getLast j7 := by
  unfold top
  rw [List.getLastD_eq_getLast?, List.getLast?_eq_some_getLast j7]
  rfl
 refine ⟨?_, ?_, ?_⟩
 ·rw [h1, List.dropLast_concat_getLast]
 ·have := Jhm n
  unfold Jkk at this
  rw [List.getLast?_eq_some_getLast j7] at this
  rw [h1]
  intro h2
  exact this (by rw [h2])
 rw [h1]
 exact Yq n _ (List.getLast_mem j7)
theorem Ka (n : Nat) (h : n ≠ 0) : Je n = 64 * ((words n).length - 1) + Je (top n) := by
 obtain ⟨h1, h2, h3⟩ := Xj n h
 have hv := Vg n
 rw [h1, Jhn] at hv
 have hw : W64 (words n).dropLast := fun x hx => Yq n x ((List.dropLast_sublist _).subset hx)
 have hl := Jm9 _ hw
 have e : val [top n] = top n := by simp [val]
 rw [e, List.length_dropLast] at hv
 rw [List.length_dropLast] at hl
 have p : (18446744073709551616 : Nat) ^ ((words n).length - 1) = 2 ^ (64 * ((words n).length - 1)) := by
  rw [Nat.pow_mul]
 rw [p] at hv hl
 have := Jc4 _ (top n) _ hl h2
 rw [hv] at this
 exact this
theorem Jln (n : Nat) (h : ¬ n < 18446744073709551616) : (mo n).data.toList.drop ((mo n).size - 8) = leB (top n) := by
 have hb := Zf n h
 obtain ⟨h1, _, _⟩ := Xj n (by omega)
 rw [Ui]
 have e : (mo n).data.toList = (words n).tail.flatMap leB := rfl
 rw [e, show 8 * ((words n).length - 1) - 8 = 8 * ((words n).length - 2) from by omega, Jeh]
 have hd : (words n).tail.drop ((words n).length - 2) = [top n] := by
  rw [List.drop_tail]
  rw [show (words n).length - 2 + 1 = (words n).dropLast.length from by rw [List.length_dropLast]; omega]
  conv => lhs; rw [h1]
  rw [List.dropLast_concat, List.drop_left]
 rw [hd]
 simp
theorem Yb (n k : Nat) (h : n < 2 ^ k) : Je n <= k := by
 by_cases h0 : n = 0
 ·subst h0
  exact Nat.zero_le _
 obtain ⟨h1, h2, h3⟩ := Xe n h0
 rcases Nat.lt_or_ge k (Je n) with h4 | h4
 ·exfalso
  have : 2 ^ k <= 2 ^ (Je n - 1) := Nat.pow_le_pow_right (by omega) (by omega)
  omega
 exact h4
theorem Qc {a b : Nat} (h : a <= b) : Je a <= Je b := Yb _ _ (Nat.lt_of_le_of_lt h (Kj b))
theorem Jhf (a b : Nat) : Je (a + b) <= max (Je a) (Je b) + 1 := by
 apply Yb
 have h1 : a < 2 ^ max (Je a) (Je b) := Nat.lt_of_lt_of_le (Kj a) (Nat.pow_le_pow_right (by omega) (by omega))
 have h2 : b < 2 ^ max (Je a) (Je b) := Nat.lt_of_lt_of_le (Kj b) (Nat.pow_le_pow_right (by omega) (by omega))
 rw [Nat.pow_succ]
 omega
theorem Jav (a b : Nat) : Je (a * b) <= Je a + Je b := by
 apply Yb
 rw [Nat.pow_add]
 exact Nat.mul_lt_mul'' (Kj a) (Kj b)
theorem Ze (n : Nat) (h : n < 18446744073709551616) : Je n <= 64 := Yb n 64 (by omega)
theorem Jct {n k : Nat} (h : Je n <= k) : n < 2 ^ k := Nat.lt_of_lt_of_le (Kj n) (Nat.pow_le_pow_right (by omega) h)
def Km : Nat -> Nat -> List Nat
 | 0, _ => []
 | f + 1, n => if n = 0 then [] else n % 4294967296 :: Km f (n / 4294967296)
def Jd (n : Nat) : List Nat := Km n n
theorem Jgw : ∀ (f g n : Nat), n <= f -> n <= g -> Km f n = Km g n := by
 intro f
 induction f with
 | zero =>
  intro g n h1 h2
  obtain rfl : n = 0 := by omega
  cases g <;> simp [Km]
 | succ f ih =>
  intro g n h1 h2
  by_cases h : n = 0
  ·subst h; cases g <;> simp [Km]
  obtain ⟨g, rfl⟩ : ∃ k, g = k + 1 := ⟨g - 1, by omega⟩
  simp only [Km, if_neg h]
  rw [ih g _ (by omega) (by omega)]
theorem Qi : Jd 0 = [] := rfl
theorem Zj (n : Nat) (h : n ≠ 0) : Jd n = n % 4294967296 :: Jd (n / 4294967296) := by
 unfold Jd
 obtain ⟨k, rfl⟩ : ∃ k, n = k + 1 := ⟨n - 1, by omega⟩
 rw [show Km (k + 1) (k + 1) = (k + 1) % 4294967296 :: Km k ((k + 1) / 4294967296) from by simp only [Km, if_neg h]]
 rw [Jgw k _ _ (by omega) zd]
theorem Ql (n : Nat) : dv 4294967296 (Jd n) = n := by
 induction n using Nat.strongRecOn with
 | ind n ih =>
  by_cases h : n = 0
  ·subst h; rw [Qi]; rfl
  rw [Zj n h, Xv, ih _ (by omega)]
  omega
theorem Jx (n : Nat) : Dig 4294967296 (Jd n) := by
 induction n using Nat.strongRecOn with
 | ind n ih =>
  by_cases h : n = 0
  ·subst h; rw [Qi]; exact Dig.nil
  rw [Zj n h]
  exact Dig.cons (Nat.mod_lt _ (by omega)) (ih _ (by omega))
theorem Jh2 (n : Nat) : (Jd n).getLast? ≠ some 0 := by
 induction n using Nat.strongRecOn with
 | ind n ih =>
  by_cases h : n = 0
  ·subst h; rw [Qi]; simp
  rw [Zj n h]
  by_cases h2 : n / 4294967296 = 0
  ·rw [h2, Qi]
   simp
   omega
  rw [Zj _ h2, List.getLast?_cons_cons, <- Zj _ h2]
  exact ih _ (by omega)
theorem Jjw : ∀ (l : List Nat), Dig 4294967296 l -> l.getLast? ≠ some 0 -> Jd (dv 4294967296 l) = l := by
 intro l
 induction l with
 | nil => intro _ _; rfl
 | cons x r ih =>
  intro hw ht
  have hx : x < 4294967296 := hw x (by simp)
  have hr : Dig 4294967296 r := fun y hy => hw y (by simp [hy])
  cases r with
  | nil =>
   have h0 : x ≠ 0 := by simpa using ht
   rw [Xv, Ux, Nat.mul_zero, Nat.add_zero, Zj x h0, Nat.mod_eq_of_lt hx, Nat.div_eq_of_lt hx, Qi]
  | cons y s =>
   have h1 := ih hr (by rwa [List.getLast?_cons_cons] at ht)
   have j7 : dv 4294967296 (y :: s) ≠ 0 := fun h => by rw [h, Qi] at h1; cases h1
   rw [Xv]
   generalize dv 4294967296 (y :: s) = z at *
   rw [Zj _ (by omega), show (x + 4294967296 * z) % 4294967296 = x by omega, show (x + 4294967296 * z) / 4294967296 = z by omega, h1]
theorem Jlb (l : List Nat) (h : Dig 4294967296 l) : Jd (dv 4294967296 l) = trimL l := by
 rw [<- Jci (β := 4294967296) l]
 exact Jjw _ h.trimL (Jch l)
theorem Xz (n : Nat) : n < 4294967296 ^ (Jd n).length := by
 have := Xm (Jx n)
 rwa [Ql] at this
theorem Ks (n : Nat) : (Jd n).length = 0 ↔ n = 0 := by
 constructor
 ·intro h
  have := Xz n
  rw [h] at this
  simpa using this
 intro h
 rw [h, Qi]
 rfl
theorem Jbe (n : Nat) (h : n ≠ 0) : ∃ t, (Jd n)[(Jd n).length - 1]? = some t /\ t ≠ 0 /\ t < 4294967296 := by
 have h1 : 0 < (Jd n).length := by
  rcases Nat.eq_zero_or_pos (Jd n).length with h0 | h0
  ·exact absurd ((Ks n).1 h0) h
  exact h0
 refine ⟨(Jd n)[(Jd n).length - 1], List.getElem?_eq_getElem (by omega), ?_, ?_⟩
 ·intro h2
  apply Jh2 n
  rw [List.getLast?_eq_getElem?, List.getElem?_eq_getElem (by omega), h2]
 exact Jx n _ (List.getElem_mem _)
theorem Jcu (n : Nat) (h : n ≠ 0) : 4294967296 ^ ((Jd n).length - 1) <= n := by
 obtain ⟨t, h1, h2, h3⟩ := Jbe n h
 have := Jek (β := 4294967296) h1
 rw [Ql] at this
 refine nt ?_ this
 exact Nat.le_mul_of_pos_left _ (by omega)
theorem Jan {a b : Nat} (h : (Jd a).length < (Jd b).length) : a < b := by
 have hb : b ≠ 0 := fun e => by subst e; rw [Qi] at h; simp at h
 refine Nat.lt_of_lt_of_le (Xz a) (nt ?_ (Jcu b hb))
 exact Nat.pow_le_pow_right (by omega) (by omega)
theorem Jao {n k : Nat} (h : n < 4294967296 ^ k) : (Jd n).length <= k := by
 rcases Nat.lt_or_ge k (Jd n).length with h1 | h1
 ·have hn : n ≠ 0 := fun e => by subst e; rw [Qi] at h1; simp at h1
  have h2 := Jcu n hn
  have h3 : 4294967296 ^ k <= 4294967296 ^ ((Jd n).length - 1) := Nat.pow_le_pow_right (by omega) (by omega)
  omega
 exact h1
theorem Zv {a b : Nat} (h : a <= b) : (Jd a).length <= (Jd b).length := Jao (Nat.lt_of_le_of_lt h (Xz b))
theorem Jgi (k : Nat) : (4294967296 : Nat) ^ k = 2 ^ (32 * k) := by rw [Nat.pow_mul]
theorem Jab (n k : Nat) (h : Je n <= 32 * k) : (Jd n).length <= k := Jao (by rw [Jgi]; exact Jct h)
theorem Jip (n : Nat) : Je n <= 32 * (Jd n).length := Yb _ _ (by rw [<- Jgi]; exact Xz n)
theorem Jbv (n : Nat) (hn : Je n <= 1099511627776) : (Jd n).length <= 34359738368 := Jab n _ (by omega)
theorem Jeb (n : Nat) (h : n < 4294967296) (h0 : n ≠ 0) : Jd n = [n] := by
 rw [Zj n h0, Nat.mod_eq_of_lt h, Nat.div_eq_of_lt h, Qi]
theorem Jhd {n t : Nat} (h : (Jd n)[(Jd n).length - 1]? = some t) (ht : t ≠ 0) : Je n = 32 * ((Jd n).length - 1) + Je t := by
 have aC : (Jd n).length - 1 < (Jd n).length := (List.getElem?_eq_some_iff.1 h).1
 have e := Xd (β := 4294967296) (l := Jd n) ((Jd n).length - 1) (by omega)
 have e2 := Qa (β := 4294967296) h
 rw [show (Jd n).length - 1 + 1 = (Jd n).length by omega, Qx zd, Nat.mul_zero, Nat.add_zero] at e2
 rw [Ql, e2] at e
 have hl := Xm ((Jx n).take ((Jd n).length - 1))
 rw [List.length_take, Nat.min_eq_left (by omega), Jgi] at hl
 rw [Jgi] at e
 have := Jc4 _ t _ hl ht
 rw [<- e] at this
 exact this
