import Derived.Test.YtacbcaebaomglaaGreatDoorRowQ
namespace Go.Proofs.YtacbcaebaomglaaGreatDoor
set_option linter.all false
def Qq (a b : List Rat) : Nat -> Rat
 | 0 => 0
 | k + 1 => Qq a b k + (a.getD k 0 - b.getD k 0) * (a.getD k 0 - b.getD k 0)
def Xk (a b : List Rat) : Rat := Qq a b a.length
theorem Jlm (x y : Rat) : (x - y) * (x - y) = (y - x) * (y - x) := by
 have e : x - y = -(y - x) := by rw [Rat.sub_eq_add_neg, Rat.sub_eq_add_neg, Rat.neg_add, Rat.neg_neg, Rat.add_comm]
 rw [e, Rat.neg_mul, Rat.mul_neg, Rat.neg_neg]
theorem Jgx (a b : List Rat) : ∀ k, Qq a b k = Qq b a k := by
 intro k
 induction k with
 | zero => rfl
 | succ k ih => unfold Qq; rw [ih, Jlm]
theorem Jk7 {a b : List Rat} (h : a.length = b.length) : Xk a b = Xk b a := by
 unfold Xk
 rw [Jgx, h]
theorem Jk6 (a : List Rat) : Xk a a = 0 := by
 have h : ∀ k, Qq a a k = 0 := by
  intro k
  induction k with
  | zero => rfl
  | succ k ih => unfold Qq; rw [ih, Rat.sub_self, Rat.mul_zero, Rat.add_zero]
 exact h _
theorem Jj6 {m : Nat} {l : List Rat} (hl : ∀ x ∈ l, QS m x) (hm : 1 <= m) (k : Nat) : QS m (l.getD k 0) := by
 rw [List.getD_eq_getElem?_getD]
 cases h : l[k]? with
 | none => exact QS.zero m hm
 | some x => exact hl x (List.mem_of_getElem? h)
theorem Joz {m n : Nat} {a b : Rat} (ha : QS m a) (hb : QS n b) : QS (m + n + 1) (a - b) := by
 rw [Rat.sub_eq_add_neg]
 exact ha.add hb.neg
theorem Yq {m : Nat} {a b : List Rat} (ha : ∀ x ∈ a, QS m x) (hb : ∀ x ∈ b, QS m x) (hm : 1 <= m) : ∀ k, QS (k * (4 * m + 3) + 1) (Qq a b k) := by
 intro k
 induction k with
 | zero => exact QS.zero _ (by omega)
 | succ k ih =>
  have e : (k + 1) * (4 * m + 3) + 1 = (k * (4 * m + 3) + 1) + ((m + m + 1) + (m + m + 1)) + 1 := by rw [Nat.add_mul]; omega
  have hd := Joz (Jj6 ha hm k) (Jj6 hb hm k)
  unfold Qq
  rw [e]
  exact ih.add (hd.mul hd)
def minQ (a b : Rat) : Rat := if b < a then b else a
def maxQ (a b : Rat) : Rat := if a < b then b else a
structure Jn where
 a : Int
 b : Int
 size : Int
 high : Rat
instance : Inhabited Jn := ⟨⟨0, 0, 0, 0⟩⟩
structure Cls where
 far : List (List Rat)
 size : List Nat
 gone : List Bool
def Jo8 (far : List (List Rat)) (a b : Nat) : Rat := (far.getD (max a b) []).getD (min a b) 0
def Jop (g : List Bool) (i : Nat) : Bool := !(g.getD i true)
def Jnj (how sa sb : Nat) (x y : Rat) : Rat := if how = 1 then minQ x y else if how = 2 then maxQ x y else (x * (sa : Rat) + y * (sb : Rat)) / ((sa + sb : Nat) : Rat)
def Jof (how : Nat) (c : Cls) (a b : Nat) : Nat -> Rat := fun i =>
 if Jop c.gone i && decide (i ≠ a) && decide (i ≠ b) then Jnj how (c.size.getD a 0) (c.size.getD b 0) (Jo8 c.far a i) (Jo8 c.far b i) else 0
def joined (how : Nat) (c : Cls) (a b : Nat) : Cls :=
 ⟨c.far ++ [(List.range c.size.length).map (Jof how c a b)], c.size ++ [c.size.getD a 0 + c.size.getD b 0], ((c.gone.set a true).set b true) ++ [false]⟩
