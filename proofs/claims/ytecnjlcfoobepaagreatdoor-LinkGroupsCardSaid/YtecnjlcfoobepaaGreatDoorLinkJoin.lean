import Derived.Test.YtecnjlcfoobepaaGreatDoorRowQ
namespace Go.Proofs.YtecnjlcfoobepaaGreatDoor
set_option linter.all false
def Qv (a b : List Rat) : Nat -> Rat
 | 0 => 0
 | k + 1 => Qv a b k + (a.getD k 0 - b.getD k 0) * (a.getD k 0 - b.getD k 0)
def Xt (a b : List Rat) : Rat := Qv a b a.length
theorem Jol (x y : Rat) : (x - y) * (x - y) = (y - x) * (y - x) := by
 have e : x - y = -(y - x) := by rw [Rat.sub_eq_add_neg, Rat.sub_eq_add_neg, Rat.neg_add, Rat.neg_neg, Rat.add_comm]
 rw [e, Rat.neg_mul, Rat.mul_neg, Rat.neg_neg]
theorem Jh0 (a b : List Rat) : ∀ k, Qv a b k = Qv b a k := by
 intro k
 induction k with
 | zero => rfl
 | succ k ih => unfold Qv; rw [ih, Jol]
theorem Jgm {a b : List Rat} (h : a.length = b.length) : Xt a b = Xt b a := by
 unfold Xt
 rw [Jh0, h]
theorem Jgl (a : List Rat) : Xt a a = 0 := by
 have h : ∀ k, Qv a a k = 0 := by
  intro k
  induction k with
  | zero => rfl
  | succ k ih => unfold Qv; rw [ih, Rat.sub_self, Rat.mul_zero, Rat.add_zero]
 exact h _
def Xr (x : List (List Rat)) : List (List Rat) := x.map fun a => x.map fun b => Xt a b
theorem Yu (x : List (List Rat)) : (Xr x).length = x.length := by simp [Xr]
theorem Jcl {x : List (List Rat)} {i : Nat} {a : List Rat} (h : x[i]? = some a) : (Xr x)[i]? = some (x.map fun b => Xt a b) := by
 unfold Xr
 rw [List.getElem?_map, h]
 rfl
theorem Jmk {m : Nat} {l : List Rat} (hl : ∀ x ∈ l, QS m x) (hm : 1 <= m) (k : Nat) : QS m (l.getD k 0) := by
 rw [List.getD_eq_getElem?_getD]
 cases h : l[k]? with
 | none => exact QS.zero m hm
 | some x => exact hl x (List.mem_of_getElem? h)
theorem Js6 {m n : Nat} {a b : Rat} (ha : QS m a) (hb : QS n b) : QS (m + n + 1) (a - b) := by
 rw [Rat.sub_eq_add_neg]
 exact ha.add hb.neg
theorem Vv {m : Nat} {a b : List Rat} (ha : ∀ x ∈ a, QS m x) (hb : ∀ x ∈ b, QS m x) (hm : 1 <= m) : ∀ k, QS (k * (4 * m + 3) + 1) (Qv a b k) := by
 intro k
 induction k with
 | zero => exact QS.zero _ (by omega)
 | succ k ih =>
  have e : (k + 1) * (4 * m + 3) + 1 = (k * (4 * m + 3) + 1) + ((m + m + 1) + (m + m + 1)) + 1 := by rw [Nat.add_mul]; omega
  have hd := Js6 (Jmk ha hm k) (Jmk hb hm k)
  unfold Qv
  rw [e]
  exact ih.add (hd.mul hd)
def Jac (f : List (List Rat)) (i k : Nat) : Bool := decide ((f.getD i []).getD k 0 < 0) || (decide (i = k) && decide ((f.getD i []).getD k 0 ≠ 0)) || decide ((f.getD i []).getD k 0 ≠ (f.getD k []).getD i 0)
def Jh6 (f : List (List Rat)) : Bool := (List.range f.length).any fun i => (List.range f.length).any fun k => Jac f i k
def Xi (f : List (List Rat)) : Nat :=
 if f.length < 1 \/ 64 < f.length then 5 else if f.any (fun l => decide (l.length ≠ f.length)) then 5 else if Jh6 f then 1 else 0
theorem Jgx {f : List (List Rat)} {i k : Nat} (hi : i < f.length) (hk : k < f.length) (h : Jac f i k = true) : Jh6 f = true :=
 List.any_eq_true.2 ⟨i, List.mem_range.2 hi, List.any_eq_true.2 ⟨k, List.mem_range.2 hk, h⟩⟩
theorem Jlw {f : List (List Rat)} (h : ∀ i, i < f.length -> ∀ k, k < f.length -> Jac f i k = false) : Jh6 f = false := by
 cases hb : Jh6 f with
 | false => rfl
 | true =>
  obtain ⟨i, hi, h2⟩ := List.any_eq_true.1 hb
  obtain ⟨k, hk, h3⟩ := List.any_eq_true.1 h2
  rw [h i (List.mem_range.1 hi) k (List.mem_range.1 hk)] at h3
  cases h3
def Yg (al : Nat -> Bool) (D : Nat -> Nat -> Rat) (a b : Nat) (o : Option (Nat × Nat × Rat)) : Option (Nat × Nat × Rat) :=
 if a < b /\ al a = true /\ al b = true then
  match o with
  | none => some (a, b, D a b)
  | some (x, y, h) => if D a b < h then some (a, b, D a b) else some (x, y, h)
 else o
def Zi (al : Nat -> Bool) (D : Nat -> Nat -> Rat) (a : Nat) (o : Option (Nat × Nat × Rat)) : Nat -> Option (Nat × Nat × Rat)
 | 0 => o
 | b + 1 => Yg al D a b (Zi al D a o b)
def Xh (al : Nat -> Bool) (D : Nat -> Nat -> Rat) (m : Nat) : Nat -> Option (Nat × Nat × Rat)
 | 0 => none
 | a + 1 => Zi al D a (Xh al D m a) m
def Ut (al : Nat -> Bool) (D : Nat -> Nat -> Rat) (P : Nat -> Nat -> Prop) (o : Option (Nat × Nat × Rat)) : Prop :=
 match o with
 | none => ∀ a b, a < b -> al a = true -> al b = true -> ¬ P a b
 | some (x, y, h) => x < y /\ al x = true /\ al y = true /\ P x y /\ h = D x y /\ ∀ a b, a < b -> al a = true -> al b = true -> P a b -> h <= D a b
theorem Kf {al : Nat -> Bool} {D : Nat -> Nat -> Rat} {P Q : Nat -> Nat -> Prop} {o : Option (Nat × Nat × Rat)} (h : Ut al D P o) (aC : ∀ a b, a < b -> al a = true -> al b = true -> (P a b ↔ Q a b)) : Ut al D Q o := by
 unfold Ut at *
 split
 ·intro a b h1 h2 h3 h4
  exact h a b h1 h2 h3 ((aC a b h1 h2 h3).2 h4)
 obtain ⟨h1, h2, h3, h4, h5, h6⟩ := h
 exact ⟨h1, h2, h3, (aC _ _ h1 h2 h3).1 h4, h5, fun a b g1 g2 g3 g4 => h6 a b g1 g2 g3 ((aC a b g1 g2 g3).2 g4)⟩
theorem Jje {al : Nat -> Bool} {D : Nat -> Nat -> Rat} {P : Nat -> Nat -> Prop} {o : Option (Nat × Nat × Rat)} (a b : Nat) (h : Ut al D P o) : Ut al D (fun x y => P x y \/ (x = a /\ y = b)) (Yg al D a b o) := by
 unfold Yg
 by_cases hc : a < b /\ al a = true /\ al b = true
 ·rw [if_pos hc]
  obtain ⟨j8, ha, hb⟩ := hc
  cases o with
  | none =>
   refine ⟨j8, ha, hb, .inr ⟨rfl, rfl⟩, rfl, fun x y h1 h2 h3 h4 => ?_⟩
   rcases h4 with h4 | ⟨rfl, rfl⟩
   ·exact absurd h4 (h x y h1 h2 h3)
   exact Rat.le_refl
  | some t =>
   obtain ⟨x, y, g⟩ := t
   obtain ⟨h1, h2, h3, h4, h5, h6⟩ := h
   show Ut al D _ (if D a b < g then _ else _)
   by_cases hd : D a b < g
   ·rw [if_pos hd]
    refine ⟨j8, ha, hb, .inr ⟨rfl, rfl⟩, rfl, fun u v g1 g2 g3 g4 => ?_⟩
    rcases g4 with g4 | ⟨rfl, rfl⟩
    ·have := h6 u v g1 g2 g3 g4
     grind
    exact Rat.le_refl
   rw [if_neg hd]
   refine ⟨h1, h2, h3, .inl h4, h5, fun u v g1 g2 g3 g4 => ?_⟩
   rcases g4 with g4 | ⟨rfl, rfl⟩
   ·exact h6 u v g1 g2 g3 g4
   grind
 rw [if_neg hc]
 refine Kf h fun x y h1 h2 h3 => ⟨fun h => .inl h, fun h => ?_⟩
 rcases h with h | ⟨rfl, rfl⟩
 ·exact h
 exact absurd ⟨h1, h2, h3⟩ hc
theorem Jkz {al : Nat -> Bool} {D : Nat -> Nat -> Rat} {P : Nat -> Nat -> Prop} {o : Option (Nat × Nat × Rat)} (a : Nat) (h : Ut al D P o) : ∀ m, Ut al D (fun x y => P x y \/ (x = a /\ y < m)) (Zi al D a o m) := by
 intro m
 induction m with
 | zero => exact Kf h fun x y _ _ _ => ⟨fun h => .inl h, fun h => h.elim id fun h => absurd h.2 (Nat.not_lt_zero _)⟩
 | succ m ih =>
  unfold Zi
  refine Kf (Jje a m ih) fun x y _ _ _ => ⟨fun h => ?_, fun h => ?_⟩
  ·rcases h with (h | h) | h
   ·exact .inl h
   ·exact .inr ⟨h.1, by omega⟩
   exact .inr ⟨h.1, by omega⟩
  rcases h with h | ⟨h, h'⟩
  ·exact .inl (.inl h)
  by_cases hy : y = m
  ·exact .inr ⟨h, hy⟩
  exact .inl (.inr ⟨h, by omega⟩)
theorem Jjf (al : Nat -> Bool) (D : Nat -> Nat -> Rat) (m : Nat) : ∀ k, Ut al D (fun x y => x < k /\ y < m) (Xh al D m k) := by
 intro k
 induction k with
 | zero => exact fun a b _ _ _ h => absurd h.1 (Nat.not_lt_zero _)
 | succ k ih =>
  unfold Xh
  refine Kf (Jkz k ih m) fun x y _ _ _ => ⟨fun h => ?_, fun h => ?_⟩
  ·rcases h with h | h
   ·exact ⟨by omega, h.2⟩
   exact ⟨by omega, h.2⟩
  by_cases hy : x = k
  ·exact .inr ⟨hy, h.2⟩
  exact .inl ⟨by omega, h.2⟩
theorem Jk0 (al : Nat -> Bool) (D : Nat -> Nat -> Rat) (m : Nat) : Ut al D (fun x y => y < m) (Xh al D m m) :=
 Kf (Jjf al D m m) fun x y h _ _ => ⟨fun h => h.2, fun h2 => ⟨by omega, h2⟩⟩
theorem Jkl {al : Nat -> Bool} {D : Nat -> Nat -> Rat} {m a b : Nat} (h : a < b) (hb : b < m) (ha : al a = true) (aK : al b = true) : ∃ x y, Xh al D m m = some (x, y, D x y) /\ x < y /\ y < m /\ al x = true /\ al y = true /\ ∀ u v, u < v -> v < m -> al u = true -> al v = true -> D x y <= D u v := by
 have hl := Jk0 al D m
 cases hs : Xh al D m m with
 | none =>
  rw [hs] at hl
  exact absurd hb (hl a b h ha aK)
 | some t =>
  obtain ⟨x, y, g⟩ := t
  rw [hs] at hl
  obtain ⟨h1, h2, h3, h4, h5, h6⟩ := hl
  subst h5
  exact ⟨x, y, rfl, h1, h4, h2, h3, fun u v g1 g2 g3 g4 => h6 u v g1 g3 g4 g2⟩
theorem Jik {al al' : Nat -> Bool} {D D' : Nat -> Nat -> Rat} {a b : Nat} (o : Option (Nat × Nat × Rat)) (ha : al a = al' a) (hb : al b = al' b) (hD : a < b -> al a = true -> al b = true -> D a b = D' a b) : Yg al D a b o = Yg al' D' a b o := by
 unfold Yg
 by_cases hc : a < b /\ al a = true /\ al b = true
 ·rw [if_pos hc, if_pos (by rw [<- ha, <- hb]; exact hc), hD hc.1 hc.2.1 hc.2.2]
 rw [if_neg hc, if_neg (by rw [<- ha, <- hb]; exact hc)]
theorem Jkm {al al' : Nat -> Bool} {D D' : Nat -> Nat -> Rat} {a m : Nat} (ha : a < m) (x8 : ∀ i, i < m -> al i = al' i) (hD : ∀ a b, a < b -> b < m -> al a = true -> al b = true -> D a b = D' a b) (o : Option (Nat × Nat × Rat)) : ∀ k, k <= m -> Zi al D a o k = Zi al' D' a o k := by
 intro k
 induction k with
 | zero => intro _; rfl
 | succ k ih =>
  intro hk
  unfold Zi
  rw [ih (by omega)]
  exact Jik _ (x8 a ha) (x8 k (by omega)) fun h1 h2 h3 => hD a k h1 (by omega) h2 h3
theorem Jip {al al' : Nat -> Bool} {D D' : Nat -> Nat -> Rat} {m : Nat} (x8 : ∀ i, i < m -> al i = al' i) (hD : ∀ a b, a < b -> b < m -> al a = true -> al b = true -> D a b = D' a b) : ∀ k, k <= m -> Xh al D m k = Xh al' D' m k := by
 intro k
 induction k with
 | zero => intro _; rfl
 | succ k ih =>
  intro hk
  unfold Xh
  rw [ih (by omega), Jkm (by omega) x8 hD _ m zd]
def Jpb (a b : Rat) : Rat := if b < a then b else a
def Jpf (a b : Rat) : Rat := if a < b then b else a
structure Jn where
 a : Int
 b : Int
 size : Int
 high : Rat
instance : Inhabited Jn := ⟨⟨0, 0, 0, 0⟩⟩
structure Cls where
 far : List (List Rat)
 size : List Nat
 gone : List Bool
def betw (far : List (List Rat)) (a b : Nat) : Rat := (far.getD (max a b) []).getD (min a b) 0
def Qq (g : List Bool) (i : Nat) : Bool := !(g.getD i true)
def Yj (how sa sb : Nat) (x y : Rat) : Rat := if how = 1 then Jpb x y else if how = 2 then Jpf x y else (x * (sa : Rat) + y * (sb : Rat)) / ((sa + sb : Nat) : Rat)
def Jeb (c : Cls) : Option (Nat × Nat × Rat) := Xh (Qq c.gone) (betw c.far) c.size.length c.size.length
def Xb (how : Nat) (c : Cls) (a b : Nat) : Nat -> Rat := fun i =>
 if Qq c.gone i && decide (i ≠ a) && decide (i ≠ b) then Yj how (c.size.getD a 0) (c.size.getD b 0) (betw c.far a i) (betw c.far b i) else 0
def Vs (how : Nat) (c : Cls) (a b : Nat) : Cls :=
 ⟨c.far ++ [(List.range c.size.length).map (Xb how c a b)], c.size ++ [c.size.getD a 0 + c.size.getD b 0], ((c.gone.set a true).set b true) ++ [false]⟩
def Jgd (how : Nat) (c : Cls) : Jn × Cls :=
 match Jeb c with
 | none => (default, c)
 | some (a, b, h) => (⟨a, b, ((c.size.getD a 0 + c.size.getD b 0 : Nat) : Int), h⟩, Vs how c a b)
def Jaj (f : List (List Rat)) : Cls := ⟨(List.range f.length).map fun i => (f.getD i []).take i, List.replicate f.length 1, List.replicate f.length false⟩
def Qe (how : Nat) (f : List (List Rat)) : Nat -> Cls
 | 0 => Jaj f
 | k + 1 => (Jgd how (Qe how f k)).2
def Jh (how : Nat) (f : List (List Rat)) (k : Nat) : Jn := (Jgd how (Qe how f k)).1
def Zy (how : Nat) (f : List (List Rat)) : List Jn := (List.range (f.length - 1)).map (Jh how f)
def Jk (n : Nat) (J : Nat -> Jn) (r : Nat) : Nat -> Int
 | 0 => r
 | k + 1 => if Jk n J r k = (J k).a \/ Jk n J r k = (J k).b then ((n + k : Nat) : Int) else Jk n J r k
def Jq (n : Nat) (J : Nat -> Jn) : Nat -> Nat -> List Nat
 | 0, i => if i < n then [i] else []
 | k + 1, i => if i = n + k then Jq n J k (J k).a.toNat ++ Jq n J k (J k).b.toNat else if (i : Int) = (J k).a \/ (i : Int) = (J k).b then [] else Jq n J k i
theorem Jiz {n : Nat} {J J' : Nat -> Jn} (r : Nat) : ∀ k, (∀ i, i < k -> J i = J' i) -> Jk n J r k = Jk n J' r k := by
 intro k
 induction k with
 | zero => intro _; rfl
 | succ k ih =>
  intro h
  unfold Jk
  rw [ih fun i hi => h i (by omega), h k (by omega)]
theorem Jo5 {n : Nat} {J : Nat -> Jn} {r s k : Nat} (h : Jk n J r k = Jk n J s k) : ∀ m, Jk n J r (k + m) = Jk n J s (k + m) := by
 intro m
 induction m with
 | zero => exact h
 | succ m ih =>
  show Jk n J r (k + m + 1) = Jk n J s (k + m + 1)
  unfold Jk
  rw [ih]
def Qf (g : Nat -> Rat) : List Nat -> Rat
 | [] => 0
 | i :: l => g i + Qf g l
def Jai (d : Nat -> Nat -> Rat) (p q : List Nat) : Rat := Qf (fun i => Qf (d i) q) p
theorem Jd6 (g : Nat -> Rat) (p q : List Nat) : Qf g (p ++ q) = Qf g p + Qf g q := by
 induction p with
 | nil => show Qf g q = 0 + Qf g q; grind
 | cons i p ih => simp only [List.cons_append, Qf, ih]; grind
theorem Jii (g h : Nat -> Rat) (p : List Nat) : Qf (fun i => g i + h i) p = Qf g p + Qf h p := by
 induction p with
 | nil => show (0 : Rat) = 0 + 0; grind
 | cons i p ih => simp only [Qf, ih]; grind
theorem Jbn {g h : Nat -> Rat} {p : List Nat} (hh : ∀ i ∈ p, g i = h i) : Qf g p = Qf h p := by
 induction p with
 | nil => rfl
 | cons i p ih => simp only [Qf]; rw [hh i (by simp), ih fun j hj => hh j (by simp [hj])]
theorem Jg6 (p : List Nat) : Qf (fun _ => 0) p = 0 := by
 induction p with
 | nil => rfl
 | cons i p ih => simp only [Qf, ih]; grind
theorem Jkh (d : Nat -> Nat -> Rat) (p q : List Nat) : Jai d p q = Jai (fun i j => d j i) q p := by
 induction p with
 | nil =>
  show (0 : Rat) = Qf (fun i => 0) q
  rw [Jg6]
 | cons i p ih =>
  have h := Jii (fun j => d i j) (fun j => Qf (fun x => d x j) p) q
  unfold Jai at ih ⊢
  simp only [Qf]
  rw [ih]
  exact h.symm
theorem Jg5 (d : Nat -> Nat -> Rat) (p q r : List Nat) : Jai d (p ++ q) r = Jai d p r + Jai d q r := Jd6 _ p q
def Zc (how : Nat) (d : Nat -> Nat -> Rat) (p q : List Nat) (x : Rat) : Prop :=
 if how = 1 then (∃ i, i ∈ p /\ ∃ j, j ∈ q /\ d i j = x) /\ ∀ i, i ∈ p -> ∀ j, j ∈ q -> x <= d i j
 else if how = 2 then (∃ i, i ∈ p /\ ∃ j, j ∈ q /\ d i j = x) /\ ∀ i, i ∈ p -> ∀ j, j ∈ q -> d i j <= x
 else x * ((p.length * q.length : Nat) : Rat) = Jai d p q
theorem Jdk {how : Nat} {d : Nat -> Nat -> Rat} {p q : List Nat} {x : Rat} (h : Zc how d p q x) (hd : ∀ i, i ∈ p -> ∀ j, j ∈ q -> d i j = d j i) : Zc how d q p x := by
 unfold Zc at *
 split at h
 ·obtain ⟨⟨i, hi, j, hj, hx⟩, h2⟩ := h
  rw [if_pos (by assumption)]
  exact ⟨⟨j, hj, i, hi, by rw [<- hd i hi j hj, hx]⟩, fun i hi j hj => by rw [<- hd j hj i hi]; exact h2 j hj i hi⟩
 split at h
 ·obtain ⟨⟨i, hi, j, hj, hx⟩, h2⟩ := h
  rw [if_neg (by assumption), if_pos (by assumption)]
  exact ⟨⟨j, hj, i, hi, by rw [<- hd i hi j hj, hx]⟩, fun i hi j hj => by rw [<- hd j hj i hi]; exact h2 j hj i hi⟩
 rw [if_neg (by assumption), if_neg (by assumption), Nat.mul_comm, h, Jkh]
 exact Jbn fun j hj => Jbn fun i hi => hd i hi j hj
theorem Jhr {how : Nat} {d : Nat -> Nat -> Rat} {p q r : List Nat} {x y : Rat} (hx : Zc how d p r x) (hy : Zc how d q r y) (hp : p ≠ []) (hq : q ≠ []) : Zc how d (p ++ q) r (Yj how p.length q.length x y) := by
 unfold Zc Yj Jpb Jpf at *
 by_cases h1 : how = 1
 ·simp only [h1, if_true] at *
  obtain ⟨⟨i, hi, j, hj, e⟩, h2⟩ := hx
  obtain ⟨⟨i', aD, j', j7, e'⟩, aE⟩ := hy
  refine ⟨?_, fun u hu v hv => ?_⟩
  ·split
   ·exact ⟨i', List.mem_append.2 (.inr aD), j', j7, e'⟩
   exact ⟨i, List.mem_append.2 (.inl hi), j, hj, e⟩
  rcases List.mem_append.1 hu with hu | hu
  ·have := h2 u hu v hv
   split <;> grind
  have := aE u hu v hv
  split <;> grind
 rw [if_neg h1] at hx hy ⊢
 rw [if_neg h1]
 by_cases h2 : how = 2
 ·simp only [h2, if_true] at *
  obtain ⟨⟨i, hi, j, hj, e⟩, h2⟩ := hx
  obtain ⟨⟨i', aD, j', j7, e'⟩, aE⟩ := hy
  refine ⟨?_, fun u hu v hv => ?_⟩
  ·split
   ·exact ⟨i', List.mem_append.2 (.inr aD), j', j7, e'⟩
   exact ⟨i, List.mem_append.2 (.inl hi), j, hj, e⟩
  rcases List.mem_append.1 hu with hu | hu
  ·have := h2 u hu v hv
   split <;> grind
  have := aE u hu v hv
  split <;> grind
 rw [if_neg h2] at hx hy ⊢
 rw [if_neg h2]
 have aQ : 0 < p.length := List.length_pos_iff.2 hp
 have aR : 0 < q.length := List.length_pos_iff.2 hq
 rw [Jg5, <- hx, <- hy]
 simp only [List.length_append, Rat.natCast_mul, Rat.natCast_add]
 generalize p.length = a at *
 generalize q.length = b at *
 generalize r.length = c at *
 have ha : (0 : Rat) < (a : Rat) := by exact_mod_cast aQ
 have hb : (0 : Rat) < (b : Rat) := by exact_mod_cast aR
 have j8 : (a : Rat) + (b : Rat) ≠ 0 := by grind
 grind
theorem Jnc {how sa sb : Nat} {x y h : Rat} (hx : h <= x) (hy : h <= y) (ha : 0 < sa) (hb : 0 < sb) : h <= Yj how sa sb x y := by
 unfold Yj Jpb Jpf
 split
 ·split <;> assumption
 split
 ·split <;> assumption
 have bF : (0 : Rat) < (sa : Rat) := by exact_mod_cast ha
 have aK : (0 : Rat) < (sb : Rat) := by exact_mod_cast hb
 rw [Rat.natCast_add]
 generalize (sa : Rat) = a at *
 generalize (sb : Rat) = b at *
 have h1 : 0 <= (x - h) * a := Rat.mul_nonneg (by grind) (by grind)
 have h2 : 0 <= (y - h) * b := Rat.mul_nonneg (by grind) (by grind)
 have h3 : (x * a + y * b) / (a + b) * (a + b) = x * a + y * b := Rat.div_mul_cancel (by grind)
 generalize (x * a + y * b) / (a + b) = z at *
 rcases Rat.le_total (a := h) (b := z) with h4 | h4
 ·exact h4
 have h5 : 0 <= (h - z) * (a + b) := Rat.mul_nonneg (by grind) (by grind)
 have h6 : (h - z) * (a + b) = 0 := by grind
 rcases Rat.mul_eq_zero.1 h6 with h7 | h7 <;> grind
theorem Jhf {n : Nat} {J : Nat -> Jn} {r : Nat} (hr : r < n) : ∀ k, Jk n J r k < ((n + k : Nat) : Int) := by
 intro k
 induction k with
 | zero => show (r : Int) < _; omega
 | succ k ih => unfold Jk; split <;> omega
theorem Jn7 : ∀ l : List Bool, 2 <= l.count false -> ∃ a b, a < b /\ b < l.length /\ Qq l a = true /\ Qq l b = true := by
 intro l
 induction l with
 | nil => intro h; simp at h
 | cons x l ih =>
  intro h
  cases x with
  | false =>
   have h1 : 0 < l.count false := by simp at h; simp; exact h
   obtain ⟨i, hi, he⟩ := List.mem_iff_getElem.1 (List.count_pos_iff.1 h1)
   exact ⟨0, i + 1, by omega, by simp; exact hi, rfl, by simp [Qq, List.getD_eq_getElem?_getD, hi, he]⟩
  | true =>
   obtain ⟨a, b, h1, h2, h3, h4⟩ := ih (by simpa using h)
   refine ⟨a + 1, b + 1, by omega, by simp; exact h2, ?_, ?_⟩
   ·simpa [Qq] using h3
   simpa [Qq] using h4
def dOf (f : List (List Rat)) (i j : Nat) : Rat := (f.getD i []).getD j 0
structure SymF (f : List (List Rat)) : Prop where
 row : ∀ i, i < f.length -> (f.getD i []).length = f.length
 sym : ∀ i j, i < f.length -> j < f.length -> dOf f i j = dOf f j i
structure InvC (how : Nat) (f : List (List Rat)) (k : Nat) (c : Cls) : Prop where
 lenf : c.far.length = f.length + k
 lens : c.size.length = f.length + k
 leng : c.gone.length = f.length + k
 row : ∀ i, i < f.length + k -> (c.far.getD i []).length = i
 al : ∀ i, i < f.length + k -> Qq c.gone i = !(Jq f.length (Jh how f) k i).isEmpty
 sz : ∀ i, i < f.length + k -> Jq f.length (Jh how f) k i ≠ [] -> c.size.getD i 0 = (Jq f.length (Jh how f) k i).length
 dist : ∀ i j, i < j -> j < f.length + k -> Jq f.length (Jh how f) k i ≠ [] -> Jq f.length (Jh how f) k j ≠ [] -> Zc how (dOf f) (Jq f.length (Jh how f) k i) (Jq f.length (Jh how f) k j) (betw c.far i j)
 mem : ∀ i r, r ∈ Jq f.length (Jh how f) k i ↔ r < f.length /\ Jk f.length (Jh how f) r k = (i : Int)
 nodup : ∀ i, (Jq f.length (Jh how f) k i).Nodup
 count : c.gone.count false + k = f.length
theorem Jdc (far : List (List Rat)) (a b : Nat) : betw far a b = betw far b a := by
 unfold betw
 rw [Nat.max_comm, Nat.min_comm]
theorem Zj {α : Type} {l m : List α} {i : Nat} {d : α} (h : i < l.length) : (l ++ m).getD i d = l.getD i d := by
 rw [List.getD_eq_getElem?_getD, List.getD_eq_getElem?_getD, List.getElem?_append_left h]
theorem Xy {α : Type} {l : List α} {x d : α} {n : Nat} (h : n = l.length) : (l ++ [x]).getD n d = x := by
 subst h
 rw [List.getD_eq_getElem?_getD, List.getElem?_append_right zd, Nat.sub_self]
 rfl
theorem Yl {α : Type} {m i : Nat} {g : Nat -> α} {d : α} (h : i < m) : ((List.range m).map g).getD i d = g i := by
 rw [List.getD_eq_getElem?_getD, List.getElem?_map, List.getElem?_range h]
 rfl
theorem Jj4 {far : List (List Rat)} {l : List Rat} {i j : Nat} (hi : i < far.length) (hj : j < far.length) : betw (far ++ [l]) i j = betw far i j := by
 unfold betw
 rw [Zj (by omega)]
theorem Jj5 {far : List (List Rat)} {g : Nat -> Rat} {m i : Nat} (hm : far.length = m) (hi : i < m) : betw (far ++ [(List.range m).map g]) i m = g i := by
 unfold betw
 rw [show max i m = m by omega, show min i m = i by omega, Xy hm.symm, Yl hi]
theorem Jmx (how : Nat) (f : List (List Rat)) (hf : SymF f) : InvC how f 0 (Jaj f) := by
 have hp : ∀ i, Jq f.length (Jh how f) 0 i = if i < f.length then [i] else [] := fun i => rfl
 refine ⟨by simp [Jaj], by simp [Jaj], by simp [Jaj], fun i hi => ?_, fun i hi => ?_, fun i hi hn => ?_, fun i j x9 hj h1 h2 => ?_, fun i r => ?_, fun i => ?_, by simp [Jaj]⟩
 ·show (((List.range f.length).map fun i => (f.getD i []).take i).getD i []).length = i
  rw [Yl (by omega), List.length_take, hf.row i (by omega)]
  omega
 ·rw [hp, if_pos (by omega)]
  show (!((List.replicate f.length false).getD i true)) = !false
  rw [List.getD_eq_getElem?_getD, List.getElem?_replicate, if_pos (by omega)]
  rfl
 ·rw [hp, if_pos (by omega)]
  show (List.replicate f.length 1).getD i 0 = 1
  rw [List.getD_eq_getElem?_getD, List.getElem?_replicate, if_pos (by omega)]
  rfl
 ·rw [hp, hp, if_pos (by omega), if_pos (by omega)]
  have hb : betw (Jaj f).far i j = dOf f i j := by
   unfold betw
   show (((List.range f.length).map fun i => (f.getD i []).take i).getD (max i j) []).getD (min i j) 0 = _
   rw [show max i j = j by omega, show min i j = i by omega, Yl (by omega), hf.sym i j (by omega) (by omega)]
   unfold dOf
   rw [List.getD_eq_getElem?_getD, List.getElem?_take_of_lt x9, <- List.getD_eq_getElem?_getD]
  rw [hb]
  unfold Zc
  split
  ·exact ⟨⟨i, by simp, j, by simp, rfl⟩, fun u hu v hv => by simp at hu hv; subst hu hv; exact Rat.le_refl⟩
  split
  ·exact ⟨⟨i, by simp, j, by simp, rfl⟩, fun u hu v hv => by simp at hu hv; subst hu hv; exact Rat.le_refl⟩
  simp only [List.length_singleton, Jai, Qf]
  grind
 ·rw [hp]
  show _ ↔ r < f.length /\ (r : Int) = i
  split
  ·simp; omega
  simp; omega
 rw [hp]
 split <;> simp
structure IsJ (f : List (List Rat)) (how k : Nat) (c : Cls) (A B : Nat) : Prop where
 ab : A < B
 bn : B < f.length + k
 pa : Jq f.length (Jh how f) k A ≠ []
 pb : Jq f.length (Jh how f) k B ≠ []
 least : ∀ u v, u < v -> v < f.length + k -> Jq f.length (Jh how f) k u ≠ [] -> Jq f.length (Jh how f) k v ≠ [] -> betw c.far A B <= betw c.far u v
 scan : Jeb c = some (A, B, betw c.far A B)
 eq : Jh how f k = ⟨A, B, (((Jq f.length (Jh how f) k A).length + (Jq f.length (Jh how f) k B).length : Nat) : Int), betw c.far A B⟩
theorem Ze {how k : Nat} {f : List (List Rat)} {c : Cls} (h : InvC how f k c) {i : Nat} (hi : i < f.length + k) : Qq c.gone i = true ↔ Jq f.length (Jh how f) k i ≠ [] := by
 rw [h.al i hi]
 cases Jq f.length (Jh how f) k i <;> simp
theorem Jmd {how k : Nat} {f : List (List Rat)} (h : InvC how f k (Qe how f k)) (hk : k + 1 < f.length) : ∃ A B, IsJ f how k (Qe how f k) A B /\ Qe how f (k + 1) = Vs how (Qe how f k) A B := by
 obtain ⟨u, v, h1, h2, h3, h4⟩ := Jn7 (Qe how f k).gone (by have := h.count; omega)
 rw [h.leng] at h2
 obtain ⟨A, B, g1, g2, g3, g4, g5, g6⟩ := Jkl (D := betw (Qe how f k).far) h1 h2 h3 h4
 have hs : Jeb (Qe how f k) = some (A, B, betw (Qe how f k).far A B) := by
  unfold Jeb
  rw [h.lens]
  exact g1
 have ha := (Ze h (i := A) (by omega)).1 g4
 have hb := (Ze h (i := B) (by omega)).1 g5
 have e1 : (Qe how f k).size.getD A 0 = _ := h.sz A (by omega) ha
 have e2 : (Qe how f k).size.getD B 0 = _ := h.sz B (by omega) hb
 refine ⟨A, B, ⟨g2, g3, ha, hb, fun u v h5 h6 h7 h8 => ?_, hs, ?_⟩, ?_⟩
 ·exact g6 u v h5 h6 ((Ze h (i := u) (by omega)).2 h7) ((Ze h (i := v) (by omega)).2 h8)
 ·unfold Jh Jgd
  rw [hs]
  show Jn.mk _ _ _ _ = Jn.mk _ _ _ _
  rw [e1, e2]
  rfl
 show (Jgd how (Qe how f k)).2 = _
 unfold Jgd
 rw [hs]
theorem Jlx {g : List Bool} {i : Nat} (hi : i < g.length) : Qq (g ++ [false]) i = Qq g i := by
 unfold Qq
 rw [Zj hi]
theorem Jb3 {g : List Bool} {a i : Nat} : Qq (g.set a true) i = (Qq g i && decide (i ≠ a)) := by
 unfold Qq
 rw [List.getD_eq_getElem?_getD, List.getD_eq_getElem?_getD, List.getElem?_set]
 by_cases h : a = i
 ·subst h
  rw [if_pos rfl]
  by_cases h2 : a < g.length
  ·simp [h2]
  simp [h2]
 rw [if_neg h]
 simp [show ¬ i = a from fun e => h e.symm]
theorem Jay {g : List Bool} {a : Nat} (h : Qq g a = true) : (g.set a true).count false + 1 = g.count false := by
 have ha : a < g.length := by
  rcases Nat.lt_or_ge a g.length with h2 | h2
  ·exact h2
  simp [Qq, h2] at h
 have he : g[a] = false := by simpa [Qq, ha] using h
 have hp : 0 < g.count false := List.count_pos_iff.2 (by rw [<- he]; exact List.getElem_mem ha)
 rw [List.count_set ha, he]
 simp
 omega
theorem Jcy {n k i : Nat} {J : Nat -> Jn} {A B : Nat} (hA : (J k).a = (A : Int)) (hB : (J k).b = (B : Int)) : Jq n J (k + 1) i = if i = n + k then Jq n J k A ++ Jq n J k B else if i = A \/ i = B then [] else Jq n J k i := by
 show (if i = n + k then Jq n J k (J k).a.toNat ++ Jq n J k (J k).b.toNat else if (i : Int) = (J k).a \/ (i : Int) = (J k).b then [] else Jq n J k i) = _
 rw [hA, hB]
 simp only [Int.toNat_natCast, Int.natCast_inj]
theorem Jpt {how k : Nat} {f : List (List Rat)} (hf : SymF f) (h : InvC how f k (Qe how f k)) (hk : k + 1 < f.length) : InvC how f (k + 1) (Qe how f (k + 1)) := by
 obtain ⟨A, B, hj, hc⟩ := Jmd h hk
 have hA : (Jh how f k).a = (A : Int) := by rw [hj.eq]
 have hB : (Jh how f k).b = (B : Int) := by rw [hj.eq]
 have o0 := fun i => Jcy (n := f.length) (i := i) hA hB
 have y8 : A < f.length + k := by have := hj.ab; have := hj.bn; omega
 have y9 := hj.bn
 have bG := hj.ab
 have alA := (Ze h y8).2 hj.pa
 have alB := (Ze h y9).2 hj.pb
 have aS : ∀ i, f.length + k <= i -> Jq f.length (Jh how f) k i = [] := by
  intro i hi
  refine List.eq_nil_iff_forall_not_mem.2 fun r hr => ?_
  obtain ⟨h1, h2⟩ := (h.mem i r).1 hr
  have := Jhf (J := Jh how f) h1 k
  omega
 rw [hc]
 have aF : (Vs how (Qe how f k) A B).far = (Qe how f k).far ++ [(List.range (Qe how f k).size.length).map (Xb how (Qe how f k) A B)] := rfl
 have aG : ∀ i r, r ∈ Jq f.length (Jh how f) (k + 1) i ↔ r < f.length /\ Jk f.length (Jh how f) r (k + 1) = (i : Int) := by
  intro i r
  rw [o0]
  have aH : Jk f.length (Jh how f) r (k + 1) = if Jk f.length (Jh how f) r k = (A : Int) \/ Jk f.length (Jh how f) r k = (B : Int) then ((f.length + k : Nat) : Int) else Jk f.length (Jh how f) r k := by
   conv => lhs; unfold Jk
   rw [hA, hB]
  rw [aH]
  have aL : r < f.length -> Jk f.length (Jh how f) r k < ((f.length + k : Nat) : Int) := fun hr => Jhf hr k
  have aT := h.mem A r
  have aU := h.mem B r
  have aV := h.mem i r
  split
  ·next hi =>
   subst hi
   rw [List.mem_append, aT, aU]
   constructor
   ·rintro (⟨h1, h2⟩ | ⟨h1, h2⟩)
    ·exact ⟨h1, by rw [if_pos (.inl h2)]⟩
    exact ⟨h1, by rw [if_pos (.inr h2)]⟩
   rintro ⟨h1, h2⟩
   have := aL h1
   split at h2
   ·next h3 => exact h3.elim (fun h3 => .inl ⟨h1, h3⟩) (fun h3 => .inr ⟨h1, h3⟩)
   omega
  next hi =>
  split
  ·next j8 =>
   constructor
   ·intro h0; exact absurd h0 (List.not_mem_nil)
   rintro ⟨h1, h2⟩
   have := aL h1
   split at h2
   ·omega
   next h3 => exact absurd (j8.elim (fun e => .inl (by rw [h2, e])) (fun e => .inr (by rw [h2, e]))) h3
  next j8 =>
  rw [aV]
  constructor
  ·rintro ⟨h1, h2⟩
   refine ⟨h1, ?_⟩
   rw [if_neg (by rw [h2]; omega)]
   exact h2
  rintro ⟨h1, h2⟩
  refine ⟨h1, ?_⟩
  split at h2
  ·omega
  exact h2
 refine ⟨?_, ?_, ?_, fun i hi => ?_, fun i hi => ?_, fun i hi hn => ?_, fun i j x9 j7 h1 h2 => ?_, aG, fun i => ?_, ?_⟩
 ·rw [aF, List.length_append, h.lenf]; rfl
 ·show (_ ++ [_]).length = _
  rw [List.length_append, h.lens]; rfl
 ·show (((_ : List Bool).set _ _).set _ _ ++ [_]).length = _
  rw [List.length_append, List.length_set, List.length_set, h.leng]; rfl
 ·rw [aF]
  by_cases o5 : i < f.length + k
  ·rw [Zj (by rw [h.lenf]; exact o5)]
   exact h.row i o5
  rw [Xy (by rw [h.lenf]; omega), List.length_map, List.length_range, h.lens]
  omega
 ·show Qq ((((Qe how f k).gone.set A true).set B true) ++ [false]) i = _
  rw [o0]
  by_cases o5 : i < f.length + k
  ·rw [Jlx (by rw [List.length_set, List.length_set, h.leng]; exact o5), Jb3, Jb3, h.al i o5, if_neg (by omega)]
   by_cases h3 : i = A
   ·simp [h3]
   by_cases h4 : i = B
   ·simp [h4]
   simp [h3, h4]
  have aI : i = f.length + k := by omega
  subst aI
  unfold Qq
  rw [Xy (by rw [List.length_set, List.length_set, h.leng]), if_pos rfl]
  have := hj.pa
  cases hq : Jq f.length (Jh how f) k A with
  | nil => exact absurd hq this
  | cons x l => rfl
 ·show ((Qe how f k).size ++ [_]).getD i 0 = _
  rw [o0] at hn ⊢
  by_cases o5 : i < f.length + k
  ·rw [Zj (by rw [h.lens]; exact o5)]
   rw [if_neg (by omega)] at hn ⊢
   by_cases h3 : i = A \/ i = B
   ·rw [if_pos h3] at hn; exact absurd rfl hn
   rw [if_neg h3] at hn ⊢
   exact h.sz i o5 hn
  have aI : i = f.length + k := by omega
  subst aI
  rw [Xy (by rw [h.lens]), if_pos rfl, List.length_append, h.sz A y8 hj.pa, h.sz B y9 hj.pb]
 ·rw [o0] at h1 h2 ⊢
  rw [o0]
  rw [if_neg (by omega)] at h1 ⊢
  have j6 : ¬ (i = A \/ i = B) := fun e => by rw [if_pos e] at h1; exact h1 rfl
  rw [if_neg j6] at h1 ⊢
  rw [aF]
  by_cases aW : j < f.length + k
  ·rw [if_neg (by omega)] at h2 ⊢
   have s9 : ¬ (j = A \/ j = B) := fun e => by rw [if_pos e] at h2; exact h2 rfl
   rw [if_neg s9] at h2 ⊢
   rw [Jj4 (by rw [h.lenf]; omega) (by rw [h.lenf]; omega)]
   exact h.dist i j x9 aW h1 h2
  have aX : j = f.length + k := by omega
  subst aX
  rw [if_pos rfl]
  have aA : i < f.length + k := x9
  rw [h.lens, Jj5 h.lenf aA]
  unfold Xb
  rw [(Ze h aA).2 h1, h.sz A y8 hj.pa, h.sz B y9 hj.pb]
  rw [if_pos (by simp; exact ⟨fun e => j6 (.inl e), fun e => j6 (.inr e)⟩)]
  have aY : ∀ p q x, Zc how (dOf f) (Jq f.length (Jh how f) k p) (Jq f.length (Jh how f) k q) x -> Zc how (dOf f) (Jq f.length (Jh how f) k q) (Jq f.length (Jh how f) k p) x := fun p q x hx => Jdk hx fun u hu v hv => hf.sym u v ((h.mem p u).1 hu).1 ((h.mem q v).1 hv).1
  have t7 : ∀ p q, p ≠ q -> p < f.length + k -> q < f.length + k -> Jq f.length (Jh how f) k p ≠ [] -> Jq f.length (Jh how f) k q ≠ [] -> Zc how (dOf f) (Jq f.length (Jh how f) k p) (Jq f.length (Jh how f) k q) (betw (Qe how f k).far p q) := by
   intro p q aZ hp hq aM aN
   rcases Nat.lt_or_gt_of_ne aZ with h5 | h5
   ·exact h.dist p q h5 hq aM aN
   rw [Jdc]
   exact aY _ _ _ (h.dist q p h5 hp aN aM)
  have hm := Jhr (t7 A i (fun e => j6 (.inl e.symm)) y8 aA hj.pa h1) (t7 B i (fun e => j6 (.inr e.symm)) y9 aA hj.pb h1) hj.pa hj.pb
  refine Jdk hm fun u hu v hv => ?_
  have aO := ((h.mem i v).1 hv).1
  rcases List.mem_append.1 hu with hu | hu
  ·exact hf.sym u v ((h.mem A u).1 hu).1 aO
  exact hf.sym u v ((h.mem B u).1 hu).1 aO
 ·rw [o0]
  split
  ·refine List.nodup_append.2 ⟨h.nodup A, h.nodup B, fun u hu v hv e => ?_⟩
   subst e
   have h5 := ((h.mem A u).1 hu).2
   have h6 := ((h.mem B u).1 hv).2
   omega
  split
  ·exact List.nodup_nil
  exact h.nodup i
 show ((((Qe how f k).gone.set A true).set B true) ++ [false]).count false + (k + 1) = _
 rw [List.count_append]
 have e1 := Jay alA
 have e2 : Qq ((Qe how f k).gone.set A true) B = true := by rw [Jb3, alB]; simp; omega
 have e3 := Jay e2
 have e4 := h.count
 simp
 omega
theorem Jau {how : Nat} {f : List (List Rat)} (hf : SymF f) : ∀ k, k < f.length -> InvC how f k (Qe how f k) := by
 intro k
 induction k with
 | zero => intro _; exact Jmx how f hf
 | succ k ih => intro hk; exact Jpt hf (ih (by omega)) hk
theorem Zo {how k : Nat} {f : List (List Rat)} (hf : SymF f) (hk : k + 1 < f.length) : ∃ A B, IsJ f how k (Qe how f k) A B /\ Qe how f (k + 1) = Vs how (Qe how f k) A B := Jmd (Jau hf k (by omega)) hk
theorem Jte {how k : Nat} {f : List (List Rat)} (hf : SymF f) (hk : k + 2 < f.length) : (Jh how f k).high <= (Jh how f (k + 1)).high := by
 obtain ⟨A, B, hj, hc⟩ := Zo (how := how) (k := k) hf (by omega)
 obtain ⟨A', B', j7, bH⟩ := Zo (how := how) (k := k + 1) hf (by omega)
 have hi := Jau (how := how) hf k (by omega)
 have hA : (Jh how f k).a = (A : Int) := by rw [hj.eq]
 have hB : (Jh how f k).b = (B : Int) := by rw [hj.eq]
 have o0 := fun i => Jcy (n := f.length) (i := i) hA hB
 rw [hj.eq, j7.eq]
 show betw (Qe how f k).far A B <= betw (Qe how f (k + 1)).far A' B'
 rw [hc]
 show _ <= betw ((Qe how f k).far ++ [_]) A' B'
 have j8 := hj.ab
 have bI := hj.bn
 have j9 := j7.ab
 have bA := j7.bn
 have pa' := j7.pa
 have pb' := j7.pb
 rw [o0] at pa' pb'
 rw [if_neg (by omega)] at pa'
 have j6 : ¬ (A' = A \/ A' = B) := fun e => by rw [if_pos e] at pa'; exact pa' rfl
 rw [if_neg j6] at pa'
 by_cases hb : B' < f.length + k
 ·rw [if_neg (by omega)] at pb'
  have s9 : ¬ (B' = A \/ B' = B) := fun e => by rw [if_pos e] at pb'; exact pb' rfl
  rw [if_neg s9] at pb'
  rw [Jj4 (by rw [hi.lenf]; omega) (by rw [hi.lenf]; omega)]
  exact hj.least A' B' j9 hb pa' pb'
 have bB : B' = f.length + k := by omega
 subst bB
 rw [hi.lens, Jj5 hi.lenf j9]
 unfold Xb
 rw [(Ze hi j9).2 pa', if_pos (by simp; exact ⟨fun e => j6 (.inl e), fun e => j6 (.inr e)⟩), hi.sz A (by omega) hj.pa, hi.sz B (by omega) hj.pb]
 have t8 : ∀ X, X = A \/ X = B -> betw (Qe how f k).far A B <= betw (Qe how f k).far X A' := by
  intro X hX
  have bC : X < f.length + k := by omega
  have aP : Jq f.length (Jh how f) k X ≠ [] := hX.elim (fun e => by rw [e]; exact hj.pa) (fun e => by rw [e]; exact hj.pb)
  have bD : X ≠ A' := by omega
  rcases Nat.lt_or_gt_of_ne bD with h5 | h5
  ·exact hj.least X A' h5 j9 aP pa'
  rw [Jdc _ X A']
  exact hj.least A' X h5 bC pa' aP
 exact Jnc (t8 A (.inl rfl)) (t8 B (.inr rfl)) (List.length_pos_iff.2 hj.pa) (List.length_pos_iff.2 hj.pb)
theorem Jfz {how : Nat} {d : Nat -> Nat -> Rat} {p q : List Nat} {x : Rat} (h : Zc how d p q x) (hp : p ≠ []) (hq : q ≠ []) (hd : ∀ i, i ∈ p -> ∀ j, j ∈ q -> 0 <= d i j) : 0 <= x := by
 unfold Zc at h
 split at h
 ·obtain ⟨⟨i, hi, j, hj, e⟩, _⟩ := h
  rw [<- e]; exact hd i hi j hj
 split at h
 ·obtain ⟨⟨i, hi, j, hj, e⟩, _⟩ := h
  rw [<- e]; exact hd i hi j hj
 have hs : ∀ (g : Nat -> Rat) (l : List Nat), (∀ i, i ∈ l -> 0 <= g i) -> 0 <= Qf g l := by
  intro g l
  induction l with
  | nil => intro _; exact Rat.le_refl
  | cons i l ih =>
   intro hg
   have h1 := hg i (by simp)
   have h2 := ih fun j hj => hg j (by simp [hj])
   simp only [Qf]
   grind
 have h0 : 0 <= Jai d p q := hs _ _ fun i hi => hs _ _ fun j hj => hd i hi j hj
 have hm : 0 < p.length * q.length := Nat.mul_pos (List.length_pos_iff.2 hp) (List.length_pos_iff.2 hq)
 rw [<- h] at h0
 generalize p.length * q.length = m at *
 have bJ : (0 : Rat) < (m : Rat) := by exact_mod_cast hm
 rcases Rat.le_total (a := 0) (b := x) with h4 | h4
 ·exact h4
 have h5 : 0 <= -x * (m : Rat) := Rat.mul_nonneg (by grind) (by grind)
 have h6 : x * (m : Rat) = 0 := by grind
 rcases Rat.mul_eq_zero.1 h6 with h7 | h7 <;> grind
def Jqm (f : List (List Rat)) : Prop := ∀ i j, i < f.length -> j < f.length -> 0 <= dOf f i j
theorem Jrb {how k : Nat} {f : List (List Rat)} (hf : SymF f) (hk : k + 1 < f.length) : ∃ A B : Nat, Jh how f k = ⟨A, B, (((Jq f.length (Jh how f) k A).length + (Jq f.length (Jh how f) k B).length : Nat) : Int), (Jh how f k).high⟩ /\ A < B /\ B < f.length + k /\ Jq f.length (Jh how f) k A ≠ [] /\ Jq f.length (Jh how f) k B ≠ [] /\ Zc how (dOf f) (Jq f.length (Jh how f) k A) (Jq f.length (Jh how f) k B) (Jh how f k).high := by
 obtain ⟨A, B, hj, hc⟩ := Zo (how := how) (k := k) hf hk
 have hi := Jau (how := how) hf k (by omega)
 have e : (Jh how f k).high = betw (Qe how f k).far A B := by rw [hj.eq]
 refine ⟨A, B, by rw [e]; exact hj.eq, hj.ab, hj.bn, hj.pa, hj.pb, ?_⟩
 rw [e]
 exact hi.dist A B hj.ab hj.bn hj.pa hj.pb
theorem Jjn {how k : Nat} {f : List (List Rat)} (hf : SymF f) (hp : Jqm f) (hk : k + 1 < f.length) : 0 <= (Jh how f k).high := by
 obtain ⟨A, B, _, h1, h2, h3, h4, h5⟩ := Jrb (how := how) hf hk
 have hi := Jau (how := how) hf k (by omega)
 exact Jfz h5 h3 h4 fun i h6 j h7 => hp i j ((hi.mem A i).1 h6).1 ((hi.mem B j).1 h7).1
def Zh (n : Nat) (J : Nat -> Jn) : Nat -> Nat -> Int
 | 0, i => if i < n then 1 else 0
 | k + 1, i => if i = n + k then (J k).size else if (i : Int) = (J k).a \/ (i : Int) = (J k).b then 0 else Zh n J k i
def Jat (J : Nat -> Jn) : Nat -> Rat
 | 0 => 0
 | k + 1 => (J k).high
structure FineAt (n : Nat) (J : Nat -> Jn) (k : Nat) : Prop where
 a0 : 0 <= (J k).a
 ab : (J k).a < (J k).b
 bn : (J k).b < ((n + k : Nat) : Int)
 sa : Zh n J k (J k).a.toNat ≠ 0
 sb : Zh n J k (J k).b.toNat ≠ 0
 size : (J k).size = Zh n J k (J k).a.toNat + Zh n J k (J k).b.toNat
 high : Jat J k <= (J k).high
theorem Jhz {n k : Nat} {J J' : Nat -> Jn} (h : ∀ i, i <= k -> J i = J' i) : FineAt n J k ↔ FineAt n J' k := by
 have hs : ∀ m, m <= k -> ∀ i, Zh n J m i = Zh n J' m i := by
  intro m
  induction m with
  | zero => intro _ i; rfl
  | succ m ih => intro hm i; unfold Zh; rw [ih (by omega), h m (by omega)]
 have hl : Jat J k = Jat J' k := by
  cases k with
  | zero => rfl
  | succ k => show (J k).high = (J' k).high; rw [h k (by omega)]
 have he := h k zd
 have aB := hs k zd
 constructor
 ·rintro ⟨h1, h2, h3, h4, h5, h6, h7⟩
  rw [he] at h1 h2 h3 h4 h5 h6 h7
  rw [aB] at h4 h5 h6
  rw [aB] at h6
  rw [hl] at h7
  exact ⟨h1, h2, h3, h4, h5, h6, h7⟩
 rintro ⟨h1, h2, h3, h4, h5, h6, h7⟩
 rw [<- he] at h1 h2 h3 h4 h5 h6 h7
 rw [<- aB] at h4 h5 h6
 rw [<- aB] at h6
 rw [<- hl] at h7
 exact ⟨h1, h2, h3, h4, h5, h6, h7⟩
open Classical in
noncomputable def Zk (n : Nat) (l : List Jn) : Bool := decide (1 <= n /\ n <= 64 /\ l.length + 1 = n /\ ∀ k, k < l.length -> FineAt n (fun i => l.getD i default) k)
theorem Jqw {how k : Nat} {f : List (List Rat)} (hf : SymF f) : ∀ k, k < f.length -> ∀ i, Zh f.length (Jh how f) k i = ((Jq f.length (Jh how f) k i).length : Int) := by
 intro k
 induction k with
 | zero =>
  intro _ i
  show (if i < f.length then (1 : Int) else 0) = ((if i < f.length then [i] else [] : List Nat).length : Int)
  split <;> rfl
 | succ k ih =>
  intro hk i
  obtain ⟨A, B, hj, hc⟩ := Zo (how := how) (k := k) hf (by omega)
  have hA : (Jh how f k).a = (A : Int) := by rw [hj.eq]
  have hB : (Jh how f k).b = (B : Int) := by rw [hj.eq]
  have aJ : (Jh how f k).size = (((Jq f.length (Jh how f) k A).length + (Jq f.length (Jh how f) k B).length : Nat) : Int) := by rw [hj.eq]
  rw [Jcy hA hB]
  unfold Zh
  rw [hA, hB, aJ, ih (by omega)]
  simp only [Int.natCast_inj]
  split
  ·rw [List.length_append]
  split
  ·rfl
  rfl
theorem Jrh {how k : Nat} {f : List (List Rat)} (hf : SymF f) (hp : Jqm f) (hk : k + 1 < f.length) : FineAt f.length (Jh how f) k := by
 obtain ⟨A, B, hj, hc⟩ := Zo (how := how) (k := k) hf hk
 have hA : (Jh how f k).a = (A : Int) := by rw [hj.eq]
 have hB : (Jh how f k).b = (B : Int) := by rw [hj.eq]
 have aJ : (Jh how f k).size = (((Jq f.length (Jh how f) k A).length + (Jq f.length (Jh how f) k B).length : Nat) : Int) := by rw [hj.eq]
 have h1 := hj.ab
 have h2 := hj.bn
 have h3 := List.length_pos_iff.2 hj.pa
 have h4 := List.length_pos_iff.2 hj.pb
 have hs := Jqw (how := how) (k := k) hf k (by omega)
 refine ⟨by rw [hA]; omega, by rw [hA, hB]; omega, by rw [hB]; omega, ?_, ?_, ?_, ?_⟩
 ·rw [hA, Int.toNat_natCast, hs]; omega
 ·rw [hB, Int.toNat_natCast, hs]; omega
 ·rw [hA, hB, aJ, Int.toNat_natCast, Int.toNat_natCast, hs, hs]; omega
 cases k with
 | zero => exact Jjn hf hp hk
 | succ k => exact Jte hf hk
theorem Vy (how : Nat) (f : List (List Rat)) : (Zy how f).length = f.length - 1 := by simp [Zy]
theorem Jgt {how k : Nat} {f : List (List Rat)} (hk : k + 1 < f.length) : (Zy how f).getD k default = Jh how f k := by
 unfold Zy
 rw [Yl (by omega)]
theorem Jle {how : Nat} {f : List (List Rat)} (hf : SymF f) (hp : Jqm f) (h1 : 1 <= f.length) (bE : f.length <= 64) : Zk f.length (Zy how f) = true := by
 unfold Zk
 simp only [decide_eq_true_eq]
 refine ⟨h1, bE, by rw [Vy]; omega, fun k hk => ?_⟩
 rw [Vy] at hk
 exact (Jhz fun i hi => Jgt (by omega)).2 (Jrh hf hp (by omega))
def Zl (n : Nat) (J : Nat -> Jn) (a b : Nat) : Nat -> Option Rat
 | 0 => none
 | k + 1 => match Zl n J a b k with
  | some q => some q
  | none => if Jk n J a (k + 1) = Jk n J b (k + 1) then some (J k).high else none
def Jax (n : Nat) (J : Nat -> Jn) (len a b : Nat) : Rat := if a = b then 0 else (Zl n J a b len).getD 0
theorem Je4 {n : Nat} {J : Nat -> Jn} {a b k : Nat} {q : Rat} (h : Zl n J a b k = some q) : ∀ m, Zl n J a b (k + m) = some q := by
 intro m
 induction m with
 | zero => exact h
 | succ m ih =>
  show Zl n J a b (k + m + 1) = some q
  unfold Zl
  rw [ih]
theorem Je5 {n : Nat} {J : Nat -> Jn} {a b : Nat} : ∀ k, 0 < k -> Jk n J a k ≠ Jk n J b k -> Zl n J a b k = none := by
 intro k
 induction k with
 | zero => intro h; omega
 | succ k ih =>
  intro _ h
  unfold Zl
  have h2 : Zl n J a b k = none := by
   rcases Nat.eq_zero_or_pos k with h3 | h3
   ·subst h3; rfl
   exact ih h3 fun e => h (Jo5 e 1)
  rw [h2]
  show (if Jk n J a (k + 1) = Jk n J b (k + 1) then _ else none) = none
  rw [if_neg h]
theorem Jgn {n : Nat} {J : Nat -> Jn} {a b k : Nat} (hn : Zl n J a b k = none) (h : Jk n J a (k + 1) = Jk n J b (k + 1)) : Zl n J a b (k + 1) = some (J k).high := by
 unfold Zl
 rw [hn]
 show (if Jk n J a (k + 1) = Jk n J b (k + 1) then _ else none) = _
 rw [if_pos h]
theorem Jll {n : Nat} {J : Nat -> Jn} {a b k : Nat} (hn : Zl n J a b k = none) (h : Jk n J a (k + 1) ≠ Jk n J b (k + 1)) : Zl n J a b (k + 1) = none := by
 unfold Zl
 rw [hn]
 show (if Jk n J a (k + 1) = Jk n J b (k + 1) then _ else none) = _
 rw [if_neg h]
def Jqo (n : Nat) (J : Nat -> Jn) (a b k : Nat) : Prop := Jk n J a k ≠ Jk n J b k /\ Jk n J a (k + 1) = Jk n J b (k + 1)
theorem Jjv {n : Nat} {J : Nat -> Jn} {a b k len : Nat} (j8 : a ≠ b) (hk : k < len) (h : Jqo n J a b k) : Jax n J len a b = (J k).high := by
 have h1 : Zl n J a b k = none := by
  rcases Nat.eq_zero_or_pos k with h3 | h3
  ·subst h3; rfl
  exact Je5 k h3 h.1
 have h2 := Je4 (Jgn h1 h.2) (len - (k + 1))
 rw [show k + 1 + (len - (k + 1)) = len by omega] at h2
 unfold Jax
 rw [if_neg j8, h2]
 rfl
theorem Ji3 {n : Nat} {p : List Nat} (hn : p.Nodup) (hm : ∀ r, r ∈ p -> r < n) : p.length <= n := by
 have h : p.Perm ((List.range n).filter (fun r => decide (r ∈ p))) := (List.perm_ext_iff_of_nodup hn (List.nodup_range.filter _)).2 fun r => by
  rw [List.mem_filter, List.mem_range]
  exact ⟨fun h => ⟨hm r h, decide_eq_true h⟩, fun h => of_decide_eq_true h.2⟩
 rw [h.length_eq]
 have := List.length_filter_le (fun r => decide (r ∈ p)) (List.range n)
 rw [List.length_range] at this
 exact this
def Jy (g : Nat -> Int) : Nat -> List Int
 | 0 => []
 | r + 1 => if g r ∈ Jy g r then Jy g r else Jy g r ++ [g r]
def Yo (g : Nat -> Int) (r : Nat) : Nat := (Jy g r).idxOf (g r)
def Vt (n : Nat) (J : Nat -> Jn) (k : Nat) : List Nat := (List.range n).map (Yo fun r => Jk n J r k)
theorem Jea {g : Nat -> Int} {x : Int} : ∀ m, x ∈ Jy g m ↔ ∃ s, s < m /\ g s = x := by
 intro m
 induction m with
 | zero => simp [Jy]
 | succ m ih =>
  unfold Jy
  constructor
  ·intro h
   split at h
   ·obtain ⟨s, h1, h2⟩ := ih.1 h
    exact ⟨s, by omega, h2⟩
   rcases List.mem_append.1 h with h | h
   ·obtain ⟨s, h1, h2⟩ := ih.1 h
    exact ⟨s, by omega, h2⟩
   simp at h
   exact ⟨m, by omega, h.symm⟩
  rintro ⟨s, h1, h2⟩
  by_cases hs : s = m
  ·subst hs
   split
   ·next h => rw [<- h2]; exact h
   rw [<- h2]; simp
  have := ih.2 ⟨s, by omega, h2⟩
  split
  ·exact this
  exact List.mem_append.2 (.inl this)
theorem Jop {g : Nat -> Int} {r : Nat} : ∀ m, ∃ t, Jy g (r + m) = Jy g r ++ t := by
 intro m
 induction m with
 | zero => exact ⟨[], by simp⟩
 | succ m ih =>
  obtain ⟨t, h⟩ := ih
  have e : Jy g (r + (m + 1)) = if g (r + m) ∈ Jy g (r + m) then Jy g (r + m) else Jy g (r + m) ++ [g (r + m)] := rfl
  rw [e]
  split
  ·exact ⟨t, h⟩
  exact ⟨t ++ [g (r + m)], by rw [h, List.append_assoc]⟩
theorem Jl9 {g : Nat -> Int} {r m : Nat} (h : r < m) : (Jy g m).idxOf (g r) = Yo g r := by
 obtain ⟨t, ht⟩ := Jop (g := g) (r := r + 1) (m - (r + 1))
 rw [show r + 1 + (m - (r + 1)) = m by omega] at ht
 have hm : g r ∈ Jy g (r + 1) := (Jea _).2 ⟨r, by omega, rfl⟩
 rw [ht, List.idxOf_append, if_pos hm]
 unfold Jy Yo
 split
 ·rfl
 next h2 => rw [List.idxOf_append, if_neg h2, List.idxOf_eq_length h2]; simp
theorem Jo4 {g : Nat -> Int} {a b : Nat} : Yo g a = Yo g b ↔ g a = g b := by
 obtain ⟨m, ha, hb⟩ : ∃ m, a < m /\ b < m := ⟨a + b + 1, by omega, by omega⟩
 rw [<- Jl9 ha, <- Jl9 hb]
 constructor
 ·intro h
  have h1 : g a ∈ Jy g m := (Jea _).2 ⟨a, ha, rfl⟩
  have h2 : g b ∈ Jy g m := (Jea _).2 ⟨b, hb, rfl⟩
  have e1 := List.getElem_idxOf (List.idxOf_lt_length_iff.2 h1)
  have e2 := List.getElem_idxOf (List.idxOf_lt_length_iff.2 h2)
  rw [<- e1, <- e2]
  simp only [h]
 intro h; rw [h]
theorem Jm2 {g : Nat -> Int} (r : Nat) : (Jy g (r + 1)).length = if Yo g r = (Jy g r).length then (Jy g r).length + 1 else (Jy g r).length := by
 conv => lhs; unfold Jy
 split
 ·next h =>
  have := List.idxOf_lt_length_iff.2 h
  rw [if_neg (by unfold Yo; omega)]
 next h => rw [if_pos (by unfold Yo; exact List.idxOf_eq_length h), List.length_append]; rfl
