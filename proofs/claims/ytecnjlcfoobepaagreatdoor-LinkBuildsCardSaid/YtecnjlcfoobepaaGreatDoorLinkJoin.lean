import Derived.Test.YtecnjlcfoobepaaGreatDoorRowQ
namespace Go.Proofs.YtecnjlcfoobepaaGreatDoor
set_option linter.unusedSimpArgs false
set_option linter.unusedVariables false
def farStep (a b : List Rat) : Nat -> Rat
 | 0 => 0
 | k + 1 => farStep a b k + (a.getD k 0 - b.getD k 0) * (a.getD k 0 - b.getD k 0)
def farQ (a b : List Rat) : Rat := farStep a b a.length
theorem sub_swap (x y : Rat) : (x - y) * (x - y) = (y - x) * (y - x) := by
 have e : x - y = -(y - x) := by rw [Rat.sub_eq_add_neg, Rat.sub_eq_add_neg, Rat.neg_add, Rat.neg_neg, Rat.add_comm]
 rw [e, Rat.neg_mul, Rat.mul_neg, Rat.neg_neg]
theorem farStep_comm (a b : List Rat) : ∀ k, farStep a b k = farStep b a k := by
 intro k
 induction k with
 | zero => rfl
 | succ k ih => unfold farStep; rw [ih, sub_swap]
theorem farQ_comm {a b : List Rat} (h : a.length = b.length) : farQ a b = farQ b a := by
 unfold farQ
 rw [farStep_comm, h]
theorem farQ_self (a : List Rat) : farQ a a = 0 := by
 have h : ∀ k, farStep a a k = 0 := by
  intro k
  induction k with
  | zero => rfl
  | succ k ih => unfold farStep; rw [ih, Rat.sub_self, Rat.mul_zero, Rat.add_zero]
 exact h _
def farsQ (x : List (List Rat)) : List (List Rat) := x.map fun a => x.map fun b => farQ a b
theorem farsQ_len (x : List (List Rat)) : (farsQ x).length = x.length := by simp [farsQ]
theorem farsQ_at {x : List (List Rat)} {i : Nat} {a : List Rat} (h : x[i]? = some a) : (farsQ x)[i]? = some (x.map fun b => farQ a b) := by
 unfold farsQ
 rw [List.getElem?_map, h]
 rfl
theorem getD_QS {m : Nat} {l : List Rat} (hl : ∀ x ∈ l, QS m x) (hm : 1 <= m) (k : Nat) : QS m (l.getD k 0) := by
 rw [List.getD_eq_getElem?_getD]
 cases h : l[k]? with
 | none => exact QS.zero m hm
 | some x => exact hl x (List.mem_of_getElem? h)
theorem subQS {m n : Nat} {a b : Rat} (ha : QS m a) (hb : QS n b) : QS (m + n + 1) (a - b) := by
 rw [Rat.sub_eq_add_neg]
 exact ha.add hb.neg
theorem farStep_size {m : Nat} {a b : List Rat} (ha : ∀ x ∈ a, QS m x) (hb : ∀ x ∈ b, QS m x) (hm : 1 <= m) : ∀ k, QS (k * (4 * m + 3) + 1) (farStep a b k) := by
 intro k
 induction k with
 | zero => exact QS.zero _ (by omega)
 | succ k ih =>
  have e : (k + 1) * (4 * m + 3) + 1 = (k * (4 * m + 3) + 1) + ((m + m + 1) + (m + m + 1)) + 1 := by rw [Nat.add_mul]; omega
  have hd := subQS (getD_QS ha hm k) (getD_QS hb hm k)
  unfold farStep
  rw [e]
  exact ih.add (hd.mul hd)
def badAt (f : List (List Rat)) (i k : Nat) : Bool := decide ((f.getD i []).getD k 0 < 0) || (decide (i = k) && decide ((f.getD i []).getD k 0 ≠ 0)) || decide ((f.getD i []).getD k 0 ≠ (f.getD k []).getD i 0)
def badFar (f : List (List Rat)) : Bool := (List.range f.length).any fun i => (List.range f.length).any fun k => badAt f i k
def checkFar (f : List (List Rat)) : Nat :=
 if f.length < 1 \/ 64 < f.length then 5 else if f.any (fun l => decide (l.length ≠ f.length)) then 5 else if badFar f then 1 else 0
theorem badFar_of {f : List (List Rat)} {i k : Nat} (hi : i < f.length) (hk : k < f.length) (h : badAt f i k = true) : badFar f = true :=
 List.any_eq_true.2 ⟨i, List.mem_range.2 hi, List.any_eq_true.2 ⟨k, List.mem_range.2 hk, h⟩⟩
theorem badFar_not {f : List (List Rat)} (h : ∀ i, i < f.length -> ∀ k, k < f.length -> badAt f i k = false) : badFar f = false := by
 cases hb : badFar f with
 | false => rfl
 | true =>
  obtain ⟨i, hi, h2⟩ := List.any_eq_true.1 hb
  obtain ⟨k, hk, h3⟩ := List.any_eq_true.1 h2
  rw [h i (List.mem_range.1 hi) k (List.mem_range.1 hk)] at h3
  cases h3
def stepS (al : Nat -> Bool) (D : Nat -> Nat -> Rat) (a b : Nat) (o : Option (Nat × Nat × Rat)) : Option (Nat × Nat × Rat) :=
 if a < b /\ al a = true /\ al b = true then
  match o with
  | none => some (a, b, D a b)
  | some (x, y, h) => if D a b < h then some (a, b, D a b) else some (x, y, h)
 else o
def rowS (al : Nat -> Bool) (D : Nat -> Nat -> Rat) (a : Nat) (o : Option (Nat × Nat × Rat)) : Nat -> Option (Nat × Nat × Rat)
 | 0 => o
 | b + 1 => stepS al D a b (rowS al D a o b)
def scanS (al : Nat -> Bool) (D : Nat -> Nat -> Rat) (m : Nat) : Nat -> Option (Nat × Nat × Rat)
 | 0 => none
 | a + 1 => rowS al D a (scanS al D m a) m
def LeastS (al : Nat -> Bool) (D : Nat -> Nat -> Rat) (P : Nat -> Nat -> Prop) (o : Option (Nat × Nat × Rat)) : Prop :=
 match o with
 | none => ∀ a b, a < b -> al a = true -> al b = true -> ¬ P a b
 | some (x, y, h) => x < y /\ al x = true /\ al y = true /\ P x y /\ h = D x y /\ ∀ a b, a < b -> al a = true -> al b = true -> P a b -> h <= D a b
theorem leastS_mono {al : Nat -> Bool} {D : Nat -> Nat -> Rat} {P Q : Nat -> Nat -> Prop} {o : Option (Nat × Nat × Rat)} (h : LeastS al D P o) (hPQ : ∀ a b, a < b -> al a = true -> al b = true -> (P a b ↔ Q a b)) : LeastS al D Q o := by
 unfold LeastS at *
 split
 ·intro a b h1 h2 h3 h4
  exact h a b h1 h2 h3 ((hPQ a b h1 h2 h3).2 h4)
 obtain ⟨h1, h2, h3, h4, h5, h6⟩ := h
 exact ⟨h1, h2, h3, (hPQ _ _ h1 h2 h3).1 h4, h5, fun a b g1 g2 g3 g4 => h6 a b g1 g2 g3 ((hPQ a b g1 g2 g3).2 g4)⟩
theorem leastS_step {al : Nat -> Bool} {D : Nat -> Nat -> Rat} {P : Nat -> Nat -> Prop} {o : Option (Nat × Nat × Rat)} (a b : Nat) (h : LeastS al D P o) : LeastS al D (fun x y => P x y \/ (x = a /\ y = b)) (stepS al D a b o) := by
 unfold stepS
 by_cases hc : a < b /\ al a = true /\ al b = true
 ·rw [if_pos hc]
  obtain ⟨hab, ha, hb⟩ := hc
  cases o with
  | none =>
   refine ⟨hab, ha, hb, .inr ⟨rfl, rfl⟩, rfl, fun x y h1 h2 h3 h4 => ?_⟩
   rcases h4 with h4 | ⟨rfl, rfl⟩
   ·exact absurd h4 (h x y h1 h2 h3)
   exact Rat.le_refl
  | some t =>
   obtain ⟨x, y, g⟩ := t
   obtain ⟨h1, h2, h3, h4, h5, h6⟩ := h
   show LeastS al D _ (if D a b < g then _ else _)
   by_cases hd : D a b < g
   ·rw [if_pos hd]
    refine ⟨hab, ha, hb, .inr ⟨rfl, rfl⟩, rfl, fun u v g1 g2 g3 g4 => ?_⟩
    rcases g4 with g4 | ⟨rfl, rfl⟩
    ·have := h6 u v g1 g2 g3 g4
     grind
    exact Rat.le_refl
   rw [if_neg hd]
   refine ⟨h1, h2, h3, .inl h4, h5, fun u v g1 g2 g3 g4 => ?_⟩
   rcases g4 with g4 | ⟨rfl, rfl⟩
   ·exact h6 u v g1 g2 g3 g4
   grind
 rw [if_neg hc]
 refine leastS_mono h fun x y h1 h2 h3 => ⟨fun h => .inl h, fun h => ?_⟩
 rcases h with h | ⟨rfl, rfl⟩
 ·exact h
 exact absurd ⟨h1, h2, h3⟩ hc
theorem leastS_row {al : Nat -> Bool} {D : Nat -> Nat -> Rat} {P : Nat -> Nat -> Prop} {o : Option (Nat × Nat × Rat)} (a : Nat) (h : LeastS al D P o) : ∀ m, LeastS al D (fun x y => P x y \/ (x = a /\ y < m)) (rowS al D a o m) := by
 intro m
 induction m with
 | zero => exact leastS_mono h fun x y _ _ _ => ⟨fun h => .inl h, fun h => h.elim id fun h => absurd h.2 (Nat.not_lt_zero _)⟩
 | succ m ih =>
  unfold rowS
  refine leastS_mono (leastS_step a m ih) fun x y _ _ _ => ⟨fun h => ?_, fun h => ?_⟩
  ·rcases h with (h | h) | h
   ·exact .inl h
   ·exact .inr ⟨h.1, by omega⟩
   exact .inr ⟨h.1, by omega⟩
  rcases h with h | ⟨h, h'⟩
  ·exact .inl (.inl h)
  by_cases hy : y = m
  ·exact .inr ⟨h, hy⟩
  exact .inl (.inr ⟨h, by omega⟩)
theorem leastS_scan (al : Nat -> Bool) (D : Nat -> Nat -> Rat) (m : Nat) : ∀ k, LeastS al D (fun x y => x < k /\ y < m) (scanS al D m k) := by
 intro k
 induction k with
 | zero => exact fun a b _ _ _ h => absurd h.1 (Nat.not_lt_zero _)
 | succ k ih =>
  unfold scanS
  refine leastS_mono (leastS_row k ih m) fun x y _ _ _ => ⟨fun h => ?_, fun h => ?_⟩
  ·rcases h with h | h
   ·exact ⟨by omega, h.2⟩
   exact ⟨by omega, h.2⟩
  by_cases hy : x = k
  ·exact .inr ⟨hy, h.2⟩
  exact .inl ⟨by omega, h.2⟩
theorem leastS_all (al : Nat -> Bool) (D : Nat -> Nat -> Rat) (m : Nat) : LeastS al D (fun x y => y < m) (scanS al D m m) :=
 leastS_mono (leastS_scan al D m m) fun x y h _ _ => ⟨fun h => h.2, fun h2 => ⟨by omega, h2⟩⟩
theorem scanS_some {al : Nat -> Bool} {D : Nat -> Nat -> Rat} {m a b : Nat} (h : a < b) (hb : b < m) (ha : al a = true) (hb' : al b = true) : ∃ x y, scanS al D m m = some (x, y, D x y) /\ x < y /\ y < m /\ al x = true /\ al y = true /\ ∀ u v, u < v -> v < m -> al u = true -> al v = true -> D x y <= D u v := by
 have hl := leastS_all al D m
 cases hs : scanS al D m m with
 | none =>
  rw [hs] at hl
  exact absurd hb (hl a b h ha hb')
 | some t =>
  obtain ⟨x, y, g⟩ := t
  rw [hs] at hl
  obtain ⟨h1, h2, h3, h4, h5, h6⟩ := hl
  subst h5
  exact ⟨x, y, rfl, h1, h4, h2, h3, fun u v g1 g2 g3 g4 => h6 u v g1 g3 g4 g2⟩
theorem stepS_congr {al al' : Nat -> Bool} {D D' : Nat -> Nat -> Rat} {a b : Nat} (o : Option (Nat × Nat × Rat)) (ha : al a = al' a) (hb : al b = al' b) (hD : a < b -> al a = true -> al b = true -> D a b = D' a b) : stepS al D a b o = stepS al' D' a b o := by
 unfold stepS
 by_cases hc : a < b /\ al a = true /\ al b = true
 ·rw [if_pos hc, if_pos (by rw [<- ha, <- hb]; exact hc), hD hc.1 hc.2.1 hc.2.2]
 rw [if_neg hc, if_neg (by rw [<- ha, <- hb]; exact hc)]
theorem rowS_congr {al al' : Nat -> Bool} {D D' : Nat -> Nat -> Rat} {a m : Nat} (ha : a < m) (hal : ∀ i, i < m -> al i = al' i) (hD : ∀ a b, a < b -> b < m -> al a = true -> al b = true -> D a b = D' a b) (o : Option (Nat × Nat × Rat)) : ∀ k, k <= m -> rowS al D a o k = rowS al' D' a o k := by
 intro k
 induction k with
 | zero => intro _; rfl
 | succ k ih =>
  intro hk
  unfold rowS
  rw [ih (by omega)]
  exact stepS_congr _ (hal a ha) (hal k (by omega)) fun h1 h2 h3 => hD a k h1 (by omega) h2 h3
theorem scanS_congr {al al' : Nat -> Bool} {D D' : Nat -> Nat -> Rat} {m : Nat} (hal : ∀ i, i < m -> al i = al' i) (hD : ∀ a b, a < b -> b < m -> al a = true -> al b = true -> D a b = D' a b) : ∀ k, k <= m -> scanS al D m k = scanS al' D' m k := by
 intro k
 induction k with
 | zero => intro _; rfl
 | succ k ih =>
  intro hk
  unfold scanS
  rw [ih (by omega), rowS_congr (by omega) hal hD _ m zd]
def minQ (a b : Rat) : Rat := if b < a then b else a
def maxQ (a b : Rat) : Rat := if a < b then b else a
structure Jn where
 a : Int
 b : Int
 size : Int
 high : Rat
instance : Inhabited Jn := ⟨⟨0, 0, 0, 0⟩⟩
structure Cls where
 far : List (List Rat)
 size : List Nat
 gone : List Bool
def betw (far : List (List Rat)) (a b : Nat) : Rat := (far.getD (max a b) []).getD (min a b) 0
def aliveL (g : List Bool) (i : Nat) : Bool := !(g.getD i true)
def mergedQ (how sa sb : Nat) (x y : Rat) : Rat := if how = 1 then minQ x y else if how = 2 then maxQ x y else (x * (sa : Rat) + y * (sb : Rat)) / ((sa + sb : Nat) : Rat)
def scanC (c : Cls) : Option (Nat × Nat × Rat) := scanS (aliveL c.gone) (betw c.far) c.size.length c.size.length
def newRow (how : Nat) (c : Cls) (a b : Nat) : Nat -> Rat := fun i =>
 if aliveL c.gone i && decide (i ≠ a) && decide (i ≠ b) then mergedQ how (c.size.getD a 0) (c.size.getD b 0) (betw c.far a i) (betw c.far b i) else 0
def joined (how : Nat) (c : Cls) (a b : Nat) : Cls :=
 ⟨c.far ++ [(List.range c.size.length).map (newRow how c a b)], c.size ++ [c.size.getD a 0 + c.size.getD b 0], ((c.gone.set a true).set b true) ++ [false]⟩
def joinQ (how : Nat) (c : Cls) : Jn × Cls :=
 match scanC c with
 | none => (default, c)
 | some (a, b, h) => (⟨a, b, ((c.size.getD a 0 + c.size.getD b 0 : Nat) : Int), h⟩, joined how c a b)
def startC (f : List (List Rat)) : Cls := ⟨(List.range f.length).map fun i => (f.getD i []).take i, List.replicate f.length 1, List.replicate f.length false⟩
def clsAt (how : Nat) (f : List (List Rat)) : Nat -> Cls
 | 0 => startC f
 | k + 1 => (joinQ how (clsAt how f k)).2
def joinAt (how : Nat) (f : List (List Rat)) (k : Nat) : Jn := (joinQ how (clsAt how f k)).1
def buildJ (how : Nat) (f : List (List Rat)) : List Jn := (List.range (f.length - 1)).map (joinAt how f)
def ownAt (n : Nat) (J : Nat -> Jn) (r : Nat) : Nat -> Int
 | 0 => r
 | k + 1 => if ownAt n J r k = (J k).a \/ ownAt n J r k = (J k).b then ((n + k : Nat) : Int) else ownAt n J r k
def partAt (n : Nat) (J : Nat -> Jn) : Nat -> Nat -> List Nat
 | 0, i => if i < n then [i] else []
 | k + 1, i => if i = n + k then partAt n J k (J k).a.toNat ++ partAt n J k (J k).b.toNat else if (i : Int) = (J k).a \/ (i : Int) = (J k).b then [] else partAt n J k i
def sumOver (g : Nat -> Rat) : List Nat -> Rat
 | [] => 0
 | i :: l => g i + sumOver g l
def sumPP (d : Nat -> Nat -> Rat) (p q : List Nat) : Rat := sumOver (fun i => sumOver (d i) q) p
theorem sumOver_append (g : Nat -> Rat) (p q : List Nat) : sumOver g (p ++ q) = sumOver g p + sumOver g q := by
 induction p with
 | nil => show sumOver g q = 0 + sumOver g q; grind
 | cons i p ih => simp only [List.cons_append, sumOver, ih]; grind
theorem sumOver_add (g h : Nat -> Rat) (p : List Nat) : sumOver (fun i => g i + h i) p = sumOver g p + sumOver h p := by
 induction p with
 | nil => show (0 : Rat) = 0 + 0; grind
 | cons i p ih => simp only [sumOver, ih]; grind
theorem sumOver_congr {g h : Nat -> Rat} {p : List Nat} (hh : ∀ i ∈ p, g i = h i) : sumOver g p = sumOver h p := by
 induction p with
 | nil => rfl
 | cons i p ih => simp only [sumOver]; rw [hh i (by simp), ih fun j hj => hh j (by simp [hj])]
theorem sumOver_zero (p : List Nat) : sumOver (fun _ => 0) p = 0 := by
 induction p with
 | nil => rfl
 | cons i p ih => simp only [sumOver, ih]; grind
theorem sumPP_swap (d : Nat -> Nat -> Rat) (p q : List Nat) : sumPP d p q = sumPP (fun i j => d j i) q p := by
 induction p with
 | nil =>
  show (0 : Rat) = sumOver (fun i => 0) q
  rw [sumOver_zero]
 | cons i p ih =>
  have h := sumOver_add (fun j => d i j) (fun j => sumOver (fun x => d x j) p) q
  unfold sumPP at ih ⊢
  simp only [sumOver]
  rw [ih]
  exact h.symm
theorem sumPP_append (d : Nat -> Nat -> Rat) (p q r : List Nat) : sumPP d (p ++ q) r = sumPP d p r + sumPP d q r := sumOver_append _ p q
def LinkIs (how : Nat) (d : Nat -> Nat -> Rat) (p q : List Nat) (x : Rat) : Prop :=
 if how = 1 then (∃ i, i ∈ p /\ ∃ j, j ∈ q /\ d i j = x) /\ ∀ i, i ∈ p -> ∀ j, j ∈ q -> x <= d i j
 else if how = 2 then (∃ i, i ∈ p /\ ∃ j, j ∈ q /\ d i j = x) /\ ∀ i, i ∈ p -> ∀ j, j ∈ q -> d i j <= x
 else x * ((p.length * q.length : Nat) : Rat) = sumPP d p q
theorem linkIs_swap {how : Nat} {d : Nat -> Nat -> Rat} {p q : List Nat} {x : Rat} (h : LinkIs how d p q x) (hd : ∀ i, i ∈ p -> ∀ j, j ∈ q -> d i j = d j i) : LinkIs how d q p x := by
 unfold LinkIs at *
 split at h
 ·obtain ⟨⟨i, hi, j, hj, hx⟩, h2⟩ := h
  rw [if_pos (by assumption)]
  exact ⟨⟨j, hj, i, hi, by rw [<- hd i hi j hj, hx]⟩, fun i hi j hj => by rw [<- hd j hj i hi]; exact h2 j hj i hi⟩
 split at h
 ·obtain ⟨⟨i, hi, j, hj, hx⟩, h2⟩ := h
  rw [if_neg (by assumption), if_pos (by assumption)]
  exact ⟨⟨j, hj, i, hi, by rw [<- hd i hi j hj, hx]⟩, fun i hi j hj => by rw [<- hd j hj i hi]; exact h2 j hj i hi⟩
 rw [if_neg (by assumption), if_neg (by assumption), Nat.mul_comm, h, sumPP_swap]
 exact sumOver_congr fun j hj => sumOver_congr fun i hi => hd i hi j hj
theorem linkIs_merge {how : Nat} {d : Nat -> Nat -> Rat} {p q r : List Nat} {x y : Rat} (hx : LinkIs how d p r x) (hy : LinkIs how d q r y) (hp : p ≠ []) (hq : q ≠ []) : LinkIs how d (p ++ q) r (mergedQ how p.length q.length x y) := by
 unfold LinkIs mergedQ minQ maxQ at *
 by_cases h1 : how = 1
 ·simp only [h1, if_true] at *
  obtain ⟨⟨i, hi, j, hj, e⟩, h2⟩ := hx
  obtain ⟨⟨i', hi', j', hj', e'⟩, h2'⟩ := hy
  refine ⟨?_, fun u hu v hv => ?_⟩
  ·split
   ·exact ⟨i', List.mem_append.2 (.inr hi'), j', hj', e'⟩
   exact ⟨i, List.mem_append.2 (.inl hi), j, hj, e⟩
  rcases List.mem_append.1 hu with hu | hu
  ·have := h2 u hu v hv
   split <;> grind
  have := h2' u hu v hv
  split <;> grind
 rw [if_neg h1] at hx hy ⊢
 rw [if_neg h1]
 by_cases h2 : how = 2
 ·simp only [h2, if_true] at *
  obtain ⟨⟨i, hi, j, hj, e⟩, h2⟩ := hx
  obtain ⟨⟨i', hi', j', hj', e'⟩, h2'⟩ := hy
  refine ⟨?_, fun u hu v hv => ?_⟩
  ·split
   ·exact ⟨i', List.mem_append.2 (.inr hi'), j', hj', e'⟩
   exact ⟨i, List.mem_append.2 (.inl hi), j, hj, e⟩
  rcases List.mem_append.1 hu with hu | hu
  ·have := h2 u hu v hv
   split <;> grind
  have := h2' u hu v hv
  split <;> grind
 rw [if_neg h2] at hx hy ⊢
 rw [if_neg h2]
 have hpl : 0 < p.length := List.length_pos_iff.2 hp
 have hql : 0 < q.length := List.length_pos_iff.2 hq
 rw [sumPP_append, <- hx, <- hy]
 simp only [List.length_append, Rat.natCast_mul, Rat.natCast_add]
 generalize p.length = a at *
 generalize q.length = b at *
 generalize r.length = c at *
 have ha : (0 : Rat) < (a : Rat) := by exact_mod_cast hpl
 have hb : (0 : Rat) < (b : Rat) := by exact_mod_cast hql
 have hab : (a : Rat) + (b : Rat) ≠ 0 := by grind
 grind
theorem merged_ge {how sa sb : Nat} {x y h : Rat} (hx : h <= x) (hy : h <= y) (ha : 0 < sa) (hb : 0 < sb) : h <= mergedQ how sa sb x y := by
 unfold mergedQ minQ maxQ
 split
 ·split <;> assumption
 split
 ·split <;> assumption
 have ha' : (0 : Rat) < (sa : Rat) := by exact_mod_cast ha
 have hb' : (0 : Rat) < (sb : Rat) := by exact_mod_cast hb
 rw [Rat.natCast_add]
 generalize (sa : Rat) = a at *
 generalize (sb : Rat) = b at *
 have h1 : 0 <= (x - h) * a := Rat.mul_nonneg (by grind) (by grind)
 have h2 : 0 <= (y - h) * b := Rat.mul_nonneg (by grind) (by grind)
 have h3 : (x * a + y * b) / (a + b) * (a + b) = x * a + y * b := Rat.div_mul_cancel (by grind)
 generalize (x * a + y * b) / (a + b) = z at *
 rcases Rat.le_total (a := h) (b := z) with h4 | h4
 ·exact h4
 have h5 : 0 <= (h - z) * (a + b) := Rat.mul_nonneg (by grind) (by grind)
 have h6 : (h - z) * (a + b) = 0 := by grind
 rcases Rat.mul_eq_zero.1 h6 with h7 | h7 <;> grind
theorem own_lt {n : Nat} {J : Nat -> Jn} {r : Nat} (hr : r < n) : ∀ k, ownAt n J r k < ((n + k : Nat) : Int) := by
 intro k
 induction k with
 | zero => show (r : Int) < _; omega
 | succ k ih => unfold ownAt; split <;> omega
theorem count_two : ∀ l : List Bool, 2 <= l.count false -> ∃ a b, a < b /\ b < l.length /\ aliveL l a = true /\ aliveL l b = true := by
 intro l
 induction l with
 | nil => intro h; simp at h
 | cons x l ih =>
  intro h
  cases x with
  | false =>
   have h1 : 0 < l.count false := by simp at h; simp; exact h
   obtain ⟨i, hi, he⟩ := List.mem_iff_getElem.1 (List.count_pos_iff.1 h1)
   exact ⟨0, i + 1, by omega, by simp; exact hi, rfl, by simp [aliveL, List.getD_eq_getElem?_getD, hi, he]⟩
  | true =>
   obtain ⟨a, b, h1, h2, h3, h4⟩ := ih (by simpa using h)
   refine ⟨a + 1, b + 1, by omega, by simp; exact h2, ?_, ?_⟩
   ·simpa [aliveL] using h3
   simpa [aliveL] using h4
def dOf (f : List (List Rat)) (i j : Nat) : Rat := (f.getD i []).getD j 0
structure SymF (f : List (List Rat)) : Prop where
 row : ∀ i, i < f.length -> (f.getD i []).length = f.length
 sym : ∀ i j, i < f.length -> j < f.length -> dOf f i j = dOf f j i
structure InvC (how : Nat) (f : List (List Rat)) (k : Nat) (c : Cls) : Prop where
 lenf : c.far.length = f.length + k
 lens : c.size.length = f.length + k
 leng : c.gone.length = f.length + k
 row : ∀ i, i < f.length + k -> (c.far.getD i []).length = i
 al : ∀ i, i < f.length + k -> aliveL c.gone i = !(partAt f.length (joinAt how f) k i).isEmpty
 sz : ∀ i, i < f.length + k -> partAt f.length (joinAt how f) k i ≠ [] -> c.size.getD i 0 = (partAt f.length (joinAt how f) k i).length
 dist : ∀ i j, i < j -> j < f.length + k -> partAt f.length (joinAt how f) k i ≠ [] -> partAt f.length (joinAt how f) k j ≠ [] -> LinkIs how (dOf f) (partAt f.length (joinAt how f) k i) (partAt f.length (joinAt how f) k j) (betw c.far i j)
 mem : ∀ i r, r ∈ partAt f.length (joinAt how f) k i ↔ r < f.length /\ ownAt f.length (joinAt how f) r k = (i : Int)
 nodup : ∀ i, (partAt f.length (joinAt how f) k i).Nodup
 count : c.gone.count false + k = f.length
theorem betw_swap (far : List (List Rat)) (a b : Nat) : betw far a b = betw far b a := by
 unfold betw
 rw [Nat.max_comm, Nat.min_comm]
theorem getD_append_lt {α : Type} {l m : List α} {i : Nat} {d : α} (h : i < l.length) : (l ++ m).getD i d = l.getD i d := by
 rw [List.getD_eq_getElem?_getD, List.getD_eq_getElem?_getD, List.getElem?_append_left h]
theorem getD_append_last {α : Type} {l : List α} {x d : α} {n : Nat} (h : n = l.length) : (l ++ [x]).getD n d = x := by
 subst h
 rw [List.getD_eq_getElem?_getD, List.getElem?_append_right zd, Nat.sub_self]
 rfl
theorem getD_map_range {α : Type} {m i : Nat} {g : Nat -> α} {d : α} (h : i < m) : ((List.range m).map g).getD i d = g i := by
 rw [List.getD_eq_getElem?_getD, List.getElem?_map, List.getElem?_range h]
 rfl
theorem betw_old {far : List (List Rat)} {l : List Rat} {i j : Nat} (hi : i < far.length) (hj : j < far.length) : betw (far ++ [l]) i j = betw far i j := by
 unfold betw
 rw [getD_append_lt (by omega)]
theorem betw_new {far : List (List Rat)} {g : Nat -> Rat} {m i : Nat} (hm : far.length = m) (hi : i < m) : betw (far ++ [(List.range m).map g]) i m = g i := by
 unfold betw
 rw [show max i m = m by omega, show min i m = i by omega, getD_append_last hm.symm, getD_map_range hi]
theorem start_inv (how : Nat) (f : List (List Rat)) (hf : SymF f) : InvC how f 0 (startC f) := by
 have hp : ∀ i, partAt f.length (joinAt how f) 0 i = if i < f.length then [i] else [] := fun i => rfl
 refine ⟨by simp [startC], by simp [startC], by simp [startC], fun i hi => ?_, fun i hi => ?_, fun i hi hn => ?_, fun i j hij hj h1 h2 => ?_, fun i r => ?_, fun i => ?_, by simp [startC]⟩
 ·show (((List.range f.length).map fun i => (f.getD i []).take i).getD i []).length = i
  rw [getD_map_range (by omega), List.length_take, hf.row i (by omega)]
  omega
 ·rw [hp, if_pos (by omega)]
  show (!((List.replicate f.length false).getD i true)) = !false
  rw [List.getD_eq_getElem?_getD, List.getElem?_replicate, if_pos (by omega)]
  rfl
 ·rw [hp, if_pos (by omega)]
  show (List.replicate f.length 1).getD i 0 = 1
  rw [List.getD_eq_getElem?_getD, List.getElem?_replicate, if_pos (by omega)]
  rfl
 ·rw [hp, hp, if_pos (by omega), if_pos (by omega)]
  have hb : betw (startC f).far i j = dOf f i j := by
   unfold betw
   show (((List.range f.length).map fun i => (f.getD i []).take i).getD (max i j) []).getD (min i j) 0 = _
   rw [show max i j = j by omega, show min i j = i by omega, getD_map_range (by omega), hf.sym i j (by omega) (by omega)]
   unfold dOf
   rw [List.getD_eq_getElem?_getD, List.getElem?_take_of_lt hij, <- List.getD_eq_getElem?_getD]
  rw [hb]
  unfold LinkIs
  split
  ·exact ⟨⟨i, by simp, j, by simp, rfl⟩, fun u hu v hv => by simp at hu hv; subst hu hv; exact Rat.le_refl⟩
  split
  ·exact ⟨⟨i, by simp, j, by simp, rfl⟩, fun u hu v hv => by simp at hu hv; subst hu hv; exact Rat.le_refl⟩
  simp only [List.length_singleton, sumPP, sumOver]
  grind
 ·rw [hp]
  show _ ↔ r < f.length /\ (r : Int) = i
  split
  ·simp; omega
  simp; omega
 rw [hp]
 split <;> simp
structure IsJ (f : List (List Rat)) (how k : Nat) (c : Cls) (A B : Nat) : Prop where
 ab : A < B
 bn : B < f.length + k
 pa : partAt f.length (joinAt how f) k A ≠ []
 pb : partAt f.length (joinAt how f) k B ≠ []
 least : ∀ u v, u < v -> v < f.length + k -> partAt f.length (joinAt how f) k u ≠ [] -> partAt f.length (joinAt how f) k v ≠ [] -> betw c.far A B <= betw c.far u v
 scan : scanC c = some (A, B, betw c.far A B)
 eq : joinAt how f k = ⟨A, B, (((partAt f.length (joinAt how f) k A).length + (partAt f.length (joinAt how f) k B).length : Nat) : Int), betw c.far A B⟩
theorem alive_iff {how k : Nat} {f : List (List Rat)} {c : Cls} (h : InvC how f k c) {i : Nat} (hi : i < f.length + k) : aliveL c.gone i = true ↔ partAt f.length (joinAt how f) k i ≠ [] := by
 rw [h.al i hi]
 cases partAt f.length (joinAt how f) k i <;> simp
theorem join_is {how k : Nat} {f : List (List Rat)} (h : InvC how f k (clsAt how f k)) (hk : k + 1 < f.length) : ∃ A B, IsJ f how k (clsAt how f k) A B /\ clsAt how f (k + 1) = joined how (clsAt how f k) A B := by
 obtain ⟨u, v, h1, h2, h3, h4⟩ := count_two (clsAt how f k).gone (by have := h.count; omega)
 rw [h.leng] at h2
 obtain ⟨A, B, g1, g2, g3, g4, g5, g6⟩ := scanS_some (D := betw (clsAt how f k).far) h1 h2 h3 h4
 have hs : scanC (clsAt how f k) = some (A, B, betw (clsAt how f k).far A B) := by
  unfold scanC
  rw [h.lens]
  exact g1
 have ha := (alive_iff h (i := A) (by omega)).1 g4
 have hb := (alive_iff h (i := B) (by omega)).1 g5
 have e1 : (clsAt how f k).size.getD A 0 = _ := h.sz A (by omega) ha
 have e2 : (clsAt how f k).size.getD B 0 = _ := h.sz B (by omega) hb
 refine ⟨A, B, ⟨g2, g3, ha, hb, fun u v h5 h6 h7 h8 => ?_, hs, ?_⟩, ?_⟩
 ·exact g6 u v h5 h6 ((alive_iff h (i := u) (by omega)).2 h7) ((alive_iff h (i := v) (by omega)).2 h8)
 ·unfold joinAt joinQ
  rw [hs]
  show Jn.mk _ _ _ _ = Jn.mk _ _ _ _
  rw [e1, e2]
  rfl
 show (joinQ how (clsAt how f k)).2 = _
 unfold joinQ
 rw [hs]
theorem aliveL_app {g : List Bool} {i : Nat} (hi : i < g.length) : aliveL (g ++ [false]) i = aliveL g i := by
 unfold aliveL
 rw [getD_append_lt hi]
theorem aliveL_set {g : List Bool} {a i : Nat} : aliveL (g.set a true) i = (aliveL g i && decide (i ≠ a)) := by
 unfold aliveL
 rw [List.getD_eq_getElem?_getD, List.getD_eq_getElem?_getD, List.getElem?_set]
 by_cases h : a = i
 ·subst h
  rw [if_pos rfl]
  by_cases h2 : a < g.length
  ·simp [h2]
  simp [h2]
 rw [if_neg h]
 simp [show ¬ i = a from fun e => h e.symm]
theorem count_set_true {g : List Bool} {a : Nat} (h : aliveL g a = true) : (g.set a true).count false + 1 = g.count false := by
 have ha : a < g.length := by
  rcases Nat.lt_or_ge a g.length with h2 | h2
  ·exact h2
  simp [aliveL, h2] at h
 have he : g[a] = false := by simpa [aliveL, ha] using h
 have hp : 0 < g.count false := List.count_pos_iff.2 (by rw [<- he]; exact List.getElem_mem ha)
 rw [List.count_set ha, he]
 simp
 omega
theorem part_step {n k i : Nat} {J : Nat -> Jn} {A B : Nat} (hA : (J k).a = (A : Int)) (hB : (J k).b = (B : Int)) : partAt n J (k + 1) i = if i = n + k then partAt n J k A ++ partAt n J k B else if i = A \/ i = B then [] else partAt n J k i := by
 show (if i = n + k then partAt n J k (J k).a.toNat ++ partAt n J k (J k).b.toNat else if (i : Int) = (J k).a \/ (i : Int) = (J k).b then [] else partAt n J k i) = _
 rw [hA, hB]
 simp only [Int.toNat_natCast, Int.natCast_inj]
theorem inv_step {how k : Nat} {f : List (List Rat)} (hf : SymF f) (h : InvC how f k (clsAt how f k)) (hk : k + 1 < f.length) : InvC how f (k + 1) (clsAt how f (k + 1)) := by
 obtain ⟨A, B, hj, hc⟩ := join_is h hk
 have hA : (joinAt how f k).a = (A : Int) := by rw [hj.eq]
 have hB : (joinAt how f k).b = (B : Int) := by rw [hj.eq]
 have hps := fun i => part_step (n := f.length) (i := i) hA hB
 have hAn : A < f.length + k := by have := hj.ab; have := hj.bn; omega
 have hBn := hj.bn
 have hAB := hj.ab
 have alA := (alive_iff h hAn).2 hj.pa
 have alB := (alive_iff h hBn).2 hj.pb
 have hbig : ∀ i, f.length + k <= i -> partAt f.length (joinAt how f) k i = [] := by
  intro i hi
  refine List.eq_nil_iff_forall_not_mem.2 fun r hr => ?_
  obtain ⟨h1, h2⟩ := (h.mem i r).1 hr
  have := own_lt (J := joinAt how f) h1 k
  omega
 rw [hc]
 have hlr : (joined how (clsAt how f k) A B).far = (clsAt how f k).far ++ [(List.range (clsAt how f k).size.length).map (newRow how (clsAt how f k) A B)] := rfl
 have hmem : ∀ i r, r ∈ partAt f.length (joinAt how f) (k + 1) i ↔ r < f.length /\ ownAt f.length (joinAt how f) r (k + 1) = (i : Int) := by
  intro i r
  rw [hps]
  have hown : ownAt f.length (joinAt how f) r (k + 1) = if ownAt f.length (joinAt how f) r k = (A : Int) \/ ownAt f.length (joinAt how f) r k = (B : Int) then ((f.length + k : Nat) : Int) else ownAt f.length (joinAt how f) r k := by
   conv => lhs; unfold ownAt
   rw [hA, hB]
  rw [hown]
  have hlt : r < f.length -> ownAt f.length (joinAt how f) r k < ((f.length + k : Nat) : Int) := fun hr => own_lt hr k
  have hmA := h.mem A r
  have hmB := h.mem B r
  have hmi := h.mem i r
  split
  ·next hi =>
   subst hi
   rw [List.mem_append, hmA, hmB]
   constructor
   ·rintro (⟨h1, h2⟩ | ⟨h1, h2⟩)
    ·exact ⟨h1, by rw [if_pos (.inl h2)]⟩
    exact ⟨h1, by rw [if_pos (.inr h2)]⟩
   rintro ⟨h1, h2⟩
   have := hlt h1
   split at h2
   ·next h3 => exact h3.elim (fun h3 => .inl ⟨h1, h3⟩) (fun h3 => .inr ⟨h1, h3⟩)
   omega
  next hi =>
  split
  ·next hab =>
   constructor
   ·intro h0; exact absurd h0 (List.not_mem_nil)
   rintro ⟨h1, h2⟩
   have := hlt h1
   split at h2
   ·omega
   next h3 => exact absurd (hab.elim (fun e => .inl (by rw [h2, e])) (fun e => .inr (by rw [h2, e]))) h3
  next hab =>
  rw [hmi]
  constructor
  ·rintro ⟨h1, h2⟩
   refine ⟨h1, ?_⟩
   rw [if_neg (by rw [h2]; omega)]
   exact h2
  rintro ⟨h1, h2⟩
  refine ⟨h1, ?_⟩
  split at h2
  ·omega
  exact h2
 refine ⟨?_, ?_, ?_, fun i hi => ?_, fun i hi => ?_, fun i hi hn => ?_, fun i j hij hj' h1 h2 => ?_, hmem, fun i => ?_, ?_⟩
 ·rw [hlr, List.length_append, h.lenf]; rfl
 ·show (_ ++ [_]).length = _
  rw [List.length_append, h.lens]; rfl
 ·show (((_ : List Bool).set _ _).set _ _ ++ [_]).length = _
  rw [List.length_append, List.length_set, List.length_set, h.leng]; rfl
 ·rw [hlr]
  by_cases hi2 : i < f.length + k
  ·rw [getD_append_lt (by rw [h.lenf]; exact hi2)]
   exact h.row i hi2
  rw [getD_append_last (by rw [h.lenf]; omega), List.length_map, List.length_range, h.lens]
  omega
 ·show aliveL ((((clsAt how f k).gone.set A true).set B true) ++ [false]) i = _
  rw [hps]
  by_cases hi2 : i < f.length + k
  ·rw [aliveL_app (by rw [List.length_set, List.length_set, h.leng]; exact hi2), aliveL_set, aliveL_set, h.al i hi2, if_neg (by omega)]
   by_cases h3 : i = A
   ·simp [h3]
   by_cases h4 : i = B
   ·simp [h4]
   simp [h3, h4]
  have hi3 : i = f.length + k := by omega
  subst hi3
  unfold aliveL
  rw [getD_append_last (by rw [List.length_set, List.length_set, h.leng]), if_pos rfl]
  have := hj.pa
  cases hq : partAt f.length (joinAt how f) k A with
  | nil => exact absurd hq this
  | cons x l => rfl
 ·show ((clsAt how f k).size ++ [_]).getD i 0 = _
  rw [hps] at hn ⊢
  by_cases hi2 : i < f.length + k
  ·rw [getD_append_lt (by rw [h.lens]; exact hi2)]
   rw [if_neg (by omega)] at hn ⊢
   by_cases h3 : i = A \/ i = B
   ·rw [if_pos h3] at hn; exact absurd rfl hn
   rw [if_neg h3] at hn ⊢
   exact h.sz i hi2 hn
  have hi3 : i = f.length + k := by omega
  subst hi3
  rw [getD_append_last (by rw [h.lens]), if_pos rfl, List.length_append, h.sz A hAn hj.pa, h.sz B hBn hj.pb]
 ·rw [hps] at h1 h2 ⊢
  rw [hps]
  rw [if_neg (by omega)] at h1 ⊢
  have hiAB : ¬ (i = A \/ i = B) := fun e => by rw [if_pos e] at h1; exact h1 rfl
  rw [if_neg hiAB] at h1 ⊢
  rw [hlr]
  by_cases hj2 : j < f.length + k
  ·rw [if_neg (by omega)] at h2 ⊢
   have hjAB : ¬ (j = A \/ j = B) := fun e => by rw [if_pos e] at h2; exact h2 rfl
   rw [if_neg hjAB] at h2 ⊢
   rw [betw_old (by rw [h.lenf]; omega) (by rw [h.lenf]; omega)]
   exact h.dist i j hij hj2 h1 h2
  have hj3 : j = f.length + k := by omega
  subst hj3
  rw [if_pos rfl]
  have hin : i < f.length + k := hij
  rw [h.lens, betw_new h.lenf hin]
  unfold newRow
  rw [(alive_iff h hin).2 h1, h.sz A hAn hj.pa, h.sz B hBn hj.pb]
  rw [if_pos (by simp; exact ⟨fun e => hiAB (.inl e), fun e => hiAB (.inr e)⟩)]
  have hsy : ∀ p q x, LinkIs how (dOf f) (partAt f.length (joinAt how f) k p) (partAt f.length (joinAt how f) k q) x -> LinkIs how (dOf f) (partAt f.length (joinAt how f) k q) (partAt f.length (joinAt how f) k p) x := fun p q x hx => linkIs_swap hx fun u hu v hv => hf.sym u v ((h.mem p u).1 hu).1 ((h.mem q v).1 hv).1
  have hall : ∀ p q, p ≠ q -> p < f.length + k -> q < f.length + k -> partAt f.length (joinAt how f) k p ≠ [] -> partAt f.length (joinAt how f) k q ≠ [] -> LinkIs how (dOf f) (partAt f.length (joinAt how f) k p) (partAt f.length (joinAt how f) k q) (betw (clsAt how f k).far p q) := by
   intro p q hpq hp hq hp' hq'
   rcases Nat.lt_or_gt_of_ne hpq with h5 | h5
   ·exact h.dist p q h5 hq hp' hq'
   rw [betw_swap]
   exact hsy _ _ _ (h.dist q p h5 hp hq' hp')
  have hm := linkIs_merge (hall A i (fun e => hiAB (.inl e.symm)) hAn hin hj.pa h1) (hall B i (fun e => hiAB (.inr e.symm)) hBn hin hj.pb h1) hj.pa hj.pb
  refine linkIs_swap hm fun u hu v hv => ?_
  have hv' := ((h.mem i v).1 hv).1
  rcases List.mem_append.1 hu with hu | hu
  ·exact hf.sym u v ((h.mem A u).1 hu).1 hv'
  exact hf.sym u v ((h.mem B u).1 hu).1 hv'
 ·rw [hps]
  split
  ·refine List.nodup_append.2 ⟨h.nodup A, h.nodup B, fun u hu v hv e => ?_⟩
   subst e
   have h5 := ((h.mem A u).1 hu).2
   have h6 := ((h.mem B u).1 hv).2
   omega
  split
  ·exact List.nodup_nil
  exact h.nodup i
 show ((((clsAt how f k).gone.set A true).set B true) ++ [false]).count false + (k + 1) = _
 rw [List.count_append]
 have e1 := count_set_true alA
 have e2 : aliveL ((clsAt how f k).gone.set A true) B = true := by rw [aliveL_set, alB]; simp; omega
 have e3 := count_set_true e2
 have e4 := h.count
 simp
 omega
theorem inv_at {how : Nat} {f : List (List Rat)} (hf : SymF f) : ∀ k, k < f.length -> InvC how f k (clsAt how f k) := by
 intro k
 induction k with
 | zero => intro _; exact start_inv how f hf
 | succ k ih => intro hk; exact inv_step hf (ih (by omega)) hk
theorem joined_at {how k : Nat} {f : List (List Rat)} (hf : SymF f) (hk : k + 1 < f.length) : ∃ A B, IsJ f how k (clsAt how f k) A B /\ clsAt how f (k + 1) = joined how (clsAt how f k) A B := join_is (inv_at hf k (by omega)) hk
theorem highs {how k : Nat} {f : List (List Rat)} (hf : SymF f) (hk : k + 2 < f.length) : (joinAt how f k).high <= (joinAt how f (k + 1)).high := by
 obtain ⟨A, B, hj, hc⟩ := joined_at (how := how) (k := k) hf (by omega)
 obtain ⟨A', B', hj', hc'⟩ := joined_at (how := how) (k := k + 1) hf (by omega)
 have hi := inv_at (how := how) hf k (by omega)
 have hA : (joinAt how f k).a = (A : Int) := by rw [hj.eq]
 have hB : (joinAt how f k).b = (B : Int) := by rw [hj.eq]
 have hps := fun i => part_step (n := f.length) (i := i) hA hB
 rw [hj.eq, hj'.eq]
 show betw (clsAt how f k).far A B <= betw (clsAt how f (k + 1)).far A' B'
 rw [hc]
 show _ <= betw ((clsAt how f k).far ++ [_]) A' B'
 have hab := hj.ab
 have hbn := hj.bn
 have hab' := hj'.ab
 have hbn' := hj'.bn
 have pa' := hj'.pa
 have pb' := hj'.pb
 rw [hps] at pa' pb'
 rw [if_neg (by omega)] at pa'
 have hiAB : ¬ (A' = A \/ A' = B) := fun e => by rw [if_pos e] at pa'; exact pa' rfl
 rw [if_neg hiAB] at pa'
 by_cases hb : B' < f.length + k
 ·rw [if_neg (by omega)] at pb'
  have hjAB : ¬ (B' = A \/ B' = B) := fun e => by rw [if_pos e] at pb'; exact pb' rfl
  rw [if_neg hjAB] at pb'
  rw [betw_old (by rw [hi.lenf]; omega) (by rw [hi.lenf]; omega)]
  exact hj.least A' B' hab' hb pa' pb'
 have hb2 : B' = f.length + k := by omega
 subst hb2
 rw [hi.lens, betw_new hi.lenf hab']
 unfold newRow
 rw [(alive_iff hi hab').2 pa', if_pos (by simp; exact ⟨fun e => hiAB (.inl e), fun e => hiAB (.inr e)⟩), hi.sz A (by omega) hj.pa, hi.sz B (by omega) hj.pb]
 have hmin : ∀ X, X = A \/ X = B -> betw (clsAt how f k).far A B <= betw (clsAt how f k).far X A' := by
  intro X hX
  have hXn : X < f.length + k := by omega
  have hXp : partAt f.length (joinAt how f) k X ≠ [] := hX.elim (fun e => by rw [e]; exact hj.pa) (fun e => by rw [e]; exact hj.pb)
  have hne : X ≠ A' := by omega
  rcases Nat.lt_or_gt_of_ne hne with h5 | h5
  ·exact hj.least X A' h5 hab' hXp pa'
  rw [betw_swap _ X A']
  exact hj.least A' X h5 hXn pa' hXp
 exact merged_ge (hmin A (.inl rfl)) (hmin B (.inr rfl)) (List.length_pos_iff.2 hj.pa) (List.length_pos_iff.2 hj.pb)
theorem linkIs_nonneg {how : Nat} {d : Nat -> Nat -> Rat} {p q : List Nat} {x : Rat} (h : LinkIs how d p q x) (hp : p ≠ []) (hq : q ≠ []) (hd : ∀ i, i ∈ p -> ∀ j, j ∈ q -> 0 <= d i j) : 0 <= x := by
 unfold LinkIs at h
 split at h
 ·obtain ⟨⟨i, hi, j, hj, e⟩, _⟩ := h
  rw [<- e]; exact hd i hi j hj
 split at h
 ·obtain ⟨⟨i, hi, j, hj, e⟩, _⟩ := h
  rw [<- e]; exact hd i hi j hj
 have hs : ∀ (g : Nat -> Rat) (l : List Nat), (∀ i, i ∈ l -> 0 <= g i) -> 0 <= sumOver g l := by
  intro g l
  induction l with
  | nil => intro _; exact Rat.le_refl
  | cons i l ih =>
   intro hg
   have h1 := hg i (by simp)
   have h2 := ih fun j hj => hg j (by simp [hj])
   simp only [sumOver]
   grind
 have h0 : 0 <= sumPP d p q := hs _ _ fun i hi => hs _ _ fun j hj => hd i hi j hj
 have hm : 0 < p.length * q.length := Nat.mul_pos (List.length_pos_iff.2 hp) (List.length_pos_iff.2 hq)
 rw [<- h] at h0
 generalize p.length * q.length = m at *
 have hm' : (0 : Rat) < (m : Rat) := by exact_mod_cast hm
 rcases Rat.le_total (a := 0) (b := x) with h4 | h4
 ·exact h4
 have h5 : 0 <= -x * (m : Rat) := Rat.mul_nonneg (by grind) (by grind)
 have h6 : x * (m : Rat) = 0 := by grind
 rcases Rat.mul_eq_zero.1 h6 with h7 | h7 <;> grind
def PosF (f : List (List Rat)) : Prop := ∀ i j, i < f.length -> j < f.length -> 0 <= dOf f i j
theorem link_is {how k : Nat} {f : List (List Rat)} (hf : SymF f) (hk : k + 1 < f.length) : ∃ A B : Nat, joinAt how f k = ⟨A, B, (((partAt f.length (joinAt how f) k A).length + (partAt f.length (joinAt how f) k B).length : Nat) : Int), (joinAt how f k).high⟩ /\ A < B /\ B < f.length + k /\ partAt f.length (joinAt how f) k A ≠ [] /\ partAt f.length (joinAt how f) k B ≠ [] /\ LinkIs how (dOf f) (partAt f.length (joinAt how f) k A) (partAt f.length (joinAt how f) k B) (joinAt how f k).high := by
 obtain ⟨A, B, hj, hc⟩ := joined_at (how := how) (k := k) hf hk
 have hi := inv_at (how := how) hf k (by omega)
 have e : (joinAt how f k).high = betw (clsAt how f k).far A B := by rw [hj.eq]
 refine ⟨A, B, by rw [e]; exact hj.eq, hj.ab, hj.bn, hj.pa, hj.pb, ?_⟩
 rw [e]
 exact hi.dist A B hj.ab hj.bn hj.pa hj.pb
theorem high_nonneg {how k : Nat} {f : List (List Rat)} (hf : SymF f) (hp : PosF f) (hk : k + 1 < f.length) : 0 <= (joinAt how f k).high := by
 obtain ⟨A, B, _, h1, h2, h3, h4, h5⟩ := link_is (how := how) hf hk
 have hi := inv_at (how := how) hf k (by omega)
 exact linkIs_nonneg h5 h3 h4 fun i h6 j h7 => hp i j ((hi.mem A i).1 h6).1 ((hi.mem B j).1 h7).1
def szAt (n : Nat) (J : Nat -> Jn) : Nat -> Nat -> Int
 | 0, i => if i < n then 1 else 0
 | k + 1, i => if i = n + k then (J k).size else if (i : Int) = (J k).a \/ (i : Int) = (J k).b then 0 else szAt n J k i
def lastH (J : Nat -> Jn) : Nat -> Rat
 | 0 => 0
 | k + 1 => (J k).high
structure FineAt (n : Nat) (J : Nat -> Jn) (k : Nat) : Prop where
 a0 : 0 <= (J k).a
 ab : (J k).a < (J k).b
 bn : (J k).b < ((n + k : Nat) : Int)
 sa : szAt n J k (J k).a.toNat ≠ 0
 sb : szAt n J k (J k).b.toNat ≠ 0
 size : (J k).size = szAt n J k (J k).a.toNat + szAt n J k (J k).b.toNat
 high : lastH J k <= (J k).high
theorem fineAt_congr {n k : Nat} {J J' : Nat -> Jn} (h : ∀ i, i <= k -> J i = J' i) : FineAt n J k ↔ FineAt n J' k := by
 have hs : ∀ m, m <= k -> ∀ i, szAt n J m i = szAt n J' m i := by
  intro m
  induction m with
  | zero => intro _ i; rfl
  | succ m ih => intro hm i; unfold szAt; rw [ih (by omega), h m (by omega)]
 have hl : lastH J k = lastH J' k := by
  cases k with
  | zero => rfl
  | succ k => show (J k).high = (J' k).high; rw [h k (by omega)]
 have he := h k zd
 have hs' := hs k zd
 constructor
 ·rintro ⟨h1, h2, h3, h4, h5, h6, h7⟩
  rw [he] at h1 h2 h3 h4 h5 h6 h7
  rw [hs'] at h4 h5 h6
  rw [hs'] at h6
  rw [hl] at h7
  exact ⟨h1, h2, h3, h4, h5, h6, h7⟩
 rintro ⟨h1, h2, h3, h4, h5, h6, h7⟩
 rw [<- he] at h1 h2 h3 h4 h5 h6 h7
 rw [<- hs'] at h4 h5 h6
 rw [<- hs'] at h6
 rw [<- hl] at h7
 exact ⟨h1, h2, h3, h4, h5, h6, h7⟩
open Classical in
noncomputable def fineB (n : Nat) (l : List Jn) : Bool := decide (1 <= n /\ n <= 64 /\ l.length + 1 = n /\ ∀ k, k < l.length -> FineAt n (fun i => l.getD i default) k)
theorem sz_part {how k : Nat} {f : List (List Rat)} (hf : SymF f) : ∀ k, k < f.length -> ∀ i, szAt f.length (joinAt how f) k i = ((partAt f.length (joinAt how f) k i).length : Int) := by
 intro k
 induction k with
 | zero =>
  intro _ i
  show (if i < f.length then (1 : Int) else 0) = ((if i < f.length then [i] else [] : List Nat).length : Int)
  split <;> rfl
 | succ k ih =>
  intro hk i
  obtain ⟨A, B, hj, hc⟩ := joined_at (how := how) (k := k) hf (by omega)
  have hA : (joinAt how f k).a = (A : Int) := by rw [hj.eq]
  have hB : (joinAt how f k).b = (B : Int) := by rw [hj.eq]
  have hsz : (joinAt how f k).size = (((partAt f.length (joinAt how f) k A).length + (partAt f.length (joinAt how f) k B).length : Nat) : Int) := by rw [hj.eq]
  rw [part_step hA hB]
  unfold szAt
  rw [hA, hB, hsz, ih (by omega)]
  simp only [Int.natCast_inj]
  split
  ·rw [List.length_append]
  split
  ·rfl
  rfl
theorem fine_at {how k : Nat} {f : List (List Rat)} (hf : SymF f) (hp : PosF f) (hk : k + 1 < f.length) : FineAt f.length (joinAt how f) k := by
 obtain ⟨A, B, hj, hc⟩ := joined_at (how := how) (k := k) hf hk
 have hA : (joinAt how f k).a = (A : Int) := by rw [hj.eq]
 have hB : (joinAt how f k).b = (B : Int) := by rw [hj.eq]
 have hsz : (joinAt how f k).size = (((partAt f.length (joinAt how f) k A).length + (partAt f.length (joinAt how f) k B).length : Nat) : Int) := by rw [hj.eq]
 have h1 := hj.ab
 have h2 := hj.bn
 have h3 := List.length_pos_iff.2 hj.pa
 have h4 := List.length_pos_iff.2 hj.pb
 have hs := sz_part (how := how) (k := k) hf k (by omega)
 refine ⟨by rw [hA]; omega, by rw [hA, hB]; omega, by rw [hB]; omega, ?_, ?_, ?_, ?_⟩
 ·rw [hA, Int.toNat_natCast, hs]; omega
 ·rw [hB, Int.toNat_natCast, hs]; omega
 ·rw [hA, hB, hsz, Int.toNat_natCast, Int.toNat_natCast, hs, hs]; omega
 cases k with
 | zero => exact high_nonneg hf hp hk
 | succ k => exact highs hf hk
theorem buildJ_len (how : Nat) (f : List (List Rat)) : (buildJ how f).length = f.length - 1 := by simp [buildJ]
theorem buildJ_at {how k : Nat} {f : List (List Rat)} (hk : k + 1 < f.length) : (buildJ how f).getD k default = joinAt how f k := by
 unfold buildJ
 rw [getD_map_range (by omega)]
theorem fine_build {how : Nat} {f : List (List Rat)} (hf : SymF f) (hp : PosF f) (h1 : 1 <= f.length) (h64 : f.length <= 64) : fineB f.length (buildJ how f) = true := by
 unfold fineB
 simp only [decide_eq_true_eq]
 refine ⟨h1, h64, by rw [buildJ_len]; omega, fun k hk => ?_⟩
 rw [buildJ_len] at hk
 exact (fineAt_congr fun i hi => buildJ_at (by omega)).2 (fine_at hf hp (by omega))
theorem nodup_le {n : Nat} {p : List Nat} (hn : p.Nodup) (hm : ∀ r, r ∈ p -> r < n) : p.length <= n := by
 have h : p.Perm ((List.range n).filter (fun r => decide (r ∈ p))) := (List.perm_ext_iff_of_nodup hn (List.nodup_range.filter _)).2 fun r => by
  rw [List.mem_filter, List.mem_range]
  exact ⟨fun h => ⟨hm r h, decide_eq_true h⟩, fun h => of_decide_eq_true h.2⟩
 rw [h.length_eq]
 have := List.length_filter_le (fun r => decide (r ∈ p)) (List.range n)
 rw [List.length_range] at this
 exact this
def timesF (u : Rat) (f : List (List Rat)) : List (List Rat) := f.map fun l => l.map fun x => u * x
def Cls.times (u : Rat) (c : Cls) : Cls := ⟨timesF u c.far, c.size, c.gone⟩
def Jn.times (u : Rat) (j : Jn) : Jn := ⟨j.a, j.b, j.size, u * j.high⟩
end Go.Proofs.YtecnjlcfoobepaaGreatDoor
