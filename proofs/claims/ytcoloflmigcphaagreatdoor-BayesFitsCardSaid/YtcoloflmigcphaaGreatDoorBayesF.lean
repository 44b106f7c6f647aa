import Derived.Test.YtcoloflmigcphaaGreatDoorRefSub
import Derived.Test.YtcoloflmigcphaaGreatDoorRowQ
namespace Go.Proofs.YtcoloflmigcphaaGreatDoor
set_option linter.all false
structure BM where
 smooth : Rat
 words : List Int
 seen : List Int
 counts : List (List (List Int))
def BM.none : BM := ⟨0, [], [], []⟩
def Xk (n : Int) (words : List Int) : Bool := decide (1 <= n) && decide (n <= 12) && decide (1 <= words.length) && decide (words.length <= 20) && words.all fun x => decide (1 <= x) && decide (x <= 12)
def Ym (words : List Int) (t : List (List Int)) : Bool := decide (t.length = words.length) && (t.zip words).all fun p => decide ((p.1.length : Int) = p.2)
def Xi (m : BM) : Bool := Xk m.seen.length m.words && decide (m.counts.length = m.seen.length) && m.counts.all (Ym m.words)
def Kd (s : Int) (j0 : List Int) : Bool := j0.all (fun n => decide (0 <= n) && decide (n <= 1073741824)) && decide (j0.sum <= s)
def Xu (s : Int) (t : List (List Int)) : Bool := decide (0 <= s) && decide (s <= 1073741824) && t.all (Kd s)
def Jbp (m : BM) : Bool := (m.seen.zip m.counts).all fun p => Xu p.1 p.2
def Jk (m : BM) : Int := if Xi m = false then 5 else if m.smooth <= 0 then 1 else if Jbp m = false then 1 else 0
def Uw (n : Nat) (words : List Int) (smooth : Rat) : BM := ⟨smooth, words, List.replicate n 0, List.replicate n (words.map fun x => List.replicate x.toNat 0)⟩
def Jdk (n : Int) (words : List Int) (smooth : Rat) : BM × Int :=
 if Xk n words = false then (BM.none, 5) else if Jk (Uw n.toNat words smooth) ≠ 0 then (BM.none, Jk (Uw n.toNat words smooth)) else (Uw n.toNat words smooth, 0)
def Zz (m : BM) (row : List Int) : Int := if row.length ≠ m.words.length then 5 else if (row.zip m.words).all (fun p => decide (-1 <= p.1) && decide (p.1 < p.2)) = false then 1 else 0
def Xq (m : BM) (row : List Int) (class_ : Int) : Int := if Jk m ≠ 0 \/ class_ < 0 \/ (m.seen.length : Int) <= class_ then 1 else Zz m row
def Zt (l : List Int) (w by_ : Int) : List Int := if 0 <= w then l.set w.toNat (l.getD w.toNat 0 + by_) else l
def Zs (t : List (List Int)) (row : List Int) (by_ : Int) : List (List Int) := List.zipWith (fun j0 w => Zt j0 w by_) t row
def Jn (m : BM) (row : List Int) (c : Nat) (by_ : Int) : BM := ⟨m.smooth, m.words, Zt m.seen c by_, m.counts.set c (Zs (m.counts.getD c []) row by_)⟩
def Xg (m : BM) (row : List Int) (class_ : Int) : BM × Int :=
 if Xq m row class_ ≠ 0 then (BM.none, Xq m row class_) else if 1073741824 <= m.seen.getD class_.toNat 0 then (BM.none, 18) else (Jn m row class_.toNat 1, 0)
def Jby : BM -> List (List Int × Int) -> BM × Int
 | m, [] => (m, 0)
 | m, p :: ps => if (Xg m p.1 p.2).2 ≠ 0 then (BM.none, (Xg m p.1 p.2).2) else Jby (Xg m p.1 p.2).1 ps
def Jif (m : BM) (rows : List (List Int)) (labels : List Int) : BM × Int :=
 if Jk m ≠ 0 then (BM.none, 1) else if rows.length ≠ labels.length \/ 300 < rows.length then (BM.none, 5) else Jby m (rows.zip labels)
def Zu (n all ways : Int) (smooth : Rat) : Rat := ((n : Rat) + smooth) / ((all : Rat) + smooth * (ways : Rat))
def Xb (smooth : Rat) : List (List Int × Int) -> Rat -> Rat
 | [], x => x
 | p :: ps, x => Xb smooth ps (if 0 <= p.2 then x * Zu (p.1.getD p.2.toNat 0) p.1.sum p.1.length smooth else x)
def Qr (m : BM) (row : List Int) : List Rat := (m.seen.zip m.counts).map fun p => Xb m.smooth (p.2.zip row) (Zu p.1 m.seen.sum m.seen.length m.smooth)
def Qo (m : BM) (row : List Int) : List Rat × Int :=
 if Xq m row 0 ≠ 0 then ([], Xq m row 0) else ((Qr m row).map fun x => x / (Qr m row).foldl (· + ·) 0, 0)
theorem Ki (l : List Int) (w b : Int) : (Zt l w b).length = l.length := by
 unfold Zt
 split <;> simp
theorem Jha (l : List Int) (w b : Int) (j : Nat) : (Zt l w b)[j]? = (l[j]?).map fun x => if w = (j : Int) then x + b else x := by
 unfold Zt
 split
 ·rename_i h
  rw [List.getElem?_set]
  by_cases hj : w.toNat = j
  ·rw [if_pos hj]
   have e : w = (j : Int) := by omega
   by_cases hl : w.toNat < l.length
   ·rw [if_pos hl, List.getElem?_eq_getElem (by omega), Option.map_some, if_pos e, List.getD_eq_getElem?_getD, List.getElem?_eq_getElem hl]
    subst hj
    rfl
   rw [if_neg hl, List.getElem?_eq_none (by omega)]
   rfl
  rw [if_neg hj]
  have e : ¬ w = (j : Int) := by omega
  simp [e]
 have e : ¬ w = (j : Int) := by omega
 simp [e]
theorem Yn (t : List (List Int)) (row : List Int) (b : Int) : (Zs t row b).length = min t.length row.length := by simp [Zs]
theorem Jgf (cs : List (List (List Int))) (row : List Int) (c : Nat) (b : Int) (j : Nat) : (cs.set c (Zs (cs.getD c []) row b))[j]? = (cs[j]?).map fun t => if c = j then Zs t row b else t := by
 rw [List.getElem?_set]
 by_cases hj : c = j
 ·rw [if_pos hj]
  subst hj
  by_cases hl : c < cs.length
  ·rw [if_pos hl, List.getElem?_eq_getElem hl, Option.map_some, if_pos rfl, List.getD_eq_getElem?_getD, List.getElem?_eq_getElem hl]
   rfl
  rw [if_neg hl, List.getElem?_eq_none (by omega)]
  rfl
 rw [if_neg hj]
 simp [hj]
theorem Kt (ws : List Int) (t : List (List Int)) : Ym ws t = true ↔ t.length = ws.length /\ ∀ (i : Nat) (j0 : List Int) (n : Int), t[i]? = some j0 -> ws[i]? = some n -> (j0.length : Int) = n := by
 unfold Ym
 rw [Bool.and_eq_true, decide_eq_true_iff, List.all_eq_true]
 refine and_congr_right fun hl => ⟨fun h i j0 n h1 h2 => ?_, fun h p hp => ?_⟩
 ·have : (j0, n) ∈ t.zip ws := by
   refine List.mem_of_getElem? (i := i) ?_
   rw [List.getElem?_zip_eq_some]
   exact ⟨h1, h2⟩
  simpa using h _ this
 obtain ⟨i, hi⟩ := List.getElem?_of_mem hp
 rw [List.getElem?_zip_eq_some] at hi
 simpa using h i p.1 p.2 hi.1 hi.2
theorem Vm (s : Int) (j0 : List Int) : Kd s j0 = true ↔ (∀ n ∈ j0, 0 <= n /\ n <= 1073741824) /\ j0.sum <= s := by
 unfold Kd
 simp [List.all_eq_true]
theorem Xy (s : Int) (t : List (List Int)) : Xu s t = true ↔ 0 <= s /\ s <= 1073741824 /\ ∀ j0 ∈ t, Kd s j0 = true := by
 unfold Xu
 simp [List.all_eq_true, and_assoc]
theorem Ja4 (m : BM) : Jbp m = true ↔ ∀ (i : Nat) (s : Int) (t : List (List Int)), m.seen[i]? = some s -> m.counts[i]? = some t -> Xu s t = true := by
 unfold Jbp
 rw [List.all_eq_true]
 refine ⟨fun h i s t h1 h2 => ?_, fun h p hp => ?_⟩
 ·have : (s, t) ∈ m.seen.zip m.counts := by
   refine List.mem_of_getElem? (i := i) ?_
   rw [List.getElem?_zip_eq_some]
   exact ⟨h1, h2⟩
  exact h _ this
 obtain ⟨i, hi⟩ := List.getElem?_of_mem hp
 rw [List.getElem?_zip_eq_some] at hi
 exact h i p.1 p.2 hi.1 hi.2
theorem Kv (m : BM) : Jk m = 0 ↔ Xi m = true /\ 0 < m.smooth /\ Jbp m = true := by
 unfold Jk
 by_cases h1 : Xi m = false
 ·rw [if_pos h1]
  simp [h1]
 rw [if_neg h1]
 by_cases h2 : m.smooth <= 0
 ·rw [if_pos h2]
  refine ⟨fun h => absurd h (by decide), fun h => absurd h.2.1 (Rat.not_lt.2 h2)⟩
 rw [if_neg h2]
 by_cases h3 : Jbp m = false
 ·rw [if_pos h3]
  simp [h3]
 rw [if_neg h3]
 simp only [Bool.not_eq_false] at h1 h3
 exact ⟨fun _ => ⟨h1, Rat.not_le.1 h2, h3⟩, fun _ => rfl⟩
theorem Yf (m : BM) : Xi m = true ↔ Xk m.seen.length m.words = true /\ m.counts.length = m.seen.length /\ ∀ t ∈ m.counts, Ym m.words t = true := by
 unfold Xi
 simp [List.all_eq_true, and_assoc]
def rowOk (ws row : List Int) : Prop := row.length = ws.length /\ ∀ (i : Nat) (a n : Int), row[i]? = some a -> ws[i]? = some n -> -1 <= a /\ a < n
theorem Jco (m : BM) (row : List Int) : Zz m row = 0 ↔ rowOk m.words row := by
 unfold Zz rowOk
 by_cases h1 : row.length = m.words.length
 ·rw [if_neg (by simpa using h1)]
  by_cases h2 : (row.zip m.words).all (fun p => decide (-1 <= p.1) && decide (p.1 < p.2)) = false
  ·rw [if_pos h2]
   refine ⟨fun h => absurd h (by decide), fun h => ?_⟩
   rw [List.all_eq_false] at h2
   obtain ⟨p, hp, h3⟩ := h2
   obtain ⟨i, hi⟩ := List.getElem?_of_mem hp
   rw [List.getElem?_zip_eq_some] at hi
   have := h.2 i p.1 p.2 hi.1 hi.2
   simp [this] at h3
  rw [if_neg h2]
  simp only [Bool.not_eq_false, List.all_eq_true] at h2
  refine ⟨fun _ => ⟨h1, fun i a n ha hn => ?_⟩, fun _ => rfl⟩
  have : (a, n) ∈ row.zip m.words := by
   refine List.mem_of_getElem? (i := i) ?_
   rw [List.getElem?_zip_eq_some]
   exact ⟨ha, hn⟩
  simpa using h2 _ this
 rw [if_pos (by simpa using h1)]
 exact ⟨fun h => absurd h (by decide), fun h => absurd h.1 h1⟩
theorem Jlt (l : List Int) (w : Int) (b : Int) : (Zt l w b).sum = l.sum + if 0 <= w /\ w < (l.length : Int) then b else 0 := by
 by_cases hw : 0 <= w
 ·obtain ⟨k, rfl⟩ := Int.eq_ofNat_of_zero_le hw
  induction l generalizing k with
  | nil =>
   simp [Zt]
   omega
  | cons x xs ih =>
   cases k with
   | zero =>
    simp [Zt]
    omega
   | succ k =>
    have e : Zt (x :: xs) ((k + 1 : Nat) : Int) b = x :: Zt xs (k : Int) b := by
     unfold Zt
     rw [if_pos (by omega), if_pos (by omega)]
     simp
    rw [e, List.sum_cons, List.sum_cons, ih k (by omega), List.length_cons]
    split <;> split <;> omega
 unfold Zt
 rw [if_neg hw, if_neg (by omega)]
 omega
theorem Jg9 {l : List Int} {w b x : Int} (h : x ∈ Zt l w b) : x ∈ l \/ ∃ y ∈ l, x = y + b := by
 obtain ⟨i, hi⟩ := List.getElem?_of_mem h
 rw [Jha] at hi
 cases hl : l[i]? with
 | none => rw [hl] at hi; cases hi
 | some y =>
  rw [hl, Option.map_some] at hi
  have hi := Option.some.inj hi
  split at hi
  ·exact .inr ⟨y, List.mem_of_getElem? hl, hi.symm⟩
  exact .inl (hi ▸ List.mem_of_getElem? hl)
theorem Zh {l : List Int} (h : ∀ n ∈ l, 0 <= n) : 0 <= l.sum := by
 induction l with
 | nil => simp
 | cons x xs ih =>
  rw [List.sum_cons]
  have := h x (by simp)
  have := ih fun n hn => h n (by simp [hn])
  omega
theorem Jmk {l : List Int} (h : ∀ n ∈ l, 0 <= n) {x : Int} (hx : x ∈ l) : x <= l.sum := by
 induction l with
 | nil => cases hx
 | cons y ys ih =>
  rw [List.sum_cons]
  have h1 := h y (by simp)
  have h2 := Zh fun n hn => h n (List.mem_cons_of_mem y hn)
  rcases List.mem_cons.1 hx with rfl | hx
  ·omega
  have := ih (fun n hn => h n (by simp [hn])) hx
  omega
theorem Jhx {s : Int} {j0 : List Int} (h : Kd s j0 = true) (hs : s < 1073741824) (w : Int) : Kd (s + 1) (Zt j0 w 1) = true := by
 rw [Vm] at h ⊢
 obtain ⟨h1, h2⟩ := h
 refine ⟨fun n hn => ?_, ?_⟩
 ·rcases Jg9 hn with h3 | ⟨y, h3, rfl⟩
  ·exact h1 n h3
  have := h1 y h3
  have := Jmk (fun n hn => (h1 n hn).1) h3
  omega
 rw [Jlt]
 split <;> omega
theorem Je6 {s : Int} {t : List (List Int)} (h : Xu s t = true) (hs : s < 1073741824) (row : List Int) : Xu (s + 1) (Zs t row 1) = true := by
 rw [Xy] at h ⊢
 refine ⟨by omega, by omega, fun j0 hc => ?_⟩
 obtain ⟨i, hi⟩ := List.getElem?_of_mem hc
 unfold Zs at hi
 rw [List.getElem?_zipWith] at hi
 cases ht : t[i]? with
 | none => rw [ht] at hi; cases hi
 | some x =>
  cases hr : row[i]? with
  | none => rw [ht, hr] at hi; cases hi
  | some w =>
   rw [ht, hr] at hi
   have hi := Option.some.inj hi
   rw [<- hi]
   exact Jhx (h.2.2 x (List.mem_of_getElem? ht)) hs w
theorem Jid {ws row : List Int} {t : List (List Int)} (h : Ym ws t = true) (hr : row.length = ws.length) (b : Int) : Ym ws (Zs t row b) = true := by
 rw [Kt] at h ⊢
 refine ⟨by rw [Yn, h.1, hr, Nat.min_self], fun i j0 n hc hn => ?_⟩
 unfold Zs at hc
 rw [List.getElem?_zipWith] at hc
 cases ht : t[i]? with
 | none => rw [ht] at hc; cases hc
 | some x =>
  cases hw : row[i]? with
  | none => rw [ht, hw] at hc; cases hc
  | some w =>
   rw [ht, hw] at hc
   have hc := Option.some.inj hc
   rw [<- hc, Ki]
   exact h.2 i x n ht hn
theorem Vs {m : BM} {row : List Int} (h : Xi m = true) (hr : row.length = m.words.length) (c : Nat) (b : Int) : Xi (Jn m row c b) = true := by
 rw [Yf] at h ⊢
 obtain ⟨h1, h2, h3⟩ := h
 refine ⟨by simpa [Jn, Ki] using h1, by simpa [Jn, Ki] using h2, fun t ht => ?_⟩
 obtain ⟨i, hi⟩ := List.getElem?_of_mem ht
 unfold Jn at hi
 simp only at hi
 rw [Jgf] at hi
 cases hc : m.counts[i]? with
 | none => rw [hc] at hi; cases hi
 | some x =>
  rw [hc, Option.map_some] at hi
  have hi := Option.some.inj hi
  have hx := h3 x (List.mem_of_getElem? hc)
  rw [<- hi]
  split
  ·exact Jid hx hr b
  exact hx
theorem Jas {m : BM} {row : List Int} (h : Jk m = 0) (hr : row.length = m.words.length) {c : Nat} (hs : ∀ s, m.seen[c]? = some s -> s < 1073741824) : Jk (Jn m row c 1) = 0 := by
 rw [Kv] at h ⊢
 obtain ⟨h1, h2, h3⟩ := h
 refine ⟨Vs h1 hr c 1, h2, ?_⟩
 rw [Ja4] at h3 ⊢
 intro i s t hi ht
 unfold Jn at hi ht
 simp only at hi ht
 rw [Jha] at hi
 rw [Jgf] at ht
 cases hc : m.counts[i]? with
 | none => rw [hc] at ht; cases ht
 | some x =>
  cases j6 : m.seen[i]? with
  | none => rw [j6] at hi; cases hi
  | some y =>
   rw [hc, Option.map_some] at ht
   rw [j6, Option.map_some] at hi
   have hi := Option.some.inj hi
   have ht := Option.some.inj ht
   have ho := h3 i y x j6 hc
   by_cases e : c = i
   ·subst e
    rw [if_pos rfl] at hi ht
    subst hi ht
    exact Je6 ho (hs y j6) row
   rw [if_neg (by omega)] at hi
   rw [if_neg e] at ht
   subst hi ht
   exact ho
def Jk8 (m : BM) (ps : List (List Int × Int)) : BM := ps.foldl (fun m p => Jn m p.1 p.2.toNat 1) m
def Jm0 (m : BM) (n : Int) : Prop := ∀ s ∈ m.seen, s + n <= 1073741824
theorem Yt (m : BM) (r : List Int) (c : Nat) (b : Int) : (Jn m r c b).seen.length = m.seen.length := Ki m.seen c b
theorem Jjl {m : BM} {row : List Int} {c : Int} (h : Jk m = 0) (hr : rowOk m.words row) (hc : 0 <= c /\ c < (m.seen.length : Int)) : Xq m row c = 0 := by
 unfold Xq
 rw [if_neg (by omega)]
 exact (Jco m row).2 hr
theorem Jji {m : BM} {row : List Int} {c : Int} (h : Jk m = 0) (hr : rowOk m.words row) (hc : 0 <= c /\ c < (m.seen.length : Int)) (hs : Jm0 m 1) : Xg m row c = (Jn m row c.toNat 1, 0) /\ Jk (Jn m row c.toNat 1) = 0 := by
 have j8 : c.toNat < m.seen.length := by omega
 have aR : m.seen.getD c.toNat 0 < 1073741824 := by
  rw [List.getD_eq_getElem?_getD, List.getElem?_eq_getElem j8]
  have := hs _ (List.getElem_mem j8)
  simp only [Option.getD_some]
  omega
 constructor
 ·unfold Xg
  rw [Jjl h hr hc, if_neg (by simp), if_neg (by omega)]
 refine Jas h hr.1 fun s j6 => ?_
 have := hs s (List.mem_of_getElem? j6)
 omega
theorem Jqo {n : Nat} {ws : List Int} {sm : Rat} (h : Xk n ws = true) (hs : 0 < sm) : Jk (Uw n ws sm) = 0 := by
 rw [Kv]
 have hw : ∀ x ∈ ws, 1 <= x := by
  unfold Xk at h
  simp only [Bool.and_eq_true, List.all_eq_true, decide_eq_true_iff] at h
  exact fun x hx => (h.2 x hx).1
 refine ⟨?_, hs, ?_⟩
 ·rw [Yf]
  refine ⟨by simpa [Uw] using h, by simp [Uw], fun t ht => ?_⟩
  have e : t = ws.map fun x => List.replicate x.toNat 0 := List.eq_of_mem_replicate ht
  subst e
  rw [Kt]
  refine ⟨by simp [Uw], fun i j0 k hc hk => ?_⟩
  simp only [Uw] at hk
  rw [List.getElem?_map, hk, Option.map_some] at hc
  rw [<- Option.some.inj hc, List.length_replicate]
  have := hw k (List.mem_of_getElem? hk)
  omega
 rw [Ja4]
 intro i s t j6 ht
 simp only [Uw] at j6 ht
 have e1 : s = 0 := List.eq_of_mem_replicate (List.mem_of_getElem? j6)
 have e2 := List.eq_of_mem_replicate (List.mem_of_getElem? ht)
 subst e1 e2
 rw [Xy]
 refine ⟨by omega, by omega, fun j0 hc => ?_⟩
 obtain ⟨x, _, rfl⟩ := List.mem_map.1 hc
 rw [Vm]
 refine ⟨fun y hy => ?_, ?_⟩
 ·rw [List.eq_of_mem_replicate hy]
  omega
 simp
def Jjk (l : List Rat) : Rat := l.foldl (· + ·) 0
theorem Jib (l : List Rat) : ∀ a : Rat, l.foldl (· + ·) a = a + Jjk l := by
 induction l with
 | nil => intro a; show a = a + 0; rw [Rat.add_zero]
 | cons x l ih =>
  intro a
  show l.foldl (· + ·) (a + x) = a + l.foldl (· + ·) (0 + x)
  rw [ih, ih (0 + x), Rat.zero_add, Rat.add_assoc]
theorem Jd2 (x : Rat) (l : List Rat) : Jjk (x :: l) = x + Jjk l := by
 show l.foldl (· + ·) (0 + x) = _
 rw [Jib, Rat.zero_add]
theorem Ja0 {a b : Rat} (ha : 0 < a) (hb : 0 <= b) : 0 < a + b := by
 have h1 : a + 0 <= a + b := Rat.add_le_add_left.2 hb
 rw [Rat.add_zero] at h1
 exact Rat.not_le.1 fun h2 => absurd (Rat.le_trans h1 h2) (Rat.not_le.2 ha)
theorem Jga (l : List Rat) (h : ∀ x ∈ l, 0 < x) : 0 <= Jjk l := by
 induction l with
 | nil => exact Rat.le_refl
 | cons x l ih =>
  rw [Jd2]
  exact Rat.add_nonneg (Rat.le_of_lt (h x (by simp))) (ih fun y hy => h y (by simp [hy]))
theorem Jku {l : List Rat} (hl : l ≠ []) (h : ∀ x ∈ l, 0 < x) : 0 < Jjk l := by
 cases l with
 | nil => exact absurd rfl hl
 | cons x l =>
  rw [Jd2]
  exact Ja0 (h x (by simp)) (Jga l fun y hy => h y (by simp [hy]))
theorem Jlh {a : Rat} (h : 0 < a) : 0 < a⁻¹ := Rat.inv_pos.2 h
theorem Jlq {a b : Rat} (ha : 0 < a) (hb : 0 < b) : 0 < a / b := by
 rw [Rat.div_def]
 exact Rat.mul_pos ha (Jlh hb)
theorem Ul {n : Int} (h : 0 <= n) : (0 : Rat) <= (n : Rat) := Rat.intCast_nonneg.2 h
theorem Jem {n : Int} (h : 1 <= n) : (0 : Rat) < (n : Rat) := by
 have := Rat.intCast_lt_intCast.2 (show (0 : Int) < n by omega)
 simpa using this
theorem Jcm {n all ways : Int} {s : Rat} (hn : 0 <= n) (ha : 0 <= all) (hw : 1 <= ways) (hs : 0 < s) : 0 < Zu n all ways s := by
 unfold Zu
 refine Jlq ?_ ?_
 ·rw [Rat.add_comm]
  exact Ja0 hs (Ul hn)
 rw [Rat.add_comm]
 exact Ja0 (Rat.mul_pos hs (Jem hw)) (Ul ha)
theorem Jbn {s : Rat} (hs : 0 < s) : ∀ (ps : List (List Int × Int)) (x : Rat), (∀ p ∈ ps, 1 <= p.1.length /\ ∀ n ∈ p.1, 0 <= n) -> 0 < x -> 0 < Xb s ps x
 | [], x, _, hx => hx
 | p :: ps, x, h, hx => by
  unfold Xb
  refine Jbn hs ps _ (fun q hq => h q (by simp [hq])) ?_
  have hp := h p (by simp)
  split
  ·refine Rat.mul_pos hx (Jcm ?_ (Zh hp.2) (by omega) hs)
   rw [List.getD_eq_getElem?_getD]
   cases he : p.1[p.2.toNat]? with
   | none => simp
   | some y => exact hp.2 y (List.mem_of_getElem? he)
  exact hx
theorem Jag {m : BM} (h : Jk m = 0) (row : List Int) : Qr m row ≠ [] /\ (Qr m row).length = m.seen.length /\ ∀ x ∈ Qr m row, 0 < x := by
 rw [Kv] at h
 obtain ⟨h1, h2, h3⟩ := h
 rw [Yf] at h1
 obtain ⟨h4, h5, h6⟩ := h1
 have h7 : 1 <= m.seen.length /\ ∀ x ∈ m.words, 1 <= x := by
  unfold Xk at h4
  simp only [Bool.and_eq_true, List.all_eq_true, decide_eq_true_iff] at h4
  exact ⟨by omega, fun x hx => (h4.2 x hx).1⟩
 have j7 : (Qr m row).length = m.seen.length := by
  unfold Qr
  simp [h5]
 refine ⟨fun e => by rw [e] at j7; simp at j7; omega, j7, fun x hx => ?_⟩
 unfold Qr at hx
 obtain ⟨p, hp, rfl⟩ := List.mem_map.1 hx
 obtain ⟨i, hi⟩ := List.getElem?_of_mem hp
 rw [List.getElem?_zip_eq_some] at hi
 rw [Ja4] at h3
 have hc := h3 i p.1 p.2 hi.1 hi.2
 rw [Xy] at hc
 have hf := h6 p.2 (List.mem_of_getElem? hi.2)
 rw [Kt] at hf
 refine Jbn h2 _ _ (fun q hq => ?_) (Jcm hc.1 (Zh fun s hs => ?_) (by omega) h2)
 ·obtain ⟨j, hj⟩ := List.getElem?_of_mem hq
  rw [List.getElem?_zip_eq_some] at hj
  have j9 := (List.getElem?_eq_some_iff.1 hj.1).1
  have e := hf.2 j q.1 (m.words[j]'(by omega)) hj.1 (List.getElem?_eq_getElem (by omega))
  have hw := h7.2 (m.words[j]'(by omega)) (List.getElem_mem _)
  have ho := hc.2.2 q.1 (List.mem_of_getElem? hj.1)
  rw [Vm] at ho
  exact ⟨by omega, fun n hn => (ho.1 n hn).1⟩
 obtain ⟨j, hj⟩ := List.getElem?_of_mem hs
 have j9 := (List.getElem?_eq_some_iff.1 hj).1
 have := h3 j s (m.counts[j]'(by omega)) hj (List.getElem?_eq_getElem (by omega))
 rw [Xy] at this
 exact this.1
theorem Jbo (s : Rat) (qs : List (List Int × Int)) : ∀ (ps : List (List Int × Int)) (x : Rat), Xb s (ps ++ qs) x = Xb s qs (Xb s ps x)
 | [], x => rfl
 | p :: ps, x => by
  show Xb s (ps ++ qs) _ = _
  rw [Jbo s qs ps]
  rfl
def Jkx (l : List Int) (ws : List Int) : List Int := (List.range ws.length).map fun c => l.getD c 0 % (max 0 (ws.getD c 0) + 1) - 1
theorem Jkw (l ws : List Int) : (Jkx l ws).length = ws.length := by simp [Jkx]
theorem Jl9 (l : List Int) {ws : List Int} (h : ∀ x ∈ ws, 0 <= x) : rowOk ws (Jkx l ws) := by
 refine ⟨Jkw l ws, fun i a n ha hn => ?_⟩
 have hi := (List.getElem?_eq_some_iff.1 hn).1
 unfold Jkx at ha
 rw [List.getElem?_map, List.getElem?_range hi, Option.map_some] at ha
 have ha := Option.some.inj ha
 have hg : ws.getD i 0 = n := by rw [List.getD_eq_getElem?_getD, hn]; rfl
 rw [hg] at ha
 have h0 := h n (List.mem_of_getElem? hn)
 have h1 := Int.emod_nonneg (l.getD i 0) (show (max 0 n + 1 : Int) ≠ 0 by omega)
 have h2 := Int.emod_lt_of_pos (l.getD i 0) (show (0 : Int) < max 0 n + 1 by omega)
 omega
def Jon (cols : Int) : List Int := (List.range ((cols % 3).toNat + 1)).map fun (c : Nat) => (cols.tdiv 3 + (c : Int)) % 3 + 1
theorem Jpw (cols : Int) : 1 <= (Jon cols).length /\ (Jon cols).length <= 3 := by
 unfold Jon
 simp
 omega
theorem Jou {cols x : Int} (h : x ∈ Jon cols) : 1 <= x /\ x <= 3 := by
 unfold Jon at h
 obtain ⟨c, _, rfl⟩ := List.mem_map.1 h
 omega
def Jop : Nat -> BM -> List Int -> Nat -> BM
 | 0, m, _, _ => m
 | f + 1, m, l, i =>
  if i + m.words.length < l.length /\ i < 24 then
   Jop f (if (Xg m (Jkx (l.drop (i + 1)) m.words) (l.getD i 0 % (m.seen.length : Int))).2 = 0 then (Xg m (Jkx (l.drop (i + 1)) m.words) (l.getD i 0 % (m.seen.length : Int))).1 else m) l (i + m.words.length + 1)
  else m
structure DrawnB (m : BM) (n : Nat) : Prop where
 ok : Jk m = 0
 cols : 1 <= m.words.length /\ m.words.length <= 3
 words : ∀ x ∈ m.words, 1 <= x /\ x <= 3
 classes : 1 <= m.seen.length /\ m.seen.length <= 3
 few : ∀ s ∈ m.seen, s <= (n : Int)
theorem DrawnB.room {m : BM} {n : Nat} (h : DrawnB m n) (k : Nat) (hk : n + k <= 1073741824) : Jm0 m k := fun s hs => by
 have := h.few s hs
 omega
theorem DrawnB.rowOk {m : BM} {n : Nat} (h : DrawnB m n) (l : List Int) : rowOk m.words (Jkx l m.words) := Jl9 l fun x hx => by
 have := h.words x hx
 omega
theorem DrawnB.class_ {m : BM} {n : Nat} (h : DrawnB m n) (k : Int) : 0 <= k % (m.seen.length : Int) /\ k % (m.seen.length : Int) < (m.seen.length : Int) := by
 have := h.classes
 exact ⟨Int.emod_nonneg _ (by omega), Int.emod_lt_of_pos _ (by omega)⟩
theorem DrawnB.moved {m : BM} {n : Nat} (h : DrawnB m n) {row : List Int} {c : Int} (hr : Go.Proofs.YtcoloflmigcphaaGreatDoor.rowOk m.words row) (hc : 0 <= c /\ c < (m.seen.length : Int)) (hn : n < 1073741824) : Xg m row c = (Jn m row c.toNat 1, 0) /\ DrawnB (Jn m row c.toNat 1) (n + 1) := by
 obtain ⟨h1, h2⟩ := Jji h.ok hr hc (h.room 1 (by omega))
 refine ⟨h1, h2, h.cols, h.words, by rw [Yt]; exact h.classes, fun s hs => ?_⟩
 rcases Jg9 (l := m.seen) (w := c.toNat) (b := 1) hs with h3 | ⟨y, h3, rfl⟩
 ·have := h.few s h3
  omega
 have := h.few y h3
 omega
theorem Jo7 (l : List Int) : ∀ (f : Nat) (m : BM) (n i : Nat), DrawnB m n -> n + f <= 1073741824 -> DrawnB (Jop f m l i) (n + f)
 | 0, m, n, i, h, _ => h
 | f + 1, m, n, i, h, hf => by
  unfold Jop
  split
  ·obtain ⟨h1, h2⟩ := h.moved (h.rowOk (l.drop (i + 1))) (h.class_ (l.getD i 0)) (by omega)
   rw [h1, if_pos rfl]
   have := Jo7 l f _ (n + 1) (i + m.words.length + 1) h2 (by omega)
   rw [show n + (f + 1) = n + 1 + f by omega]
   exact this
  exact ⟨h.ok, h.cols, h.words, h.classes, fun s hs => by have := h.few s hs; omega⟩
def Jo1 (classes cols smooth : Int) : BM := Uw ((classes % 3).toNat + 1) (Jon cols) (((smooth % 4 + 1 : Int) : Rat) / (((smooth.tdiv 4) % 3 + 1 : Int) : Rat))
theorem Joz (classes cols smooth : Int) : DrawnB (Jo1 classes cols smooth) 0 := by
 have h1 : (((classes % 3).toNat + 1 : Nat) : Int) <= 3 := by omega
 have hw := Jpw cols
 refine ⟨Jqo ?_ ?_, hw, fun x hx => Jou hx, ?_, fun s hs => ?_⟩
 ·unfold Xk
  simp only [Bool.and_eq_true, List.all_eq_true, decide_eq_true_iff]
  refine ⟨⟨⟨⟨by omega, by omega⟩, by omega⟩, by omega⟩, fun x hx => ?_⟩
  have := Jou hx
  omega
 ·exact Jlq (Jem (by omega)) (Jem (by omega))
 ·simp [Jo1, Uw]
  omega
 have : s = 0 := List.eq_of_mem_replicate hs
 omega
def Jov (l : List Int) (classes cols smooth : Int) : BM := Jop 24 (Jo1 classes cols smooth) l 0
theorem Jpe (l : List Int) (classes cols smooth : Int) : DrawnB (Jov l classes cols smooth) 24 := by
 have := Jo7 l 24 _ 0 0 (Joz classes cols smooth) (by omega)
 simpa [Jov] using this
theorem DrawnB.all {m : BM} {n : Nat} (h : DrawnB m n) : ∀ (ps : List (List Int × Int)), (∀ p ∈ ps, Go.Proofs.YtcoloflmigcphaaGreatDoor.rowOk m.words p.1 /\ 0 <= p.2 /\ p.2 < (m.seen.length : Int)) -> n + ps.length <= 1073741824 -> DrawnB (Jk8 m ps) (n + ps.length) := by
 intro ps hp hn
 induction ps generalizing m n with
 | nil => exact h
 | cons p ps ih =>
  rw [List.length_cons] at hn ⊢
  have aN := hp p (by simp)
  have h2 := (h.moved aN.1 aN.2 (by omega)).2
  have := ih h2 (fun q hq => by
   have := hp q (by simp [hq])
   rw [Yt]
   exact this) (by omega)
  rw [show n + (ps.length + 1) = n + 1 + ps.length by omega]
  exact this
theorem QS.cnt {k : Nat} {n : Int} (h0 : 0 <= n) (h : n < 2 ^ k) (hk : 1 <= k) : QS k (n : Rat) := by
 refine ⟨?_, ?_⟩
 ·show Je ((n : Rat).num.natAbs) <= k
  rw [Rat.num_intCast]
  refine Yb _ k ?_
  have : ((n.natAbs : Nat) : Int) < ((2 ^ k : Nat) : Int) := by
   rw [Int.natAbs_of_nonneg h0]
   simpa using h
  exact_mod_cast this
 rw [Rat.den_intCast]
 exact Yb 1 k (by have := Nat.pow_le_pow_right (show 0 < 2 by omega) hk; omega)
theorem Vj {n all ways : Int} {s : Rat} {m : Nat} (hs : QS m s) (hm : 1 <= m) (hn : 0 <= n /\ n < 2 ^ 40) (ha : 0 <= all /\ all < 2 ^ 40) (hw : 0 <= ways /\ ways < 2 ^ 40) : QS (3 * m + 200) (Zu n all ways s) := by
 unfold Zu
 rw [Rat.div_def]
 have h1 := (QS.cnt hn.1 hn.2 (by omega)).add hs
 have h2 := ((QS.cnt ha.1 ha.2 (by omega)).add (hs.mul (QS.cnt hw.1 hw.2 (by omega)))).inv (by omega)
 exact (h1.mul h2).mono (by omega)
theorem Ub {s : Rat} {m : Nat} (hs : QS m s) (hm : 1 <= m) : ∀ (ps : List (List Int × Int)) (x : Rat) (k : Nat), (∀ p ∈ ps, (∀ n ∈ p.1, 0 <= n /\ n < 2 ^ 40) /\ p.1.sum < 2 ^ 40 /\ p.1.length <= 1000) -> QS k x -> QS (k + ps.length * (3 * m + 200)) (Xb s ps x)
 | [], x, k, _, hx => by simpa [Xb] using hx
 | p :: ps, x, k, h, hx => by
  unfold Xb
  have hp := h p (by simp)
  have hl : (p :: ps).length * (3 * m + 200) = ps.length * (3 * m + 200) + (3 * m + 200) := by rw [List.length_cons, Nat.succ_mul]
  rw [hl]
  have hg : 0 <= p.1.getD p.2.toNat 0 /\ p.1.getD p.2.toNat 0 < 2 ^ 40 := by
   rw [List.getD_eq_getElem?_getD]
   cases he : p.1[p.2.toNat]? with
   | none => exact ⟨by simp, by simp⟩
   | some y => exact hp.1 y (List.mem_of_getElem? he)
  have h0 := Zh fun n hn => (hp.1 n hn).1
  split
  ·have h1 := hx.mul (Vj (n := p.1.getD p.2.toNat 0) (all := p.1.sum) (ways := (p.1.length : Int)) hs hm hg ⟨h0, hp.2.1⟩ ⟨by omega, by have := hp.2.2; omega⟩)
   exact (Ub hs hm ps _ _ (fun q hq => h q (by simp [hq])) h1).mono (by omega)
  exact (Ub hs hm ps x k (fun q hq => h q (by simp [hq])) hx).mono (by omega)
theorem Jl6 {l : List Int} {b : Int} (h : ∀ n ∈ l, n <= b) : l.sum <= l.length * b := by
 induction l with
 | nil => simp
 | cons x xs ih =>
  have h1 := h x (by simp)
  have h2 := ih fun n hn => h n (by simp [hn])
  rw [List.sum_cons, List.length_cons]
  have : ((xs.length + 1 : Nat) : Int) * b = xs.length * b + b := by rw [Int.natCast_add, Int.add_mul]; simp
  omega
structure NumsB (m : BM) : Prop where
 classes : 1 <= m.seen.length /\ m.seen.length <= 12
 cols : 1 <= m.words.length /\ m.words.length <= 20
 words : ∀ x ∈ m.words, 1 <= x /\ x <= 12
 tabs : m.counts.length = m.seen.length
 fits : ∀ t ∈ m.counts, t.length = m.words.length /\ ∀ (i : Nat) (j0 : List Int) (n : Int), t[i]? = some j0 -> m.words[i]? = some n -> (j0.length : Int) = n
 seen : ∀ s ∈ m.seen, 0 <= s /\ s <= 1073741824
 nums : ∀ t ∈ m.counts, ∀ j0 ∈ t, (∀ n ∈ j0, 0 <= n /\ n <= 1073741824) /\ 0 <= j0.sum /\ j0.sum <= 1073741824 /\ 1 <= j0.length /\ j0.length <= 12
 pos : 0 < m.smooth
theorem Qy {m : BM} (h : Jk m = 0) : NumsB m := by
 rw [Kv] at h
 obtain ⟨h1, h2, h3⟩ := h
 rw [Yf] at h1
 obtain ⟨h4, h5, h6⟩ := h1
 unfold Xk at h4
 simp only [Bool.and_eq_true, List.all_eq_true, decide_eq_true_iff] at h4
 rw [Ja4] at h3
 have hw : ∀ x ∈ m.words, 1 <= x /\ x <= 12 := h4.2
 refine ⟨by omega, by omega, hw, h5, fun t ht => (Kt _ _).1 (h6 t ht), fun s hs => ?_, fun t ht j0 hc => ?_, h2⟩
 ·obtain ⟨j, hj⟩ := List.getElem?_of_mem hs
  have j9 := (List.getElem?_eq_some_iff.1 hj).1
  have := h3 j s (m.counts[j]'(by omega)) hj (List.getElem?_eq_getElem (by omega))
  rw [Xy] at this
  exact ⟨this.1, this.2.1⟩
 obtain ⟨j, hj⟩ := List.getElem?_of_mem ht
 have j9 := (List.getElem?_eq_some_iff.1 hj).1
 have h7 := h3 j (m.seen[j]'(by omega)) t (List.getElem?_eq_getElem (by omega)) hj
 rw [Xy] at h7
 have h8 := h7.2.2 j0 hc
 rw [Vm] at h8
 have hf := (Kt _ _).1 (h6 t ht)
 obtain ⟨i, hi⟩ := List.getElem?_of_mem hc
 have o0 := (List.getElem?_eq_some_iff.1 hi).1
 have e := hf.2 i j0 (m.words[i]'(by omega)) hi (List.getElem?_eq_getElem (by omega))
 have o9 := hw (m.words[i]'(by omega)) (List.getElem_mem _)
 exact ⟨h8.1, Zh fun n hn => (h8.1 n hn).1, by omega, by omega, by omega⟩
theorem NumsB.all {m : BM} (h : NumsB m) : 0 <= m.seen.sum /\ m.seen.sum < 2 ^ 40 := by
 refine ⟨Zh fun n hn => (h.seen n hn).1, ?_⟩
 have h1 := Jl6 fun n hn => (h.seen n hn).2
 have h2 := h.classes.2
 have h3 : (m.seen.length : Int) * 1073741824 <= 12 * 1073741824 := by omega
 omega
theorem Jbm {m : BM} (h : Jk m = 0) {row : List Int} {k : Nat} (hs : QS k m.smooth) (hk : 1 <= k) : ∀ x ∈ Qr m row, QS (21 * (3 * k + 200)) x := by
 have hN := Qy h
 intro x hx
 unfold Qr at hx
 obtain ⟨p, hp, rfl⟩ := List.mem_map.1 hx
 obtain ⟨i, hi⟩ := List.getElem?_of_mem hp
 rw [List.getElem?_zip_eq_some] at hi
 have ht := List.mem_of_getElem? hi.2
 have j6 := hN.seen p.1 (List.mem_of_getElem? hi.1)
 have hz : (p.2.zip row).length <= 20 := by
  have := (hN.fits p.2 ht).1
  have := hN.cols.2
  simp
  omega
 refine (Ub hs hk (p.2.zip row) _ (3 * k + 200) (fun q hq => ?_) (Vj hs hk ⟨j6.1, by omega⟩ hN.all ⟨by omega, by have := hN.classes.2; omega⟩)).mono ?_
 ·obtain ⟨j, hj⟩ := List.getElem?_of_mem hq
  rw [List.getElem?_zip_eq_some] at hj
  have := hN.nums p.2 ht q.1 (List.mem_of_getElem? hj.1)
  exact ⟨fun n hn => by have := this.1 n hn; omega, by omega, by omega⟩
 have h1 : (p.2.zip row).length * (3 * k + 200) <= 20 * (3 * k + 200) := Nat.mul_le_mul_right _ hz
 omega
def Jo6 (m : BM) (way at_ by_ : Int) : BM :=
 let k := (at_ % (m.seen.length : Int)).toNat
 let c := ((at_.tdiv 3) % (m.words.length : Int)).toNat
 let b := by_ % 9 - 2
 if way % 14 = 0 then { m with seen := m.seen.set k b }
 else if way % 14 = 1 then { m with counts := m.counts.set k ((m.counts.getD k []).set c (((m.counts.getD k []).getD c []).set 0 b)) }
 else if way % 14 = 2 then { m with smooth := (b : Rat) }
 else if way % 14 = 3 then { m with words := m.words.set c b }
 else if way % 14 = 4 then { m with counts := m.counts.set k ((m.counts.getD k []).drop 1) }
 else if way % 14 = 5 then { m with seen := m.seen.drop 1 }
 else if way % 14 = 6 then { m with seen := m.seen.set k 1073741824 }
 else m
structure SmallB (m : BM) : Prop where
 classes : m.seen.length <= 3
 tabs : 1 <= m.counts.length /\ m.counts.length <= 3
 cols : 1 <= m.words.length /\ m.words.length <= 3
 words : ∀ x ∈ m.words, -2 <= x /\ x <= 6
 seen : ∀ s ∈ m.seen, -2 <= s /\ s <= 1073741824
 rows : ∀ t ∈ m.counts, t.length <= 3 /\ ∀ j0 ∈ t, 1 <= j0.length /\ j0.length <= 3 /\ ∀ n ∈ j0, -2 <= n /\ n <= 1073741824
theorem DrawnB.small {m : BM} {n : Nat} (h : DrawnB m n) : SmallB m := by
 have hN := Qy h.ok
 refine ⟨h.classes.2, by rw [hN.tabs]; exact h.classes, h.cols, fun x hx => by have := h.words x hx; omega, fun s hs => by have := hN.seen s hs; omega, fun t ht => ?_⟩
 have hf := hN.fits t ht
 refine ⟨by have := h.cols.2; omega, fun j0 hc => ?_⟩
 have hn := hN.nums t ht j0 hc
 obtain ⟨i, hi⟩ := List.getElem?_of_mem hc
 have o0 := (List.getElem?_eq_some_iff.1 hi).1
 have e := hf.2 i j0 (m.words[i]'(by omega)) hi (List.getElem?_eq_getElem (by omega))
 have hw := h.words (m.words[i]'(by omega)) (List.getElem_mem _)
 exact ⟨by omega, by omega, fun n aO => by have := hn.1 n aO; omega⟩
theorem Ju5 {α : Type} {l : List α} {i : Nat} {x y : α} (h : y ∈ l.set i x) : y = x \/ y ∈ l := by
 rcases List.mem_or_eq_of_mem_set h with h | h
 ·exact .inr h
 exact .inl h
theorem Jvb {α : Type} {l : List α} {i : Nat} {d : α} (h : i < l.length) : l.getD i d ∈ l := by
 rw [List.getD_eq_getElem?_getD, List.getElem?_eq_getElem h]
 exact List.getElem_mem h
theorem Jvd {m : BM} {n : Nat} (h : DrawnB m n) (way at_ by_ : Int) : SmallB (Jo6 m way at_ by_) := by
 have hS := h.small
 have hb : -2 <= by_ % 9 - 2 /\ by_ % 9 - 2 <= 6 := by omega
 have hN := Qy h.ok
 have j8 := h.classes
 unfold Jo6
 dsimp only
 have hk : (at_ % (m.seen.length : Int)).toNat < m.counts.length := by
  have h1 := Int.emod_nonneg at_ (show (m.seen.length : Int) ≠ 0 by omega)
  have h2 := Int.emod_lt_of_pos at_ (show (0 : Int) < m.seen.length by omega)
  have := hN.tabs
  omega
 generalize ek : (at_ % (m.seen.length : Int)).toNat = k at *
 have aM : m.counts.getD k [] ∈ m.counts := Jvb hk
 split
 ·exact ⟨by simpa using hS.classes, hS.tabs, hS.cols, hS.words, fun s hs => by
   rcases Ju5 hs with rfl | hs
   ·omega
   exact hS.seen s hs, hS.rows⟩
 split
 ·refine ⟨hS.classes, by simpa using hS.tabs, hS.cols, hS.words, hS.seen, fun t ht => ?_⟩
  rcases Ju5 ht with rfl | ht
  ·refine ⟨by simpa using (hS.rows _ aM).1, fun j0 hc => ?_⟩
   rcases Ju5 hc with rfl | hc
   ·by_cases hx : ((at_.tdiv 3) % (m.words.length : Int)).toNat < (m.counts.getD k []).length
    ·have aP : (m.counts.getD k []).getD ((at_.tdiv 3) % (m.words.length : Int)).toNat [] ∈ m.counts.getD k [] := Jvb hx
     have := (hS.rows _ aM).2 _ aP
     refine ⟨by simpa using this.1, by simpa using this.2.1, fun x hx => ?_⟩
     rcases Ju5 hx with rfl | hx
     ·omega
     exact this.2.2 x hx
    rw [List.set_eq_of_length_le (by omega)] at hc
    exact (hS.rows _ aM).2 _ hc
   exact (hS.rows _ aM).2 j0 hc
  exact hS.rows t ht
 split
 ·exact ⟨hS.classes, hS.tabs, hS.cols, hS.words, hS.seen, hS.rows⟩
 split
 ·exact ⟨hS.classes, hS.tabs, by simpa using hS.cols, fun x hx => by
   rcases Ju5 hx with rfl | hx
   ·omega
   exact hS.words x hx, hS.seen, hS.rows⟩
 split
 ·refine ⟨hS.classes, by simpa using hS.tabs, hS.cols, hS.words, hS.seen, fun t ht => ?_⟩
  rcases Ju5 ht with rfl | ht
  ·have := hS.rows _ aM
   exact ⟨by have := this.1; rw [List.length_drop]; omega, fun j0 hc => this.2 j0 (List.mem_of_mem_drop hc)⟩
  exact hS.rows t ht
 split
 ·exact ⟨by have := hS.classes; rw [List.length_drop]; omega, hS.tabs, hS.cols, hS.words, fun s hs => hS.seen s (List.mem_of_mem_drop hs), hS.rows⟩
 split
 ·exact ⟨by simpa using hS.classes, hS.tabs, hS.cols, hS.words, fun s hs => by
   rcases Ju5 hs with rfl | hs
   ·omega
   exact hS.seen s hs, hS.rows⟩
 exact hS
def Jm {α : Type} (l : List α) (z : α) (k : Nat) : List α := l.take k ++ List.replicate (l.length - k) z
theorem Zd {α : Type} (l : List α) (z : α) {k : Nat} (hk : k <= l.length) : (Jm l z k).length = l.length := by
 unfold Jm
 simp
 omega
theorem Zk {α : Type} (l : List α) (z : α) : Jm l z 0 = List.replicate l.length z := by simp [Jm]
theorem Zl {α : Type} (l : List α) (z : α) : Jm l z l.length = l := by simp [Jm]
theorem Zw {α : Type} {l : List α} {k : Nat} {y : α} (h : l[k]? = some y) (z : α) : (Jm l z k).set k y = Jm l z (k + 1) := by
 have hk := (List.getElem?_eq_some_iff.1 h).1
 unfold Jm
 obtain ⟨d, hd⟩ : ∃ d, l.length - k = d + 1 := ⟨l.length - k - 1, by omega⟩
 rw [hd, List.replicate_succ, List.set_append_right k y (by simp; omega)]
 rw [show l.length - (k + 1) = d by omega, List.take_add_one, h]
 have e : k - (l.take k).length = 0 := by simp; omega
 rw [e, List.set_cons_zero]
 simp
theorem Jej {α : Type} {l : List α} {k : Nat} (hk : k < l.length) (z : α) : (Jm l z k)[k]? = some z := by
 unfold Jm
 rw [List.getElem?_append_right (by simp; omega)]
 have e : k - (l.take k).length = 0 := by simp; omega
 rw [e, List.getElem?_replicate, if_pos (by omega)]
theorem Ud {α : Type} {l : List α} {k : Nat} {y : α} (h : l[k]? = some y) : l.take (k + 1) = l.take k ++ [y] := by
 rw [List.take_add_one, h]
 rfl
theorem Jcj {l : List Int} {k : Nat} {y : Int} (h : l[k]? = some y) : (l.take (k + 1)).sum = (l.take k).sum + y := by
 rw [Ud h]
 simp
theorem Jf9 {l : List Int} {b : Int} (hb : 0 <= b) (h : ∀ n ∈ l, -b <= n /\ n <= b) : ∀ k, -(k * b) <= (l.take k).sum /\ (l.take k).sum <= k * b
 | 0 => by simp
 | k + 1 => by
  have ih := Jf9 hb h k
  have e : ((k + 1 : Nat) : Int) * b = k * b + b := by rw [Int.natCast_add, Int.add_mul]; simp
  cases hk : l[k]? with
  | none =>
   have : l.take (k + 1) = l.take k := by rw [List.take_add_one, hk]; simp
   rw [this, e]
   omega
  | some y =>
   have := h y (List.mem_of_getElem? hk)
   rw [Jcj hk, e]
   omega
theorem Jay {α : Type} {l : List α} {k : Nat} {y : α} {p : α -> Bool} (h : l[k]? = some y) (hp : p y = false) : l.all p = false := by
 rw [List.all_eq_false]
 exact ⟨y, List.mem_of_getElem? h, by simp [hp]⟩
theorem Vd {α β : Type} {l : List α} {m : List β} {k : Nat} {x : α} {y : β} {p : α × β -> Bool} (h : l[k]? = some x) (h2 : m[k]? = some y) (hp : p (x, y) = false) : (l.zip m).all p = false := Jay (k := k) (y := (x, y)) (by rw [List.getElem?_zip_eq_some]; exact ⟨h, h2⟩) hp
theorem Jew (s : Rat) {ps : List (List Int × Int)} {k : Nat} {p : List Int × Int} (h : ps[k]? = some p) (x : Rat) : Xb s (ps.take (k + 1)) x = Xb s [p] (Xb s (ps.take k) x) := by
 rw [Ud h, Jbo]
theorem Jb4 (s : Rat) (p : List Int × Int) (x : Rat) (h : 0 <= p.2) : Xb s [p] x = x * Zu (p.1.getD p.2.toNat 0) p.1.sum p.1.length s := by
 show (if 0 <= p.2 then _ else _) = _
 rw [if_pos h]
theorem Jcf (s : Rat) (p : List Int × Int) (x : Rat) (h : p.2 < 0) : Xb s [p] x = x := by
 show (if 0 <= p.2 then _ else _) = _
 rw [if_neg (by omega)]
theorem Jfu {α : Type} (f : α -> α -> α) (hf : ∀ x y, f x y = x) (l : List α) : List.zipWith f l l = l := by
 refine List.ext_getElem? fun j => ?_
 rw [List.getElem?_zipWith]
 cases l[j]? <;> simp [hf]
def Jam (f : Int -> Int -> Int) (a b : BM) : BM := ⟨a.smooth, a.words, List.zipWith f a.seen b.seen, List.zipWith (List.zipWith (List.zipWith f)) a.counts b.counts⟩
theorem Jal {f : Int -> Int -> Int} (hf : ∀ x y, f x y = x) (m : BM) : Jam f m m = m := by
 unfold Jam
 have h1 : ∀ l : List Int, List.zipWith f l l = l := Jfu f hf
 have h2 : ∀ t : List (List Int), List.zipWith (List.zipWith f) t t = t := fun t => by
  refine List.ext_getElem? fun j => ?_
  rw [List.getElem?_zipWith]
  cases t[j]? with
  | none => rfl
  | some x => exact congrArg some (h1 x)
 have h3 : List.zipWith (List.zipWith (List.zipWith f)) m.counts m.counts = m.counts := by
  refine List.ext_getElem? fun j => ?_
  rw [List.getElem?_zipWith]
  cases m.counts[j]? with
  | none => rfl
  | some x => exact congrArg some (h2 x)
 rw [h1, h3]
def Qt (m : BM) (row : List Int) (c : Nat) (by_ : Int) (k : Nat) : BM := ⟨m.smooth, m.words, Zt m.seen c by_, m.counts.set c (Zs ((m.counts.getD c []).take k) row by_ ++ (m.counts.getD c []).drop k)⟩
theorem Jff (m : BM) (row : List Int) (c : Nat) (by_ : Int) : Qt m row c by_ 0 = { m with seen := Zt m.seen c by_ } := by
 unfold Qt
 have e : m.counts.set c (Zs ((m.counts.getD c []).take 0) row by_ ++ (m.counts.getD c []).drop 0) = m.counts := by
  refine List.ext_getElem? fun j => ?_
  rw [List.getElem?_set]
  by_cases hj : c = j
  ·subst hj
   rw [if_pos rfl]
   by_cases hc : c < m.counts.length
   ·rw [if_pos hc, List.getElem?_eq_getElem hc, List.getD_eq_getElem?_getD, List.getElem?_eq_getElem hc]
    simp [Zs]
   rw [if_neg hc, List.getElem?_eq_none (by omega)]
  rw [if_neg hj]
 rw [e]
theorem Jfh (m : BM) (row : List Int) (c : Nat) (by_ : Int) (h : (m.counts.getD c []).length <= row.length) : Qt m row c by_ row.length = Jn m row c by_ := by
 unfold Qt Jn
 rw [List.take_of_length_le h, List.drop_of_length_le h, List.append_nil]
def Yz (t : List (List Int)) (row : List Int) (by_ : Int) (k : Nat) : List (List Int) := Zs (t.take k) row by_ ++ t.drop k
theorem Jkg {t : List (List Int)} {row : List Int} (by_ : Int) {k j : Nat} (hk : k <= t.length) (hr : t.length <= row.length) (hj : k <= j) : (Yz t row by_ k)[j]? = t[j]? := by
 have e : (Zs (t.take k) row by_).length = k := by rw [Yn, List.length_take]; omega
 unfold Yz
 rw [List.getElem?_append_right (by omega), e, List.getElem?_drop]
 congr 1
 omega
theorem Jhb {t : List (List Int)} {row : List Int} (by_ : Int) {k : Nat} {j0 : List Int} {x : Int} (hc : t[k]? = some j0) (hx : row[k]? = some x) (hr : t.length <= row.length) : Yz t row by_ (k + 1) = (Yz t row by_ k).set k (Zt j0 x by_) := by
 have hk := (List.getElem?_eq_some_iff.1 hc).1
 have e : (Zs (t.take k) row by_).length = k := by rw [Yn, List.length_take]; omega
 have e1 : Zs (t.take (k + 1)) row by_ = Zs (t.take k) row by_ ++ [Zt j0 x by_] := by
  refine List.ext_getElem? fun j => ?_
  by_cases hj : j < k
  ·rw [List.getElem?_append_left (by omega)]
   unfold Zs
   rw [List.getElem?_zipWith, List.getElem?_zipWith, List.getElem?_take_of_lt (by omega), List.getElem?_take_of_lt hj]
  by_cases aQ : j = k
  ·subst aQ
   rw [List.getElem?_append_right (by omega), e, Nat.sub_self]
   unfold Zs
   rw [List.getElem?_zipWith, List.getElem?_take_of_lt (by omega), hc, hx]
   rfl
  rw [List.getElem?_eq_none (by rw [Yn, List.length_take]; omega), List.getElem?_eq_none (by rw [List.length_append, e]; simp; omega)]
 unfold Yz
 rw [e1, List.drop_eq_getElem_cons hk, List.set_append_right k _ (by omega), e, Nat.sub_self, List.set_cons_zero, List.append_assoc]
 rfl
theorem Jfg {m : BM} {row : List Int} {c : Nat} (by_ : Int) {k : Nat} {t : List (List Int)} {j0 : List Int} {x : Int} (ht : m.counts[c]? = some t) (hc : t[k]? = some j0) (hx : row[k]? = some x) (hr : t.length <= row.length) :
  Qt m row c by_ (k + 1) = { Qt m row c by_ k with counts := (Qt m row c by_ k).counts.set c ((Yz t row by_ k).set k (Zt j0 x by_)) } /\ (Qt m row c by_ k).counts[c]? = some (Yz t row by_ k) /\ (Yz t row by_ k)[k]? = some j0 := by
 have hk := (List.getElem?_eq_some_iff.1 hc).1
 have j8 := (List.getElem?_eq_some_iff.1 ht).1
 have hg : m.counts.getD c [] = t := by rw [List.getD_eq_getElem?_getD, ht]; rfl
 refine ⟨?_, ?_, ?_⟩
 ·unfold Qt
  simp only [BM.mk.injEq, true_and]
  rw [hg, List.set_set]
  exact congrArg (m.counts.set c) (Jhb by_ hc hx hr)
 ·unfold Qt
  simp only
  rw [hg, List.getElem?_set, if_pos rfl, if_pos j8]
  rfl
 rw [Jkg by_ (by omega) hr zd, hc]
def kn0 : BM := ⟨1, [2], [0, 0], [[[0, 0]], [[0, 0]]]⟩
def kn1 : BM := ⟨1, [2], [1, 0], [[[1, 0]], [[0, 0]]]⟩
theorem Jnl : Jdk 2 [2] 1 = (kn0, 0) := by rfl
theorem Jj0 : Jk kn0 = 0 := by decide +kernel
theorem Jjz : Jk kn1 = 0 := by decide +kernel
theorem Jld : Xg kn0 [0] 0 = (kn1, 0) := by rfl
theorem Jh6 : Qo kn1 [0] = ([((8 : Int) : Rat) / ((11 : Int) : Rat), ((3 : Int) : Rat) / ((11 : Int) : Rat)], 0) := by decide +kernel
