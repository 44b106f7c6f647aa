import Derived.OrdersHeld
import Derived.Test.YtcoloflmigcphaaGreatDoorRows3
import Derived.Test.YtcoloflmigcphaaGreatDoorBayesF
namespace Go.Proofs.YtcoloflmigcphaaGreatDoor
set_option maxRecDepth 100000
set_option maxHeartbeats 4000000
open Go.RowKit
set_option linter.all false
theorem Jbz {p p' : Nat -> Bool} {i : Nat} (hp : ∀ x, p' x = true -> p x = true) (hi : p i = true) (bO : p' i = false) : ∀ (l : List Nat), i ∈ l -> (l.filter p').length < (l.filter p).length
 | [], h => by cases h
 | x :: l, h => by
  have cA : ∀ (l : List Nat), (l.filter p').length <= (l.filter p).length := by
   intro l
   induction l with
   | nil => simp
   | cons y l ih =>
    by_cases hy : p' y = true
    ·simp [hy, hp y hy]
     exact ih
    have hy : p' y = false := by simpa using hy
    by_cases hz : p y = true
    ·simp [hy, hz]
     omega
    simp [hy, hz]
    exact ih
  by_cases e : x = i
  ·subst e
   simp [hi, bO]
   have := cA l
   omega
  have h2 : i ∈ l := by
   rcases List.mem_cons.1 h with h3 | h3
   ·exact absurd h3.symm e
   exact h3
  have ih := Jbz hp hi bO l h2
  by_cases hy : p' x = true
  ·simp [hy, hp x hy]
   exact ih
  have hy : p' x = false := by simpa using hy
  by_cases hz : p x = true
  ·simp [hy, hz]
   omega
  simp [hy, hz]
  exact ih
def Jec (ops : Array Oper) (listed : Array Bool) : Nat := ((List.range ops.size).filter fun i => !listed.getD i true).length
theorem Jjy {ops : Array Oper} {md : Region.Mode} {listed : Array Bool} {i : Nat} (hi : i ∈ Region.ready md ops listed) : Jec ops (listed.setIfInBounds i true) < Jec ops listed := by
 obtain ⟨h0, o, ho, -⟩ := mem_ready.1 hi
 refine Jbz (i := i) (fun x hx => ?_) (by simp [h0]) ?_ _ (by rw [List.mem_range]; exact (Array.getElem?_eq_some_iff.1 ho).1)
 ·by_cases e : i = x
  ·subst e
   simp [h0]
  rw [getD_set_ne true e] at hx
  exact hx
 by_cases hs : i < listed.size
 ·simp [Array.getD_eq_getD_getElem?, hs]
 simp [Array.getD_eq_getD_getElem?, hs]
theorem Jh4 {ops : Array Oper} {md : Region.Mode} {listed : Array Bool} (h : Jec ops listed = 0) : Region.ready md ops listed = [] := by
 unfold Jec at h
 have h1 := List.length_eq_zero_iff.1 h
 refine List.eq_nil_iff_forall_not_mem.2 fun i hi => ?_
 obtain ⟨h0, o, ho, -⟩ := mem_ready.1 hi
 have : i ∈ (List.range ops.size).filter fun i => !listed.getD i true := List.mem_filter.2 ⟨List.mem_range.2 (Array.getElem?_eq_some_iff.1 ho).1, by simp [h0]⟩
 rw [h1] at this
 cases this
theorem Jdv {P : Program} {md : Region.Mode} {ops : Array Oper} {Q : Exit -> Act -> World -> Prop} (I : Array Bool -> Act -> World -> Prop)
  (j9 : ∀ (listed : Array Bool) (a : Act) (w : World) (i : Nat), I listed a w -> i ∈ Region.ready md ops listed -> wpOp P ops Q i (I (listed.setIfInBounds i true)) a w)
  (o0 : ∀ (listed : Array Bool) (a : Act) (w : World), I listed a w -> Region.ready md ops listed = [] -> Q .normal a w) : ∀ (fuel : Nat) (listed : Array Bool) (a : Act) (w : World), Jec ops listed <= fuel -> I listed a w -> wpAny P md ops Q fuel listed a w
 | 0, listed, a, w, hf, h => by
  have := Jh4 (md := md) (Nat.le_zero.1 hf)
  exact ⟨this, o0 _ _ _ h this⟩
 | fuel + 1, listed, a, w, hf, h => by
  refine ⟨fun h0 => o0 _ _ _ h h0, fun i hi => ?_⟩
  refine wpOp_mono (fun a' w' h' => Jdv I j9 o0 fuel _ a' w' ?_ h') (j9 _ _ _ i h hi)
  have := Jjy hi
  omega
def Jii (ops : Array Oper) : Bool := (List.range ops.size).all fun i => match ops[i]? with
 | some o => o.after.all fun e => !Region.binds .any e || decide (e.on < i)
 | none => true
theorem Jd6 {ops : Array Oper} {listed : Array Bool} (hk : Jii ops = true) (hs : listed.size = ops.size) (hr : Region.ready .any ops listed = []) : ∀ (n i : Nat), i < n -> i < ops.size -> listed.getD i false = true
 | 0, i, h, _ => absurd h (Nat.not_lt_zero _)
 | n + 1, i, h, hi => by
  have hf : listed.getD i false = listed.getD i true := by
   simp [Array.getD_eq_getD_getElem?, hs ▸ hi, show i < listed.size by omega]
  rw [hf]
  cases hl : listed.getD i true with
  | true => rfl
  | false =>
   have aN : i ∈ Region.ready .any ops listed := by
    refine mem_ready.2 ⟨hl, ops[i], Array.getElem?_eq_getElem hi, fun e he hb => ?_⟩
    have h1 := List.all_eq_true.1 hk i (List.mem_range.2 hi)
    rw [Array.getElem?_eq_getElem hi] at h1
    have h2 := Array.all_eq_true_iff_forall_mem.1 h1 e he
    rw [hb] at h2
    have h3 : e.on < i := by simpa using h2
    exact Jd6 hk hs hr n e.on (by omega) (by omega)
   rw [hr] at aN
   cases aN
theorem Jht {P : Program} {ops : Array Oper} {Q : Exit -> Act -> World -> Prop} {id : Nat} {a : Act} {w : World} (hm : P.follows .mixedOrders = true) (hk : Jii ops = true) (I : Array Bool -> Act -> World -> Prop) (h0 : I (Array.replicate ops.size false) a w.drew)
  (j9 : ∀ (listed : Array Bool) (a : Act) (w : World) (i : Nat), listed.size = ops.size -> I listed a w -> i ∈ Region.ready .any ops listed -> wpOp P ops Q i (I (listed.setIfInBounds i true)) a w)
  (o0 : ∀ (listed : Array Bool) (a : Act) (w : World), I listed a w -> (∀ i, i < ops.size -> listed.getD i false = true) -> Q .normal a w) : (Code.region id ops true).wp P Q a w := by
 refine wp_region_any hm ?_
 refine Jdv (fun l a w => l.size = ops.size /\ I l a w) (fun l a w i h hi => wpOp_mono (fun a' w' h' => ⟨by rw [Array.size_setIfInBounds]; exact h.1, h'⟩) (j9 l a w i h.1 h.2 hi)) (fun l a w h hr => o0 l a w h.2 fun i hi => Jd6 hk h.1 hr (i + 1) i (by omega) hi) _ _ _ _ ?_ ⟨by simp, h0⟩
 unfold Jec
 refine nt (List.length_filter_le _ _) ?_
 rw [List.length_range]
 exact Nat.le_refl _
theorem Jcd {P : Program} {ops : Array Oper} {Q : Exit -> Act -> World -> Prop} {K : Act -> World -> Prop} {i : Nat} {o : Oper} {a : Act} {w : World} (ho : ops[i]? = some o) (hg : Region.wanted o (yielded ops a.tmps) = true) (h : o.wp P a w K Q) : wpOp P ops Q i K a w := by
 unfold wpOp
 rw [ho]
 simp only [hg, if_true]
 exact .inl h
theorem Jjo {ops : Array Oper} {listed : Array Bool} {i j : Nat} {o : Oper} (hi : i ∈ Region.ready .any ops listed) (ho : ops[i]? = some o) (hj : (o.after.any fun e => Region.binds .any e && e.on == j) = true) : listed.getD j false = true := by
 obtain ⟨-, o', cB, h⟩ := mem_ready.1 hi
 obtain rfl := Option.some.inj (ho.symm.trans cB)
 obtain ⟨e, he, h1⟩ := Array.any_eq_true'.1 hj
 rw [Bool.and_eq_true] at h1
 have e1 : e.on = j := by simpa using h1.2
 rw [<- e1]
 exact h e he h1.1
theorem Jjp {ops : Array Oper} {listed : Array Bool} {i : Nat} (hi : i ∈ Region.ready .any ops listed) : listed.getD i true = false := (mem_ready.1 hi).1
def Ku (ops : Array Oper) (i : Nat) : Option Tmp := (ops[i]?).bind (·.dst)
def Ji6 (ops : Array Oper) : Bool := (List.range ops.size).all fun i => (List.range ops.size).all fun j => i == j || (Ku ops i).isNone || Ku ops i != Ku ops j
def Job (ops : Array Oper) (i j : Nat) : Bool := match ops[i]? with
 | some o => o.after.any fun e => Region.binds .any e && e.on == j
 | none => false
def upI (d : Nat -> Bool) (i : Nat) : Nat -> Bool := fun j => j == i || d j
def Jf3 (val : Nat -> Value) (i : Nat) (v : Value) : Nat -> Value := fun j => bif j == i then v else val j
theorem Jkp (d : Nat -> Bool) (i : Nat) : upI d i i = true := by simp [upI]
theorem Jkq {d : Nat -> Bool} {i j : Nat} (h : (j == i) = false) : upI d i j = d j := by simp [upI, h]
theorem Jdy (val : Nat -> Value) (i : Nat) (v : Value) : Jf3 val i v i = v := by simp [Jf3]
theorem Jix {val : Nat -> Value} {i j : Nat} {v : Value} (h : (j == i) = false) : Jf3 val i v j = val j := by simp [Jf3, h]
structure Slots (ops : Array Oper) (a0 : Act) (d : Nat -> Bool) (val : Nat -> Value) (a : Act) : Prop where
 defers : a.defers = a0.defers
 size : a.tmps.size = a0.tmps.size
 old : ∀ t, (ops.any fun o => o.dst == some t) = false -> a.eval (.tmp t) = a0.eval (.tmp t)
 got : ∀ j t, d j = true -> Ku ops j = some t -> t < a0.tmps.size -> a.eval (.tmp t) = val j
theorem Slots.arg {ops : Array Oper} {a0 a : Act} {d : Nat -> Bool} {val : Nat -> Value} (h : Slots ops a0 d val a) (t : Tmp) (ht : (ops.any fun o => o.dst == some t) = false := by kernel_rfl) : a.tmps[t]?.getD undef = a0.eval (.tmp t) := by
 rw [<- h.old t ht]
 simp [Act.eval, Array.getD_eq_getD_getElem?]
theorem Slots.res {ops : Array Oper} {a0 a : Act} {d : Nat -> Bool} {val : Nat -> Value} (h : Slots ops a0 d val a) (j : Nat) (t : Tmp) (hj : d j = true) (eJ : Ku ops j = some t := by exact rfl) (ht : Nat.blt t a0.tmps.size = true := by kernel_rfl) : a.tmps[t]?.getD undef = val j := by
 rw [<- h.got j t hj eJ (Nat.le_of_ble_eq_true ht)]
 simp [Act.eval, Array.getD_eq_getD_getElem?]
theorem Jbt {a : Act} {x : Option Tmp} {v : Value} {t : Tmp} (h : x ≠ some t) : (a.put x v).eval (.tmp t) = a.eval (.tmp t) := by
 refine Act.eval_put fun d hd e => h ?_
 injection e with e
 rw [hd, e]
theorem Jk4 (a : Act) (x : Option Tmp) (v : Value) : (a.put x v).tmps.size = a.tmps.size := by cases x <;> simp [Act.put]
theorem Jdj {a : Act} {t : Tmp} {v : Value} (h : t < a.tmps.size) : (a.put (some t) v).eval (.tmp t) = v := by
 simp [Act.put, Act.eval, Array.getD_eq_getD_getElem?, h]
theorem Slots.start (ops : Array Oper) (a : Act) (val : Nat -> Value) : Slots ops a (fun _ => false) val a := ⟨rfl, rfl, fun _ _ => rfl, fun _ _ h => by cases h⟩
theorem Slots.put {ops : Array Oper} {a0 a : Act} {d : Nat -> Bool} {val : Nat -> Value} {i : Nat} {v : Value} (hd : Ji6 ops = true) (hi : i < ops.size) (h : Slots ops a0 d val a) : Slots ops a0 (upI d i) (Jf3 val i v) (a.put (Ku ops i) v) := by
 refine ⟨?_, by rw [Jk4, h.size], fun t ht => ?_, fun j t hj eJ j7 => ?_⟩
 ·rw [<- h.defers]
  cases Ku ops i <;> rfl
 ·rw [<- h.old t ht]
  refine Jbt fun e => ?_
  have h1 : (ops.any fun o => o.dst == some t) = true := by
   rw [Array.any_eq_true]
   refine ⟨i, hi, ?_⟩
   unfold Ku at e
   rw [Array.getElem?_eq_getElem hi] at e
   simpa using e
  rw [ht] at h1
  cases h1
 by_cases bP : j = i
 ·subst bP
  rw [eJ, Jdj (by rw [h.size]; exact j7), Jdy]
 have hb : (j == i) = false := by simpa using bP
 rw [Jkq hb] at hj
 rw [Jix hb, <- h.got j t hj eJ j7]
 refine Jbt fun e => ?_
 have aG : j < ops.size := by
  rcases Nat.lt_or_ge j ops.size with h1 | h1
  ·exact h1
  unfold Ku at eJ
  rw [Array.getElem?_eq_none h1] at eJ
  cases eJ
 have h1 := List.all_eq_true.1 (List.all_eq_true.1 hd j (List.mem_range.2 aG)) i (List.mem_range.2 hi)
 rw [eJ, e, hb] at h1
 simp at h1
theorem Slots.uniq {ops : Array Oper} {a0 a b : Act} {d e : Nat -> Bool} {val : Nat -> Value} (h : Slots ops a0 d val a) (g : Slots ops a0 e val b) (hd : ∀ i, i < ops.size -> d i = true) (he : ∀ i, i < ops.size -> e i = true) : a = b := by
 obtain ⟨ta, da⟩ := a
 obtain ⟨tb, db⟩ := b
 obtain rfl : da = db := h.defers.trans g.defers.symm
 congr 1
 have hs : ta.size = tb.size := h.size.trans g.size.symm
 refine Array.ext hs fun t h1 h2 => ?_
 have key : (Act.mk ta da).eval (.tmp t) = (Act.mk tb da).eval (.tmp t) := by
  by_cases hx : (ops.any fun o => o.dst == some t) = false
  ·rw [h.old t hx, g.old t hx]
  have hx : (ops.any fun o => o.dst == some t) = true := by simpa using hx
  rw [Array.any_eq_true] at hx
  obtain ⟨j, hj, eJ⟩ := hx
  have e1 : Ku ops j = some t := by
   unfold Ku
   rw [Array.getElem?_eq_getElem hj]
   simpa using eJ
  have j7 : t < a0.tmps.size := by
   have e2 : ta.size = a0.tmps.size := h.size
   omega
  rw [h.got j t (hd j hj) e1 j7, g.got j t (he j hj) e1 j7]
 simpa [Act.eval, Array.getD_eq_getD_getElem?, h1, h2] using key
def Jd7 : List (Option Tmp) -> Nat -> (Nat -> Value) -> Act -> Act
 | [], _, _, a => a
 | x :: xs, n, val, a => Jd7 xs (n + 1) val (a.put x (val n))
theorem Jbs {ops : Array Oper} {a0 : Act} {val : Nat -> Value} (hd : Ji6 ops = true) : ∀ (xs : List (Option Tmp)) (n : Nat) (b : Act), (∀ i, i < xs.length -> xs[i]? = (ops[n + i]?).map (·.dst)) -> Slots ops a0 (fun j => decide (j < n)) val b -> Slots ops a0 (fun j => decide (j < n + xs.length)) val (Jd7 xs n val b)
 | [], n, b, _, h => by simpa [Jd7] using h
 | x :: xs, n, b, hx, h => by
  have h0 := hx 0 (by simp)
  simp only [List.getElem?_cons_zero, Nat.add_zero] at h0
  obtain ⟨o, ho, eK⟩ := Option.map_eq_some_iff.1 h0.symm
  have hn : n < ops.size := (Array.getElem?_eq_some_iff.1 ho).1
  have e1 : Ku ops n = x := by
   unfold Ku
   rw [ho]
   exact eK
  have h2 := h.put (v := val n) hd hn
  rw [e1] at h2
  have e2 : upI (fun j => decide (j < n)) n = fun j => decide (j < n + 1) := by
   funext j
   unfold upI
   by_cases h3 : j = n
   ·subst h3
    simp
   have : (j < n + 1) = (j < n) := propext (by omega)
   simp [h3, this]
  have e3 : Jf3 val n (val n) = val := by
   funext j
   by_cases h3 : (j == n) = true
   ·obtain rfl : j = n := by simpa using h3
    rw [Jdy]
   rw [Jix (by simpa using h3)]
  rw [e2, e3] at h2
  have h4 := Jbs hd xs (n + 1) _ (fun i hi => by
   have := hx (i + 1) (by simp; omega)
   rw [List.getElem?_cons_succ] at this
   rw [this, show n + (i + 1) = n + 1 + i by omega]) h2
  have e4 : (fun j => decide (j < n + 1 + xs.length)) = fun j => decide (j < n + (x :: xs).length) := by
   funext j
   rw [List.length_cons, show n + (xs.length + 1) = n + 1 + xs.length by omega]
  rw [e4] at h4
  exact h4
theorem Slots.all {ops : Array Oper} {a0 a : Act} {d : Nat -> Bool} {val : Nat -> Value} {ds : List (Option Tmp)} (hd : Ji6 ops = true) (aX : ops.toList.map (·.dst) = ds) (h : Slots ops a0 d val a) (aY : ∀ i, i < ops.size -> d i = true) : a = Jd7 ds 0 val a0 := by
 have e0 : (fun j => decide (j < 0)) = fun _ : Nat => false := by
  funext j
  simp
 have hl : ds.length = ops.size := by rw [<- aX]; simp
 have h1 := Jbs (a0 := a0) (val := val) hd ds 0 a0 (fun i hi => by
  rw [<- aX]
  simp) (by rw [e0]; exact Slots.start _ _ _)
 refine h.uniq h1 aY fun i hi => ?_
 simp
 omega
def Jnz (n : Nat) (p : Nat -> Prop) : Prop := match n with
 | 0 => True
 | n + 1 => Jnz n p /\ p n
theorem Jhj {p : Nat -> Prop} : ∀ (n : Nat), Jnz n p -> ∀ i, i < n -> p i
 | 0, _, i, h => absurd h (Nat.not_lt_zero i)
 | n + 1, h, i, hi => by
  by_cases e : i = n
  ·subst e
   exact h.2
  exact Jhj n h.1 i (by omega)
theorem Je0 {P : Program} {ops : Array Oper} {Q : Exit -> Act -> World -> Prop} {id : Nat} {a : Act} {w : World} (Φ : (Nat -> Bool) -> (Nat -> Value) -> World -> Prop) (hm : P.follows .mixedOrders = true) (hk : Jii ops = true) (hd : Ji6 ops = true) (h0 : Φ (fun _ => false) (fun _ => undef) w.drew)
  (j9 : Jnz ops.size fun i => ∀ (d : Nat -> Bool) (val : Nat -> Value) (a' : Act) (w' : World), Slots ops a d val a' -> Φ d val w' -> d i = false -> (∀ j, (_ : Job ops i j = true := by kernel_rfl) -> d j = true) -> wpOp P ops Q i (fun a'' w'' => ∃ v, a'' = a'.put (Ku ops i) v /\ Φ (upI d i) (Jf3 val i v) w'') a' w')
  (ds : List (Option Tmp)) (aX : ops.toList.map (·.dst) = ds) (o0 : ∀ (d : Nat -> Bool) (val : Nat -> Value) (w' : World), Φ d val w' -> (∀ i, i < ops.size -> d i = true) -> Q .normal (Jd7 ds 0 val a) w') : (Code.region id ops true).wp P Q a w := by
 refine Jht hm hk (fun listed a' w' => ∃ val, Slots ops a (fun j => listed.getD j false) val a' /\ Φ (fun j => listed.getD j false) val w') ?_ ?_ ?_
 ·have e : (fun j => (Array.replicate ops.size false).getD j false) = fun _ => false := by
   funext j
   by_cases h : j < ops.size <;> simp [Array.getD_eq_getD_getElem?, h]
  rw [e]
  exact ⟨_, Slots.start _ _ _, h0⟩
 ·rintro listed a' w' i hs ⟨val, hS, hF⟩ hi
  have j7 : i < ops.size := by
   obtain ⟨-, o, ho, -⟩ := mem_ready.1 hi
   exact (Array.getElem?_eq_some_iff.1 ho).1
  have e : (fun j => (listed.setIfInBounds i true).getD j false) = upI (fun j => listed.getD j false) i := by
   funext j
   by_cases h : i = j
   ·subst h
    rw [Jkp]
    simp [Array.getD_eq_getD_getElem?, hs, j7]
   rw [getD_set_ne false h, Jkq (by simpa using fun e => h e.symm)]
  rw [e]
  refine wpOp_mono ?_ (Jhj _ j9 i j7 _ val a' w' hS hF ?_ ?_)
  ·rintro a'' w'' ⟨v, rfl, hv⟩
   exact ⟨_, hS.put hd j7, hv⟩
  ·have h1 := Jjp hi
   simp [Array.getD_eq_getD_getElem?, hs, j7] at h1 ⊢
   exact h1
  intro j hj
  obtain ⟨o, ho⟩ : ∃ o, ops[i]? = some o := ⟨_, Array.getElem?_eq_getElem j7⟩
  unfold Job at hj
  rw [ho] at hj
  exact Jjo hi ho hj
 rintro listed a' w' ⟨val, hS, hF⟩ h
 rw [hS.all hd aX h]
 exact o0 _ val w' hF h
theorem Xa {P : Program} {ops : Array Oper} {Q : Exit -> Act -> World -> Prop} {Ψ : Value -> World -> Prop} {i : Nat} {a : Act} {w w2 : World} {v : Value} (o : Oper) (ho : ops[i]? = some o) (hg : Region.wanted o (yielded ops a.tmps) = true) (he : (execOp a.eval o).run P w = .ok (.value v) w2) (h : Ψ v w2) : wpOp P ops Q i (fun a'' w'' => ∃ v, a'' = a.put (Ku ops i) v /\ Ψ v w'') a w := by
 refine Jcd ho hg ?_
 unfold Oper.wp
 rw [he]
 refine ⟨v, ?_, h⟩
 unfold Ku
 rw [ho]
 rfl
theorem Jpy {P : Program} {ops : Array Oper} {Q : Exit -> Act -> World -> Prop} {Ψ : Value -> World -> Prop} {i : Nat} {a : Act} {w w2 : World} (o : Oper) (ho : ops[i]? = some o) (hg : Region.wanted o (yielded ops a.tmps) = true) (he : (execOp a.eval o).run P w = .ok .skip w2) (h : Ψ undef w2) : wpOp P ops Q i (fun a'' w'' => ∃ v, a'' = a.put (Ku ops i) v /\ Ψ v w'') a w := by
 refine Jcd ho hg ?_
 unfold Oper.wp
 rw [he]
 refine ⟨undef, ?_, h⟩
 unfold Ku
 rw [ho]
 rfl
theorem Jjm {P : Program} {ops : Array Oper} {Q : Exit -> Act -> World -> Prop} {Ψ : Value -> World -> Prop} {i : Nat} {a : Act} {w w2 : World} {f : FuncId} {args : Array Value} (o : Oper) (ho : ops[i]? = some o) (hg : Region.wanted o (yielded ops a.tmps) = true) (he : (execOp a.eval o).run P w = .ok (.enter f args) w2) (h : Calls P f args w2 fun e w3 => ∃ v, e = .returned v /\ Ψ v w3) : wpOp P ops Q i (fun a'' w'' => ∃ v, a'' = a.put (Ku ops i) v /\ Ψ v w'') a w := by
 refine Jcd ho hg ?_
 unfold Oper.wp
 rw [he]
 refine Calls.mono h ?_
 rintro e w3 ⟨v, rfl, hv⟩
 refine ⟨v, ?_, hv⟩
 unfold Ku
 rw [ho]
 rfl
theorem Joy {α : Type} {P : Program} {ops : Array Oper} {Q : Exit -> Act -> World -> Prop} {Ψ : Value -> World -> Prop} {i : Nat} {a : Act} {t e : TypeId} {z : Value} {bytes : Nat} {f : α -> Value} (E : Elt P t e z bytes) (o : Oper) (ho : ops[i]? = some o) (hg : Region.wanted o (yielded ops a.tmps) = true) (s x : Operand)
  (cL : o.op = .call { callee := .builtin .append, args := #[s, x], argTypes := #[t, t] })
  (w : World) (v : Value) (l : List α) (B : Nat) (A : Option Addr) (n c : Nat) (l2 : List α) (hs : a.eval s = v) (bR : Own w e f v l) (hx : a.eval x = .slice A n c)
  (hr : Reads w B 1 A n (l2.map f)) (dG : ∀ m, (f m).oneCell' = true) (dN : l.length + n <= maxLen) (hb : (l.length + n) * bytes <= 140737488355328)
  (h : ∀ v' w1, Own w1 e f v' (l ++ l2) -> Grew w w1 v v' -> Ψ v' w1) : wpOp P ops Q i (fun a'' w'' => ∃ v, a'' = a.put (Ku ops i) v /\ Ψ v w'') a w := by
 refine Jcd ho hg ?_
 obtain ⟨i0, dO, dP, dQ, dR⟩ := info_parts E.info
 refine Jdb w s x t cL 0 e i0 z 1 bytes E.under dO dP dQ dR E.one (by omega) v l.length (l.map f) hs bR B A n c (l2.map f) hx hr
  (by intro u hu; simp at hu; obtain ⟨m, _, rfl⟩ := hu; exact dG m) dN hb (Nat.zero_le _) ?_
 intro v' w' dA eF dS
 refine ⟨v', ?_, h v' w' ?_ (Grew.of_grown eF dS)⟩
 ·unfold Ku
  rw [ho]
  rfl
 have hl := hr.lenf
 unfold Own
 rw [List.length_append, List.map_append, hl]
 exact dA
def Jom : Value -> Option Nat
 | .pointer (some a) => some a.block
 | v => v.ownBlock
structure Apart (grp : Nat -> Nat) (lo hi : Nat) (d : Nat -> Bool) (val : Nat -> Value) : Prop where
 lt : ∀ i b, d i = true -> grp i ≠ 0 -> Jom (val i) = some b -> lo <= b /\ b < hi
 ap : ∀ i j b, d i = true -> d j = true -> grp i ≠ 0 -> grp j ≠ 0 -> grp i ≠ grp j -> Jom (val i) = some b -> Jom (val j) ≠ some b
theorem Apart.start (grp : Nat -> Nat) (lo hi : Nat) (val : Nat -> Value) : Apart grp lo hi (fun _ => false) val := ⟨(fun _ _ h => by cases h), (fun _ _ _ h => by cases h)⟩
theorem Jor {d : Nat -> Bool} {i j : Nat} (h : upI d i j = true) (val : Nat -> Value) (v : Value) : (j = i /\ Jf3 val i v j = v) \/ (j ≠ i /\ d j = true /\ Jf3 val i v j = val j) := by
 by_cases e : j = i
 ·subst e
  exact .inl ⟨rfl, Jdy _ _ _⟩
 have hb : (j == i) = false := by simpa using e
 rw [Jkq hb] at h
 exact .inr ⟨e, h, Jix hb⟩
theorem Apart.step {grp : Nat -> Nat} {lo hi bO i : Nat} {d : Nat -> Bool} {val : Nat -> Value} {v : Value} (h : Apart grp lo hi d val) (hh : hi <= bO) (hl : lo <= hi) (hv : grp i ≠ 0 -> ∀ b, Jom v = some b -> (hi <= b /\ b < bO) \/ ∃ j, d j = true /\ grp j = grp i /\ Jom (val j) = some b) : Apart grp lo bO (upI d i) (Jf3 val i v) := by
 refine ⟨fun j b hj hg hb => ?_, fun j k b hj hk dB dC o9 hb dD => ?_⟩
 ·rcases Jor hj val v with ⟨rfl, e⟩ | ⟨o9, aA, e⟩
  ·rw [e] at hb
   rcases hv hg b hb with h1 | ⟨k, h1, h2, h3⟩
   ·omega
   have := h.lt k b h1 (by rw [h2]; exact hg) h3
   omega
  rw [e] at hb
  have := h.lt j b aA hg hb
  omega
 rcases Jor hj val v with ⟨rfl, e⟩ | ⟨dT, aA, e⟩ <;> rcases Jor hk val v with ⟨rfl, e'⟩ | ⟨dU, cE, e'⟩ <;> rw [e] at hb <;> rw [e'] at dD
 ·exact o9 rfl
 ·rcases hv dB b hb with h1 | ⟨m, h1, h2, h3⟩
  ·have := h.lt k b cE dC dD
   omega
  exact h.ap m k b h1 cE (by rw [h2]; exact dB) dC (by rw [h2]; exact o9) h3 dD
 ·rcases hv dC b dD with h1 | ⟨m, h1, h2, h3⟩
  ·have := h.lt j b aA dB hb
   omega
  exact h.ap j m b aA h1 dB (by rw [h2]; exact dC) (by rw [h2]; exact o9) hb h3
 exact h.ap j k b aA cE dB dC o9 hb dD
theorem Apart.pure {grp : Nat -> Nat} {lo hi i : Nat} {d : Nat -> Bool} {val : Nat -> Value} {v : Value} (h : Apart grp lo hi d val) (hl : lo <= hi) (hg : grp i = 0) : Apart grp lo hi (upI d i) (Jf3 val i v) := h.step zd hl fun h0 => absurd hg h0
theorem Apart.hi {grp : Nat -> Nat} {lo hi bO : Nat} {d : Nat -> Bool} {val : Nat -> Value} (h : Apart grp lo hi d val) (hh : hi <= bO) : Apart grp lo bO d val := ⟨fun i b h1 h2 h3 => by have := h.lt i b h1 h2 h3; omega, h.ap⟩
def Jq4 (ops : Array Oper) (n : Nat) : Bool := ops.size == n + 1 && (List.range n).all fun j => Job ops n j
theorem Jo8 {P : Program} {ops : Array Oper} {Q : Exit -> Act -> World -> Prop} {Ψ : Value -> World -> Prop} {i : Nat} {a : Act} {w : World} (o : Oper) (ho : ops[i]? = some o) (hg : Region.wanted o (yielded ops a.tmps) = false) (h : Ψ undef w) : wpOp P ops Q i (fun a'' w'' => ∃ v, a'' = a.put (Ku ops i) v /\ Ψ v w'') a w := by
 unfold wpOp
 rw [ho]
 simp only [hg, Bool.false_eq_true, if_false]
 refine ⟨undef, ?_, h⟩
 unfold Ku
 rw [ho]
 rfl
theorem Jqe {p : Nat -> Prop} : ∀ (n : Nat), (∀ i, i < n -> p i) -> Jnz n p
 | 0, _ => trivial
 | n + 1, h => ⟨Jqe n fun i hi => h i (by omega), h n (by omega)⟩
theorem Jo4 {P : Program} {ops : Array Oper} {Q : Exit -> Act -> World -> Prop} {id : Nat} {a : Act} {w : World} (n : Nat) (vals : Nat -> Value) (w2 : World) (hm : P.follows .mixedOrders = true) (hk : Jii ops = true) (hd : Ji6 ops = true) (hl : Jq4 ops n = true)
  (j9 : Jnz n fun i => ∀ (d : Nat -> Bool) (a' : Act), Slots ops a d vals a' -> (∀ j, (_ : Job ops i j = true := by kernel_rfl) -> d j = true) -> ∃ o, ops[i]? = some o /\ ((Region.wanted o (yielded ops a'.tmps) = true /\ (execOp a'.eval o).run P w.drew = .ok (.value (vals i)) w.drew) \/ (Region.wanted o (yielded ops a'.tmps) = false /\ vals i = undef)))
  (dE : ∀ (d : Nat -> Bool) (a' : Act), Slots ops a d vals a' -> (∀ j, j < n -> d j = true) -> ∃ o, ops[n]? = some o /\ Region.wanted o (yielded ops a'.tmps) = true /\ (((execOp a'.eval o).run P w.drew = .ok .skip w2 /\ vals n = undef) \/ (execOp a'.eval o).run P w.drew = .ok (.value (vals n)) w2))
  (ds : List (Option Tmp)) (aX : ops.toList.map (·.dst) = ds) (o0 : Q .normal (Jd7 ds 0 vals a) w2) : (Code.region id ops true).wp P Q a w := by
 unfold Jq4 at hl
 rw [Bool.and_eq_true, List.all_eq_true] at hl
 have hn : ops.size = n + 1 := by simpa using hl.1
 have dH : ∀ j, j < n -> Job ops n j = true := fun j hj => hl.2 j (List.mem_range.2 hj)
 refine Je0 (fun d val w' => (∀ j, d j = true -> val j = vals j) /\ (d n = false -> w' = w.drew) /\ (d n = true -> w' = w2 /\ ∀ j, j < n -> d j = true)) hm hk hd ⟨(fun j h => by cases h), fun _ => rfl, fun h => by cases h⟩ ?_ ds aX ?_
 ·refine Jqe _ fun i hi d val a' w' hS hF dI hp => ?_
  have dK : Slots ops a d vals a' := ⟨hS.defers, hS.size, hS.old, fun j t h1 h2 h3 => (hS.got j t h1 h2 h3).trans (hF.1 j h1)⟩
  by_cases e : i = n
  ·subst e
   have aY : ∀ j, j < i -> d j = true := fun j hj => hp j (dH j hj)
   obtain ⟨o, ho, hw, h⟩ := dE d a' dK aY
   have dJ := hF.2.1 dI
   subst dJ
   have fin : ∀ v, v = vals i -> (∀ j, upI d i j = true -> Jf3 val i v j = vals j) /\ (upI d i i = false -> w2 = w.drew) /\ (upI d i i = true -> w2 = w2 /\ ∀ j, j < i -> upI d i j = true) := fun v hv => by
    refine ⟨fun j hj => ?_, (fun h => by rw [Jkp] at h; cases h), fun _ => ⟨rfl, fun j hj => ?_⟩⟩
    ·rcases Jor hj val v with ⟨rfl, e⟩ | ⟨o9, aA, e⟩
     ·rw [e, hv]
     rw [e, hF.1 j aA]
    unfold upI
    rw [aY j hj, Bool.or_true]
   rcases h with ⟨h, hv⟩ | h
   ·exact Jpy o ho hw h (fin _ hv.symm)
   exact Xa o ho hw h (fin _ rfl)
  have eE : i < n := by omega
  obtain ⟨o, ho, h⟩ := Jhj _ j9 i eE d a' dK @hp
  have dL : d n = false := by
   cases hc : d n with
   | false => rfl
   | true => rw [(hF.2.2 hc).2 i eE] at dI; cases dI
  have dJ := hF.2.1 dL
  subst dJ
  have hb : (n == i) = false := by
   have h2 : ¬ n = i := fun h => e h.symm
   simpa using h2
  have fin : ∀ v, v = vals i -> (∀ j, upI d i j = true -> Jf3 val i v j = vals j) /\ (upI d i n = false -> w.drew = w.drew) /\ (upI d i n = true -> w.drew = w2 /\ ∀ j, j < n -> upI d i j = true) := fun v hv => by
   refine ⟨fun j hj => ?_, fun _ => rfl, (fun h => by rw [Jkq hb, dL] at h; cases h)⟩
   rcases Jor hj val v with ⟨rfl, e⟩ | ⟨o9, aA, e⟩
   ·rw [e, hv]
   rw [e, hF.1 j aA]
  rcases h with ⟨hw, h⟩ | ⟨hw, hv⟩
  ·exact Xa o ho hw h (fin _ rfl)
  exact Jo8 o ho hw (fin _ hv.symm)
 intro d val w' hF aY
 obtain ⟨rfl, -⟩ := hF.2.2 (aY n (by omega))
 have e : ∀ (xs : List (Option Tmp)) (k : Nat) (b : Act), (∀ j, j < k + xs.length -> val j = vals j) -> Jd7 xs k val b = Jd7 xs k vals b := by
  intro xs
  induction xs with
  | nil => intro k b _; rfl
  | cons x xs ih =>
   intro k b h
   unfold Jd7
   rw [h k (by rw [List.length_cons]; omega)]
   exact ih _ _ fun j hj => h j (by rw [List.length_cons]; omega)
 rw [e ds 0 a fun j hj => hF.1 j (aY j (by rw [<- aX] at hj; simpa using hj))]
 exact o0
def Fixed (FX : Nat -> Option Value) (d : Nat -> Bool) (val : Nat -> Value) : Prop := ∀ j v, FX j = some v -> d j = true -> val j = v
theorem Slots.fe {ops : Array Oper} {a0 a : Act} {d : Nat -> Bool} {val : Nat -> Value} {FX : Nat -> Option Value} {v : Value} (h : Slots ops a0 d val a) (j t : Nat) (hf : Fixed FX d val) (hd : d j = true) (hj : Ku ops j = some t := by exact rfl) (ht : Nat.blt t a0.tmps.size = true := by kernel_rfl) (hv : FX j = some v := by exact rfl) : a.tmps[t]?.getD undef = v := (h.res j t hd hj ht).trans (hf j v hv hd)
theorem Fixed.start (FX : Nat -> Option Value) (val : Nat -> Value) : Fixed FX (fun _ => false) val := fun _ _ _ h => by cases h
theorem Fixed.step {FX : Nat -> Option Value} {d : Nat -> Bool} {val : Nat -> Value} {i : Nat} {x : Value} (h : Fixed FX d val) (hx : FX i = none \/ FX i = some x) : Fixed FX (upI d i) (Jf3 val i x) := fun j v hj hd => by
 rcases Jor hd val x with ⟨rfl, e⟩ | ⟨o9, dV, e⟩
 ·rw [e]
  rcases hx with hx | hx
  ·rw [hx] at hj
   cases hj
  exact Option.some.inj (hx.symm.trans hj)
 rw [e]
 exact h j v hj dV
def Juc (ops : Array Oper) (t : Tmp) (j : Nat) : Bool := (List.range ops.size).all fun i => i == j || Ku ops i != some t
structure Slots2 (ops : Array Oper) (a0 : Act) (d : Nat -> Bool) (val : Nat -> Value) (a : Act) : Prop extends Slots ops a0 d val a where
 late : ∀ t j, Juc ops t j = true -> d j = false -> a.tmps[t]?.getD undef = a0.eval (.tmp t)
theorem Jtf {P : Program} {ops : Array Oper} {Q : Exit -> Act -> World -> Prop} {id : Nat} {a : Act} {w : World} (Φ : (Nat -> Bool) -> (Nat -> Value) -> World -> Prop) (hm : P.follows .mixedOrders = true) (hk : Jii ops = true) (hd : Ji6 ops = true) (h0 : Φ (fun _ => false) (fun _ => undef) w.drew)
  (j9 : Jnz ops.size fun i => ∀ (d : Nat -> Bool) (val : Nat -> Value) (a' : Act) (w' : World), Slots2 ops a d val a' -> Φ d val w' -> d i = false -> (∀ j, (_ : Job ops i j = true := by kernel_rfl) -> d j = true) -> wpOp P ops Q i (fun a'' w'' => ∃ v, a'' = a'.put (Ku ops i) v /\ Φ (upI d i) (Jf3 val i v) w'') a' w')
  (ds : List (Option Tmp)) (aX : ops.toList.map (·.dst) = ds) (o0 : ∀ (d : Nat -> Bool) (val : Nat -> Value) (w' : World), Φ d val w' -> (∀ i, i < ops.size -> d i = true) -> Q .normal (Jd7 ds 0 val a) w') : (Code.region id ops true).wp P Q a w := by
 refine Jht hm hk (fun listed a' w' => ∃ val, Slots2 ops a (fun j => listed.getD j false) val a' /\ Φ (fun j => listed.getD j false) val w') ?_ ?_ ?_
 ·have e : (fun j => (Array.replicate ops.size false).getD j false) = fun _ => false := by
   funext j
   by_cases h : j < ops.size <;> simp [Array.getD_eq_getD_getElem?, h]
  rw [e]
  exact ⟨_, ⟨Slots.start _ _ _, fun t j _ _ => by simp [Act.eval, Array.getD_eq_getD_getElem?]⟩, h0⟩
 ·rintro listed a' w' i hs ⟨val, hS, hF⟩ hi
  have j7 : i < ops.size := by
   obtain ⟨-, o, ho, -⟩ := mem_ready.1 hi
   exact (Array.getElem?_eq_some_iff.1 ho).1
  have e : (fun j => (listed.setIfInBounds i true).getD j false) = upI (fun j => listed.getD j false) i := by
   funext j
   by_cases h : i = j
   ·subst h
    rw [Jkp]
    simp [Array.getD_eq_getD_getElem?, hs, j7]
   rw [getD_set_ne false h, Jkq (by simpa using fun e => h e.symm)]
  rw [e]
  refine wpOp_mono ?_ (Jhj _ j9 i j7 _ val a' w' hS hF ?_ ?_)
  ·rintro a'' w'' ⟨v, rfl, hv⟩
   refine ⟨_, ⟨hS.toSlots.put hd j7, fun t j hl hj => ?_⟩, hv⟩
   have bP : j ≠ i := fun e => by
    subst e
    rw [Jkp] at hj
    cases hj
   rw [Jkq (by simpa using bP)] at hj
   have h1 := hS.late t j hl hj
   have h2 := List.all_eq_true.1 hl i (List.mem_range.2 j7)
   have h3 : (i == j) = false := by simpa using fun e => bP e.symm
   rw [h3, Bool.false_or] at h2
   have h4 := Jbt (a := a') (v := v) (show Ku ops i ≠ some t by simpa using h2)
   rw [<- h1]
   simpa [Act.eval, Array.getD_eq_getD_getElem?] using h4
  ·have h1 := Jjp hi
   simp [Array.getD_eq_getD_getElem?, hs, j7] at h1 ⊢
   exact h1
  intro j hj
  obtain ⟨o, ho⟩ : ∃ o, ops[i]? = some o := ⟨_, Array.getElem?_eq_getElem j7⟩
  unfold Job at hj
  rw [ho] at hj
  exact Jjo hi ho hj
 rintro listed a' w' ⟨val, hS, hF⟩ h
 rw [hS.toSlots.all hd aX h]
 exact o0 _ val w' hF h
structure SepK {β : Type} (P : World -> (Nat -> Prop) -> Value -> β -> Prop) : Prop where
 loc : ∀ {w w' : World} {S : Nat -> Prop} {v : Value} {b : β}, P w S v b -> w.heap.size <= w'.heap.size -> (∀ k, S k -> w'.heap[k]? = w.heap[k]?) -> P w' S v b
 lt : ∀ {w : World} {S : Nat -> Prop} {v : Value} {b : β} {k : Nat}, P w S v b -> S k -> k < w.heap.size
 form : ∀ {w : World} {S : Nat -> Prop} {v : Value} {b : β}, P w S v b -> ∃ A n c, v = .slice A n c
def NRow {α : Type} (e : TypeId) (f : α -> Value) (w : World) (S : Nat -> Prop) (v : Value) (l : List α) : Prop := Own w e f v l /\ ∀ k, S k ↔ v.ownBlock = some k
def Nest {β : Type} (T : TypeId) (P : World -> (Nat -> Prop) -> Value -> β -> Prop) (w : World) (S : Nat -> Prop) (v : Value) (bl : List β) : Prop :=
 ∃ (rl : List SW) (F : Nat -> Nat -> Prop), Own w T SW.v v rl /\ rl.length = bl.length /\ (∀ (i : Nat) (r : SW) (b : β), rl[i]? = some r -> bl[i]? = some b -> P w (F i) r.v b) /\
  (∀ i, i < rl.length -> ∀ k, F i k -> S k /\ v.ownBlock ≠ some k) /\ (∀ i j, i < rl.length -> j < rl.length -> i ≠ j -> ∀ k, F i k -> ¬ F j k) /\
  (∀ k, v.ownBlock = some k -> S k) /\ ∀ k, S k -> v.ownBlock = some k \/ ∃ i, i < rl.length /\ F i k
def upd (F : Nat -> Nat -> Prop) (i : Nat) (S : Nat -> Prop) (j : Nat) : Nat -> Prop := if j = i then S else F j
theorem Jcg (F : Nat -> Nat -> Prop) (i : Nat) (S : Nat -> Prop) : upd F i S i = S := if_pos rfl
theorem Jho {F : Nat -> Nat -> Prop} {i j : Nat} {S : Nat -> Prop} (h : j ≠ i) : upd F i S j = F j := if_neg h
theorem Zg {F : Nat -> Nat -> Prop} {i j : Nat} {S : Nat -> Prop} {x : Nat} (h : upd F i S j x) : (j = i /\ S x) \/ (j ≠ i /\ F j x) := by
 by_cases hj : j = i
 ·subst hj
  rw [Jcg] at h
  exact .inl ⟨rfl, h⟩
 rw [Jho hj] at h
 exact .inr ⟨hj, h⟩
section
variable {α : Type} {e : TypeId} {f : α -> Value} {w w' : World} {S : Nat -> Prop} {v : Value} {l : List α}
theorem Own.loc (h : Own w e f v l) (hb : ∀ k, v.ownBlock = some k -> w'.heap[k]? = w.heap[k]?) : Own w' e f v l := by
 refine ⟨h.1, ?_⟩
 rcases h.2 with h1 | ⟨g, cap, cur, h1, h2, h3, h4⟩
 ·exact .inl h1
 subst h1
 exact .inr ⟨g, cap, cur, rfl, h2, (hb g rfl).trans h3, h4⟩
theorem NRow.of (h : Own w e f v l) : NRow e f w (fun k => v.ownBlock = some k) v l := ⟨h, fun k => Iff.rfl⟩
theorem NRow.nil (e : TypeId) (f : α -> Value) (w : World) : NRow e f w (fun _ => False) (.slice none 0 0) [] := ⟨Own.nil_ _ _ _, fun k => ⟨False.elim, fun h => by cases h⟩⟩
theorem Js (e : TypeId) (f : α -> Value) : SepK (NRow e f) where
 loc := fun h _ hb => ⟨h.1.loc fun k hk => hb k ((h.2 k).2 hk), h.2⟩
 lt := fun h hk => h.1.lt _ ((h.2 _).1 hk)
 form := fun h => by
  obtain ⟨A, c, h1, _⟩ := h.1.form
  exact ⟨A, _, c, h1⟩
end
section
variable {β : Type} {T : TypeId} {P : World -> (Nat -> Prop) -> Value -> β -> Prop} {w w' : World} {S S' : Nat -> Prop} {v v' : Value} {bl : List β}
theorem Nest.nil (T : TypeId) (P : World -> (Nat -> Prop) -> Value -> β -> Prop) (w : World) : Nest T P w (fun _ => False) (.slice none 0 0) [] :=
 ⟨[], fun _ _ => False, Own.nil_ _ _ _, rfl, fun i r b h => by simp at h, fun i h => by simp at h, fun i j h => by simp at h, fun k h => by simp [Value.ownBlock] at h, fun k h => h.elim⟩
theorem Nest.lt (K : SepK P) (h : Nest T P w S v bl) {k : Nat} (hk : S k) : k < w.heap.size := by
 obtain ⟨rl, F, h1, h2, h3, h4, h5, h6, h7⟩ := h
 rcases h7 k hk with h8 | ⟨i, hi, h8⟩
 ·exact h1.lt k h8
 exact K.lt (h3 i rl[i] bl[i] (List.getElem?_eq_getElem hi) (List.getElem?_eq_getElem (by omega))) h8
theorem Nest.loc (K : SepK P) (h : Nest T P w S v bl) (hs : w.heap.size <= w'.heap.size) (hb : ∀ k, S k -> w'.heap[k]? = w.heap[k]?) : Nest T P w' S v bl := by
 obtain ⟨rl, F, h1, h2, h3, h4, h5, h6, h7⟩ := h
 refine ⟨rl, F, h1.loc fun k hk => hb k (h6 k hk), h2, fun i r b hr cD => K.loc (h3 i r b hr cD) hs fun k hk => hb k (h4 i (List.getElem?_eq_some_iff.1 hr).1 k hk).1, h4, h5, h6, h7⟩
theorem Nest.form (h : Nest T P w S v bl) : ∃ A c, v = .slice A bl.length c := by
 obtain ⟨rl, F, h1, h2, h3⟩ := h
 obtain ⟨A, c, h4, _, _⟩ := h1.form
 exact ⟨A, c, by rw [h4, h2]⟩
theorem Xt (K : SepK P) (T : TypeId) : SepK (Nest T P) where
 loc := fun h hs hb => h.loc K hs hb
 lt := fun h hk => h.lt K hk
 form := fun h => by
  obtain ⟨A, c, h1⟩ := h.form
  exact ⟨A, _, c, h1⟩
theorem Nest.next (K : SepK P) (h : Nest T P w S v bl) (hb : Below w.heap.size w w') : Nest T P w' S v bl := h.loc K hb.size fun k hk => hb.block k (h.lt K hk)
theorem Nest.addr {A : Option Addr} {n c : Nat} (h : Nest T P w S (.slice A n c) bl) (hn : 0 < bl.length) : ∃ g, A = some ⟨g, 0, none⟩ := by
 obtain ⟨rl, F, h1, h2, _⟩ := h
 exact Own.addr h1 (by omega)
theorem Nest.frozen {g n c : Nat} (h : Nest T P w S (.slice (some ⟨g, 0, none⟩) n c) bl) (j : Nat) : w.frozen? ⟨g, j, none⟩ = false := by
 obtain ⟨rl, F, h1, h2, h3⟩ := h
 have hn : n = rl.length := by
  obtain ⟨A', c', h4, _, _⟩ := Own.form h1
  injection h4
 subst hn
 exact World.ownsRow.frozenAt h1 j
theorem Nest.at_ (K : SepK P) {g n c : Nat} (h : Nest T P w S (.slice (some ⟨g, 0, none⟩) n c) bl) {i : Nat} {b : β} (hb : bl[i]? = some b) :
  ∃ A m k F', w.cell? ⟨g, i, none⟩ = some (.slice A m k) /\ P w F' (.slice A m k) b /\ (∀ x, F' x -> S x /\ x ≠ g) /\ S g /\
   ∀ (w' : World) (b' : β) (F'' : Nat -> Prop), w.heap.size <= w'.heap.size -> (∀ x, x < w.heap.size -> ¬ F' x -> w'.heap[x]? = w.heap[x]?) -> P w' F'' (.slice A m k) b' -> (∀ x, F'' x -> F' x \/ ¬ S x) ->
    ∃ S'', Nest T P w' S'' (.slice (some ⟨g, 0, none⟩) n c) (bl.set i b') /\ ∀ x, S'' x -> S x \/ F'' x := by
 have j7 : ∀ {k : Nat}, S k -> k < w.heap.size := fun hk => h.lt K hk
 obtain ⟨rl, F, h1, h2, h3, h4, h5, h6, h7⟩ := h
 have hi : i < rl.length := by rw [h2]; exact (List.getElem?_eq_some_iff.1 hb).1
 have hn : n = rl.length := by
  obtain ⟨A', c', h4, _, _⟩ := Own.form h1
  injection h4
 subst hn
 have hr : rl[i]? = some rl[i] := List.getElem?_eq_getElem hi
 have hg : ∀ x, F i x -> x ≠ g := fun x hx e => (h4 i hi x hx).2 (by rw [e]; rfl)
 refine ⟨_, _, _, F i, Own.cellf h1 hr, h3 i _ b hr hb, fun x hx => ⟨(h4 i hi x hx).1, hg x hx⟩, h6 g rfl, fun w' b' F'' hs hk hP hF => ?_⟩
 have aZ : ∀ x, F'' x -> S x -> F i x := fun x hx hl => (hF x hx).resolve_right fun h => h hl
 refine ⟨fun x => (x = g) \/ ∃ j, j < rl.length /\ upd F i F'' j x, ⟨rl, upd F i F'', h1.loc fun k cE => ?_, by rw [List.length_set, h2], fun j r b'' bA eC => ?_, fun j hj x hx => ⟨.inr ⟨j, hj, hx⟩, ?_⟩, fun j j' hj aA o9 x hx eA => ?_, fun x hx => ?_, fun x hx => ?_⟩, fun x hx => ?_⟩
 ·have e : g = k := by simpa [Value.ownBlock] using cE
  subst e
  exact hk g (j7 (h6 g rfl)) fun hx => hg g hx rfl
 ·rcases getElem?_set_cases eC with ⟨e1, e2⟩ | ⟨hj, cF⟩
  ·subst e1 e2
   obtain rfl := Option.some.inj (hr.symm.trans bA)
   rw [Jcg]
   exact hP
  have aG := (List.getElem?_eq_some_iff.1 bA).1
  rw [Jho hj]
  exact K.loc (h3 j r b'' bA cF) hs fun x hx => hk x (j7 (h4 j aG x hx).1) fun cG => h5 j i aG hi hj x hx cG
 ·intro e
  have e2 : g = x := by simpa [Value.ownBlock] using e
  subst e2
  rcases Zg hx with ⟨_, hx⟩ | ⟨_, hx⟩
  ·exact hg g (aZ g hx (h6 g rfl)) rfl
  exact (h4 j hj g hx).2 rfl
 ·rcases Zg hx with ⟨ej, hx⟩ | ⟨_, hx⟩ <;> rcases Zg eA with ⟨ej', eA⟩ | ⟨_, eA⟩
  ·exact o9 (ej.trans ej'.symm)
  ·exact h5 i j' hi aA (fun e => o9 (ej.trans e)) x (aZ x hx (h4 j' aA x eA).1) eA
  ·exact h5 j i hj hi (fun e => o9 (e.trans ej'.symm)) x hx (aZ x eA (h4 j hj x hx).1)
  exact h5 j j' hj aA o9 x hx eA
 ·exact .inl (by simpa [Value.ownBlock] using hx.symm)
 ·rcases hx with rfl | ⟨j, hj, hx⟩
  ·exact .inl rfl
  exact .inr ⟨j, hj, hx⟩
 rcases hx with rfl | ⟨j, hj, hx⟩
 ·exact .inl (h6 _ rfl)
 rcases Zg hx with ⟨_, hx⟩ | ⟨_, hx⟩
 ·exact .inr hx
 exact .inl (h4 j hj x hx).1
theorem Nest.put (K : SepK P) {g n c : Nat} (h : Nest T P w S (.slice (some ⟨g, 0, none⟩) n c) bl) {i : Nat} {b : β} {A : Option Addr} {m k : Nat} (eD : P w S' (.slice A m k) b) (hd : ∀ x, S' x -> ¬ S x) :
  ∃ S'', Nest T P (w.setCell ⟨g, i, none⟩ (.slice A m k)) S'' (.slice (some ⟨g, 0, none⟩) n c) (bl.set i b) /\ ∀ x, S'' x -> S x \/ S' x := by
 have j7 : ∀ {k : Nat}, S k -> k < w.heap.size := fun hk => h.lt K hk
 obtain ⟨rl, F, h1, h2, h3, h4, h5, h6, h7⟩ := h
 have hn : n = rl.length := by
  obtain ⟨A', c', h4, _, _⟩ := Own.form h1
  injection h4
 subst hn
 have bB := World.ownsRow.stored h1 i (.slice A m k)
 have j6 : Exc g w (w.setCell ⟨g, i, none⟩ (.slice A m k)) := (Exc.refl g w).set_ i _
 have bQ : ∀ x, S' x -> x ≠ g := fun x hx e => hd x hx (by rw [e]; exact h6 g rfl)
 have bS : ∀ j, j < rl.length -> ∀ x, F j x -> x ≠ g := fun j hj x hx e => (h4 j hj x hx).2 (by rw [e]; rfl)
 refine ⟨fun x => (x = g) \/ ∃ j, j < rl.length /\ upd F i S' j x, ⟨rl.set i ⟨A, m, k⟩, upd F i S', ?_, by simp [h2], fun j r b'' hr eC => ?_, fun j hj x hx => ?_, fun j j' hj aA o9 x hx eA => ?_, fun x hx => ?_, fun x hx => ?_⟩, fun x hx => ?_⟩
 ·unfold Own
  rw [List.length_set, List.map_set]
  exact bB.1
 ·rcases getElem?_set_cases hr with ⟨e1, e2⟩ | ⟨hj, aH⟩
  ·subst e1 e2
   have e : b'' = b := by
    rw [List.getElem?_set, if_pos rfl] at eC
    split at eC
    ·exact (Option.some.inj eC).symm
    cases eC
   subst e
   rw [Jcg]
   exact K.loc eD j6.size fun x hx => j6.block x (K.lt eD hx) (bQ x hx)
  rw [List.getElem?_set, if_neg (fun e => hj e.symm)] at eC
  have aG := (List.getElem?_eq_some_iff.1 aH).1
  rw [Jho hj]
  have hp := h3 j r b'' aH eC
  exact K.loc hp j6.size fun x hx => j6.block x (K.lt hp hx) (bS j aG x hx)
 ·rw [List.length_set] at hj
  refine ⟨.inr ⟨j, hj, hx⟩, fun e => ?_⟩
  have e2 : g = x := by simpa [Value.ownBlock] using e
  subst e2
  rcases Zg hx with ⟨_, hx⟩ | ⟨_, hx⟩
  ·exact bQ g hx rfl
  exact bS j hj g hx rfl
 ·rw [List.length_set] at hj aA
  rcases Zg hx with ⟨ej, hx⟩ | ⟨_, hx⟩ <;> rcases Zg eA with ⟨ej', eA⟩ | ⟨_, eA⟩
  ·exact o9 (ej.trans ej'.symm)
  ·exact hd x hx (h4 j' aA x eA).1
  ·exact hd x eA (h4 j hj x hx).1
  exact h5 j j' hj aA o9 x hx eA
 ·exact .inl (by simpa [Value.ownBlock] using hx.symm)
 ·rcases hx with rfl | ⟨j, hj, hx⟩
  ·exact .inl rfl
  exact .inr ⟨j, by rw [List.length_set]; exact hj, hx⟩
 rcases hx with rfl | ⟨j, hj, hx⟩
 ·exact .inl (h6 _ rfl)
 rcases Zg hx with ⟨_, hx⟩ | ⟨_, hx⟩
 ·exact .inr hx
 exact .inl (h4 j hj x hx).1
theorem Nest.put2 (K : SepK P) {T2 : TypeId} {tl : List (List β)} {t : List β} {g n c i u m1 k1 l : Nat} {b : β} {A : Option Addr} {m k : Nat} (h : Nest T2 (Nest T P) w S (.slice (some ⟨g, 0, none⟩) n c) tl) (ht : tl[i]? = some t) (aB : w.cell? ⟨g, i, none⟩ = some (.slice (some ⟨u, 0, none⟩) m1 k1)) (eD : P w S' (.slice A m k) b) (hd : ∀ x, S' x -> ¬ S x) :
  ∃ S'', Nest T2 (Nest T P) (w.setCell ⟨u, l, none⟩ (.slice A m k)) S'' (.slice (some ⟨g, 0, none⟩) n c) (tl.set i (t.set l b)) /\ (∀ x, S'' x -> S x \/ S' x) /\ S u /\ u ≠ g := by
 obtain ⟨A', m', k', F', h1, h2, h3, h4, h5⟩ := h.at_ (Xt K T) ht
 have e1 := Option.some.inj (h1.symm.trans aB)
 injection e1 with e1 e2 e3
 subst e1 e2 e3
 have hF : F' u := by
  obtain ⟨rl, F, q1, q2, q3, q4, q5, q6, q7⟩ := h2
  exact q6 u rfl
 obtain ⟨F2, g1, g2⟩ := h2.put K (i := l) eD fun x hx eA => hd x hx (h3 x eA).1
 have j6 : Exc u w (w.setCell ⟨u, l, none⟩ (.slice A m k)) := (Exc.refl u w).set_ l _
 obtain ⟨S'', h6, h7⟩ := h5 _ _ F2 j6.size (fun z hz aO => j6.block z hz fun e => aO (by rw [e]; exact hF)) g1 (fun z hz => (g2 z hz).imp id fun h8 => hd z h8)
 refine ⟨S'', h6, fun z hz => ?_, (h3 u hF).1, (h3 u hF).2⟩
 rcases h7 z hz with h8 | h8
 ·exact .inl h8
 exact (g2 z h8).imp (fun h9 => (h3 z h9).1) id
theorem Ja9 {e : β} (bC : ∀ w, P w (fun _ => False) (.slice none 0 0) e) (T : TypeId) (n : Nat) (w : World) (hn : n <= maxLen) : Nest T P (w.alloc (.cells ((List.replicate n (⟨none, 0, 0⟩ : SW)).map SW.v).toArray T)) (fun k => k = w.heap.size) (.slice (some ⟨w.heap.size, 0, none⟩) n n) (List.replicate n e) := by
 have h1 := Own.lit w T SW.v (List.replicate n (⟨none, 0, 0⟩ : SW)) (by rw [List.length_replicate]; exact hn)
 rw [List.length_replicate] at h1
 have hr : ∀ (i : Nat) (r : SW), (List.replicate n (⟨none, 0, 0⟩ : SW))[i]? = some r -> r = ⟨none, 0, 0⟩ := by
  intro i r hr
  rw [List.getElem?_replicate] at hr
  split at hr
  ·exact (Option.some.inj hr).symm
  cases hr
 refine ⟨_, fun _ _ => False, h1, by simp, fun i r b h2 h3 => ?_, fun i _ k h => h.elim, fun i j _ _ _ k h => h.elim, fun k hk => ?_, fun k hk => .inl (by rw [hk]; rfl)⟩
 ·obtain rfl := hr i r h2
  rw [List.getElem?_replicate] at h3
  split at h3
  ·obtain rfl := Option.some.inj h3
   exact bC _
  cases h3
 simpa [Value.ownBlock] using hk.symm
theorem Nest.reads {R : World -> Nat -> Option Addr -> Nat -> β -> Prop} (hI : ∀ {w : World} {F : Nat -> Prop} {A : Option Addr} {n c : Nat} {b : β}, P w F (.slice A n c) b -> R w w.heap.size A n b) {A : Option Addr} {n c : Nat} (h : Nest T P w S (.slice A n c) bl) : ReadsS R w w.heap.size A n bl := by
 obtain ⟨rl, F, h1, h2, h3, _⟩ := h
 have hn : n = rl.length := by
  obtain ⟨A', c', h4, _, _⟩ := Own.form h1
  injection h4
 subst hn
 exact ⟨rl, Own.reads h1, h2, fun i r b hr hb => hI (h3 i r b hr hb)⟩
end
theorem NRow.reads {α : Type} {e : TypeId} {f : α -> Value} {w : World} {S : Nat -> Prop} {A : Option Addr} {n c : Nat} {l : List α} (h : NRow e f w S (.slice A n c) l) : Reads w w.heap.size 1 A n (l.map f) := by
 have hn : n = l.length := by
  obtain ⟨A', c', h4, _, _⟩ := Own.form h.1
  injection h4
 subst hn
 exact Own.reads h.1
section
variable {β : Type} {T TT : TypeId} {P : World -> (Nat -> Prop) -> Value -> β -> Prop} {ops : Array Oper} {rest : List Oper} {op : Oper} {a : Act} {Q : Exit -> Act -> World -> Prop}
theorem Nest.snoc (K : SepK P) {w w' : World} {S S' : Nat -> Prop} {v v' : Value} {bl : List β} {b : β} {rl : List SW} {F : Nat -> Nat -> Prop} {A : Option Addr} {n c : Nat} (h1 : Own w T SW.v v rl) (h2 : rl.length = bl.length) (h3 : ∀ (i : Nat) (r : SW) (b : β), rl[i]? = some r -> bl[i]? = some b -> P w (F i) r.v b)
  (h4 : ∀ i, i < rl.length -> ∀ k, F i k -> S k /\ v.ownBlock ≠ some k) (h5 : ∀ i j, i < rl.length -> j < rl.length -> i ≠ j -> ∀ k, F i k -> ¬ F j k) (h6 : ∀ k, v.ownBlock = some k -> S k)
  (eD : P w S' (.slice A n c) b) (hd : ∀ x, S' x -> ¬ S x) (bR : Own w' T SW.v v' (rl ++ [⟨A, n, c⟩])) (eF : Grew w w' v v') : ∃ S'', Nest T P w' S'' v' (bl ++ [b]) /\ ∀ x, S'' x -> S x \/ S' x \/ w.heap.size <= x := by
 have dF : ∀ i, i < rl.length -> ∀ k, F i k -> k < w.heap.size := fun i hi k hk => K.lt (h3 i rl[i] bl[i] (List.getElem?_eq_getElem hi) (List.getElem?_eq_getElem (by omega))) hk
 have bD : (rl ++ [(⟨A, n, c⟩ : SW)]).length = rl.length + 1 := by simp
 refine ⟨fun x => v'.ownBlock = some x \/ ∃ j, j < rl.length + 1 /\ upd F rl.length S' j x, ⟨rl ++ [⟨A, n, c⟩], upd F rl.length S', bR, by simp [h2], fun i r p hr hp => ?_, fun j hj x hx => ?_, fun j j' hj aA o9 x hx eA => ?_, fun x hx => .inl hx, fun x hx => ?_⟩, fun x hx => ?_⟩
 ·by_cases hi : i < rl.length
  ·rw [List.getElem?_append_left hi] at hr
   rw [List.getElem?_append_left (by omega)] at hp
   rw [Jho (show i ≠ rl.length by omega)]
   exact K.loc (h3 i r p hr hp) eF.size fun x hx => eF.block x (dF i hi x hx) fun e => (h4 i hi x hx).2 e.symm
  have dW : i = rl.length := by
   have := (List.getElem?_eq_some_iff.1 hr).1
   simp at this
   omega
  subst dW
  rw [List.getElem?_append_right zd, Nat.sub_self] at hr
  rw [h2, List.getElem?_append_right zd, Nat.sub_self] at hp
  obtain rfl := Option.some.inj hr
  obtain rfl := Option.some.inj hp
  rw [Jcg]
  exact K.loc eD eF.size fun x hx => eF.block x (K.lt eD hx) fun e => hd x hx (h6 x e.symm)
 ·rw [bD] at hj
  refine ⟨.inr ⟨j, hj, hx⟩, fun e => ?_⟩
  rcases Zg hx with ⟨_, hx⟩ | ⟨dY, hx⟩
  ·rcases eF.own x e with h8 | h8
   ·exact hd x hx (h6 x h8)
   have := K.lt eD hx
   omega
  have dM : j < rl.length := by omega
  rcases eF.own x e with h8 | h8
  ·exact (h4 j dM x hx).2 h8
  have := dF j dM x hx
  omega
 ·rw [bD] at hj aA
  rcases Zg hx with ⟨ej, hx⟩ | ⟨ej, hx⟩ <;> rcases Zg eA with ⟨ej', eA⟩ | ⟨ej', eA⟩
  ·exact o9 (ej.trans ej'.symm)
  ·exact hd x hx (h4 j' (by omega) x eA).1
  ·exact hd x eA (h4 j (by omega) x hx).1
  exact h5 j j' (by omega) (by omega) o9 x hx eA
 ·rcases hx with hx | ⟨j, hj, hx⟩
  ·exact .inl hx
  exact .inr ⟨j, by rw [bD]; exact hj, hx⟩
 rcases hx with hx | ⟨j, hj, hx⟩
 ·rcases eF.own x hx with h8 | h8
  ·exact .inl (h6 x h8)
  exact .inr (.inr h8)
 rcases Zg hx with ⟨_, hx⟩ | ⟨ej, hx⟩
 ·exact .inr (.inl hx)
 exact .inl (h4 j (by omega) x hx).1
theorem Jot (K : SepK P) (E : Elt Tryz.prog TT T (.slice none 0 0) 24) (cK : op.guard = none) (s x : Operand)
  (ho : op.op = .call { callee := .builtin .append, args := #[s, x], argTypes := #[TT, TT] })
  (S S' : Nat -> Prop) (wr : World) (v : Value) (bl : List β) (A : Option Addr) (n c : Nat) (b : β) (hs : a.eval s = v) (bR : Nest T P wr S v bl) (eD : P wr S' (.slice A n c) b) (hd : ∀ x, S' x -> ¬ S x) (hx : a.eval x = .slice (some ⟨wr.heap.size, 0, none⟩) 1 1) (hl : bl.length <= 1000000)
  (h : ∀ v' w1 S'', Nest T P w1 S'' v' (bl ++ [b]) -> (∀ x, S'' x -> S x \/ S' x \/ wr.heap.size <= x) -> Grew wr w1 v v' -> wpList Tryz.prog ops Q rest (a.put op.dst v') w1) : wpList Tryz.prog ops Q (op :: rest) a (wr.alloc (.cells #[.slice A n c] T)) := by
 obtain ⟨rl, F, h1, h2, h3, h4, h5, h6, h7⟩ := bR
 refine Joi E cK s x ho wr v rl (⟨A, n, c⟩ : SW) _ rfl hs h1 hx (SW.one _) (by unfold maxLen; omega) (by omega) ?_
 intro v' w1 h8 eF
 obtain ⟨S'', h9, dX⟩ := Nest.snoc K h1 h2 h3 h4 h5 h6 eD hd h8 eF
 exact h v' w1 S'' h9 dX eF
end
theorem Tryz.eltZ1 : Elt Tryz.prog 22 3 (.int .i64 0) 8 := ⟨Tryz.underlying22, by kernel_rfl, by kernel_rfl⟩
theorem Tryz.eltZ2 : Elt Tryz.prog 65 22 (.slice none 0 0) 24 := ⟨Tryz.underlying65, by kernel_rfl, by kernel_rfl⟩
theorem Tryz.eltZ3 : Elt Tryz.prog 29 65 (.slice none 0 0) 24 := ⟨Tryz.underlying29, by kernel_rfl, by kernel_rfl⟩
section
variable {α : Type} {e T T2 : TypeId} {f : α -> Value} {w w' : World} {S : Nat -> Prop}
theorem NRow.store {g n c : Nat} {l : List α} (h : NRow e f w S (.slice (some ⟨g, 0, none⟩) n c) l) (k : Nat) (y : α) : NRow e f (w.setCell ⟨g, k, none⟩ (f y)) S (.slice (some ⟨g, 0, none⟩) n c) (l.set k y) := by
 obtain ⟨h1, h2⟩ := h
 have hn : n = l.length := by
  obtain ⟨A', c', h4, _, _⟩ := Own.form h1
  injection h4
 subst hn
 have bB := World.ownsRow.stored h1 k (f y)
 refine ⟨?_, h2⟩
 unfold Own
 rw [List.length_set, List.map_set]
 exact bB.1
theorem NRow.blk {A : Option Addr} {n c : Nat} {l : List α} (h : NRow e f w S (.slice A n c) l) (hn : 0 < l.length) : ∃ g, A = some ⟨g, 0, none⟩ := Own.addr h.1 (by omega)
theorem NRow.cell {g n c : Nat} {l : List α} (h : NRow e f w S (.slice (some ⟨g, 0, none⟩) n c) l) {k : Nat} {y : α} (hy : l[k]? = some y) : w.cell? ⟨g, k, none⟩ = some (f y) := by
 have hn : n = l.length := by
  obtain ⟨A', c', h4, _, _⟩ := Own.form h.1
  injection h4
 subst hn
 exact Own.cellf h.1 hy
theorem NRow.frozen {g n c : Nat} {l : List α} (h : NRow e f w S (.slice (some ⟨g, 0, none⟩) n c) l) (j : Nat) : w.frozen? ⟨g, j, none⟩ = false := by
 have hn : n = l.length := by
  obtain ⟨A', c', h4, _, _⟩ := Own.form h.1
  injection h4
 subst hn
 exact World.ownsRow.frozenAt h.1 j
theorem Nest.store2 {g n c i x m k : Nat} {bl : List (List α)} {b : List α} (h : Nest T (NRow e f) w S (.slice (some ⟨g, 0, none⟩) n c) bl) (hb : bl[i]? = some b) (hc : w.cell? ⟨g, i, none⟩ = some (.slice (some ⟨x, 0, none⟩) m k)) (j : Nat) (y : α) :
  ∃ S'', Nest T (NRow e f) (w.setCell ⟨x, j, none⟩ (f y)) S'' (.slice (some ⟨g, 0, none⟩) n c) (bl.set i (b.set j y)) /\ (∀ z, S'' z -> S z) /\ S x /\ x ≠ g := by
 obtain ⟨A, m', k', F', h1, h2, h3, h4, h5⟩ := h.at_ (Js e f) hb
 have e1 := Option.some.inj (h1.symm.trans hc)
 injection e1 with e1 e2 e3
 subst e1 e2 e3
 have hF : F' x := (h2.2 x).2 rfl
 have j6 : Exc x w (w.setCell ⟨x, j, none⟩ (f y)) := (Exc.refl x w).set_ j _
 obtain ⟨S'', h6, h7⟩ := h5 _ _ F' j6.size (fun z hz aO => j6.block z hz fun e => aO (by rw [e]; exact hF)) (h2.store j y) (fun z hz => .inl hz)
 refine ⟨S'', h6, fun z hz => ?_, (h3 x hF).1, (h3 x hF).2⟩
 rcases h7 z hz with h8 | h8
 ·exact h8
 exact (h3 z h8).1
theorem Nest.store3 {g n c i u m1 k1 l x m k : Nat} {bl : List (List (List α))} {t : List (List α)} {b : List α} (h : Nest T2 (Nest T (NRow e f)) w S (.slice (some ⟨g, 0, none⟩) n c) bl) (ht : bl[i]? = some t) (hb : t[l]? = some b)
  (aB : w.cell? ⟨g, i, none⟩ = some (.slice (some ⟨u, 0, none⟩) m1 k1)) (hc : w.cell? ⟨u, l, none⟩ = some (.slice (some ⟨x, 0, none⟩) m k)) (j : Nat) (y : α) :
  ∃ S'', Nest T2 (Nest T (NRow e f)) (w.setCell ⟨x, j, none⟩ (f y)) S'' (.slice (some ⟨g, 0, none⟩) n c) (bl.set i (t.set l (b.set j y))) /\ (∀ z, S'' z -> S z) /\ S x /\ x ≠ g := by
 obtain ⟨A, m', k', F', h1, h2, h3, h4, h5⟩ := h.at_ (Xt (Js e f) T) ht
 have e1 := Option.some.inj (h1.symm.trans aB)
 injection e1 with e1 e2 e3
 subst e1 e2 e3
 obtain ⟨F2, g1, g2, g3, g4⟩ := h2.store2 hb hc j y
 have j6 : Exc x w (w.setCell ⟨x, j, none⟩ (f y)) := (Exc.refl x w).set_ j _
 obtain ⟨S'', h6, h7⟩ := h5 _ _ F2 j6.size (fun z hz aO => j6.block z hz fun e => aO (by rw [e]; exact g3)) g1 (fun z hz => .inl (g2 z hz))
 refine ⟨S'', h6, fun z hz => ?_, (h3 x g3).1, (h3 x g3).2⟩
 rcases h7 z hz with h8 | h8
 ·exact h8
 exact (h3 z (g2 z h8)).1
end
def ReadsI (w : World) (B : Nat) (A : Option Addr) (n : Nat) (l : List Int) : Prop := Reads w B 1 A n (l.map zv)
theorem rkindI : RKind ReadsI := ⟨fun h hb => Reads.below h hb, fun h hB => Reads.more h hB⟩
theorem Ja5 {β : Type} {R : World -> Nat -> Option Addr -> Nat -> β -> Prop} (K : RKind R) : RKind (ReadsS R) := ⟨fun h hb => h.below K hb, fun h hB => h.more K hB⟩
structure RdB (w : World) (B : Nat) (W S C : SW) (m : BM) : Prop where
 words : ReadsI w B W.A W.n m.words
 seen : ReadsI w B S.A S.n m.seen
 counts : ReadsS (ReadsS ReadsI) w B C.A C.n m.counts
theorem RdB.below {w w' : World} {B : Nat} {W S C : SW} {m : BM} (h : RdB w B W S C m) (hb : Below B w w') : RdB w' B W S C m := ⟨rkindI.below h.words hb, rkindI.below h.seen hb, (Ja5 (Ja5 rkindI)).below h.counts hb⟩
theorem RdB.more {w : World} {B B' : Nat} {W S C : SW} {m : BM} (h : RdB w B W S C m) (hB : B <= B') : RdB w B' W S C m := ⟨rkindI.more h.words hB, rkindI.more h.seen hB, (Ja5 (Ja5 rkindI)).more h.counts hB⟩
structure OwB (e T T2 : TypeId) (L : Nat) (w : World) (W S C : SW) (F G H : Nat -> Prop) (m : BM) : Prop where
 words : NRow e zv w F W.v m.words
 seen : NRow e zv w G S.v m.seen
 counts : Nest T2 (Nest T (NRow e zv)) w H C.v m.counts
 from1 : ∀ k, F k -> L <= k
 from2 : ∀ k, G k -> L <= k
 from3 : ∀ k, H k -> L <= k
 ap12 : ∀ k, F k -> ¬ G k
 ap13 : ∀ k, F k -> ¬ H k
 ap23 : ∀ k, G k -> ¬ H k
theorem NRow.readsI {e : TypeId} {w : World} {F : Nat -> Prop} {A : Option Addr} {n c : Nat} {l : List Int} (h : NRow e zv w F (.slice A n c) l) : ReadsI w w.heap.size A n l := NRow.reads h
theorem OwB.read {e T T2 : TypeId} {L : Nat} {w : World} {W S C : SW} {F G H : Nat -> Prop} {m : BM} (h : OwB e T T2 L w W S C F G H m) : RdB w w.heap.size W S C m :=
 ⟨h.words.readsI, h.seen.readsI, Nest.reads (fun hq => Nest.reads (fun hr => NRow.readsI hr) hq) h.counts⟩
theorem OwB.next {e T T2 : TypeId} {L : Nat} {w w' : World} {W S C : SW} {F G H : Nat -> Prop} {m : BM} (h : OwB e T T2 L w W S C F G H m) (hb : Below w.heap.size w w') : OwB e T T2 L w' W S C F G H m :=
 ⟨(Js e zv).loc h.words hb.size fun k hk => hb.block k ((Js e zv).lt h.words hk), (Js e zv).loc h.seen hb.size fun k hk => hb.block k ((Js e zv).lt h.seen hk), h.counts.next (Xt (Js e zv) T) hb, h.from1, h.from2, h.from3, h.ap12, h.ap13, h.ap23⟩
theorem OwB.setSeen {e T T2 : TypeId} {L : Nat} {w : World} {W C : SW} {F G H : Nat -> Prop} {m : BM} {g n c : Nat} (h : OwB e T T2 L w W ⟨some ⟨g, 0, none⟩, n, c⟩ C F G H m) (k : Nat) (y : Int) : OwB e T T2 L (w.setCell ⟨g, k, none⟩ (zv y)) W ⟨some ⟨g, 0, none⟩, n, c⟩ C F G H { m with seen := m.seen.set k y } := by
 have hG : G g := (h.seen.2 g).2 rfl
 have j6 : Exc g w (w.setCell ⟨g, k, none⟩ (zv y)) := (Exc.refl g w).set_ k _
 exact ⟨(Js e zv).loc h.words j6.size fun z hz => j6.block z ((Js e zv).lt h.words hz) fun e => h.ap12 z hz (by rw [e]; exact hG), NRow.store h.seen k y,
  h.counts.loc (Xt (Js _ zv) T) j6.size fun z hz => j6.block z (h.counts.lt (Xt (Js _ zv) T) hz) fun e => h.ap23 g hG (by rw [<- e]; exact hz), h.from1, h.from2, h.from3, h.ap12, h.ap13, h.ap23⟩
theorem OwB.setCount {e T T2 : TypeId} {L : Nat} {w : World} {W S : SW} {F G H : Nat -> Prop} {m : BM} {g n c i u m1 k1 l x m2 k2 : Nat} {t : List (List Int)} {b : List Int} (h : OwB e T T2 L w W S ⟨some ⟨g, 0, none⟩, n, c⟩ F G H m) (ht : m.counts[i]? = some t) (hb : t[l]? = some b)
  (aB : w.cell? ⟨g, i, none⟩ = some (.slice (some ⟨u, 0, none⟩) m1 k1)) (hc : w.cell? ⟨u, l, none⟩ = some (.slice (some ⟨x, 0, none⟩) m2 k2)) (j : Nat) (y : Int) :
  ∃ H', OwB e T T2 L (w.setCell ⟨x, j, none⟩ (zv y)) W S ⟨some ⟨g, 0, none⟩, n, c⟩ F G H' { m with counts := m.counts.set i (t.set l (b.set j y)) } /\ (∀ z, H' z -> H z) /\ H x := by
 obtain ⟨H', h1, h2, h3, h4⟩ := Nest.store3 h.counts ht hb aB hc j y
 have j6 : Exc x w (w.setCell ⟨x, j, none⟩ (zv y)) := (Exc.refl x w).set_ j _
 exact ⟨H', ⟨(Js e zv).loc h.words j6.size fun z hz => j6.block z ((Js e zv).lt h.words hz) fun e => h.ap13 z hz (by rw [e]; exact h3),
  (Js e zv).loc h.seen j6.size fun z hz => j6.block z ((Js e zv).lt h.seen hz) fun e => h.ap23 z hz (by rw [e]; exact h3), h1, h.from1, h.from2, fun z hz => h.from3 z (h2 z hz), h.ap12, fun z hz eG => h.ap13 z hz (h2 z eG), fun z hz eG => h.ap23 z hz (h2 z eG)⟩, h2, h3⟩
theorem OwB.old {e T T2 : TypeId} {L : Nat} {w : World} {W S C : SW} {F G H : Nat -> Prop} {m : BM} (h : OwB e T T2 L w W S C F G H m) : (∀ k, F k -> k < w.heap.size) /\ (∀ k, G k -> k < w.heap.size) /\ ∀ k, H k -> k < w.heap.size :=
 ⟨fun k hk => (Js e zv).lt h.words hk, fun k hk => (Js e zv).lt h.seen hk, fun k hk => h.counts.lt (Xt (Js e zv) T) hk⟩
theorem OwB.putTab {e T T2 : TypeId} {L : Nat} {w w' : World} {W S : SW} {F G H S' : Nat -> Prop} {m : BM} {g n c i n' k : Nat} {A : Option Addr} {t : List (List Int)} (h : OwB e T T2 L w W S ⟨some ⟨g, 0, none⟩, n, c⟩ F G H m) (hb : Below w.heap.size w w') (eD : Nest T (NRow e zv) w' S' (.slice A n' k) t) (p9 : ∀ x, S' x -> w.heap.size <= x) (hL : L <= w.heap.size) (hg : H g) :
  ∃ H', OwB e T T2 L (w'.setCell ⟨g, i, none⟩ (.slice A n' k)) W S ⟨some ⟨g, 0, none⟩, n, c⟩ F G H' { m with counts := m.counts.set i t } /\ H' g /\ ∀ x, H' x -> H x \/ w.heap.size <= x := by
 obtain ⟨o1, o2, o3⟩ := h.old
 have h' := h.next hb
 obtain ⟨H', h1, h2⟩ := Nest.put (Xt (Js e zv) T) (i := i) h'.counts eD fun x hx eA => by
  have := p9 x hx
  have := o3 x eA
  omega
 have j6 : Exc g w' (w'.setCell ⟨g, i, none⟩ (.slice A n' k)) := (Exc.refl g w').set_ i _
 have cH : H' g := by
  obtain ⟨rl, F1, q1, q2, q3, q4, q5, q6, q7⟩ := h1
  exact q6 g rfl
 refine ⟨H', ⟨(Js e zv).loc h'.words j6.size fun z hz => j6.block z ((Js e zv).lt h'.words hz) fun e' => h.ap13 z hz (by rw [e']; exact hg),
  (Js e zv).loc h'.seen j6.size fun z hz => j6.block z ((Js e zv).lt h'.seen hz) fun e' => h.ap23 z hz (by rw [e']; exact hg), h1, h.from1, h.from2, fun z hz => ?_, h.ap12, fun z hz eG => ?_, fun z hz eG => ?_⟩, cH, fun z hz => (h2 z hz).imp id (p9 z)⟩
 ·rcases h2 z hz with h3 | h3
  ·exact h.from3 z h3
  exact nt hL (p9 z h3)
 ·rcases h2 z eG with h3 | h3
  ·exact h.ap13 z hz h3
  have := o1 z hz
  have := p9 z h3
  omega
 rcases h2 z eG with h3 | h3
 ·exact h.ap23 z hz h3
 have := o2 z hz
 have := p9 z h3
 omega
theorem OwB.tabs {e T T2 : TypeId} {L : Nat} {w : World} {W S : SW} {F G H : Nat -> Prop} {m : BM} {g n c : Nat} (h : OwB e T T2 L w W S ⟨some ⟨g, 0, none⟩, n, c⟩ F G H m) : H g := by
 obtain ⟨rl, F1, q1, q2, q3, q4, q5, q6, q7⟩ := h.counts
 exact q6 g rfl
theorem OwB.putCol {e T T2 : TypeId} {L : Nat} {w w' : World} {W S : SW} {F G H S' : Nat -> Prop} {m : BM} {g n c i u m1 k1 l n' k : Nat} {A : Option Addr} {t : List (List Int)} {b : List Int} (h : OwB e T T2 L w W S ⟨some ⟨g, 0, none⟩, n, c⟩ F G H m) (hb : Below w.heap.size w w') (ht : m.counts[i]? = some t) (hc : w'.cell? ⟨g, i, none⟩ = some (.slice (some ⟨u, 0, none⟩) m1 k1)) (eD : NRow e zv w' S' (.slice A n' k) b) (p9 : ∀ x, S' x -> w.heap.size <= x) (hL : L <= w.heap.size) :
  ∃ H', OwB e T T2 L (w'.setCell ⟨u, l, none⟩ (.slice A n' k)) W S ⟨some ⟨g, 0, none⟩, n, c⟩ F G H' { m with counts := m.counts.set i (t.set l b) } /\ (∀ x, H' x -> H x \/ w.heap.size <= x) /\ u ≠ g /\ H u := by
 obtain ⟨o1, o2, o3⟩ := h.old
 have h' := h.next hb
 obtain ⟨H', h1, h2, hu, cI⟩ := Nest.put2 (Js e zv) (l := l) h'.counts ht hc eD fun x hx eA => by
  have := p9 x hx
  have := o3 x eA
  omega
 have j6 : Exc u w' (w'.setCell ⟨u, l, none⟩ (.slice A n' k)) := (Exc.refl u w').set_ l _
 refine ⟨H', ⟨(Js e zv).loc h'.words j6.size fun z hz => j6.block z ((Js e zv).lt h'.words hz) fun e' => h.ap13 z hz (by rw [e']; exact hu),
  (Js e zv).loc h'.seen j6.size fun z hz => j6.block z ((Js e zv).lt h'.seen hz) fun e' => h.ap23 z hz (by rw [e']; exact hu), h1, h.from1, h.from2, fun z hz => ?_, h.ap12, fun z hz eG => ?_, fun z hz eG => ?_⟩, fun z hz => (h2 z hz).imp id (p9 z), cI, hu⟩
 ·rcases h2 z hz with h3 | h3
  ·exact h.from3 z h3
  exact nt hL (p9 z h3)
 ·rcases h2 z eG with h3 | h3
  ·exact h.ap13 z hz h3
  have := o1 z hz
  have := p9 z h3
  omega
 rcases h2 z eG with h3 | h3
 ·exact h.ap23 z hz h3
 have := o2 z hz
 have := p9 z h3
 omega
theorem OwB.spot {e T T2 : TypeId} {L : Nat} {w : World} {W S : SW} {F G H : Nat -> Prop} {m : BM} {g n c k u m1 k1 i : Nat} {t : List (List Int)} (h : OwB e T T2 L w W S ⟨some ⟨g, 0, none⟩, n, c⟩ F G H m) (ht : m.counts[k]? = some t) (hc : w.cell? ⟨g, k, none⟩ = some (.slice (some ⟨u, 0, none⟩) m1 k1)) (hi : i < t.length) :
  w.frozen? ⟨u, i, none⟩ = false /\ ∃ A n c, w.cell? ⟨u, i, none⟩ = some (.slice A n c) := by
 obtain ⟨A', m', k', F', h1, h2, h3, h4, h5⟩ := h.counts.at_ (Xt (Js e zv) T) ht
 have e1 := Option.some.inj (h1.symm.trans hc)
 injection e1 with e1 e2 e3
 subst e1 e2 e3
 refine ⟨h2.frozen i, ?_⟩
 obtain ⟨A', m', k', F', h1, _⟩ := h2.at_ (Js e zv) (List.getElem?_eq_getElem hi)
 exact ⟨_, _, _, h1⟩
theorem OwB.tab {e T T2 : TypeId} {L : Nat} {w : World} {W S : SW} {F G H : Nat -> Prop} {m : BM} {g n c k : Nat} (h : OwB e T T2 L w W S ⟨some ⟨g, 0, none⟩, n, c⟩ F G H m) (hk : k < m.counts.length) : w.frozen? ⟨g, k, none⟩ = false /\ ∃ A n c, w.cell? ⟨g, k, none⟩ = some (.slice A n c) := by
 obtain ⟨A', m', k', F', h1, h2, h3, h4, h5⟩ := h.counts.at_ (Xt (Js e zv) T) (List.getElem?_eq_getElem hk)
 exact ⟨h.counts.frozen k, _, _, _, h1⟩
theorem OwB.low {e T T2 : TypeId} {L L' : Nat} {w : World} {W S C : SW} {F G H : Nat -> Prop} {m : BM} (h : OwB e T T2 L w W S C F G H m) (hL : L' <= L) : OwB e T T2 L' w W S C F G H m :=
 ⟨h.words, h.seen, h.counts, fun k hk => nt hL (h.from1 k hk), fun k hk => nt hL (h.from2 k hk), fun k hk => nt hL (h.from3 k hk), h.ap12, h.ap13, h.ap23⟩
theorem OwB.exc {e T T2 : TypeId} {L b : Nat} {w w' : World} {W S C : SW} {F G H : Nat -> Prop} {m : BM} (h : OwB e T T2 L w W S C F G H m) (hx : Exc b w w') (h1 : ¬ F b) (h2 : ¬ G b) (h3 : ¬ H b) : OwB e T T2 L w' W S C F G H m :=
 ⟨(Js e zv).loc h.words hx.size fun z hz => hx.block z ((Js e zv).lt h.words hz) fun e' => h1 (by rw [<- e']; exact hz), (Js e zv).loc h.seen hx.size fun z hz => hx.block z ((Js e zv).lt h.seen hz) fun e' => h2 (by rw [<- e']; exact hz),
  h.counts.loc (Xt (Js e zv) T) hx.size fun z hz => hx.block z (h.counts.lt (Xt (Js e zv) T) hz) fun e' => h3 (by rw [<- e']; exact hz), h.from1, h.from2, h.from3, h.ap12, h.ap13, h.ap23⟩
theorem OwB.deep {e T T2 : TypeId} {L : Nat} {w : World} {W S : SW} {F G H : Nat -> Prop} {m : BM} {g n c i l j : Nat} {t : List (List Int)} {b : List Int} {y : Int} (h : OwB e T T2 L w W S ⟨some ⟨g, 0, none⟩, n, c⟩ F G H m) (ht : m.counts[i]? = some t) (hb : t[l]? = some b) (hy : b[j]? = some y) :
  ∃ u k1 x k2, w.cell? ⟨g, i, none⟩ = some (.slice (some ⟨u, 0, none⟩) t.length k1) /\ w.cell? ⟨u, l, none⟩ = some (.slice (some ⟨x, 0, none⟩) b.length k2) /\ w.cell? ⟨x, j, none⟩ = some (zv y) /\ w.frozen? ⟨x, j, none⟩ = false := by
 obtain ⟨A, m', k', F', h1, h2, -⟩ := h.counts.at_ (Xt (Js e zv) T) ht
 obtain ⟨u, rfl⟩ := h2.addr (show 0 < t.length by have := (List.getElem?_eq_some_iff.1 hb).1; omega)
 obtain ⟨A2, c2, hf⟩ := h2.form
 injection hf with e1 e2 e3
 subst e2
 obtain ⟨A3, m3, k3, F3, h3, h4, -⟩ := h2.at_ (Js e zv) hb
 obtain ⟨x, rfl⟩ := h4.blk (show 0 < b.length by have := (List.getElem?_eq_some_iff.1 hy).1; omega)
 obtain ⟨A4, c4, cJ, -⟩ := h4.1.form
 injection cJ with e4 e5 e6
 subst e5
 exact ⟨u, _, x, _, h1, h3, h4.cell hy, h4.frozen j⟩
theorem Jfv {x : Int} (h1 : -9223372036854775808 <= x) (h2 : x <= 9223372036854775807) : wrap64 x = x := by simp only [wrap64]; omega
theorem Qg {B k : Nat} {w w' : World} {ad : Addr} {v : Value} (hb : Below B w w') (h : w.cell? (ad.add k) = some v) (j7 : ad.block < B) : w'.cell? (ad.add k) = some v := by
 rw [hb.cell (by rw [Jz]; exact j7)]
 exact h
theorem Blk.c8 {w : World} {g : Nat} {t : TypeId} {a b c d e x y z : Value} (h : Blk w g t #[a, b, c, d, e, x, y, z]) : w.cell? ⟨g, 0, none⟩ = some a /\ w.cell? ⟨g, 1, none⟩ = some b /\ w.cell? ⟨g, 2, none⟩ = some c /\ w.cell? ⟨g, 3, none⟩ = some d /\ w.cell? ⟨g, 4, none⟩ = some e /\ w.cell? ⟨g, 5, none⟩ = some x /\ w.cell? ⟨g, 6, none⟩ = some y /\ w.cell? ⟨g, 7, none⟩ = some z :=
 ⟨h.cell 0, h.cell 1, h.cell 2, h.cell 3, h.cell 4, h.cell 5, h.cell 6, h.cell 7⟩
theorem Blk.c6 {w : World} {g : Nat} {t : TypeId} {a b c x y z : Value} (h : Blk w g t #[a, b, c, x, y, z]) : w.cell? ⟨g, 0, none⟩ = some a /\ w.cell? ⟨g, 1, none⟩ = some b /\ w.cell? ⟨g, 2, none⟩ = some c /\ w.cell? ⟨g, 3, none⟩ = some x /\ w.cell? ⟨g, 4, none⟩ = some y /\ w.cell? ⟨g, 5, none⟩ = some z :=
 ⟨h.cell 0, h.cell 1, h.cell 2, h.cell 3, h.cell 4, h.cell 5⟩
theorem Blk.f8 {w : World} {g : Nat} {t : TypeId} {a b c d e x y z : Value} (h : Blk w g t #[a, b, c, d, e, x, y, z]) : w.cell? ⟨g, 0, none⟩ = some a /\ w.cell? ⟨g, 1, none⟩ = some b /\ w.cell? ⟨g, 2, none⟩ = some c /\ w.cell? ⟨g, 3, none⟩ = some d /\ w.cell? ⟨g, 4, none⟩ = some e /\ w.cell? ⟨g, 5, none⟩ = some x /\ w.cell? ⟨g, 6, none⟩ = some y /\ w.cell? ⟨g, 7, none⟩ = some z /\ w.frozen? ⟨g, 0, none⟩ = false /\ w.frozen? ⟨g, 1, none⟩ = false /\ w.frozen? ⟨g, 2, none⟩ = false /\ w.frozen? ⟨g, 3, none⟩ = false /\ w.frozen? ⟨g, 4, none⟩ = false /\ w.frozen? ⟨g, 5, none⟩ = false /\ w.frozen? ⟨g, 6, none⟩ = false /\ w.frozen? ⟨g, 7, none⟩ = false /\ (∀ u0, (w.setCell ⟨g, 0, none⟩ u0).cell? ⟨g, 0, none⟩ = some u0) /\ (∀ u0 u1, ((w.setCell ⟨g, 0, none⟩ u0).setCell ⟨g, 1, none⟩ u1).cell? ⟨g, 1, none⟩ = some u1) /\ (∀ u0 u1 u2, (((w.setCell ⟨g, 0, none⟩ u0).setCell ⟨g, 1, none⟩ u1).setCell ⟨g, 2, none⟩ u2).cell? ⟨g, 2, none⟩ = some u2) /\ (∀ u0 u1 u2 u3, ((((w.setCell ⟨g, 0, none⟩ u0).setCell ⟨g, 1, none⟩ u1).setCell ⟨g, 2, none⟩ u2).setCell ⟨g, 3, none⟩ u3).cell? ⟨g, 3, none⟩ = some u3) /\ (∀ u0 u1 u2 u3 u4, (((((w.setCell ⟨g, 0, none⟩ u0).setCell ⟨g, 1, none⟩ u1).setCell ⟨g, 2, none⟩ u2).setCell ⟨g, 3, none⟩ u3).setCell ⟨g, 4, none⟩ u4).cell? ⟨g, 4, none⟩ = some u4) /\ (∀ u0 u1 u2 u3 u4 u5, ((((((w.setCell ⟨g, 0, none⟩ u0).setCell ⟨g, 1, none⟩ u1).setCell ⟨g, 2, none⟩ u2).setCell ⟨g, 3, none⟩ u3).setCell ⟨g, 4, none⟩ u4).setCell ⟨g, 5, none⟩ u5).cell? ⟨g, 5, none⟩ = some u5) /\ (∀ u0 u1 u2 u3 u4 u5 u6, (((((((w.setCell ⟨g, 0, none⟩ u0).setCell ⟨g, 1, none⟩ u1).setCell ⟨g, 2, none⟩ u2).setCell ⟨g, 3, none⟩ u3).setCell ⟨g, 4, none⟩ u4).setCell ⟨g, 5, none⟩ u5).setCell ⟨g, 6, none⟩ u6).cell? ⟨g, 6, none⟩ = some u6) /\ (∀ u0 u1 u2 u3 u4 u5 u6 u7, ((((((((w.setCell ⟨g, 0, none⟩ u0).setCell ⟨g, 1, none⟩ u1).setCell ⟨g, 2, none⟩ u2).setCell ⟨g, 3, none⟩ u3).setCell ⟨g, 4, none⟩ u4).setCell ⟨g, 5, none⟩ u5).setCell ⟨g, 6, none⟩ u6).setCell ⟨g, 7, none⟩ u7).cell? ⟨g, 7, none⟩ = some u7) :=
 ⟨h.cell 0, h.cell 1, h.cell 2, h.cell 3, h.cell 4, h.cell 5, h.cell 6, h.cell 7, h.frozen 0, h.frozen 1, h.frozen 2, h.frozen 3, h.frozen 4, h.frozen 5, h.frozen 6, h.frozen 7, fun u0 => by rw [(h.set_ 0 u0).cell 0]; simp, fun u0 u1 => by rw [((h.set_ 0 u0).set_ 1 u1).cell 1]; simp, fun u0 u1 u2 => by rw [(((h.set_ 0 u0).set_ 1 u1).set_ 2 u2).cell 2]; simp, fun u0 u1 u2 u3 => by rw [((((h.set_ 0 u0).set_ 1 u1).set_ 2 u2).set_ 3 u3).cell 3]; simp, fun u0 u1 u2 u3 u4 => by rw [(((((h.set_ 0 u0).set_ 1 u1).set_ 2 u2).set_ 3 u3).set_ 4 u4).cell 4]; simp, fun u0 u1 u2 u3 u4 u5 => by rw [((((((h.set_ 0 u0).set_ 1 u1).set_ 2 u2).set_ 3 u3).set_ 4 u4).set_ 5 u5).cell 5]; simp, fun u0 u1 u2 u3 u4 u5 u6 => by rw [(((((((h.set_ 0 u0).set_ 1 u1).set_ 2 u2).set_ 3 u3).set_ 4 u4).set_ 5 u5).set_ 6 u6).cell 6]; simp, fun u0 u1 u2 u3 u4 u5 u6 u7 => by rw [((((((((h.set_ 0 u0).set_ 1 u1).set_ 2 u2).set_ 3 u3).set_ 4 u4).set_ 5 u5).set_ 6 u6).set_ 7 u7).cell 7]; simp⟩
theorem Blk.q8m {w : World} {g : Nat} {t : TypeId} {cs : Array Value} (h : Blk w g t cs) : w.frozen? ⟨g, 0, none⟩ = false /\ w.frozen? ⟨g, 1, none⟩ = false /\ w.frozen? ⟨g, 2, none⟩ = false /\ w.frozen? ⟨g, 3, none⟩ = false /\ w.frozen? ⟨g, 4, none⟩ = false /\ w.frozen? ⟨g, 5, none⟩ = false /\ w.frozen? ⟨g, 6, none⟩ = false /\ w.frozen? ⟨g, 7, none⟩ = false :=
 ⟨h.frozen 0, h.frozen 1, h.frozen 2, h.frozen 3, h.frozen 4, h.frozen 5, h.frozen 6, h.frozen 7⟩
theorem ReadsI.len {w : World} {B n : Nat} {A : Option Addr} {l : List Int} (h : ReadsI w B A n l) : l.length = n := Reads.lenf h
theorem ReadsI.at_ {w : World} {B n k : Nat} {A : Option Addr} {l : List Int} (h : ReadsI w B A n l) (hk : k < n) : ∃ ad x, A = some ad /\ ad.block < B /\ l[k]? = some x /\ w.cell? (ad.add k) = some (.int .i64 x) := Reads.atf h hk
theorem ReadsI.spot {w : World} {B n k : Nat} {A : Option Addr} {l : List Int} (h : ReadsI w B A n l) (hk : k < n) : ∃ ad g o x, A = some ad /\ ad.add k = ⟨g, o, none⟩ /\ g < B /\ l[k]? = some x /\ At1 w g o (.int .i64 x) := by
 obtain ⟨ad, x, h1, h2, h3, h4⟩ := h.at_ hk
 have e0 := Vi h4
 have hb := Jz ad k
 cases hP : ad.add k with
 | mk g o sp =>
  rw [hP] at h4 e0 hb
  obtain rfl : sp = none := e0
  exact ⟨ad, g, o, x, h1, hP, by have : g = ad.block := hb; omega, h3, At1.mk' h4⟩
theorem ReadsS.spotB {β : Type} {R : World -> Nat -> Option Addr -> Nat -> β -> Prop} {w : World} {B n k : Nat} {A : Option Addr} {bl : List β} {b : β} (h : ReadsS R w B A n bl) (hb : bl[k]? = some b) : ∃ ad g o A' m c, A = some ad /\ ad.add k = ⟨g, o, none⟩ /\ g < B /\ At1 w g o (.slice A' m c) /\ R w B A' m b := by
 obtain ⟨ad, A', m, c, h1, h2, h3, h4⟩ := h.at_ hb
 have e0 := Vi h3
 have hb := Jz ad k
 cases hP : ad.add k with
 | mk g o sp =>
  rw [hP] at h3 e0 hb
  obtain rfl : sp = none := e0
  exact ⟨ad, g, o, A', m, c, h1, hP, by have : g = ad.block := hb; omega, At1.mk' h3, h4⟩
theorem Jr {P : Program} {ops : Array Oper} {rest : List Oper} {op : Oper} {a : Act} {w : World} {Q : Exit -> Act -> World -> Prop} (cK : op.guard = none) (ty : TypeId) (x y : Operand) (ho : op.op = .store ty x y) (g : Nat) (cells old : Array Value) (hx : a.eval x = .pointer (some ⟨g, 0, none⟩)) (hy : a.eval y = .agg cells) (t : TypeId) (hb : Blk w g t old)
  (hi : (P.info? ty).map (·.size) = some cells.size) (hold : old.size = cells.size) (h1 : cells.all (·.oneCell') = true) (h : ∀ w', Blk w' g t cells -> Exc g w w' -> wpList P ops Q rest (a.put op.dst undef) w') : wpList P ops Q (op :: rest) a w := by
 refine wpList_plain cK fun _ hK => wp_store_row ty x y ho g cells hx hy t old hb hi hold h1 (hK _ _ (h _ ?_ ?_))
 ·exact setRow_heap w g old cells t (0, 0) hb
 exact ⟨rfl, rfl, rfl, by simp [World.setRow], fun k hk o9 => by simp [World.setRow, Array.getElem?_modify, Ne.symm o9]⟩
theorem Jde {P : Program} {ops : Array Oper} {Q : Exit -> Act -> World -> Prop} {Ψ : Value -> World -> Prop} {i : Nat} {a : Act} {w : World} (o : Oper) (ho : ops[i]? = some o) (hg : Region.wanted o (yielded ops a.tmps) = true) (ty : TypeId) (x y : Operand) (cL : o.op = .store ty x y) (cN : o.dst = none) (g : Nat) (cells old : Array Value) (hx : a.eval x = .pointer (some ⟨g, 0, none⟩)) (hy : a.eval y = .agg cells) (t : TypeId) (hb : Blk w g t old)
  (hi : (P.info? ty).map (·.size) = some cells.size) (hold : old.size = cells.size) (h1 : cells.all (·.oneCell') = true) (h : ∀ w', Blk w' g t cells -> Exc g w w' -> Ψ undef w') : wpOp P ops Q i (fun a'' w'' => ∃ v, a'' = a.put (Ku ops i) v /\ Ψ v w'') a w := by
 refine Jcd ho hg ?_
 refine wp_store_row ty x y cL g cells hx hy t old hb hi hold h1 ⟨undef, ?_, h _ ?_ ?_⟩
 ·unfold Ku
  rw [ho]
  rfl
 ·exact setRow_heap w g old cells t (0, 0) hb
 exact ⟨rfl, rfl, rfl, by simp [World.setRow], fun k hk o9 => by simp [World.setRow, Array.getElem?_modify, Ne.symm o9]⟩
theorem Ue {z : Int} {l : List Int} (h : z < 1 \/ 12 < z \/ l.length < 1 \/ 20 < l.length) : Xk z l = false := by
 cases e : Xk z l with
 | false => rfl
 | true =>
  unfold Xk at e
  simp only [Bool.and_eq_true, decide_eq_true_iff] at e
  omega
theorem Jbq {z x : Int} {l : List Int} {k : Nat} (hx : l[k]? = some x) (h : x < 1 \/ 12 < x) : Xk z l = false := by
 unfold Xk
 rw [Jay hx (by simp; omega), Bool.and_false]
theorem Jgc {z : Int} {l : List Int} (h1 : 1 <= z) (h2 : z <= 12) (h3 : 1 <= l.length) (h4 : l.length <= 20) (h5 : ∀ x ∈ l, 1 <= x /\ x <= 12) : Xk z l = true := by
 unfold Xk
 simp only [Bool.and_eq_true, decide_eq_true_iff, List.all_eq_true]
 exact ⟨⟨⟨⟨h1, h2⟩, h3⟩, h4⟩, h5⟩
theorem Yv {α : Type} {l : List α} {k : Nat} {y : α} {p : α -> Prop} (hy : l[k]? = some y) (h : ∀ x ∈ l.take k, p x) (hp : p y) : ∀ x ∈ l.take (k + 1), p x := fun x hx => by
 rw [Ud hy] at hx
 rcases List.mem_append.1 hx with hx | hx
 ·exact h x hx
 rw [List.mem_singleton.1 hx]
 exact hp
theorem Va (A : Option Addr) (n c B : Nat) (l : List Int) (w : World) (h : ReadsI w B A n l) (hn : n <= 1000) (hl : ∀ x ∈ l, -1099511627776 <= x /\ x <= 1099511627776) :
  Calls Tryz.prog 58 #[.slice A n c] w (Ret (.int .i64 l.sum) w) := by
 have bD := h.len
 have HS := lh (Jf9 (b := 1099511627776) (by omega) hl)
 have H := lh h
 clear h hl
 go_enter Tryz.func58, Tryz.ntmps58
 go_wp2_with fail
 go_loopw [3, 8] (fun v p wr => ∃ k : Nat, k <= n /\ p = .int .i64 (k : Int) /\ v = .int .i64 (l.take k).sum /\ w = wr) (fun _ p _ => n - (intOf p).toNat)
 case atStart => exact ⟨0, by omega, rfl, rfl, rfl⟩
 case round =>
  obtain ⟨k, hk, rfl, rfl, rfl⟩ := hrel
  by_cases aC : k < n
  ·have k1 : (k : Int) < (n : Int) := by omega
   obtain ⟨ad, x, rfl, j7, hx, hc⟩ := H.out.at_ aC
   have h1 := HS.out (k + 1)
   have hs := Jcj hx
   obtain ⟨s, e1⟩ : ∃ s, (l.take k).sum = s := ⟨_, rfl⟩
   obtain ⟨t, e2⟩ : ∃ t, (l.take (k + 1)).sum = t := ⟨_, rfl⟩
   rw [e1, e2] at hs
   rw [e2] at h1
   rw [e1]
   have hw : wrap64 (s + x) = t := by rw [<- hs]; exact Jfv (by omega) (by omega)
   have E2 := lh e2
   clear e1 e2 hs h1 hx j7
   go_wp2
   exact ⟨⟨k + 1, by omega, by go_num, by rw [hw, E2.out], trivial⟩, by simp [intOf]; omega⟩
  obtain rfl : k = n := by omega
  have k1 : ¬ (k : Int) < (k : Int) := by omega
  rw [List.take_of_length_le (by omega)]
  go_wp2
  go_ret
  exact ⟨rfl, Below.refl _ _⟩
theorem Jb0 (A : Option Addr) (n c B : Nat) (z : Int) (l : List Int) (w : World) (h : ReadsI w B A n l) (hn : n <= 1000) :
  Calls Tryz.prog 49 #[.int .i64 z, .slice A n c] w (Ret (.bool (Xk z l)) w) := by
 have bD := h.len
 obtain ⟨R, hR⟩ : ∃ R, Xk z l = R := ⟨_, rfl⟩
 rw [hR]
 have HR := lh hR
 have H := lh h
 clear h hR
 go_enter Tryz.func49, Tryz.ntmps49
 by_cases h1 : z < 1
 ·obtain rfl : R = false := by rw [<- HR.out]; exact Ue (.inl h1)
  go_wp2
  go_ret
  exact ⟨rfl, Below.refl _ _⟩
 by_cases h2 : 12 < z
 ·obtain rfl : R = false := by rw [<- HR.out]; exact Ue (.inr (.inl h2))
  go_wp2
  go_ret
  exact ⟨rfl, Below.refl _ _⟩
 by_cases h3 : n < 1
 ·obtain rfl : R = false := by rw [<- HR.out]; exact Ue (.inr (.inr (.inl (by omega))))
  have k3 : (n : Int) < 1 := by omega
  go_wp2
  go_ret
  exact ⟨rfl, Below.refl _ _⟩
 have k3 : ¬ (n : Int) < 1 := by omega
 by_cases h4 : 20 < n
 ·obtain rfl : R = false := by rw [<- HR.out]; exact Ue (.inr (.inr (.inr (by omega))))
  have k4 : (20 : Int) < (n : Int) := by omega
  go_wp2
  go_ret
  exact ⟨rfl, Below.refl _ _⟩
 have k4 : ¬ (20 : Int) < (n : Int) := by omega
 go_wp2_with fail
 go_loopw [25] (fun p wr => ∃ k : Nat, k <= n /\ p = .int .i64 (k : Int) /\ (∀ x ∈ l.take k, 1 <= x /\ x <= 12) /\ w = wr) (fun p _ => n - (intOf p).toNat)
 case atStart => exact ⟨0, by omega, rfl, by simp, rfl⟩
 case round =>
  obtain ⟨k, hk, rfl, eE, rfl⟩ := hrel
  by_cases aC : k < n
  ·have k1 : (k : Int) < (n : Int) := by omega
   obtain ⟨ad, x, rfl, j7, hx, hc⟩ := H.out.at_ aC
   by_cases x1 : x < 1
   ·obtain rfl : R = false := by rw [<- HR.out]; exact Jbq hx (.inl x1)
    clear eE
    go_wp2
    go_ret
    exact ⟨rfl, Below.refl _ _⟩
   by_cases x2 : 12 < x
   ·obtain rfl : R = false := by rw [<- HR.out]; exact Jbq hx (.inr x2)
    clear eE
    go_wp2
    go_ret
    exact ⟨rfl, Below.refl _ _⟩
   have HN := lh (Yv hx eE (p := fun x => 1 <= x /\ x <= 12) ⟨by omega, by omega⟩)
   clear eE
   go_wp2
   exact ⟨⟨k + 1, by omega, by go_num, HN.out, trivial⟩, by simp [intOf]; omega⟩
  obtain rfl : k = n := by omega
  have k1 : ¬ (k : Int) < (k : Int) := by omega
  rw [List.take_of_length_le (by omega)] at eE
  obtain rfl : R = true := by rw [<- HR.out]; exact Jgc (by omega) (by omega) (by omega) (by omega) eE
  clear eE
  go_wp2
  go_ret
  exact ⟨rfl, Below.refl _ _⟩
theorem Jkb {ws : List Int} {t : List (List Int)} (h : t.length ≠ ws.length) : Ym ws t = false := by
 unfold Ym
 rw [decide_eq_false h, Bool.false_and]
theorem Jkc {ws : List Int} {t : List (List Int)} {i : Nat} {j0 : List Int} {x : Int} (h1 : t[i]? = some j0) (h2 : ws[i]? = some x) (h : (j0.length : Int) ≠ x) : Ym ws t = false := by
 unfold Ym
 rw [Vd h1 h2 (by simpa using h), Bool.and_false]
theorem Jic {ws : List Int} {t : List (List Int)} (h : t.length = ws.length) (h2 : ∀ p ∈ t.zip ws, (p.1.length : Int) = p.2) : Ym ws t = true := by
 unfold Ym
 rw [decide_eq_true h, Bool.true_and, List.all_eq_true]
 exact fun p hp => decide_eq_true (h2 p hp)
theorem Jd8 {s x : Int} {j0 : List Int} {j : Nat} (h1 : j0[j]? = some x) (h : x < 0 \/ 1073741824 < x) : Kd s j0 = false := by
 unfold Kd
 rw [Jay h1 (by simp; omega), Bool.false_and]
theorem Jjr {s : Int} {j0 : List Int} (h : s < j0.sum) : Kd s j0 = false := by
 unfold Kd
 rw [decide_eq_false (by omega), Bool.and_false]
theorem Jhw {s : Int} {j0 : List Int} (h : ∀ x ∈ j0, 0 <= x /\ x <= 1073741824) (h2 : j0.sum <= s) : Kd s j0 = true := (Vm _ _).2 ⟨h, h2⟩
theorem Jak {s : Int} {t : List (List Int)} (h : s < 0 \/ 1073741824 < s) : Xu s t = false := by
 cases e : Xu s t with
 | false => rfl
 | true =>
  rw [Xy] at e
  omega
theorem Uu {s : Int} {t : List (List Int)} {i : Nat} {j0 : List Int} (h1 : t[i]? = some j0) (h : Kd s j0 = false) : Xu s t = false := by
 unfold Xu
 rw [Jay h1 h, Bool.and_false]
section
variable {m : BM}
theorem Jfo (h : Xk m.seen.length m.words = false) : Jk m = 5 := by
 unfold Jk Xi
 rw [h]
 rfl
theorem Jio (h : m.counts.length ≠ m.seen.length) : Jk m = 5 := by
 unfold Jk Xi
 rw [decide_eq_false h, Bool.and_false, Bool.false_and, if_pos rfl]
theorem Jc3 {k : Nat} {t : List (List Int)} (ht : m.counts[k]? = some t) (h : Ym m.words t = false) : Jk m = 5 := by
 unfold Jk Xi
 rw [Jay ht h, Bool.and_false, if_pos rfl]
theorem Jey (h1 : Xk m.seen.length m.words = true) (h2 : m.counts.length = m.seen.length) (h3 : ∀ t ∈ m.counts, Ym m.words t = true) : Xi m = true := (Yf m).2 ⟨h1, h2, h3⟩
theorem Jdt (h : Xi m = true) (h2 : m.smooth <= 0) : Jk m = 1 := by
 unfold Jk
 rw [h, if_neg (by simp), if_pos h2]
theorem Yy {k : Nat} {s : Int} {t : List (List Int)} (h : Xi m = true) (h2 : 0 < m.smooth) (hs : m.seen[k]? = some s) (ht : m.counts[k]? = some t) (hv : Xu s t = false) : Jk m = 1 := by
 have : Jbp m = false := by
  unfold Jbp
  exact Vd hs ht hv
 unfold Jk
 rw [h, if_neg (by simp), if_neg (Rat.not_le.2 h2), if_pos this]
theorem Jg6 (h : Xi m = true) (h2 : 0 < m.smooth) (hv : ∀ p ∈ m.seen.zip m.counts, Xu p.1 p.2 = true) : Jk m = 0 := by
 rw [Kv]
 refine ⟨h, h2, ?_⟩
 unfold Jbp
 rw [List.all_eq_true]
 exact hv
end
structure LenB (m : BM) : Prop where
 words : m.words.length <= 1000
 seen : m.seen.length <= 1000
 counts : m.counts.length <= 1000
 rows : ∀ t ∈ m.counts, t.length <= 1000 /\ ∀ j0 ∈ t, j0.length <= 1000
theorem Joa (q : Rat) : q.num.sign <= 0 ↔ q <= 0 := by
 rw [Int.sign_nonpos_iff]
 have h : 0 <= q.num ↔ 0 <= q := Rat.num_nonneg
 have h0 : q.num = 0 ↔ q = 0 := Rat.num_eq_zero
 constructor
 ·intro h1
  by_cases h2 : q.num = 0
  ·rw [h0.1 h2]
   exact Rat.le_refl
  exact Rat.le_of_lt (Rat.not_le.1 fun h3 => absurd (h.2 h3) (by omega))
 intro h1
 rcases Int.lt_or_le 0 q.num with h2 | h2
 ·have h3 := Rat.le_antisymm h1 (h.1 (by omega))
  have := h0.2 h3
  omega
 exact h2
theorem Zm (A1 A2 A3 : Option Addr) (n1 c1 n2 c2 n3 c3 B : Nat) (m : BM) (w : World) (h : RdB w B ⟨A1, n1, c1⟩ ⟨A2, n2, c2⟩ ⟨A3, n3, c3⟩ m) (hB : B <= w.heap.size) (hL : LenB m) (hs : QS 1099511627776 m.smooth) :
  Calls Tryz.prog 20 #[.agg #[.bool (decide (m.smooth.num < 0)), .int .u64 (lo m.smooth.num.natAbs : Int), .string (mo m.smooth.num.natAbs), .int .u64 (lo ((qden m.smooth)) : Int), .string (mo ((qden m.smooth))), .slice A1 n1 c1, .slice A2 n2 c2, .slice A3 n3 c3]] w (Ret (.int .i64 (Jk m)) w) := by
 have aP : m.words.length = n1 := h.words.len
 have aI : m.seen.length = n2 := h.seen.len
 have bT : m.counts.length = n3 := ReadsS.len h.counts
 have hz := fun w' (hb : Below w.heap.size w w') => Jb0 A1 n1 c1 B m.seen.length m.words w' (h.below (hb.mono hB)).words (by have := hL.words; omega)
 have aJ := fun w' => Vn m.smooth w' hs
 obtain ⟨R, hR⟩ : ∃ R, Jk m = R := ⟨_, rfl⟩
 rw [hR]
 have HR := lh hR
 have H := lh h
 have HL := lh hL
 have HBB := lh hB
 rw [aI] at hz
 have hq : m.smooth.num.sign <= 0 ↔ m.smooth <= 0 := Joa m.smooth
 generalize m.smooth.num.sign = sg at *
 unfold qV at aJ
 have HZ0 := lh hz
 have HSG := lh aJ
 have HQ := lh hq
 have HW := lh (And.intro aP (And.intro aI bT))
 have cU : n1 <= 1000 := by have := hL.words; omega
 have eN : n2 <= 1000 := by have := hL.seen; omega
 have cZ : n3 <= 1000 := by have := hL.counts; omega
 clear h hL hB hs hR hz aJ hq aP aI bT
 obtain ⟨b0, hB, hZ⟩ := bx1 w 43 #[.bool (decide (m.smooth.num < 0)), .int .u64 (lo m.smooth.num.natAbs : Int), .string (mo m.smooth.num.natAbs), .int .u64 (lo (qden m.smooth) : Int), .string (mo (qden m.smooth)), .slice A1 n1 c1, .slice A2 n2 c2, .slice A3 n3 c3]
 go_enter Tryz.func20, Tryz.ntmps20
 have HBW := lh hB
 obtain ⟨x0, x1, x2, x3, x4, x5, x6, x7⟩ := b0.c8
 obtain ⟨zb, bE⟩ : ∃ zb, Xk (n2 : Int) m.words = zb := ⟨_, rfl⟩
 rw [bE] at HZ0
 have HZB := lh bE
 clear hB bE
 go_wp2_with fail
 generalize (w.alloc (.cells #[.bool (decide (m.smooth.num < 0)), .int .u64 (lo m.smooth.num.natAbs : Int), .string (mo m.smooth.num.natAbs), .int .u64 (lo (qden m.smooth) : Int), .string (mo (qden m.smooth)), .slice A1 n1 c1, .slice A2 n2 c2, .slice A3 n3 c3] 43)) = W at *
 refine (HZ0.out _ HBW.out).mono ?_
 rintro e w1 ⟨rfl, aD⟩
 have b0 := b0.below aD b0.lt
 have HB1 := lh (HBW.out.trans (aD.mono HBW.out.size))
 have HM1 := lh (HB1.out.mono HBB.out)
 clear x0 x1 x2 x3 x4 x5 x6 x7 aD HBW hZ
 obtain ⟨x0, x1, x2, x3, x4, x5, x6, x7⟩ := b0.c8
 cases zb with
 | false =>
  obtain rfl : R = 5 := by rw [<- HR.out]; exact Jfo (by rw [HW.out.2.1]; exact HZB.out)
  go_wp2
  go_ret
  exact ⟨rfl, HB1.out⟩
 | true =>
  by_cases hn : n3 = n2
  case neg =>
   obtain rfl : R = 5 := by rw [<- HR.out]; exact Jio (by rw [HW.out.2.1, HW.out.2.2]; exact hn)
   have q1 : ((n3 : Int) != (n2 : Int)) = true := by simp; omega
   have q2 : ((n3 : Int) == (n2 : Int)) = false := by simp; omega
   have q3 : ¬ (n3 : Int) = (n2 : Int) := by omega
   go_wp2
   go_ret
   exact ⟨rfl, HB1.out⟩
  subst hn
  have q1 : ((n3 : Int) != (n3 : Int)) = false := by simp
  have q2 : ((n3 : Int) == (n3 : Int)) = true := by simp
  go_wp2_with fail
  go_loopw [32] (fun p wr => ∃ k : Nat, k <= n3 /\ p = .int .i64 (k : Int) /\ (∀ t ∈ m.counts.take k, Ym m.words t = true) /\ w1 = wr) (fun p _ => n3 - (intOf p).toNat)
  case atStart => exact ⟨0, by omega, rfl, by simp, rfl⟩
  case round =>
   obtain ⟨k, hk, rfl, aQ, rfl⟩ := hrel
   have HF := lh aQ
   clear aQ
   by_cases aC : k < n3
   ·as_aux_lemma =>
    have k1 : (k : Int) < (n3 : Int) := by omega
    obtain ⟨t, ht⟩ : ∃ t, m.counts[k]? = some t := ⟨_, List.getElem?_eq_getElem (by have := HW.out.2.2; omega)⟩
    obtain ⟨ad, A4, n4, c4, rfl, j7, hc, hr⟩ := H.out.counts.at_ ht
    have bF := Qg HM1.out hc j7
    have aR : t.length = n4 := ReadsS.len hr
    have HT := lh (And.intro ht aR)
    have bU : n4 <= 1000 := by have := (HL.out.rows t (List.mem_of_getElem? ht)).1; omega
    have HR4 := lh hr
    clear hc j7 ht aR hr
    by_cases bV : n4 = n1
    case neg =>
     obtain rfl : R = 5 := by rw [<- HR.out]; exact Jc3 HT.out.1 (Jkb (by rw [HW.out.1, HT.out.2]; exact bV))
     have q3 : ((n4 : Int) != (n1 : Int)) = true := by simp; omega
     have q4 : ((n4 : Int) == (n1 : Int)) = false := by simp; omega
     have q5 : ¬ (n4 : Int) = (n1 : Int) := by omega
     go_wp2
     go_ret
     exact ⟨rfl, HB1.out⟩
    subst bV
    have q3 : ((n4 : Int) != (n4 : Int)) = false := by simp
    have q4 : ((n4 : Int) == (n4 : Int)) = true := by simp
    go_wp2_with fail
    go_loopw [44] (fun p wr => ∃ i : Nat, i <= n4 /\ p = .int .i64 (i : Int) /\ (∀ p ∈ (t.zip m.words).take i, (p.1.length : Int) = p.2) /\ w1 = wr) (fun p _ => n4 - (intOf p).toNat)
    case atStart => exact ⟨0, by omega, rfl, by simp, rfl⟩
    case round =>
     obtain ⟨i, hi, rfl, aS, rfl⟩ := hrel
     have HCL := lh aS
     clear aS
     by_cases eE : i < n4
     ·have k2 : (i : Int) < (n4 : Int) := by omega
      obtain ⟨j0, j8⟩ : ∃ j0, t[i]? = some j0 := ⟨_, List.getElem?_eq_getElem (by have := HT.out.2; omega)⟩
      obtain ⟨ad2, A5, n5, c5, rfl, eB, aK, aH⟩ := HR4.out.at_ j8
      have aE := Qg HM1.out aK eB
      have aL : j0.length = n5 := ReadsI.len aH
      obtain ⟨ad3, y, rfl, aF, hy, bG⟩ := H.out.words.at_ (k := i) eE
      have cO := Qg HM1.out bG aF
      by_cases bW : (n5 : Int) = y
      case neg =>
       obtain rfl : R = 5 := by rw [<- HR.out]; exact Jc3 HT.out.1 (Jkc j8 hy (by rw [aL]; exact bW))
       have q5 : ((n5 : Int) != y) = true := by simp; omega
       have q6 : ((n5 : Int) == y) = false := by simp; omega
       clear j8 hy aK bG aH eB aF
       go_wp2
       go_ret
       exact ⟨rfl, HB1.out⟩
      subst bW
      have q5 : ((n5 : Int) != (n5 : Int)) = false := by simp
      have q6 : ((n5 : Int) == (n5 : Int)) = true := by simp
      have HN := lh (Yv (l := t.zip m.words) (k := i) (y := (j0, (n5 : Int))) (p := fun p => (p.1.length : Int) = p.2) (by rw [List.getElem?_zip_eq_some]; exact ⟨j8, hy⟩) HCL.out (by show (j0.length : Int) = _; rw [aL]))
      clear j8 hy aK bG aH eB aF aL HCL
      go_wp2
      exact ⟨⟨i + 1, by omega, by go_num, HN.out, trivial⟩, by simp [intOf]; omega⟩
     obtain rfl : i = n4 := by omega
     have k2 : ¬ (i : Int) < (i : Int) := by omega
     have HN := lh (Yv HT.out.1 HF.out (p := fun t => Ym m.words t = true) (Jic (by rw [HW.out.1, HT.out.2]) (by have := HCL.out; rw [List.take_of_length_le (by have := HW.out.1; have := HT.out.2; simp; omega)] at this; exact this)))
     clear HF HCL
     go_wp2
     exact ⟨⟨k + 1, by omega, by go_num, HN.out, trivial⟩, by simp [intOf]; omega⟩
   as_aux_lemma =>
   obtain rfl : k = n3 := by omega
   have k1 : ¬ (k : Int) < (k : Int) := by omega
   have HSH : Hid (Xi m = true) := lh (Jey (by rw [HW.out.2.1]; exact HZB.out) (by rw [HW.out.2.1, HW.out.2.2]) (by have := HF.out; rw [List.take_of_length_le (by have := HW.out.2.2; omega)] at this; exact this))
   clear HF
   go_wp2_with fail
   refine (HSG.out _).mono ?_
   rintro e w2 ⟨rfl, bH⟩
   have b0 := b0.below bH b0.lt
   have HB2 := lh (HB1.out.trans (bH.mono HB1.out.size))
   clear x0 x1 x2 x3 x4 x5 x6 x7 bH HB1 HM1
   obtain ⟨x0, x1, x2, x3, x4, x5, x6, x7⟩ := b0.c8
   by_cases aJ : sg <= 0
   ·obtain rfl : R = 1 := by rw [<- HR.out]; exact Jdt HSH.out (HQ.out.1 aJ)
    go_wp2
    go_ret
    exact ⟨rfl, HB2.out⟩
   have HPOS : Hid (0 < m.smooth) := lh (Rat.not_le.1 fun h => aJ (HQ.out.2 h))
   have HC := lh b0
   clear b0 x0 x1 x2 x3 x4 x5
   go_wp2_with fail
   clear x6 x7
   go_loopw [66] (fun p wr => ∃ c : Nat, c <= k /\ p = .int .i64 (c : Int) /\ (∀ p ∈ (m.seen.zip m.counts).take c, Xu p.1 p.2 = true) /\ Blk wr w.heap.size 43 #[.bool (decide (m.smooth.num < 0)), .int .u64 (lo m.smooth.num.natAbs : Int), .string (mo m.smooth.num.natAbs), .int .u64 (lo ((qden m.smooth)) : Int), .string (mo ((qden m.smooth))), .slice A1 n1 c1, .slice A2 k c2, .slice A3 k c3] /\ Below w.heap.size w wr) (fun p _ => k - (intOf p).toNat)
   case atStart => exact ⟨0, by omega, rfl, by simp, HC.out, HB2.out⟩
   case round =>
    obtain ⟨c, hc, rfl, aT, b0, aM⟩ := hrel
    rename World => wr
    have HOK := lh aT
    clear aT HC
    by_cases cP : c < k
    ·as_aux_lemma =>
     have k1 : (c : Int) < (k : Int) := by omega
     obtain ⟨ad, s, rfl, j7, hs, y9⟩ := H.out.seen.at_ (k := c) cP
     obtain ⟨t, ht⟩ : ∃ t, m.counts[c]? = some t := ⟨_, List.getElem?_eq_getElem (by have := HW.out.2.2; omega)⟩
     obtain ⟨ad2, A4, n4, c4, rfl, eB, eH, hr⟩ := H.out.counts.at_ ht
     have bF := Qg (aM.mono HBB.out) y9 j7
     have aE := Qg (aM.mono HBB.out) eH eB
     have aR : t.length = n4 := ReadsS.len hr
     have bI := HL.out.rows t (List.mem_of_getElem? ht)
     have HST := lh (And.intro hs ht)
     have HR4 := lh (And.intro hr (And.intro aR bI))
     have bU : n4 <= 1000 := by have := bI.1; omega
     have HBW := lh aM
     clear hs ht y9 eH hr j7 eB aR bI aM
     obtain ⟨x0, x1, x2, x3, x4, x5, x6, x7⟩ := b0.c8
     by_cases s1 : s < 0
     ·obtain rfl : R = 1 := by rw [<- HR.out]; exact Yy HSH.out HPOS.out HST.out.1 HST.out.2 (Jak (.inl s1))
      go_wp2
      go_ret
      exact ⟨rfl, HBW.out⟩
     by_cases s2 : 1073741824 < s
     ·obtain rfl : R = 1 := by rw [<- HR.out]; exact Yy HSH.out HPOS.out HST.out.1 HST.out.2 (Jak (.inr s2))
      go_wp2
      go_ret
      exact ⟨rfl, HBW.out⟩
     go_wp2_with fail
     have HC := lh b0
     clear b0 x0 x1 x2 x3 x4 x5 x6 x7 bF aE
     go_loopw [83] (fun p wq => ∃ i : Nat, i <= n4 /\ p = .int .i64 (i : Int) /\ (∀ j0 ∈ t.take i, Kd s j0 = true) /\ Blk wq w.heap.size 43 #[.bool (decide (m.smooth.num < 0)), .int .u64 (lo m.smooth.num.natAbs : Int), .string (mo m.smooth.num.natAbs), .int .u64 (lo ((qden m.smooth)) : Int), .string (mo ((qden m.smooth))), .slice A1 n1 c1, .slice (some ad) k c2, .slice (some ad2) k c3] /\ Below w.heap.size w wq) (fun p _ => n4 - (intOf p).toNat)
     case atStart => exact ⟨0, by omega, rfl, by simp, HC.out, HBW.out⟩
     case round =>
      obtain ⟨i, hi, rfl, aS, b0, aU⟩ := hrel
      rename World => wq
      have HCL := lh aS
      clear aS HC HBW
      by_cases eE : i < n4
      ·as_aux_lemma =>
       have k2 : (i : Int) < (n4 : Int) := by omega
       obtain ⟨j0, j8⟩ : ∃ j0, t[i]? = some j0 := ⟨_, List.getElem?_eq_getElem (by have := HR4.out.2.1; omega)⟩
       obtain ⟨ad3, A5, n5, c5, rfl, aV, s9, bJ⟩ := HR4.out.1.at_ j8
       have bK := Qg (aU.mono HBB.out) s9 aV
       have aL := HR4.out.2.2.2 j0 (List.mem_of_getElem? j8)
       rw [ReadsI.len bJ] at aL
       have HR5 := lh bJ
       have HCO := lh j8
       have HBQ := lh aU
       have HC := lh b0
       clear s9 bJ aV j8 aU b0
       go_wp2_with fail
       clear bK
       go_loopw [89] (fun p wp => ∃ j : Nat, j <= n5 /\ p = .int .i64 (j : Int) /\ (∀ x ∈ j0.take j, 0 <= x /\ x <= 1073741824) /\ wq = wp) (fun p _ => n5 - (intOf p).toNat)
       case atStart => exact ⟨0, by omega, rfl, by simp, rfl⟩
       case round =>
        obtain ⟨j, hj, rfl, bX, rfl⟩ := hrel
        have HNM := lh bX
        clear bX
        by_cases eL : j < n5
        ·have k3 : (j : Int) < (n5 : Int) := by omega
         obtain ⟨ad6, x, rfl, aW, hx, eI⟩ := HR5.out.at_ eL
         have cR := Qg (HBQ.out.mono HBB.out) eI aW
         have HX := lh hx
         clear eI aW hx
         by_cases x1 : x < 0
         ·obtain rfl : R = 1 := by rw [<- HR.out]; exact Yy HSH.out HPOS.out HST.out.1 HST.out.2 (Uu HCO.out (Jd8 HX.out (.inl x1)))
          go_wp2
          go_ret
          exact ⟨rfl, HBQ.out⟩
         by_cases x2 : 1073741824 < x
         ·obtain rfl : R = 1 := by rw [<- HR.out]; exact Yy HSH.out HPOS.out HST.out.1 HST.out.2 (Uu HCO.out (Jd8 HX.out (.inr x2)))
          go_wp2
          go_ret
          exact ⟨rfl, HBQ.out⟩
         have HN := lh (Yv HX.out HNM.out (p := fun x => 0 <= x /\ x <= 1073741824) ⟨by omega, by omega⟩)
         clear HNM HX
         go_wp2
         exact ⟨⟨j + 1, by omega, by go_num, HN.out, trivial⟩, by simp [intOf]; omega⟩
        obtain rfl : j = n5 := by omega
        have k3 : ¬ (j : Int) < (j : Int) := by omega
        have HAL : Hid (∀ x ∈ j0, 0 <= x /\ x <= 1073741824) := lh (by have := HNM.out; rw [List.take_of_length_le (by rw [ReadsI.len HR5.out]; omega)] at this; exact this)
        have HTO := lh (Va A5 j c5 B j0 wq (rkindI.below HR5.out (HBQ.out.mono HBB.out)) aL (fun x hx => by have := HAL.out x hx; omega))
        obtain ⟨sm, bL⟩ : ∃ sm, j0.sum = sm := ⟨_, rfl⟩
        rw [bL] at HTO
        have HSM := lh bL
        clear HNM bL
        go_wp2_with fail
        refine HTO.out.mono ?_
        rintro e w4 ⟨rfl, bM⟩
        have b0 := HC.out.below bM HC.out.lt
        have HB4 := lh (HBQ.out.trans (bM.mono HBQ.out.size))
        have HC4 := lh b0
        clear bM HBQ HC HTO b0
        by_cases eM : s < sm
        ·obtain rfl : R = 1 := by rw [<- HR.out]; exact Yy HSH.out HPOS.out HST.out.1 HST.out.2 (Uu HCO.out (Jjr (by rw [HSM.out]; exact eM)))
         go_wp2
         go_ret
         exact ⟨rfl, HB4.out⟩
        have HN := lh (Yv HCO.out HCL.out (p := fun j0 => Kd s j0 = true) (Jhw HAL.out (by rw [HSM.out]; omega)))
        clear HCL HAL
        go_wp2
        exact ⟨⟨i + 1, by omega, by go_num, HN.out, HC4.out, HB4.out⟩, by simp [intOf]; omega⟩
      obtain rfl : i = n4 := by omega
      have k2 : ¬ (i : Int) < (i : Int) := by omega
      have HN := lh (Yv (l := m.seen.zip m.counts) (k := c) (y := (s, t)) (p := fun p => Xu p.1 p.2 = true) (by rw [List.getElem?_zip_eq_some]; exact HST.out) HOK.out ((Xy _ _).2 ⟨by omega, by omega, by have := HCL.out; rw [List.take_of_length_le (by have := HR4.out.2.1; omega)] at this; exact this⟩))
      have HC := lh b0
      have HBQ := lh aU
      clear HCL HOK b0 aU
      go_wp2
      exact ⟨⟨c + 1, by omega, by go_num, HN.out, HC.out, HBQ.out⟩, by simp [intOf]; omega⟩
    obtain rfl : c = k := by omega
    have k1 : ¬ (c : Int) < (c : Int) := by omega
    obtain rfl : R = 0 := by rw [<- HR.out]; exact Jg6 HSH.out HPOS.out (by have := HOK.out; rw [List.take_of_length_le (by have := HW.out; simp; omega)] at this; exact this)
    have HBW := lh aM
    clear HOK aM b0
    go_wp2
    go_ret
    exact ⟨rfl, HBW.out⟩
theorem Vz {m : BM} {row : List Int} {c : Int} (h : Jk m ≠ 0 \/ c < 0 \/ (m.seen.length : Int) <= c) : Xq m row c = 1 := if_pos h
theorem Jhq {m : BM} {row : List Int} {c : Int} (h : Jk m = 0) (h1 : 0 <= c) (h2 : c < (m.seen.length : Int)) : Xq m row c = Zz m row := if_neg (by rintro (h3 | h3 | h3); exact h3 h; omega; omega)
theorem Jgg {m : BM} {row : List Int} (h : row.length ≠ m.words.length) : Zz m row = 5 := if_pos h
theorem Jbr {m : BM} {row : List Int} {k : Nat} {a n : Int} (h : row.length = m.words.length) (ha : row[k]? = some a) (hn : m.words[k]? = some n) (hb : a < -1 \/ n <= a) : Zz m row = 1 := by
 unfold Zz
 rw [if_neg (by simpa using h), if_pos]
 exact Vd ha hn (by simp; omega)
theorem Jez {m : BM} {row : List Int} (h : row.length = m.words.length) (hb : ∀ p ∈ row.zip m.words, -1 <= p.1 /\ p.1 < p.2) : Zz m row = 0 := by
 unfold Zz
 rw [if_neg (by simpa using h), if_neg]
 rw [Bool.not_eq_false, List.all_eq_true]
 intro p hp
 have := hb p hp
 simp [this.1, this.2]
theorem Vb (A1 A2 A3 : Option Addr) (n1 c1 n2 c2 n3 c3 B : Nat) (m : BM) (A4 : Option Addr) (n4 c4 : Nat) (row : List Int) (cl : Int) (w : World) (h : RdB w B ⟨A1, n1, c1⟩ ⟨A2, n2, c2⟩ ⟨A3, n3, c3⟩ m) (h4 : ReadsI w B A4 n4 row) (hB : B <= w.heap.size) (hL : LenB m) (bU : n4 <= 1000) (hs : QS 1099511627776 m.smooth) :
  Calls Tryz.prog 61 #[.agg #[.bool (decide (m.smooth.num < 0)), .int .u64 (lo m.smooth.num.natAbs : Int), .string (mo m.smooth.num.natAbs), .int .u64 (lo ((qden m.smooth)) : Int), .string (mo ((qden m.smooth))), .slice A1 n1 c1, .slice A2 n2 c2, .slice A3 n3 c3], .slice A4 n4 c4, .int .i64 cl] w (Ret (.int .i64 (Xq m row cl)) w) := by
 have aP : m.words.length = n1 := h.words.len
 have aI : m.seen.length = n2 := h.seen.len
 have bY : row.length = n4 := h4.len
 have bN := fun w' (hb : Below w.heap.size w w') => Zm A1 A2 A3 n1 c1 n2 c2 n3 c3 B m w' (h.below (hb.mono hB)) (nt hB hb.size) hL hs
 obtain ⟨R, hR⟩ : ∃ R, Xq m row cl = R := ⟨_, rfl⟩
 obtain ⟨r, hr⟩ : ∃ r, Jk m = r := ⟨_, rfl⟩
 rw [hR]
 rw [hr] at bN
 have HR := lh hR
 have HRC := lh hr
 have H := lh h
 have H4 := lh h4
 have HBB := lh hB
 have HCH := lh bN
 have HW := lh (And.intro aP (And.intro aI bY))
 clear h h4 hL hB hs hR hr bN aP aI bY
 obtain ⟨b0, hB, hZ⟩ := bx1 w 43 #[.bool (decide (m.smooth.num < 0)), .int .u64 (lo m.smooth.num.natAbs : Int), .string (mo m.smooth.num.natAbs), .int .u64 (lo (qden m.smooth) : Int), .string (mo (qden m.smooth)), .slice A1 n1 c1, .slice A2 n2 c2, .slice A3 n3 c3]
 go_enter Tryz.func61, Tryz.ntmps61
 have HBW := lh hB
 obtain ⟨x0, x1, x2, x3, x4, x5, x6, x7⟩ := b0.c8
 clear hB
 go_wp2_with fail
 generalize (w.alloc (.cells #[.bool (decide (m.smooth.num < 0)), .int .u64 (lo m.smooth.num.natAbs : Int), .string (mo m.smooth.num.natAbs), .int .u64 (lo (qden m.smooth) : Int), .string (mo (qden m.smooth)), .slice A1 n1 c1, .slice A2 n2 c2, .slice A3 n3 c3] 43)) = W at *
 refine (HCH.out _ HBW.out).mono ?_
 rintro e w1 ⟨rfl, aD⟩
 have b0 := b0.below aD b0.lt
 have HB1 := lh (HBW.out.trans (aD.mono HBW.out.size))
 have HM1 := lh (HB1.out.mono HBB.out)
 clear x0 x1 x2 x3 x4 x5 x6 x7 aD HBW hZ HCH
 obtain ⟨x0, x1, x2, x3, x4, x5, x6, x7⟩ := b0.c8
 by_cases bZ : r = 0
 case neg =>
  obtain rfl : R = 1 := by rw [<- HR.out]; exact Vz (.inl (by rw [HRC.out]; exact bZ))
  have q1 : (r != 0) = true := by simp; omega
  have q2 : (r == 0) = false := by simp; omega
  go_wp2
  go_ret
  exact ⟨rfl, HB1.out⟩
 subst bZ
 by_cases cT : cl < 0
 ·obtain rfl : R = 1 := by rw [<- HR.out]; exact Vz (.inr (.inl cT))
  go_wp2
  go_ret
  exact ⟨rfl, HB1.out⟩
 by_cases aB : (n2 : Int) <= cl
 ·obtain rfl : R = 1 := by rw [<- HR.out]; exact Vz (.inr (.inr (by rw [HW.out.2.1]; exact aB)))
  go_wp2
  go_ret
  exact ⟨rfl, HB1.out⟩
 have HRE : Hid (Zz m row = R) := lh (by rw [<- HR.out]; exact (Jhq HRC.out (by omega) (by rw [HW.out.2.1]; omega)).symm)
 by_cases hn : n4 = n1
 case neg =>
  obtain rfl : R = 5 := by rw [<- HRE.out]; exact Jgg (by rw [HW.out.1, HW.out.2.2]; exact hn)
  have q3 : ((n4 : Int) != (n1 : Int)) = true := by simp; omega
  have q4 : ((n4 : Int) == (n1 : Int)) = false := by simp; omega
  have q5 : ¬ (n4 : Int) = (n1 : Int) := by omega
  go_wp2
  go_ret
  exact ⟨rfl, HB1.out⟩
 subst hn
 have q3 : ((n4 : Int) != (n4 : Int)) = false := by simp
 have q4 : ((n4 : Int) == (n4 : Int)) = true := by simp
 go_wp2_with fail
 go_loopw [31] (fun p wr => ∃ k : Nat, k <= n4 /\ p = .int .i64 (k : Int) /\ (∀ p ∈ (row.zip m.words).take k, -1 <= p.1 /\ p.1 < p.2) /\ w1 = wr) (fun p _ => n4 - (intOf p).toNat)
 case atStart => exact ⟨0, by omega, rfl, by simp, rfl⟩
 case round =>
  obtain ⟨k, hk, rfl, aT, rfl⟩ := hrel
  have HOK := lh aT
  clear aT
  by_cases aC : k < n4
  ·have k1 : (k : Int) < (n4 : Int) := by omega
   obtain ⟨ad, x, rfl, j7, hx, hc⟩ := H4.out.at_ aC
   obtain ⟨ad2, y, rfl, eB, hy, aK⟩ := H.out.words.at_ (k := k) aC
   have bF := Qg HM1.out hc j7
   have aE := Qg HM1.out aK eB
   have HXY := lh (And.intro hx hy)
   clear hc aK j7 eB hx hy
   by_cases x9 : x < -1
   ·obtain rfl : R = 1 := by rw [<- HRE.out]; exact Jbr (by rw [HW.out.1, HW.out.2.2]) HXY.out.1 HXY.out.2 (.inl x9)
    go_wp2
    go_ret
    exact ⟨rfl, HB1.out⟩
   by_cases x10 : y <= x
   ·obtain rfl : R = 1 := by rw [<- HRE.out]; exact Jbr (by rw [HW.out.1, HW.out.2.2]) HXY.out.1 HXY.out.2 (.inr x10)
    go_wp2
    go_ret
    exact ⟨rfl, HB1.out⟩
   have HN := lh (Yv (l := row.zip m.words) (k := k) (y := (x, y)) (p := fun p => -1 <= p.1 /\ p.1 < p.2) (by rw [List.getElem?_zip_eq_some]; exact HXY.out) HOK.out ⟨by show -1 <= x; omega, by show x < y; omega⟩)
   clear HOK HXY
   go_wp2
   exact ⟨⟨k + 1, by omega, by go_num, HN.out, trivial⟩, by simp [intOf]; omega⟩
  obtain rfl : k = n4 := by omega
  have k1 : ¬ (k : Int) < (k : Int) := by omega
  obtain rfl : R = 0 := by rw [<- HRE.out]; exact Jez (by rw [HW.out.1, HW.out.2.2]) (by have := HOK.out; rw [List.take_of_length_le (by have := HW.out; simp; omega)] at this; exact this)
  clear HOK
  go_wp2
  go_ret
  exact ⟨rfl, HB1.out⟩
theorem Jsh {β : Type} {T TT : TypeId} {K : World -> (Nat -> Prop) -> Value -> β -> Prop} {ops : Array Oper} {Q : Exit -> Act -> World -> Prop} {Ψ : Value -> World -> Prop} {i : Nat} {a : Act} (hK : SepK K) (E : Elt Tryz.prog TT T (.slice none 0 0) 24) (o : Oper) (ho : ops[i]? = some o) (cK : Region.wanted o (yielded ops a.tmps) = true) (s x : Operand)
  (cL : o.op = .call { callee := .builtin .append, args := #[s, x], argTypes := #[TT, TT] })
  (S S' : Nat -> Prop) (w : World) (v : Value) (bl : List β) (A : Option Addr) (n c : Nat) (b : β) (B : Nat) (X : Option Addr) (cx : Nat) (hs : a.eval s = v) (bR : Nest T K w S v bl) (eD : K w S' (.slice A n c) b) (hd : ∀ x, S' x -> ¬ S x) (hx : a.eval x = .slice X 1 cx) (hr : Reads w B 1 X 1 [.slice A n c]) (hl : bl.length <= 1000000)
  (h : ∀ v' w1 S'', Nest T K w1 S'' v' (bl ++ [b]) -> (∀ x, S'' x -> S x \/ S' x \/ w.heap.size <= x) -> Grew w w1 v v' -> Ψ v' w1) : wpOp Tryz.prog ops Q i (fun a'' w'' => ∃ v, a'' = a.put (Ku ops i) v /\ Ψ v w'') a w := by
 obtain ⟨rl, F, h1, h2, h3, h4, h5, h6, h7⟩ := bR
 refine Joy E o ho cK s x cL w v rl B X 1 cx [(⟨A, n, c⟩ : SW)] hs h1 hx hr SW.one (by unfold maxLen; omega) (by omega) ?_
 intro v' w1 h8 eF
 obtain ⟨S'', h9, dX⟩ := Nest.snoc hK h1 h2 h3 h4 h5 h6 eD hd h8 eF
 exact h v' w1 S'' h9 dX eF
