import Derived.Test.YtcoloflmigcphaaGreatDoorRefQ
import Derived.Test.YtcoloflmigcphaaGreatDoorHand
import Derived.Test.YtcoloflmigcphaaGreatDoorRowQ
import Derived.Deep.DeepCutAuto
import Derived.Deep.CutBlock
namespace Go.Proofs.YtcoloflmigcphaaGreatDoor
set_option maxRecDepth 100000
set_option maxHeartbeats 2000000
open Go.RowKit
set_option linter.all false
structure RC where
 g : Bool
 A : Option Addr
 l : Nat
 c : Nat
 A' : Option Addr
 l' : Nat
 c' : Nat
def RC.cs (r : RC) : List Value := [.bool r.g, .slice r.A r.l r.c, .slice r.A' r.l' r.c']
def RC.v (r : RC) : Value := .agg #[.bool r.g, .slice r.A r.l r.c, .slice r.A' r.l' r.c']
theorem RC.len (r : RC) : r.cs.length = 3 := rfl
theorem RC.one (r : RC) : ∀ u ∈ r.cs, u.oneCell' = true := by
 intro u hu
 simp [RC.cs] at hu
 rcases hu with rfl | rfl | rfl <;> rfl
theorem Tryz.eltR : EltW Tryz.prog 75 28 (.agg #[.bool false, .slice none 0 0, .slice none 0 0]) 3 56 := ⟨Tryz.underlying75, by kernel_rfl, by kernel_rfl⟩
theorem RC.set_ (y : RC) (l : List RC) : ∀ i, (((l.flatMap RC.cs).set (i * 3) (.bool y.g)).set (i * 3 + 1) (.slice y.A y.l y.c)).set (i * 3 + 2) (.slice y.A' y.l' y.c') = (l.set i y).flatMap RC.cs := by
 induction l with
 | nil => intro i; simp
 | cons a l ih =>
  intro i
  cases i with
  | zero => simp [RC.cs]
  | succ i =>
   have := ih i
   rw [show (i + 1) * 3 = i * 3 + 3 from by omega]
   simp only [List.flatMap_cons, RC.cs, List.cons_append, List.nil_append, List.set_cons_succ] at this ⊢
   rw [this]
theorem IsN.excB {w w' : World} {b n : Nat} {v : Value} {t : TypeId} {cs : Array Value} (h : IsN w w.heap.size v n) (hb : Blk w b t cs) (o0 : ∀ i x : Nat, cs[i]? ≠ some (Ju x)) (he : Exc b w w') : IsN w' w'.heap.size v n := by
 obtain ⟨A, c, h1, h2, h3, h4, h5⟩ := h
 rcases Nat.eq_zero_or_pos (Jd n).length with h0 | h0
 ·exact ⟨A, c, h1, h2, h3, ⟨h4.1, fun hn => absurd hn (by omega)⟩, fun hn => absurd hn (by omega)⟩
 have j0 := fun ad hA => Jbw h4 h0 hb o0 ad hA
 refine ⟨A, c, h1, h2, h3, (h4.exc he zd j0).more he.size, fun hp ad hA => ?_⟩
 obtain ⟨cs', fr, h6⟩ := h5 hp ad hA
 obtain ⟨ad', e1, e2, _⟩ := h4.2 hp
 rw [hA] at e1
 obtain rfl := Option.some.inj e1
 exact ⟨cs', fr, (he.block _ e2 (j0 ad hA)).trans h6⟩
theorem IsQ.excB {w w' : World} {b : Nat} {V : Value} {q : Rat} {t : TypeId} {cs : Array Value} (h : IsQ w w.heap.size V q) (hb : Blk w b t cs) (o0 : ∀ i x : Nat, cs[i]? ≠ some (Ju x)) (he : Exc b w w') : IsQ w' w'.heap.size V q := by
 obtain ⟨v, v', h1, h2, h3⟩ := h
 exact ⟨v, v', h1, h2.excB hb o0 he, h3.excB hb o0 he⟩
theorem IsQ.below {w w' : World} {B : Nat} {V : Value} {q : Rat} (h : IsQ w B V q) (hb : Below B w w') : IsQ w' B V q := by
 obtain ⟨v, v', h1, h2, h3⟩ := h
 exact ⟨v, v', h1, h2.below hb, h3.below hb⟩
theorem IsN.row {w w' : World} {n : Nat} {v u : Value} {rl : List RC} (h : IsN w w.heap.size v n) (ho : OwnW w 28 3 RC.cs u rl) (hs : w.heap.size <= w'.heap.size) (hg : ∀ k, k < w.heap.size -> some k ≠ u.ownBlock -> w'.heap[k]? = w.heap[k]?) : IsN w' w'.heap.size v n := by
 obtain ⟨A, c, h1, h2, h3, h4, h5⟩ := h
 rcases Nat.eq_zero_or_pos (Jd n).length with h0 | h0
 ·exact ⟨A, c, h1, h2, h3, ⟨h4.1, fun hn => absurd hn (by omega)⟩, fun hn => absurd hn (by omega)⟩
 obtain ⟨ad, hA, bT, hc⟩ := h4.2 h0
 obtain ⟨cs, fr, j6⟩ := h5 h0 ad hA
 have j0 : some ad.block ≠ u.ownBlock := by
  intro e
  rcases ho.2 with ⟨h6, _⟩ | ⟨g, cap, cur, h6, _, h7, _⟩
  ·rw [h6] at e
   cases e
  rw [h6] at e
  have e2 : ad.block = g := by simpa [Value.ownBlock] using e
  rw [e2, h7] at j6
  injection j6 with j6
  injection j6 with _ ht
  exact absurd ht (by decide)
 have j8 := hg ad.block (by omega) j0
 refine ⟨A, c, h1, h2, h3, ⟨h4.1, fun _ => ⟨ad, hA, by omega, fun j x hx => ?_⟩⟩, fun _ ad' j9 => ?_⟩
 ·rw [World.cell?_of_block (w := w) (by rw [Jz]; exact j8)]
  exact hc j x hx
 rw [hA] at j9
 obtain rfl := Option.some.inj j9
 exact ⟨cs, fr, j8.trans j6⟩
theorem IsQ.row {w w' : World} {V u : Value} {q : Rat} {rl : List RC} (h : IsQ w w.heap.size V q) (ho : OwnW w 28 3 RC.cs u rl) (hs : w.heap.size <= w'.heap.size) (hg : ∀ k, k < w.heap.size -> some k ≠ u.ownBlock -> w'.heap[k]? = w.heap[k]?) : IsQ w' w'.heap.size V q := by
 obtain ⟨v, v', h1, h2, h3⟩ := h
 exact ⟨v, v', h1, h2.row ho hs hg, h3.row ho hs hg⟩
def Each (w : World) (B : Nat) (rl : List RC) (ql : List Rat) : Prop := rl.length = ql.length /\ ∀ (i : Nat) (r : RC) (q : Rat), rl[i]? = some r -> ql[i]? = some q -> IsQ w B r.v q
theorem Each.mono {w w' : World} {B B' : Nat} {rl : List RC} {ql : List Rat} (h : Each w B rl ql) (hf : ∀ V q, IsQ w B V q -> IsQ w' B' V q) : Each w' B' rl ql := ⟨h.1, fun i r q h1 h2 => hf _ _ (h.2 i r q h1 h2)⟩
theorem Each.snoc {w : World} {B : Nat} {rl : List RC} {ql : List Rat} {r : RC} {q : Rat} (h : Each w B rl ql) (hq : IsQ w B r.v q) : Each w B (rl ++ [r]) (ql ++ [q]) := by
 refine ⟨by simp [h.1], fun i r' q' h1 h2 => ?_⟩
 rcases Nat.lt_or_ge i rl.length with hi | hi
 ·rw [List.getElem?_append_left hi] at h1
  rw [List.getElem?_append_left (by rw [<- h.1]; exact hi)] at h2
  exact h.2 i r' q' h1 h2
 rw [List.getElem?_append_right hi] at h1
 rw [List.getElem?_append_right (by rw [<- h.1]; exact hi), <- h.1] at h2
 have bE : i - rl.length = 0 := by
  have := (List.getElem?_eq_some_iff.1 h1).1
  simpa using this
 rw [bE] at h1 h2
 simp at h1 h2
 subst h1; subst h2
 exact hq
theorem Each.set_ {w : World} {B : Nat} {rl : List RC} {ql : List Rat} {r : RC} {q : Rat} (h : Each w B rl ql) (hq : IsQ w B r.v q) (i : Nat) : Each w B (rl.set i r) (ql.set i q) := by
 refine ⟨by simp [h.1], fun j r' q' h1 h2 => ?_⟩
 rw [List.getElem?_set] at h1 h2
 by_cases aY : i = j
 ·subst aY
  rw [if_pos rfl] at h1 h2
  split at h1
  ·rename_i hi
   rw [if_pos (by rw [<- h.1]; exact hi)] at h2
   simp at h1 h2
   subst h1; subst h2
   exact hq
  cases h1
 rw [if_neg aY] at h1 h2
 exact h.2 j r' q' h1 h2
def ReadsR (w : World) (B : Nat) (A : Option Addr) (n : Nat) (ql : List Rat) : Prop := ∃ rl, ReadsW w B 3 RC.cs A n rl /\ Each w B rl ql
theorem ReadsR.len {w : World} {B : Nat} {A : Option Addr} {n : Nat} {ql : List Rat} (h : ReadsR w B A n ql) : ql.length = n := by
 obtain ⟨rl, h1, h2⟩ := h
 rw [<- h2.1, h1.len]
theorem ReadsR.below {w w' : World} {B : Nat} {A : Option Addr} {n : Nat} {ql : List Rat} (h : ReadsR w B A n ql) (hb : Below B w w') : ReadsR w' B A n ql := by
 obtain ⟨rl, h1, h2⟩ := h
 exact ⟨rl, h1.below hb, h2.mono fun V q h => h.below hb⟩
theorem ReadsR.cells {w : World} {B : Nat} {A : Option Addr} {n : Nat} {ql : List Rat} (h : ReadsR w B A n ql) {k : Nat} (hk : k < n) :
  ∃ ad g o r q, A = some ad /\ ad.add (k * 3) = ⟨g, o, none⟩ /\ g < B /\ ql[k]? = some q /\ w.cell? ⟨g, o, none⟩ = some (.bool (RC.g r)) /\ w.cell? ⟨g, o + 1, none⟩ = some (.slice r.A r.l r.c) /\ w.cell? ⟨g, o + 2, none⟩ = some (.slice r.A' r.l' r.c') /\ IsQ w B r.v q := by
 obtain ⟨rl, h0, he⟩ := h
 obtain ⟨ad, x, h1, h2, h3, h4⟩ := h0.at_ RC.len hk
 have c0 := h4 0 _ rfl
 have e0 := Vi c0
 rw [Nat.add_zero] at c0 e0
 have hb := Jz ad (k * 3)
 have hc : ∀ j u, x.cs[j + 1]? = some u -> w.cell? ((ad.add (k * 3)).add (j + 1)) = some u := fun j u hu => by rw [Jad]; exact h4 (j + 1) u hu
 obtain ⟨q, hq⟩ : ∃ q, ql[k]? = some q := ⟨_, List.getElem?_eq_getElem (by rw [<- he.1, h0.len]; exact hk)⟩
 cases hP : ad.add (k * 3) with
 | mk g o sp =>
  rw [hP] at c0 e0 hb hc
  obtain rfl : sp = none := e0
  exact ⟨ad, g, o, x, q, h1, hP, by have : g = ad.block := hb; omega, hq, c0, hc 0 _ rfl, hc 1 _ rfl, he.2 k x q h3 hq⟩
def OwnR (w : World) (v : Value) (ql : List Rat) : Prop := ∃ rl, OwnW w 28 3 RC.cs v rl /\ Each w w.heap.size rl ql
theorem OwnR.nil (w : World) : OwnR w (.slice none 0 0) [] := ⟨[], OwnW.nil_ _ _ _ _, rfl, fun i r q h => by simp at h⟩
theorem OwnR.next {w w' : World} {v : Value} {ql : List Rat} (h : OwnR w v ql) (hb : Below w.heap.size w w') : OwnR w' v ql := by
 obtain ⟨rl, h1, h2⟩ := h
 exact ⟨rl, h1.next hb, h2.mono fun V q h => (h.next zd hb).more hb.size⟩
theorem OwnR.lt {w : World} {v : Value} {ql : List Rat} (h : OwnR w v ql) : ∀ b, v.ownBlock = some b -> b < w.heap.size := by
 obtain ⟨rl, h1, h2⟩ := h
 exact h1.lt
theorem OwnR.form {w : World} {v : Value} {ql : List Rat} (h : OwnR w v ql) : ∃ A c, v = .slice A ql.length c /\ ql.length <= c /\ c <= maxLen := by
 obtain ⟨rl, h1, h2⟩ := h
 obtain ⟨A, c, h3, h4, h5⟩ := h1.form
 rw [h2.1] at h3 h4
 exact ⟨A, c, h3, h4, h5⟩
theorem OwnR.reads {w : World} {A : Option Addr} {n c : Nat} {ql : List Rat} (h : OwnR w (.slice A n c) ql) : ReadsR w w.heap.size A ql.length ql := by
 obtain ⟨rl, h1, h2⟩ := h
 have := h1.reads
 rw [h2.1] at this
 exact ⟨rl, this, h2⟩
theorem OwnR.other {w w' : World} {v u : Value} {ql : List Rat} {ul : List Rat} (h : OwnR w v ql) (ho : OwnR w u ul) (hs : w.heap.size <= w'.heap.size) (hg : ∀ k, k < w.heap.size -> some k ≠ u.ownBlock -> w'.heap[k]? = w.heap[k]?) (j0 : ∀ k, v.ownBlock = some k -> u.ownBlock ≠ some k) : OwnR w' v ql := by
 obtain ⟨rl, h1, h2⟩ := h
 obtain ⟨ol, o1, o2⟩ := ho
 refine ⟨rl, ⟨h1.1, ?_⟩, h2.mono fun V q h => h.row o1 hs hg⟩
 rcases h1.2 with h3 | ⟨g, cap, cur, h3, h4, h5, h6⟩
 ·exact .inl h3
 refine .inr ⟨g, cap, cur, h3, h4, (hg g (h1.lt g (by rw [h3]; rfl)) (fun e => j0 g (by rw [h3]; rfl) e.symm)).trans h5, h6⟩
theorem OwnR.excB {w w' : World} {b : Nat} {v : Value} {ql : List Rat} {t : TypeId} {cs : Array Value} (h : OwnR w v ql) (hb : Blk w b t cs) (o0 : ∀ i x : Nat, cs[i]? ≠ some (Ju x)) (he : Exc b w w') (j0 : v.ownBlock ≠ some b) : OwnR w' v ql := by
 obtain ⟨rl, h1, h2⟩ := h
 refine ⟨rl, ⟨h1.1, ?_⟩, h2.mono fun V q h => h.excB hb o0 he⟩
 rcases h1.2 with h3 | ⟨g, cap, cur, h3, h4, h5, h6⟩
 ·exact .inl h3
 exact .inr ⟨g, cap, cur, h3, h4, (he.block g (h1.lt g (by rw [h3]; rfl)) (fun e => j0 (by rw [h3, e]; rfl))).trans h5, h6⟩
theorem OwnR.store {w : World} {g n c : Nat} {ql : List Rat} {q : Rat} (h : OwnR w (.slice (some ⟨g, 0, none⟩) n c) ql) (i : Nat) (r : RC) (hq : IsQ w w.heap.size r.v q) :
  OwnR (((w.setCell ⟨g, i * 3, none⟩ (.bool r.g)).setCell ⟨g, i * 3 + 1, none⟩ (.slice r.A r.l r.c)).setCell ⟨g, i * 3 + 2, none⟩ (.slice r.A' r.l' r.c')) (.slice (some ⟨g, 0, none⟩) n c) (ql.set i q) := by
 obtain ⟨rl, h1, h2⟩ := h
 have hn : n = rl.length := by
  obtain ⟨A, c', h3, _⟩ := h1.form
  injection h3
 subst hn
 have s1 := World.ownsRow.stored h1 (i * 3) (.bool r.g)
 have s2 := World.ownsRow.stored s1.1 (i * 3 + 1) (.slice r.A r.l r.c)
 have s3 := World.ownsRow.stored s2.1 (i * 3 + 2) (.slice r.A' r.l' r.c')
 rw [RC.set_] at s3
 have hz : (((w.setCell ⟨g, i * 3, none⟩ (.bool r.g)).setCell ⟨g, i * 3 + 1, none⟩ (.slice r.A r.l r.c)).setCell ⟨g, i * 3 + 2, none⟩ (.slice r.A' r.l' r.c')).heap.size = w.heap.size := by simp
 refine ⟨rl.set i r, by unfold OwnW; rw [List.length_set]; exact s3.1, ?_⟩
 refine Each.mono (h2.set_ hq i) fun V q h => h.row h1 (by rw [hz]; exact Nat.le_refl _) fun k hk j0 => ?_
 have j7 : k ≠ g := fun e => j0 (by rw [e]; rfl)
 exact (Below.heap_setCell _ _ _ k j7).trans ((Below.heap_setCell _ _ _ k j7).trans (Below.heap_setCell _ _ _ k j7))
theorem OwnR.frozen {w : World} {g n c : Nat} {ql : List Rat} (h : OwnR w (.slice (some ⟨g, 0, none⟩) n c) ql) (j : Nat) : w.frozen? ⟨g, j, none⟩ = false := by
 obtain ⟨rl, h1, h2⟩ := h
 have hn : n = rl.length := by
  obtain ⟨A, c', h3, _⟩ := h1.form
  injection h3
 subst hn
 exact World.ownsRow.frozenAt h1 j
theorem OwnR.addr {w : World} {A : Option Addr} {n c : Nat} {ql : List Rat} (h : OwnR w (.slice A n c) ql) (hn : 0 < ql.length) : ∃ g, A = some ⟨g, 0, none⟩ := by
 obtain ⟨rl, h1, h2⟩ := h
 rcases h1.2 with ⟨h3, h4⟩ | ⟨g, cap, cur, h3, _⟩
 ·have := h2.1
  omega
 injection h3 with h3 _ _
 exact ⟨g, h3⟩
theorem Jvl (wr : World) (r : RC) : ReadsW (wr.alloc (.cells #[.bool r.g, .slice r.A r.l r.c, .slice r.A' r.l' r.c'] 28)) (wr.heap.size + 1) 3 RC.cs (some ⟨wr.heap.size, 0, none⟩) 1 [r] :=
 ⟨rfl, by
  have h : Blk (wr.alloc (.cells #[.bool r.g, .slice r.A r.l r.c, .slice r.A' r.l' r.c'] 28)) wr.heap.size 28 r.cs.toArray := Blk.new wr 28 #[.bool r.g, .slice r.A r.l r.c, .slice r.A' r.l' r.c']
  have := Reads.ofBlk h (RC.len r)
  simpa using this⟩
section
variable {ops : Array Oper} {rest : List Oper} {o : Oper} {a : Act} {Q : Exit -> Act -> World -> Prop}
theorem OwnR.snoc {wr w1 : World} {v v' : Value} {ql : List Rat} {rl : List RC} {r : RC} {q : Rat} (o9 : OwnW wr 28 3 RC.cs v rl) (he : Each wr wr.heap.size rl ql) (hq : IsQ wr wr.heap.size r.v q) (h1 : OwnW w1 28 3 RC.cs v' (rl ++ [r])) (hg : Grew wr w1 v v') : OwnR w1 v' (ql ++ [q]) :=
 ⟨_, h1, (he.snoc hq).mono fun V q h => h.row o9 hg.size fun k hk j0 => hg.block k hk j0⟩
theorem appR (aQ : o.guard = none) (s x : Operand)
  (ho : o.op = .call { callee := .builtin .append, args := #[s, x], argTypes := #[75, 75] })
  (wr : World) (v : Value) (ql : List Rat) (q : Rat) (g : Bool) (A : Option Addr) (l c : Nat) (A' : Option Addr) (l' c' : Nat) (hs : a.eval s = v) (o9 : OwnR wr v ql) (hq : IsQ wr wr.heap.size (.agg #[.bool g, .slice A l c, .slice A' l' c']) q) (hx : a.eval x = .slice (some ⟨wr.heap.size, 0, none⟩) 1 1) (hl : ql.length <= 1000000)
  (h : ∀ v' w1, OwnR w1 v' (ql ++ [q]) -> Grew wr w1 v v' -> wpList Tryz.prog ops Q rest (a.put o.dst v') w1) : wpList Tryz.prog ops Q (o :: rest) a (wr.alloc (.cells #[.bool g, .slice A l c, .slice A' l' c'] 28)) := by
 obtain ⟨rl, hr, he⟩ := o9
 have bF := he.1
 refine appW Tryz.eltR (by omega) aQ s x ho _ v rl (wr.heap.size + 1) (some ⟨wr.heap.size, 0, none⟩) 1 1 [⟨g, A, l, c, A', l', c'⟩] hs (hr.alloc _) hx (Jvl wr ⟨g, A, l, c, A', l', c'⟩) RC.one (by unfold maxLen; omega) (by omega) ?_
 intro v' w1 h1 h2
 have hg : Grew wr w1 v v' := by
  refine ⟨h2.os, h2.tape, h2.output, nt (by simp) h2.size, fun k hk j0 => (h2.block k (by simp; omega) j0).trans (Below.heap_alloc wr _ k hk), fun k hk => ?_⟩
  rcases h2.own k hk with h3 | h3
  ·exact .inl h3
  exact .inr (by simp at h3; omega)
 exact h v' w1 (OwnR.snoc (r := ⟨g, A, l, c, A', l', c'⟩) hr he hq h1 hg) hg
end
def zv (z : Int) : Value := .int .i64 z
def ReadsZ (w : World) (B : Nat) (A : Option Addr) (n : Nat) (zs : List Int) : Prop := Reads w B 1 A n (zs.map zv) /\ ∀ z ∈ zs, -9223372036854775808 <= z /\ z <= 9223372036854775807
theorem ReadsZ.len {w : World} {B n : Nat} {A : Option Addr} {zs : List Int} (h : ReadsZ w B A n zs) : zs.length = n := by
 have := h.1.1
 simpa using this
theorem ReadsZ.below {w w' : World} {B n : Nat} {A : Option Addr} {zs : List Int} (h : ReadsZ w B A n zs) (hb : Below B w w') : ReadsZ w' B A n zs := ⟨h.1.below hb, h.2⟩
theorem ReadsZ.cell {w : World} {B n : Nat} {A : Option Addr} {zs : List Int} (h : ReadsZ w B A n zs) {k : Nat} (hk : k < n) :
  ∃ ad z, A = some ad /\ zs[k]? = some z /\ w.cell? (ad.add k) = some (.int .i64 z) /\ -9223372036854775808 <= z /\ z <= 9223372036854775807 := by
 have hl := h.len
 obtain ⟨ad, h1, h2, h3⟩ := h.1.2 (by omega)
 have hz : zs[k]? = some (zs[k]'(by omega)) := List.getElem?_eq_getElem (by omega)
 refine ⟨ad, _, h1, hz, h3 k _ (by rw [List.getElem?_map, hz]; rfl), h.2 _ (List.getElem_mem _)⟩
theorem IsQ.set3 {w : World} {B g : Nat} {V : Value} {q : Rat} {t : TypeId} {a : Bool} {A A' : Option Addr} {l c l' c' : Nat} (h : IsQ w B V q) (hb : Blk w g t #[.bool a, .slice A l c, .slice A' l' c']) (x : Bool) (X X' : Option Addr) (m d m' d' : Nat) :
  IsQ (((w.setCell ⟨g, 0, none⟩ (.bool x)).setCell ⟨g, 1, none⟩ (.slice X m d)).setCell ⟨g, 2, none⟩ (.slice X' m' d')) B V q := by
 obtain ⟨v, v', h1, h2, h3⟩ := h
 exact ⟨v, v', h1, h2.set3 hb (Xx _) (Qs _ _ _) (Qs _ _ _) _ _ _ (Xx _) (Qs _ _ _), h3.set3 hb (Xx _) (Qs _ _ _) (Qs _ _ _) _ _ _ (Xx _) (Qs _ _ _)⟩
def AccRel (w : World) (b0 b3 : Nat) (s : Rat) (wr : World) : Prop :=
 ∃ g A l c A' l' c', Blk wr b0 28 #[.bool false, .slice none 0 0, .slice none 0 0] /\ Blk wr b3 28 #[.bool g, .slice A l c, .slice A' l' c'] /\ IsQ wr wr.heap.size (.agg #[.bool g, .slice A l c, .slice A' l' c']) s /\ Below w.heap.size w wr
theorem AccRel.store {w wr : World} {b0 b3 : Nat} {s : Rat} {g x : Bool} {A A' X X' : Option Addr} {l c l' c' m d m' d' : Nat} (h0 : Blk wr b0 28 #[.bool false, .slice none 0 0, .slice none 0 0]) (h3 : Blk wr b3 28 #[.bool g, .slice A l c, .slice A' l' c'])
  (hq : IsQ wr wr.heap.size (.agg #[.bool x, .slice X m d, .slice X' m' d']) s) (hb : Below w.heap.size w wr) (j0 : b0 ≠ b3) (hg : w.heap.size <= b3) :
  AccRel w b0 b3 s (((wr.setCell ⟨b3, 0, none⟩ (.bool x)).setCell ⟨b3, 1, none⟩ (.slice X m d)).setCell ⟨b3, 2, none⟩ (.slice X' m' d')) := by
 refine ⟨x, X, m, d, X', m', d', ?_, ?_, ?_, Kw hb hg _ _ _⟩
 ·exact ((h0.far (p := ⟨b3, 0, none⟩) j0 (.bool x)).far (p := ⟨b3, 1, none⟩) j0 (.slice X m d)).far (p := ⟨b3, 2, none⟩) j0 (.slice X' m' d')
 ·simpa using ((h3.set_ 0 (.bool x)).set_ 1 (.slice X m d)).set_ 2 (.slice X' m' d')
 rw [World.size_setCell, World.size_setCell, World.size_setCell]
 exact hq.set3 h3 x X X' m d m' d'
theorem Jvn (A : Option Addr) (n c B m : Nat) (ql : List Rat) (w : World) (h : ReadsR w B A n ql) (hB : B <= w.heap.size) (hn : n <= 1000000) (hm : m <= 68000) (hl : ∀ x ∈ ql, QS m x) :
  Calls Tryz.prog 74 #[.slice A n c] w (Jmv (Jck ql) w) := by
 have HS := lh (QS.sum ql hl)
 have HL := lh hl
 have HLN := lh h.len
 have HR := lh h
 clear h hl
 obtain ⟨b0, hB, hZ⟩ := bx1 w 28 #[.bool false, .slice none 0 0, .slice none 0 0]
 go_enter Tryz.func74, Tryz.ntmps74
 go_wp2_with fail
 generalize (w.alloc (.cells #[.bool false, .slice none 0 0, .slice none 0 0] 28)) = W at *
 refine (Jus 0 W (by omega) (by omega)).mono ?_
 rintro e w1 ⟨v1, rfl, aA, aB⟩
 obtain ⟨g1, A1, l1, c1c, A1', l1', c1c', rfl⟩ := aA.shape
 have b0 := b0.below aB b0.lt
 have bG := b0.lt
 have b0 := b0.alloc (.cells #[.bool g1, .slice A1 l1 c1c, .slice A1' l1' c1c'] 28)
 have aP := Jb w1 (.cells #[.bool g1, .slice A1 l1 c1c, .slice A1' l1' c1c'] 28)
 have HI : Hid (AccRel w w.heap.size w1.heap.size (Jck (ql.take 0)) (w1.alloc (.cells #[.bool g1, .slice A1 l1 c1c, .slice A1' l1' c1c'] 28))) :=
  lh ⟨g1, A1, l1, c1c, A1', l1', c1c', b0, Blk.new _ _ _, (aA.next zd aP).more aP.size, Ja (Ja hB aB) aP⟩
 have aZ := Ja hB aB
 have bH : w.heap.size <= w1.heap.size := aZ.size
 clear b0 aP aA hB aZ aB
 go_wp2_with fail
 generalize w1.alloc (.cells #[.bool g1, .slice A1 l1 c1c, .slice A1' l1' c1c'] 28) = w2 at *
 generalize w1.heap.size = b3 at *
 have j0 : w.heap.size ≠ b3 := by omega
 have bI : ¬ w.heap.size = b3 := j0
 have bJ : ¬ b3 = w.heap.size := by omega
 go_loopw [4] (fun p wr => ∃ (k : Nat), k <= n /\ p = .int .i64 (k : Int) /\ AccRel w w.heap.size b3 (Jck (ql.take k)) wr) (fun p _ => n - (intOf p).toNat)
 case atStart => exact ⟨0, by omega, rfl, HI.out⟩
 case round =>
  obtain ⟨k, hk, rfl, g, Aa, l, c9, Aa', l', c9', h0, h3, hq, aN⟩ := hrel
  rename World => wr
  clear HI
  by_cases bK : k < n
  ·have k1 : (k : Int) < (n : Int) := by omega
   obtain ⟨ad, gg, o, r, q, rfl, hP, bU, hx, x0, x1, x2, bA⟩ := (HR.out.below (aN.mono hB)).cells bK
   have bB : QS 68719476736 (Jck (ql.take k)) := by
    refine (HS.out k).mono ?_
    have := Nat.mul_le_mul (show k <= 1000000 by omega) (show m + 1 <= 68001 by omega)
    omega
   have bC : QS 68719476736 q := (HL.out q (List.mem_of_getElem? hx)).mono (by omega)
   have aO := Jve _ _ _ _ _ wr.drew (hq.next zd (Jt wr)) ((bA.next (nt hB aN.size) (Jt wr)).more (nt hB aN.size)) zd bB bC
   rw [<- Jd1 ql k q hx] at aO
   obtain ⟨rg, rA, rl, rc, rA', rl', rc'⟩ := r
   unfold RC.v at aO
   simp only [] at x0 x1 x2 aO
   have HAD := lh aO
   have HB := lh aN
   clear aO bB bC hx hq bA
   obtain ⟨aR, aS, aT⟩ := h3.c3
   go_upto_region 5 with fail
   first | (go_region_with (go_at_call 113; (with_reducible refine HAD.out.mono ?_); rintro e w5 ⟨v5, rfl, bD, bL⟩; obtain ⟨g5, A5, l5, c5, A5', l5', c5', bM⟩ := bD.shape; subst bM; have aU := Ja (Jt wr) bL; have d0 := h0.below aU h0.lt; have d3 := h3.below aU h3.lt; have HF := lh (AccRel.store (w := w) d0 d3 bD (Ja HB.out aU) j0 bH); obtain ⟨d3q0, d3q1, d3q2, d3f0, d3f1, d3f2, d3s0, d3s1, d3s2⟩ := d3.f3)) | fail
   all_goals
    go_wp2
    exact ⟨⟨k + 1, by omega, by go_num, HF.out⟩, by simp [intOf]; omega⟩
  obtain rfl : k = n := by omega
  have k1 : ¬ (k : Int) < (k : Int) := by omega
  rw [List.take_of_length_le (by have := HLN.out; omega)] at hq
  have HF := lh (Jd4 (Below.refl _ _) aN hq h0 zd)
  obtain ⟨aR, aS, aT⟩ := h3.c3
  obtain ⟨bN, bO, bP, bQ, bR, bS, aV, aW, aX⟩ := h0.f3
  clear hq aN
  go_wp2
  refine bodyPost_ret (v := .agg #[.bool g, .slice Aa l c9, .slice Aa' l' c9']) (by simp [results, Tryz.results74, go_sem, aV, aW, aX]) rfl ?_
  exact HF.out
section
variable {ops : Array Oper} {o : Oper} {a : Act} {Q : Exit -> Act -> World -> Prop} {K : Act -> World -> Prop} {Z : Prop}
theorem Jvw (aQ : o.guard = none) (s x : Operand)
  (ho : o.op = .call { callee := .builtin .append, args := #[s, x], argTypes := #[75, 75] })
  (wr : World) (v : Value) (ql : List Rat) (q : Rat) (g : Bool) (A : Option Addr) (l c : Nat) (A' : Option Addr) (l' c' : Nat) (hs : a.eval s = v) (o9 : OwnR wr v ql) (hq : IsQ wr wr.heap.size (.agg #[.bool g, .slice A l c, .slice A' l' c']) q) (hx : a.eval x = .slice (some ⟨wr.heap.size, 0, none⟩) 1 1) (hl : ql.length <= 1000000)
  (h : ∀ v' w1, OwnR w1 v' (ql ++ [q]) -> Grew wr w1 v v' -> K (a.put o.dst v') w1) : if Region.wanted o (yielded ops a.tmps) = true then Oper.wp Tryz.prog o a (wr.alloc (.cells #[.bool g, .slice A l c, .slice A' l' c'] 28)) K Q else Z := by
 obtain ⟨rl, hr, he⟩ := o9
 have bF := he.1
 refine Jvv Tryz.eltR (by omega) aQ s x ho _ v rl (wr.heap.size + 1) (some ⟨wr.heap.size, 0, none⟩) 1 1 [⟨g, A, l, c, A', l', c'⟩] hs (hr.alloc _) hx (Jvl wr ⟨g, A, l, c, A', l', c'⟩) RC.one (by unfold maxLen; omega) (by omega) ?_
 intro v' w1 h1 h2
 have hg : Grew wr w1 v v' := by
  refine ⟨h2.os, h2.tape, h2.output, nt (by simp) h2.size, fun k hk j0 => (h2.block k (by simp; omega) j0).trans (Below.heap_alloc wr _ k hk), fun k hk => ?_⟩
  rcases h2.own k hk with h3 | h3
  ·exact .inl h3
  exact .inr (by simp at h3; omega)
 exact h v' w1 (OwnR.snoc (r := ⟨g, A, l, c, A', l', c'⟩) hr he hq h1 hg) hg
end
structure AtR (w : World) (g o : Nat) (r : RC) : Prop where
 c3 : w.cell? ⟨g, o, none⟩ = some (.bool r.g) /\ w.cell? ⟨g, o + 1, none⟩ = some (.slice r.A r.l r.c) /\ w.cell? ⟨g, o + 2, none⟩ = some (.slice r.A' r.l' r.c')
theorem AtR.lt {w : World} {g o : Nat} {r : RC} (h : AtR w g o r) : g < w.heap.size := Xw h.c3.1
theorem AtR.below {w w' : World} {g o B : Nat} {r : RC} (h : AtR w g o r) (hb : Below B w w') (hg : g < B) : AtR w' g o r := by
 obtain ⟨h0, h1, h2⟩ := h.c3
 refine ⟨?_⟩
 rw [hb.cell (p := ⟨g, o, none⟩) hg, hb.cell (p := ⟨g, o + 1, none⟩) hg, hb.cell (p := ⟨g, o + 2, none⟩) hg]
 exact ⟨h0, h1, h2⟩
theorem AtR.drew {w : World} {g o : Nat} {r : RC} (h : AtR w g o r) : AtR w.drew g o r := h.below (Jt w) h.lt
theorem AtR.alloc {w : World} {g o : Nat} {r : RC} (h : AtR w g o r) (b : Obj) : AtR (w.alloc b) g o r := h.below (Jb w b) h.lt
theorem AtR.yy {w w' V : World} {g o : Nat} {r : RC} {n : Nat} (h : AtR w g o r) (hb : Below n V w') (hs : Sbw n w V := by first | exact sb0 _ | exact sb1 _ _ | exact sb2 _ _ _) : AtR w' g o r := (h.below hs.1 h.lt).below hb (Nat.lt_of_lt_of_le h.lt hs.2)
theorem AtR.zc3 {w w' V : World} {g o : Nat} {r : RC} {n : Nat} (h : AtR w g o r) (hb : Below n V w') (hs : Sbw n w V := by first | exact sb0 _ | exact sb1 _ _ | exact sb2 _ _ _) : AtR w' g o r /\ w'.cell? ⟨g, o, none⟩ = some (.bool r.g) /\ w'.cell? ⟨g, o + 1, none⟩ = some (.slice r.A r.l r.c) /\ w'.cell? ⟨g, o + 2, none⟩ = some (.slice r.A' r.l' r.c') := have h := h.yy hb hs; ⟨h, h.c3⟩
theorem ReadsR.at_ {w : World} {B : Nat} {A : Option Addr} {n : Nat} {l : List Rat} (h : ReadsR w B A n l) {k : Nat} {x : Rat} (hx : l[k]? = some x) (hk : k < n) : ∃ ad g o r, A = some ad /\ ad.add (k * 3) = ⟨g, o, none⟩ /\ g < B /\ AtR w g o r /\ IsQ w B r.v x := by
 obtain ⟨ad, g, o, r, y, h1, h2, h3, h4, x0, x1, x2, hq⟩ := h.cells hk
 obtain rfl := Option.some.inj (hx.symm.trans h4)
 exact ⟨ad, g, o, r, h1, h2, h3, ⟨x0, x1, x2⟩, hq⟩
