import Derived.Test.YtcoloflmigcphaaGreatDoorRefQ
import Derived.Test.YtcoloflmigcphaaGreatDoorHand
import Derived.Test.YtcoloflmigcphaaGreatDoorRowQ
import Derived.Deep.DeepCutAuto
import Derived.Deep.CutBlock
namespace Go.Proofs.YtcoloflmigcphaaGreatDoor
open Go.RowKit
set_option linter.all false
structure RC where
 g : Bool
 A : Option Addr
 l : Nat
 c : Nat
 A' : Option Addr
 l' : Nat
 c' : Nat
def RC.cs (r : RC) : List Value := [.bool r.g, .slice r.A r.l r.c, .slice r.A' r.l' r.c']
def RC.v (r : RC) : Value := .agg #[.bool r.g, .slice r.A r.l r.c, .slice r.A' r.l' r.c']
theorem IsN.excB {w w' : World} {b n : Nat} {v : Value} {t : TypeId} {cs : Array Value} (h : IsN w w.heap.size v n) (hb : Blk w b t cs) (o0 : ∀ i x : Nat, cs[i]? ≠ some (Ju x)) (he : Exc b w w') : IsN w' w'.heap.size v n := by
 obtain ⟨A, c, h1, h2, h3, h4, h5⟩ := h
 rcases Nat.eq_zero_or_pos (Jd n).length with h0 | h0
 ·exact ⟨A, c, h1, h2, h3, ⟨h4.1, fun hn => absurd hn (by omega)⟩, fun hn => absurd hn (by omega)⟩
 have j0 := fun ad hA => Jbw h4 h0 hb o0 ad hA
 refine ⟨A, c, h1, h2, h3, (h4.exc he zd j0).more he.size, fun hp ad hA => ?_⟩
 obtain ⟨cs', fr, h6⟩ := h5 hp ad hA
 obtain ⟨ad', e1, e2, _⟩ := h4.2 hp
 rw [hA] at e1
 obtain rfl := Option.some.inj e1
 exact ⟨cs', fr, (he.block _ e2 (j0 ad hA)).trans h6⟩
theorem IsQ.excB {w w' : World} {b : Nat} {V : Value} {q : Rat} {t : TypeId} {cs : Array Value} (h : IsQ w w.heap.size V q) (hb : Blk w b t cs) (o0 : ∀ i x : Nat, cs[i]? ≠ some (Ju x)) (he : Exc b w w') : IsQ w' w'.heap.size V q := by
 obtain ⟨v, v', h1, h2, h3⟩ := h
 exact ⟨v, v', h1, h2.excB hb o0 he, h3.excB hb o0 he⟩
theorem IsQ.below {w w' : World} {B : Nat} {V : Value} {q : Rat} (h : IsQ w B V q) (hb : Below B w w') : IsQ w' B V q := by
 obtain ⟨v, v', h1, h2, h3⟩ := h
 exact ⟨v, v', h1, h2.below hb, h3.below hb⟩
def Each (w : World) (B : Nat) (rl : List RC) (ql : List Rat) : Prop := rl.length = ql.length /\ ∀ (i : Nat) (r : RC) (q : Rat), rl[i]? = some r -> ql[i]? = some q -> IsQ w B r.v q
def OwnR (w : World) (v : Value) (ql : List Rat) : Prop := ∃ rl, OwnW w 28 3 RC.cs v rl /\ Each w w.heap.size rl ql
theorem OwnR.nil (w : World) : OwnR w (.slice none 0 0) [] := ⟨[], OwnW.nil_ _ _ _ _, rfl, fun i r q h => by simp at h⟩
section
variable {ops : Array Oper} {rest : List Oper} {o : Oper} {a : Act} {Q : Exit -> Act -> World -> Prop}
end
def zv (z : Int) : Value := .int .i64 z
section
variable {ops : Array Oper} {o : Oper} {a : Act} {Q : Exit -> Act -> World -> Prop} {K : Act -> World -> Prop} {Z : Prop}
end