import Derived.Test.YtacbcaebaomglaaGreatDoorLinkFarsP
namespace Go.Proofs.YtacbcaebaomglaaGreatDoor
open Go.RowKit
set_option linter.all false
def upA (n m : Nat) : Array Bool := ((List.range n).map fun j => decide (j < m)).toArray
theorem Jil (n : Nat) : Array.replicate n false = upA n 0 := by
 refine Array.ext (by simp [upA]) fun i h1 h2 => by simp [upA]
theorem Jgv {n m : Nat} (h : m < n) : (upA n m).setIfInBounds m true = upA n (m + 1) := by
 unfold upA
 rw [List.setIfInBounds_toArray]
 congr 1
 refine List.ext_getElem (by simp) fun i h1 h2 => ?_
 rw [List.getElem_set]
 simp only [List.getElem_map, List.getElem_range]
 by_cases hi : m = i
 ·subst hi; simp
 rw [if_neg hi]
 by_cases h3 : i < m
 ·simp [h3, show i < m + 1 by omega]
 simp [h3, show ¬ i < m + 1 by omega]
section
variable {P : Program} {ops : Array Oper} {Q : Exit -> Act -> World -> Prop} {S : World -> Prop}
def Uv (P : Program) (ops : Array Oper) (Q : Exit -> Act -> World -> Prop) (S : World -> Prop) (m : Nat) (a : Act) (w : World) : Prop := wpAnyH P .any ops Q S (ops.size - m) (upA ops.size m) a w
theorem Kn {id : Nat} {a : Act} {w : World} (hm : P.follows .mixedOrders = true) (hS : S w.drew) (h : S w.drew -> Uv P ops Q S 0 a w.drew) : (Code.region id ops true).wp P Q a w :=
 wp_region_held_drew hm hS fun h1 => by rw [Jil]; exact h h1
theorem Qt {m : Nat} {oi : Oper} {v : Value} {a : Act} {w : World} (hi : ops[m]? = some oi) (hk : (Region.noSelect ops && Region.free .any ops (upA ops.size m) m && (Region.ready .any ops (upA ops.size m)).contains m) = true)
  (hQ : ∀ c a w, Q (.panic c) (a.put oi.dst v) w -> Q (.panic c) a w) (hy : YieldsIf P ops S oi v a) (hS : S w) (h : Uv P ops Q S (m + 1) (a.put oi.dst v) w) : Uv P ops Q S m a w := by
 have hm : m < ops.size := (Array.getElem?_eq_some_iff.1 hi).1
 simp only [Bool.and_eq_true] at hk
 unfold Uv at *
 rw [show ops.size - m = (ops.size - (m + 1)) + 1 by omega]
 refine wpAnyH_take hi hk.1.1 hk.1.2 hk.2 hQ hy hS ?_
 rw [Jgv hm]
 exact h
theorem Jb0 {m : Nat} {o : Oper} {a : Act} {w : World} (ho : ops[m]? = some o) (hk : Region.ready .any ops (upA ops.size m) = [m])
  (h : ∀ K' : Act -> World -> Prop, Shut (∀ a w, S w -> (S w -> Uv P ops Q S (m + 1) a w) -> K' a w) -> if Region.wanted o (yielded ops a.tmps) = true then Oper.wp P o a w K' Q else K' (a.put o.dst undef) w) : Uv P ops Q S m a w := by
 have hm : m < ops.size := (Array.getElem?_eq_some_iff.1 ho).1
 unfold Uv at *
 rw [show ops.size - m = (ops.size - (m + 1)) + 1 by omega]
 refine wpAnyH_ready hk (by simp) (AllReadyH.cons ho (fun K' hK => h K' ?_) AllReadyH.nil)
 rw [<- Jgv hm]
 exact hK
theorem Up {m : Nat} {a : Act} {w : World} (hr : Region.ready .any ops (upA ops.size m) = []) (h : Q .normal a w) : Uv P ops Q S m a w := wpAnyH_done hr h _
end
theorem Tryz.eltM : Elt Tryz.prog 24 42 (.slice none 0 0) 24 := ⟨Tryz.underlying24, by kernel_rfl, by kernel_rfl⟩
