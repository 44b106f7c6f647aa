/-
  dice.Draw of no number; the marks that the law on orders makes.
-/
import Derived.Test.YtjmbpnogicdkgaaDoorOrder
namespace Go.Proofs.YtjmbpnogicdkgaaDoor
open Go.RowKit
set_option linter.unusedSimpArgs false
set_option linter.unusedVariables false

theorem dice_draw_none (b n : Nat) (w : World) (hn1 : 1 ≤ n) (hn2 : n ≤ 9223372036854775807) :
    Calls Tryd.prog 23 #[.pointer (some ⟨b, 0, none⟩), .int .i64 (n : Int), .int .i64 0] w fun e w' => e = .returned (.slice none 0 0) ∧ w = w' := by
  have hc1 : decide ((n : Int) < 1) = false := by simp; omega
  go_enter Tryd.func23, Tryd.ntmps23
  go_wp2
  go_ret
  exact ⟨rfl, rfl⟩

/-- Draw of k numbers, none too -/
theorem dice_draw_any (b s n k : Nat) (w : World) (hs : s < 18446744073709551616) (hn1 : 1 ≤ n) (hn2 : n ≤ 9223372036854775807) (hk2 : k ≤ 65536) (hd : Blk w b 82 #[.int .u64 (s : Int)]) :
    Calls Tryd.prog 23 #[.pointer (some ⟨b, 0, none⟩), .int .i64 (n : Int), .int .i64 (k : Int)] w fun e w' => ∃ A, e = .returned (.slice A k k) ∧ (∀ ad, A = some ad → w.heap.size ≤ ad.block) ∧
      Reads w' w'.heap.size 1 A k ((Dice.draws n k s).1.map iv) ∧ Blk w' b 82 #[.int .u64 (((Dice.draws n k s).2 : Nat) : Int)] ∧ Below w.heap.size (w.setCell ⟨b, 0, none⟩ (.int .u64 (((Dice.draws n k s).2 : Nat) : Int))) w' := by
  by_cases hk : k = 0
  · subst hk
    refine (dice_draw_none b n w hn1 hn2).mono ?_
    rintro e w' ⟨rfl, rfl⟩
    rw [Dice.draws_zero]
    refine ⟨none, rfl, (fun _ h => by cases h), Reads.none_, hd, ?_⟩
    rw [hd.setCell_self 0 (.int .u64 (s : Int)) rfl]
    exact Below.refl _ _
  · refine (dice_draw b s n k w hs hn1 hn2 (by omega) hk2 hd).mono ?_
    rintro e w' ⟨rfl, h1, h2, h3⟩
    have hr := h1.reads
    rw [Dice.draws_len] at hr
    exact ⟨_, rfl, (fun ad h => by cases h; exact Nat.le_refl _), hr.more h1.lt, h2, h3⟩

namespace Dice
/-- the marks after k rounds: 1 at each of the first k numbers of l -/
def marks (l : List Nat) (n k : Nat) : List Nat := (l.take k).foldl (fun m x => m.set x 1) (List.replicate n 0)
theorem marks_succ (l : List Nat) (n k v : Nat) (h : l[k]? = some v) : marks l n (k + 1) = (marks l n k).set v 1 := by
  unfold marks
  rw [List.take_add_one, h, List.foldl_append]
  rfl
theorem fold_other (t : List Nat) : ∀ (m : List Nat) (v : Nat), v ∉ t → (t.foldl (fun m x => m.set x 1) m)[v]? = m[v]? := by
  induction t with
  | nil => intro m v _; rfl
  | cons x t ih =>
    intro m v hv
    simp only [List.mem_cons, not_or] at hv
    rw [List.foldl_cons, ih _ v hv.2, List.getElem?_set_ne (fun h => hv.1 h.symm)]
theorem marks_at (l : List Nat) (n k v : Nat) (hp : Perm n l) (hk : k < n) (h : l[k]? = some v) : (marks l n k)[v]? = some 0 := by
  obtain ⟨h1, h2, h3⟩ := hp
  have hv : v < n := h2 v (List.mem_of_getElem? h)
  unfold marks
  rw [fold_other]
  · rw [List.getElem?_replicate]
    simp [hv]
  · intro hm
    obtain ⟨j, hj⟩ := List.getElem?_of_mem hm
    rw [List.getElem?_take] at hj
    split at hj
    · have := h3 j k (by omega) hk (by rw [hj, h])
      omega
    · cases hj
theorem order_perm (n s : Nat) (hn : 1 ≤ n) : Perm n (order n s).1 := shuffle_perm n (n - 1) _ s (by omega) (perm_range n)
theorem order_state (n s : Nat) (hs : s < 18446744073709551616) : (order n s).2 < 18446744073709551616 := shuffle_state _ _ _ hs
end Dice
end Go.Proofs.YtjmbpnogicdkgaaDoor
