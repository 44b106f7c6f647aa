/-
  Rows of the program's fractions: stores, reads by address, rows that are made.
-/
import Derived.Test.YtbjemjopcoajcaaGreatDoorRowQ
namespace Go.Proofs.YtbjemjopcoajcaaGreatDoor
open Go.RowKit
set_option linter.unusedSimpArgs false
set_option linter.unusedVariables false

theorem qC_set (y : Rat) (l : List Rat) : ∀ i, ((((((l.flatMap qC).set (i * 5) (.bool (decide (y.num < 0)))).set (i * 5 + 1) (.int .u64 (lo y.num.natAbs : Int))).set (i * 5 + 2) (.string (mo y.num.natAbs))).set (i * 5 + 3) (.int .u64 (lo (qden y) : Int))).set (i * 5 + 4) (.string (mo (qden y)))) = (l.set i y).flatMap qC := by
  induction l with
  | nil => intro i; simp
  | cons a l ih =>
    intro i
    cases i with
    | zero => simp [qC]
    | succ i =>
      have := ih i
      rw [show (i + 1) * 5 = i * 5 + 5 from by omega]
      simp only [List.flatMap_cons, qC, List.cons_append, List.nil_append, List.set_cons_succ] at this ⊢
      rw [this]
theorem OwnQ.len {w : World} {A : Option Addr} {n c : Nat} {l : List Rat} (h : OwnQ w (.slice A n c) l) : n = l.length := by
  obtain ⟨A', c', h3, _⟩ := OwnW.form h
  injection h3
theorem OwnQ.frozen {w : World} {g n c : Nat} {l : List Rat} (h : OwnQ w (.slice (some ⟨g, 0, none⟩) n c) l) (j : Nat) : w.frozen? ⟨g, j, none⟩ = false := by
  obtain rfl := OwnQ.len h
  exact World.ownsRow.frozenAt h j
theorem OwnQ.addr {w : World} {A : Option Addr} {n c : Nat} {l : List Rat} (h : OwnQ w (.slice A n c) l) (hn : 0 < l.length) : ∃ g, A = some ⟨g, 0, none⟩ := by
  rcases h.2 with ⟨h3, h4⟩ | ⟨g, cap, cur, h3, _⟩
  · omega
  · injection h3 with h3 _ _
    exact ⟨g, h3⟩
/-- a member's cells, by address -/
theorem OwnQ.cell5 {w : World} {g n c : Nat} {l : List Rat} (h : OwnQ w (.slice (some ⟨g, 0, none⟩) n c) l) {k : Nat} {x : Rat} (hx : l[k]? = some x) :
    w.cell? ⟨g, k * 5, none⟩ = some (.bool (decide (x.num < 0))) ∧ w.cell? ⟨g, k * 5 + 1, none⟩ = some (.int .u64 (lo x.num.natAbs : Int)) ∧ w.cell? ⟨g, k * 5 + 2, none⟩ = some (.string (mo x.num.natAbs)) ∧
      w.cell? ⟨g, k * 5 + 3, none⟩ = some (.int .u64 (lo (qden x) : Int)) ∧ w.cell? ⟨g, k * 5 + 4, none⟩ = some (.string (mo (qden x))) := by
  obtain rfl := OwnQ.len h
  have hk : k < l.length := (List.getElem?_eq_some_iff.1 hx).1
  have hc : ∀ j, j < 5 → w.cell? ⟨g, k * 5 + j, none⟩ = (qC x)[j]? := fun j hj => by
    rw [World.ownsRow.cellAt h (k * 5 + j) (by omega)]
    exact flatW_at qC_len l k j _ hx hj
  exact ⟨hc 0 (by omega), hc 1 (by omega), hc 2 (by omega), hc 3 (by omega), hc 4 (by omega)⟩
/-- a member is stored -/
theorem OwnQ.store {w : World} {g n c : Nat} {l : List Rat} (h : OwnQ w (.slice (some ⟨g, 0, none⟩) n c) l) (i : Nat) (y : Rat) :
    OwnQ (((((w.setCell ⟨g, i * 5, none⟩ (.bool (decide (y.num < 0)))).setCell ⟨g, i * 5 + 1, none⟩ (.int .u64 (lo y.num.natAbs : Int))).setCell ⟨g, i * 5 + 2, none⟩ (.string (mo y.num.natAbs))).setCell ⟨g, i * 5 + 3, none⟩ (.int .u64 (lo (qden y) : Int))).setCell ⟨g, i * 5 + 4, none⟩ (.string (mo (qden y)))) (.slice (some ⟨g, 0, none⟩) n c) (l.set i y) := by
  obtain rfl := OwnQ.len h
  have s1 := World.ownsRow.stored h (i * 5) (.bool (decide (y.num < 0)))
  have s2 := World.ownsRow.stored s1.1 (i * 5 + 1) (.int .u64 (lo y.num.natAbs : Int))
  have s3 := World.ownsRow.stored s2.1 (i * 5 + 2) (.string (mo y.num.natAbs))
  have s4 := World.ownsRow.stored s3.1 (i * 5 + 3) (.int .u64 (lo (qden y) : Int))
  have s5 := World.ownsRow.stored s4.1 (i * 5 + 4) (.string (mo (qden y)))
  rw [qC_set] at s5
  unfold OwnQ OwnW
  rw [List.length_set]
  exact s5.1
theorem madeQ (n : Nat) : (madeCells #[.bool false, .int .u64 0, .string ⟨#[]⟩, .int .u64 0, .string ⟨#[]⟩] (n * 5)).toList = (List.replicate n (0 : Rat)).flatMap qC := by
  apply List.ext_getElem?
  intro j
  by_cases hj : j < n * 5
  · have hi : j / 5 < n := by omega
    have e : j = j / 5 * 5 + j % 5 := by omega
    have h := flatW_at qC_len (List.replicate n (0 : Rat)) (j / 5) (j % 5) 0 (by rw [List.getElem?_replicate, if_pos hi]) (by omega)
    rw [← e] at h
    rw [h]
    have h5 : j % 5 = 0 ∨ j % 5 = 1 ∨ j % 5 = 2 ∨ j % 5 = 3 ∨ j % 5 = 4 := by omega
    have h6 : (madeCells #[.bool false, .int .u64 0, .string ⟨#[]⟩, .int .u64 0, .string ⟨#[]⟩] (n * 5)).toList[j]? = some ((#[.bool false, .int .u64 0, .string ⟨#[]⟩, .int .u64 0, .string ⟨#[]⟩] : Array Value)[j % 5]!) := by
      unfold madeCells
      rw [Array.getElem?_toList, Array.getElem?_map, Array.getElem?_range, if_pos hj]
      rfl
    rw [h6]
    rcases h5 with h5 | h5 | h5 | h5 | h5 <;> rw [h5] <;> rfl
  · rw [List.getElem?_eq_none (by simp [size_madeCells]; omega), List.getElem?_eq_none (by rw [flatW_len qC_len, List.length_replicate]; omega)]
/-- 'make([]frac.Q, n)' -/
theorem make_q (n : Nat) (hn : n ≤ 1000000) (w : World) : ∃ w', (Instr.makeSlice 28 (.int .i64 (n : Int)) (.int .i64 (n : Int))).run Tryz.prog w = .ok (.slice (some ⟨w.heap.size, 0, none⟩) n n) w' ∧ OwnQ w' (.slice (some ⟨w.heap.size, 0, none⟩) n n) (List.replicate n 0) ∧ Below w.heap.size w w' := by
  obtain ⟨i0, hi0, hz0, hz1, hz2⟩ := info_parts (Tryz.eltQ).info
  obtain ⟨w', h1, h2, h3⟩ := run_makeSlice_full (P := Tryz.prog) (w := w) 0 28 52 i0 _ 5 (Tryz.eltQ).under hi0 hz0 hz1 .i64 .i64 n (by omega) (by rw [hz2]; omega) (by unfold maxLen; omega) (Nat.zero_le _)
  refine ⟨w', h1, ?_, ?_⟩
  · unfold OwnQ OwnW
    rw [List.length_replicate, ← madeQ]
    exact h2
  · obtain ⟨k1, k2, k3, k4, k5⟩ := h3
    exact ⟨k1, k2, k3, k4, fun k hk => k5 k hk (by simp)⟩
end Go.Proofs.YtbjemjopcoajcaaGreatDoor
