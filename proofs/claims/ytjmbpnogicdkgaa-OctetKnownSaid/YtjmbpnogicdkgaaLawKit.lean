/-
  How the arguments of a statement are read: slices of bytes.
-/
import Derived.Test.YtjmbpnogicdkgaaOwn
namespace Go.Proofs.Ytjmbpnogicdkgaa
open Go.RowKit
set_option linter.unusedSimpArgs false
set_option linter.unusedVariables false

/-- a slice of integers that came in: nil, or a row of 'cap' cells, the numbers zs, each fitting its kind -/
def IsRow (k : IntKind) (w : World) (a : Option Addr) (len cap : Nat) (zs : List Int) : Prop :=
  (a = none ∧ len = 0 ∧ cap = 0 ∧ zs = []) ∨
  ∃ x, a = some x ∧ len ≤ cap ∧ cap ≤ maxLen ∧ zs.length = cap ∧ (∀ i, i < zs.length → w.cell? (x.add i) = some (.int k (zs.getD i 0))) ∧ ∀ n ∈ zs, (Lit.int k n).wf = true

theorem cell_lt {w : World} {p : Addr} {v : Value} (h : w.cell? p = some v) : p.block < w.heap.size := by
  rcases Nat.lt_or_ge p.block w.heap.size with h1 | h1
  · exact h1
  · unfold World.cell? at h
    rw [Array.getElem?_eq_none h1] at h
    simp at h

/-- the bytes of a slice that came in -/
theorem IsRow.bytes {w : World} {a : Option Addr} {len cap : Nat} {zs : List Int} (h : IsRow .u8 w a len cap zs) : ∃ bs : List UInt8, Bytes w w.heap.size a len bs ∧ len ≤ cap ∧ cap ≤ 9223372036854775807 := by
  rcases h with ⟨rfl, rfl, rfl, rfl⟩ | ⟨x, rfl, hl, hm, hz, hc, hw⟩
  · exact ⟨[], Reads.none_, by omega, by omega⟩
  · refine ⟨(zs.take len).map (fun z => UInt8.ofNat z.toNat), ⟨by simp [hz]; omega, fun hn => ⟨x, rfl, ?_, fun j u hu => ?_⟩⟩, hl, by unfold maxLen at hm; omega⟩
    · have := cell_lt (hc 0 (by omega))
      rw [block_of_add] at this
      exact this
    · have hj : j < len := by
        have := (List.getElem?_eq_some_iff.1 hu).1
        simp at this
        omega
      rw [hc j (by omega)]
      have hzj : zs.getD j 0 ∈ zs := by
        rw [List.getD_eq_getElem?_getD, List.getElem?_eq_getElem (by omega)]
        exact List.getElem_mem _
      obtain ⟨h0, h1⟩ := bounds_u8 (hw _ hzj)
      rw [List.getElem?_map, List.getElem?_map, List.getElem?_take, if_pos hj, List.getElem?_eq_getElem (by omega)] at hu
      simp only [Option.map_some, Option.some.injEq] at hu
      rw [← hu]
      rw [List.getD_eq_getElem?_getD, List.getElem?_eq_getElem (by omega)] at h0 h1 ⊢
      simp only [Option.getD_some] at h0 h1 ⊢
      unfold u8v
      rw [UInt8.toNat_ofNat', Nat.mod_eq_of_lt (by omega)]
      congr 2
      omega
theorem Own.addr {α : Type} {w : World} {e : TypeId} {f : α → Value} {l : List α} {A : Option Addr} {n c : Nat} (h : Own w e f (.slice A n c) l) (hn : 0 < l.length) : ∃ g, A = some ⟨g, 0, none⟩ := by
  rcases h.2 with ⟨h1, h2⟩ | ⟨g, cap, cur, h1, _⟩
  · omega
  · injection h1 with h1 _ _
    exact ⟨g, h1⟩
theorem Own.store {α : Type} {w : World} {e : TypeId} {f : α → Value} {l : List α} {g c : Nat} (h : Own w e f (.slice (some ⟨g, 0, none⟩) l.length c) l) (k : Nat) (y : α) :
    Own (w.setCell ⟨g, k, none⟩ (f y)) e f (.slice (some ⟨g, 0, none⟩) l.length c) (l.set k y) := by
  have := (World.ownsRow.stored h k (f y)).1
  unfold Own
  rw [List.length_set, List.map_set]
  exact this
theorem Own.cellf {α : Type} {w : World} {e : TypeId} {f : α → Value} {l : List α} {g c : Nat} (h : Own w e f (.slice (some ⟨g, 0, none⟩) l.length c) l) {k : Nat} {x : α} (hx : l[k]? = some x) :
    w.cell? ⟨g, k, none⟩ = some (f x) := by
  have hk : k < l.length := (List.getElem?_eq_some_iff.1 hx).1
  rw [World.ownsRow.cellAt h k (by omega), List.getElem?_map, hx]
  rfl
theorem Own.frozenf {α : Type} {w : World} {e : TypeId} {f : α → Value} {l : List α} {g c : Nat} (h : Own w e f (.slice (some ⟨g, 0, none⟩) l.length c) l) (k : Nat) : w.frozen? ⟨g, k, none⟩ = false := World.ownsRow.frozenAt h k
end Go.Proofs.Ytjmbpnogicdkgaa
