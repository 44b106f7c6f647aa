/-
  frac.Sum; lists of fractions.
  Rows of fractions that a caller owns: append.
-/
import Derived.Test.YtbjemjopcoajcaaGreatDoorFracAdd
import Derived.Test.YtbjemjopcoajcaaGreatDoorMem
/-! frac.Sum; lists of fractions. -/
namespace Go.Proofs.YtbjemjopcoajcaaGreatDoor
open Go.RowKit
set_option linter.unusedSimpArgs false
set_option linter.unusedVariables false

/-- the cells of a fraction -/
def qC (q : Rat) : List Value := [.bool (decide (q.num < 0)), .int .u64 (lo q.num.natAbs : Int), .string (mo q.num.natAbs), .int .u64 (lo ((qden q)) : Int), .string (mo ((qden q)))]
theorem qC_len (q : Rat) : (qC q).length = 5 := rfl
theorem qC_one (q : Rat) : ∀ u ∈ qC q, u.oneCell' = true := by
  intro u hu
  simp [qC] at hu
  rcases hu with rfl | rfl | rfl | rfl | rfl <;> rfl
/-- a slice of fractions reads as the list l -/
abbrev ReadsQ (w : World) (B : Nat) (A : Option Addr) (n : Nat) (l : List Rat) : Prop := ReadsW w B 5 qC A n l
theorem spot_none {w : World} {a : Addr} {v : Value} (h : w.cell? a = some v) : a.spot = none := by
  unfold World.cell? at h
  split at h
  · split at h
    · cases h
    · rename_i h1
      simpa using h1
  · cases h
theorem ReadsQ.cells {w : World} {B : Nat} {A : Option Addr} {n : Nat} {l : List Rat} (h : ReadsQ w B A n l) {k : Nat} (hk : k < n) :
    ∃ ad g o x, A = some ad ∧ ad.add (k * 5) = ⟨g, o, none⟩ ∧ g < B ∧ l[k]? = some x ∧ w.cell? ⟨g, o, none⟩ = some (.bool (decide (x.num < 0))) ∧ w.cell? ⟨g, o + 1, none⟩ = some (.int .u64 (lo x.num.natAbs : Int)) ∧
      w.cell? ⟨g, o + 2, none⟩ = some (.string (mo x.num.natAbs)) ∧ w.cell? ⟨g, o + 3, none⟩ = some (.int .u64 (lo (qden x) : Int)) ∧ w.cell? ⟨g, o + 4, none⟩ = some (.string (mo (qden x))) := by
  obtain ⟨ad, x, h1, h2, h3, h4⟩ := h.at_ qC_len hk
  have c0 := h4 0 _ rfl
  have e0 := spot_none c0
  rw [Nat.add_zero] at c0 e0
  have hb := block_of_add ad (k * 5)
  have hc : ∀ j u, (qC x)[j + 1]? = some u → w.cell? ((ad.add (k * 5)).add (j + 1)) = some u := fun j u hu => by rw [add_of_add]; exact h4 (j + 1) u hu
  cases hP : ad.add (k * 5) with
  | mk g o sp =>
    rw [hP] at c0 e0 hb hc
    obtain rfl : sp = none := e0
    exact ⟨ad, g, o, x, h1, hP, by have : g = ad.block := hb; omega, h3, c0, hc 0 _ rfl, hc 1 _ rfl, hc 2 _ rfl, hc 3 _ rfl⟩

def sumQ (l : List Rat) : Rat := l.foldl (· + ·) 0
theorem sumQ_take (l : List Rat) (k : Nat) (x : Rat) (h : l[k]? = some x) : sumQ (l.take (k + 1)) = sumQ (l.take k) + x := by
  unfold sumQ
  rw [List.take_add_one, h, List.foldl_append]
  rfl
theorem QS.zero (m : Nat) (hm : 1 ≤ m) : QS m 0 := ⟨Nat.zero_le _, hm⟩
theorem QS.sum {m : Nat} (l : List Rat) (hl : ∀ x ∈ l, QS m x) : ∀ k, QS (k * (m + 1) + 1) (sumQ (l.take k)) := by
  intro k
  induction k with
  | zero => exact QS.zero _ (by omega)
  | succ k ih =>
    cases h : l[k]? with
    | none =>
      have hlen : l.length ≤ k := by simpa using h
      have e : l.take (k + 1) = l.take k := by rw [List.take_of_length_le (by omega), List.take_of_length_le hlen]
      rw [e]
      exact ih.mono (by rw [Nat.add_mul]; omega)
    | some x =>
      rw [sumQ_take l k x h]
      exact (ih.add (hl x (List.mem_of_getElem? h))).mono (by rw [Nat.add_mul]; omega)

end Go.Proofs.YtbjemjopcoajcaaGreatDoor

/-! Rows of fractions that a caller owns: append. -/
namespace Go.Proofs.YtbjemjopcoajcaaGreatDoor
open Go.RowKit
set_option linter.unusedSimpArgs false
set_option linter.unusedVariables false

theorem Tryz.eltQ : EltW Tryz.prog 28 52 (.agg #[.bool false, .int .u64 0, .string ⟨#[]⟩, .int .u64 0, .string ⟨#[]⟩]) 5 56 := ⟨Tryz.underlying28, by kernel_rfl, by kernel_rfl⟩
/-- the slice value v owns a row of the fractions l -/
abbrev OwnQ (w : World) (v : Value) (l : List Rat) : Prop := OwnW w 52 5 qC v l
theorem readsQ1 (wr : World) (q : Rat) : ReadsW (wr.alloc (.cells #[.bool (decide (q.num < 0)), .int .u64 (lo q.num.natAbs : Int), .string (mo q.num.natAbs), .int .u64 (lo ((qden q)) : Int), .string (mo ((qden q)))] 52)) (wr.heap.size + 1) 5 qC (some ⟨wr.heap.size, 0, none⟩) 1 [q] :=
  ⟨rfl, by
    have h : Blk (wr.alloc (.cells #[.bool (decide (q.num < 0)), .int .u64 (lo q.num.natAbs : Int), .string (mo q.num.natAbs), .int .u64 (lo ((qden q)) : Int), .string (mo ((qden q)))] 52)) wr.heap.size 52 (qC q).toArray := Blk.new wr 52 #[.bool (decide (q.num < 0)), .int .u64 (lo q.num.natAbs : Int), .string (mo q.num.natAbs), .int .u64 (lo ((qden q)) : Int), .string (mo ((qden q)))]
    have := Reads.ofBlk h (qC_len q)
    simpa using this⟩
section
variable {ops : Array Oper} {rest : List Oper} {o : Oper} {a : Act} {Q : Exit → Act → World → Prop}
/-- 'append(v, q)' -/
theorem appQ (hgd : o.guard = none) (s x : Operand)
    (ho : o.op = .call { callee := .builtin .append, args := #[s, x], argTypes := #[28, 28] })
    (wr : World) (v : Value) (l : List Rat) (q : Rat) (hs : a.eval s = v) (hown : OwnQ wr v l) (hx : a.eval x = .slice (some ⟨wr.heap.size, 0, none⟩) 1 1) (hl : l.length ≤ 1000000)
    (h : ∀ v' w1, OwnQ w1 v' (l ++ [q]) → Grew wr w1 v v' → wpList Tryz.prog ops Q rest (a.put o.dst v') w1) : wpList Tryz.prog ops Q (o :: rest) a (wr.alloc (.cells #[.bool (decide (q.num < 0)), .int .u64 (lo q.num.natAbs : Int), .string (mo q.num.natAbs), .int .u64 (lo ((qden q)) : Int), .string (mo ((qden q)))] 52)) := by
  refine appW Tryz.eltQ (by omega) hgd s x ho _ v l (wr.heap.size + 1) (some ⟨wr.heap.size, 0, none⟩) 1 1 [q] hs (hown.alloc _) hx (readsQ1 wr q) qC_one (by unfold maxLen; omega) (by omega) ?_
  intro v' w1 h1 h2
  refine h v' w1 h1 ?_
  refine ⟨h2.os, h2.tape, h2.output, Nat.le_trans (by simp) h2.size, fun k hk hne => (h2.block k (by simp; omega) hne).trans (Below.heap_alloc wr _ k hk), fun k hk => ?_⟩
  rcases h2.own k hk with h3 | h3
  · exact .inl h3
  · exact .inr (by simp at h3; omega)
end
end Go.Proofs.YtbjemjopcoajcaaGreatDoor
