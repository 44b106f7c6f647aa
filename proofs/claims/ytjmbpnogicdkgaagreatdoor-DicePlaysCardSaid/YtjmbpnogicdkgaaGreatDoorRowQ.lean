/-
  frac.Sum; lists of fractions.
  Rows of fractions that a caller owns: append.
-/
import Derived.Test.YtjmbpnogicdkgaaGreatDoorFracAdd
import Derived.Test.YtjmbpnogicdkgaaGreatDoorMem
/-! frac.Sum; lists of fractions. -/
namespace Go.Proofs.YtjmbpnogicdkgaaGreatDoor
open Go.RowKit
set_option linter.unusedSimpArgs false
set_option linter.unusedVariables false

/-- the cells of a fraction -/
def qC (q : Rat) : List Value := [.bool (decide (q.num < 0)), .int .u64 (lo q.num.natAbs : Int), .string (mo q.num.natAbs), .int .u64 (lo ((qden q)) : Int), .string (mo ((qden q)))]
theorem qC_len (q : Rat) : (qC q).length = 5 := rfl
theorem qC_one (q : Rat) : ∀ u ∈ qC q, u.oneCell' = true := by
  intro u hu
  simp [qC] at hu
  rcases hu with rfl | rfl | rfl | rfl | rfl <;> rfl
/-- a slice of fractions reads as the list l -/
abbrev ReadsQ (w : World) (B : Nat) (A : Option Addr) (n : Nat) (l : List Rat) : Prop := ReadsW w B 5 qC A n l
theorem spot_none {w : World} {a : Addr} {v : Value} (h : w.cell? a = some v) : a.spot = none := by
  unfold World.cell? at h
  split at h
  · split at h
    · cases h
    · rename_i h1
      simpa using h1
  · cases h
theorem ReadsQ.cells {w : World} {B : Nat} {A : Option Addr} {n : Nat} {l : List Rat} (h : ReadsQ w B A n l) {k : Nat} (hk : k < n) :
    ∃ ad g o x, A = some ad ∧ ad.add (k * 5) = ⟨g, o, none⟩ ∧ g < B ∧ l[k]? = some x ∧ w.cell? ⟨g, o, none⟩ = some (.bool (decide (x.num < 0))) ∧ w.cell? ⟨g, o + 1, none⟩ = some (.int .u64 (lo x.num.natAbs : Int)) ∧
      w.cell? ⟨g, o + 2, none⟩ = some (.string (mo x.num.natAbs)) ∧ w.cell? ⟨g, o + 3, none⟩ = some (.int .u64 (lo (qden x) : Int)) ∧ w.cell? ⟨g, o + 4, none⟩ = some (.string (mo (qden x))) := by
  obtain ⟨ad, x, h1, h2, h3, h4⟩ := h.at_ qC_len hk
  have c0 := h4 0 _ rfl
  have e0 := spot_none c0
  rw [Nat.add_zero] at c0 e0
  have hb := block_of_add ad (k * 5)
  have hc : ∀ j u, (qC x)[j + 1]? = some u → w.cell? ((ad.add (k * 5)).add (j + 1)) = some u := fun j u hu => by rw [add_of_add]; exact h4 (j + 1) u hu
  cases hP : ad.add (k * 5) with
  | mk g o sp =>
    rw [hP] at c0 e0 hb hc
    obtain rfl : sp = none := e0
    exact ⟨ad, g, o, x, h1, hP, by have : g = ad.block := hb; omega, h3, c0, hc 0 _ rfl, hc 1 _ rfl, hc 2 _ rfl, hc 3 _ rfl⟩

def sumQ (l : List Rat) : Rat := l.foldl (· + ·) 0
theorem sumQ_take (l : List Rat) (k : Nat) (x : Rat) (h : l[k]? = some x) : sumQ (l.take (k + 1)) = sumQ (l.take k) + x := by
  unfold sumQ
  rw [List.take_add_one, h, List.foldl_append]
  rfl
theorem QS.zero (m : Nat) (hm : 1 ≤ m) : QS m 0 := ⟨Nat.zero_le _, hm⟩
theorem QS.sum {m : Nat} (l : List Rat) (hl : ∀ x ∈ l, QS m x) : ∀ k, QS (k * (m + 1) + 1) (sumQ (l.take k)) := by
  intro k
  induction k with
  | zero => exact QS.zero _ (by omega)
  | succ k ih =>
    cases h : l[k]? with
    | none =>
      have hlen : l.length ≤ k := by simpa using h
      have e : l.take (k + 1) = l.take k := by rw [List.take_of_length_le (by omega), List.take_of_length_le hlen]
      rw [e]
      exact ih.mono (by rw [Nat.add_mul]; omega)
    | some x =>
      rw [sumQ_take l k x h]
      exact (ih.add (hl x (List.mem_of_getElem? h))).mono (by rw [Nat.add_mul]; omega)

set_option maxRecDepth 100000 in
set_option maxHeartbeats 2000000 in
theorem frac_sum (A : Option Addr) (n c B m : Nat) (l : List Rat) (w : World) (h : ReadsQ w B A n l) (hB : B ≤ w.heap.size) (hn : n ≤ 1000000) (hm : m ≤ 100000) (hl : ∀ x ∈ l, QS m x) (hT : Tab w) :
    Calls Tryz.prog 88 #[.slice A n c] w (Ret (qV (sumQ l)) w) := by
  have hln := h.len
  have hsz := QS.sum l hl
  go_enter Tryz.func88, Tryz.ntmps88
  go_wp2_with fail
  have b0 := (Blk.new w 70 #[.bool false, .int .u64 0, .string ⟨#[]⟩, .int .u64 0, .string ⟨#[]⟩]).alloc (.cells #[.bool false, .int .u64 0, .string ⟨#[]⟩, .int .u64 0, .string ⟨#[]⟩] 70)
  have b1 := Blk.new2 w (.cells #[.bool false, .int .u64 0, .string ⟨#[]⟩, .int .u64 0, .string ⟨#[]⟩] 70) 70 #[.bool false, .int .u64 0, .string ⟨#[]⟩, .int .u64 0, .string ⟨#[]⟩]
  have hW := balloc2 w (.cells #[.bool false, .int .u64 0, .string ⟨#[]⟩, .int .u64 0, .string ⟨#[]⟩] 70) (.cells #[.bool false, .int .u64 0, .string ⟨#[]⟩, .int .u64 0, .string ⟨#[]⟩] 70)
  generalize (w.alloc (.cells #[.bool false, .int .u64 0, .string ⟨#[]⟩, .int .u64 0, .string ⟨#[]⟩] 70)).alloc (.cells #[.bool false, .int .u64 0, .string ⟨#[]⟩, .int .u64 0, .string ⟨#[]⟩] 70) = W at *
  have HS := Lib.hid hsz
  have HL := Lib.hid hl
  have HR := Lib.hid h
  have HT := Lib.hid hT
  have HLN := Lib.hid hln
  clear hsz hl h hT hln
  have ez : qden 0 = 0 := rfl
  go_loopw [8] (fun p wr => ∃ (k : Nat) (s : Rat), k ≤ n ∧ p = .int .i64 (k : Int) ∧ Hid (sumQ (l.take k) = s) ∧ Blk wr w.heap.size 70 #[.bool false, .int .u64 0, .string ⟨#[]⟩, .int .u64 0, .string ⟨#[]⟩] ∧ Blk wr (w.heap.size + 1) 70 #[.bool (decide (s.num < 0)), .int .u64 (lo s.num.natAbs : Int), .string (mo s.num.natAbs), .int .u64 (lo ((qden s)) : Int), .string (mo ((qden s)))] ∧ Below w.heap.size w wr) (fun p _ => n - (intOf p).toNat)
  case atStart => exact ⟨0, 0, by omega, rfl, Lib.hid rfl, b0, b1, hW⟩
  case round =>
    obtain ⟨k, s, hk, rfl, hs, c0, c1, hb⟩ := hrel
    clear b0 b1 hW
    rename World => wr
    by_cases hkn : k < n
    · obtain ⟨ad, g, o, x, rfl, hP, hgB, hx, x0, x1, x2, x3, x4⟩ := ReadsQ.cells (HR.out.below (hb.mono hB)) hkn
      have hkl : (k : Int) < n := by omega
      have hk1 : (k : Int) + 1 ≤ 9223372036854775807 := by omega
      have hqs : QS 137438953472 s := by
        rw [← hs.out]
        refine (HS.out k).mono ?_
        have := Nat.mul_le_mul (show k ≤ 1000000 by omega) (show m + 1 ≤ 100001 by omega)
        omega
      have hqx : QS 137438953472 x := (HL.out x (List.mem_of_getElem? hx)).mono (by omega)
      have had := fun w (hT : Tab w) => frac_add s x w hqs hqx hT
      have hs' : sumQ (l.take (k + 1)) = s + x := by rw [sumQ_take l k x hx, hs.out]
      have HS' := Lib.hid hs'
      unfold qV at had
      have HAD := Lib.hid had
      clear had hqs hqx hs' hs
      generalize s + x = s' at *
      obtain ⟨c1q0, c1q1, c1q2, c1q3, c1q4⟩ := c1.c5
      have cl0 := c0.lt
      have cl1 := c1.lt
      have tT := HT.out.next (bthen hb (balloc1 wr (.cells #[.bool (decide (x.num < 0)), .int .u64 (lo x.num.natAbs : Int), .string (mo x.num.natAbs), .int .u64 (lo ((qden x)) : Int), .string (mo ((qden x)))] 70)))
      have d0 := c0.alloc (.cells #[.bool (decide (x.num < 0)), .int .u64 (lo x.num.natAbs : Int), .string (mo x.num.natAbs), .int .u64 (lo ((qden x)) : Int), .string (mo ((qden x)))] 70)
      have d1 := c1.alloc (.cells #[.bool (decide (x.num < 0)), .int .u64 (lo x.num.natAbs : Int), .string (mo x.num.natAbs), .int .u64 (lo ((qden x)) : Int), .string (mo ((qden x)))] 70)
      have hb1 := bthen hb (balloc1 wr (.cells #[.bool (decide (x.num < 0)), .int .u64 (lo x.num.natAbs : Int), .string (mo x.num.natAbs), .int .u64 (lo ((qden x)) : Int), .string (mo ((qden x)))] 70))
      go_wp2_with fail
      refine (HAD.out _ tT).mono ?_
      rintro e w1 ⟨rfl, hw1⟩
      have d0 := d0.below hw1 d0.lt
      have d1 := d1.below hw1 d1.lt
      have hb2 := bthen hb1 hw1
      obtain ⟨d1q0, d1q1, d1q2, d1q3, d1q4, d1f0, d1f1, d1f2, d1f3, d1f4, d1s0, d1s1, d1s2, d1s3, d1s4⟩ := d1.f5
      go_wp2
      have e1 := ((((d1.set_ 0 (.bool (decide (s'.num < 0)))).set_ 1 (.int .u64 (lo s'.num.natAbs : Int))).set_ 2 (.string (mo s'.num.natAbs))).set_ 3 (.int .u64 (lo (qden s') : Int))).set_ 4 (.string (mo (qden s')))
      have e0 := ((((d0.far (p := ⟨w.heap.size + 1, 0, none⟩) (by simp) (.bool (decide (s'.num < 0)))).far (p := ⟨w.heap.size + 1, 1, none⟩) (by simp) (.int .u64 (lo s'.num.natAbs : Int))).far (p := ⟨w.heap.size + 1, 2, none⟩) (by simp) (.string (mo s'.num.natAbs))).far (p := ⟨w.heap.size + 1, 3, none⟩) (by simp) (.int .u64 (lo (qden s') : Int))).far (p := ⟨w.heap.size + 1, 4, none⟩) (by simp) (.string (mo (qden s')))
      refine ⟨⟨k + 1, s', by omega, by simp, HS', e0, by simpa using e1, bset5 hb2 (by omega) _ _ _ _ _⟩, by simp [intOf]; omega⟩
    · obtain rfl : k = n := by omega
      have hs' : sumQ l = s := by rw [← hs.out, List.take_of_length_le (by have := HLN.out; omega)]
      have HS2 := Lib.hid hs'
      clear hs' hs
      have hkk : ¬ (k : Int) < (k : Int) := by omega
      obtain ⟨c0q0, c0q1, c0q2, c0q3, c0q4, c0f0, c0f1, c0f2, c0f3, c0f4, c0s0, c0s1, c0s2, c0s3, c0s4⟩ := c0.f5
      obtain ⟨c1q0, c1q1, c1q2, c1q3, c1q4⟩ := c1.c5
      go_wp2
      refine bodyPost_ret (v := .agg #[.bool (decide (s.num < 0)), .int .u64 (lo s.num.natAbs : Int), .string (mo s.num.natAbs), .int .u64 (lo ((qden s)) : Int), .string (mo ((qden s)))]) (by simp [results, Tryz.results88, go_sem, c0s0, c0s1, c0s2, c0s3, c0s4]) rfl ?_
      exact ⟨by rw [HS2.out]; rfl, bset5 hb (by omega) _ _ _ _ _⟩
end Go.Proofs.YtjmbpnogicdkgaaGreatDoor

/-! Rows of fractions that a caller owns: append. -/
namespace Go.Proofs.YtjmbpnogicdkgaaGreatDoor
open Go.RowKit
set_option linter.unusedSimpArgs false
set_option linter.unusedVariables false

theorem Tryz.eltQ : EltW Tryz.prog 63 70 (.agg #[.bool false, .int .u64 0, .string ⟨#[]⟩, .int .u64 0, .string ⟨#[]⟩]) 5 56 := ⟨Tryz.underlying63, by kernel_rfl, by kernel_rfl⟩
/-- the slice value v owns a row of the fractions l -/
abbrev OwnQ (w : World) (v : Value) (l : List Rat) : Prop := OwnW w 70 5 qC v l
theorem readsQ1 (wr : World) (q : Rat) : ReadsW (wr.alloc (.cells #[.bool (decide (q.num < 0)), .int .u64 (lo q.num.natAbs : Int), .string (mo q.num.natAbs), .int .u64 (lo ((qden q)) : Int), .string (mo ((qden q)))] 70)) (wr.heap.size + 1) 5 qC (some ⟨wr.heap.size, 0, none⟩) 1 [q] :=
  ⟨rfl, by
    have h : Blk (wr.alloc (.cells #[.bool (decide (q.num < 0)), .int .u64 (lo q.num.natAbs : Int), .string (mo q.num.natAbs), .int .u64 (lo ((qden q)) : Int), .string (mo ((qden q)))] 70)) wr.heap.size 70 (qC q).toArray := Blk.new wr 70 #[.bool (decide (q.num < 0)), .int .u64 (lo q.num.natAbs : Int), .string (mo q.num.natAbs), .int .u64 (lo ((qden q)) : Int), .string (mo ((qden q)))]
    have := Reads.ofBlk h (qC_len q)
    simpa using this⟩
section
variable {ops : Array Oper} {rest : List Oper} {o : Oper} {a : Act} {Q : Exit → Act → World → Prop}
/-- 'append(v, q)' -/
theorem appQ (hgd : o.guard = none) (s x : Operand)
    (ho : o.op = .call { callee := .builtin .append, args := #[s, x], argTypes := #[63, 63] })
    (wr : World) (v : Value) (l : List Rat) (q : Rat) (hs : a.eval s = v) (hown : OwnQ wr v l) (hx : a.eval x = .slice (some ⟨wr.heap.size, 0, none⟩) 1 1) (hl : l.length ≤ 1000000)
    (h : ∀ v' w1, OwnQ w1 v' (l ++ [q]) → Grew wr w1 v v' → wpList Tryz.prog ops Q rest (a.put o.dst v') w1) : wpList Tryz.prog ops Q (o :: rest) a (wr.alloc (.cells #[.bool (decide (q.num < 0)), .int .u64 (lo q.num.natAbs : Int), .string (mo q.num.natAbs), .int .u64 (lo ((qden q)) : Int), .string (mo ((qden q)))] 70)) := by
  refine appW Tryz.eltQ (by omega) hgd s x ho _ v l (wr.heap.size + 1) (some ⟨wr.heap.size, 0, none⟩) 1 1 [q] hs (hown.alloc _) hx (readsQ1 wr q) qC_one (by unfold maxLen; omega) (by omega) ?_
  intro v' w1 h1 h2
  refine h v' w1 h1 ?_
  refine ⟨h2.os, h2.tape, h2.output, Nat.le_trans (by simp) h2.size, fun k hk hne => (h2.block k (by simp; omega) hne).trans (Below.heap_alloc wr _ k hk), fun k hk => ?_⟩
  rcases h2.own k hk with h3 | h3
  · exact .inl h3
  · exact .inr (by simp at h3; omega)
end
end Go.Proofs.YtjmbpnogicdkgaaGreatDoor
