import Derived.Test.YtecnjlcfoobepaaGreatDoorFracAdd
import Derived.Test.YtecnjlcfoobepaaGreatDoorMem
namespace Go.Proofs.YtecnjlcfoobepaaGreatDoor
set_option maxRecDepth 100000
set_option maxHeartbeats 1000000
open Go.RowKit
set_option linter.unusedSimpArgs false
set_option linter.unusedVariables false
def qC (q : Rat) : List Value := [.bool (decide (q.num < 0)), .int .u64 (lo q.num.natAbs : Int), .string (mo q.num.natAbs), .int .u64 (lo ((qden q)) : Int), .string (mo ((qden q)))]
theorem qC_len (q : Rat) : (qC q).length = 5 := rfl
theorem qC_one (q : Rat) : ∀ u ∈ qC q, u.oneCell' = true := by
 intro u hu
 simp [qC] at hu
 rcases hu with rfl | rfl | rfl | rfl | rfl <;> rfl
abbrev ReadsQ (w : World) (B : Nat) (A : Option Addr) (n : Nat) (l : List Rat) : Prop := ReadsW w B 5 qC A n l
theorem spot_none {w : World} {a : Addr} {v : Value} (h : w.cell? a = some v) : a.spot = none := by
 unfold World.cell? at h
 split at h
 ·split at h
  ·cases h
  rename_i h1
  simpa using h1
 cases h
theorem ReadsQ.cells {w : World} {B : Nat} {A : Option Addr} {n : Nat} {l : List Rat} (h : ReadsQ w B A n l) {k : Nat} (hk : k < n) :
  ∃ ad g o x, A = some ad /\ ad.add (k * 5) = ⟨g, o, none⟩ /\ g < B /\ l[k]? = some x /\ w.cell? ⟨g, o, none⟩ = some (.bool (decide (x.num < 0))) /\ w.cell? ⟨g, o + 1, none⟩ = some (.int .u64 (lo x.num.natAbs : Int)) /\
   w.cell? ⟨g, o + 2, none⟩ = some (.string (mo x.num.natAbs)) /\ w.cell? ⟨g, o + 3, none⟩ = some (.int .u64 (lo (qden x) : Int)) /\ w.cell? ⟨g, o + 4, none⟩ = some (.string (mo (qden x))) := by
 obtain ⟨ad, x, h1, h2, h3, h4⟩ := h.at_ qC_len hk
 have c0 := h4 0 _ rfl
 have e0 := spot_none c0
 rw [Nat.add_zero] at c0 e0
 have hb := block_of_add ad (k * 5)
 have hc : ∀ j u, (qC x)[j + 1]? = some u -> w.cell? ((ad.add (k * 5)).add (j + 1)) = some u := fun j u hu => by rw [add_of_add]; exact h4 (j + 1) u hu
 cases hP : ad.add (k * 5) with
 | mk g o sp =>
  rw [hP] at c0 e0 hb hc
  obtain rfl : sp = none := e0
  exact ⟨ad, g, o, x, h1, hP, by have : g = ad.block := hb; omega, h3, c0, hc 0 _ rfl, hc 1 _ rfl, hc 2 _ rfl, hc 3 _ rfl⟩
def sumQ (l : List Rat) : Rat := l.foldl (· + ·) 0
theorem sumQ_take (l : List Rat) (k : Nat) (x : Rat) (h : l[k]? = some x) : sumQ (l.take (k + 1)) = sumQ (l.take k) + x := by
 unfold sumQ
 rw [List.take_add_one, h, List.foldl_append]
 rfl
theorem QS.zero (m : Nat) (hm : 1 <= m) : QS m 0 := ⟨Nat.zero_le _, hm⟩
theorem QS.sum {m : Nat} (l : List Rat) (hl : ∀ x ∈ l, QS m x) : ∀ k, QS (k * (m + 1) + 1) (sumQ (l.take k)) := by
 intro k
 induction k with
 | zero => exact QS.zero _ (by omega)
 | succ k ih =>
  cases h : l[k]? with
  | none =>
   have hlen : l.length <= k := by simpa using h
   have e : l.take (k + 1) = l.take k := by rw [List.take_of_length_le (by omega), List.take_of_length_le hlen]
   rw [e]
   exact ih.mono (by rw [Nat.add_mul]; omega)
  | some x =>
   rw [sumQ_take l k x h]
   exact (ih.add (hl x (List.mem_of_getElem? h))).mono (by rw [Nat.add_mul]; omega)
theorem Tryz.eltQ : EltW Tryz.prog 73 56 (.agg #[.bool false, .int .u64 0, .string ⟨#[]⟩, .int .u64 0, .string ⟨#[]⟩]) 5 56 := ⟨Tryz.underlying73, by kernel_rfl, by kernel_rfl⟩
abbrev OwnQ (w : World) (v : Value) (l : List Rat) : Prop := OwnW w 56 5 qC v l
theorem readsQ1 (wr : World) (q : Rat) : ReadsW (wr.alloc (.cells #[.bool (decide (q.num < 0)), .int .u64 (lo q.num.natAbs : Int), .string (mo q.num.natAbs), .int .u64 (lo ((qden q)) : Int), .string (mo ((qden q)))] 56)) (wr.heap.size + 1) 5 qC (some ⟨wr.heap.size, 0, none⟩) 1 [q] :=
 ⟨rfl, by
  have h : Blk (wr.alloc (.cells #[.bool (decide (q.num < 0)), .int .u64 (lo q.num.natAbs : Int), .string (mo q.num.natAbs), .int .u64 (lo ((qden q)) : Int), .string (mo ((qden q)))] 56)) wr.heap.size 56 (qC q).toArray := Blk.new wr 56 #[.bool (decide (q.num < 0)), .int .u64 (lo q.num.natAbs : Int), .string (mo q.num.natAbs), .int .u64 (lo ((qden q)) : Int), .string (mo ((qden q)))]
  have := Reads.ofBlk h (qC_len q)
  simpa using this⟩
section
variable {ops : Array Oper} {rest : List Oper} {o : Oper} {a : Act} {Q : Exit -> Act -> World -> Prop}
theorem appQ (hgd : o.guard = none) (s x : Operand)
  (ho : o.op = .call { callee := .builtin .append, args := #[s, x], argTypes := #[73, 73] })
  (wr : World) (v : Value) (l : List Rat) (q : Rat) (hs : a.eval s = v) (hown : OwnQ wr v l) (hx : a.eval x = .slice (some ⟨wr.heap.size, 0, none⟩) 1 1) (hl : l.length <= 1000000)
  (h : ∀ v' w1, OwnQ w1 v' (l ++ [q]) -> Grew wr w1 v v' -> wpList Tryz.prog ops Q rest (a.put o.dst v') w1) : wpList Tryz.prog ops Q (o :: rest) a (wr.alloc (.cells #[.bool (decide (q.num < 0)), .int .u64 (lo q.num.natAbs : Int), .string (mo q.num.natAbs), .int .u64 (lo ((qden q)) : Int), .string (mo ((qden q)))] 56)) := by
 refine appW Tryz.eltQ (by omega) hgd s x ho _ v l (wr.heap.size + 1) (some ⟨wr.heap.size, 0, none⟩) 1 1 [q] hs (hown.alloc _) hx (readsQ1 wr q) qC_one (by unfold maxLen; omega) (by omega) ?_
 intro v' w1 h1 h2
 refine h v' w1 h1 ?_
 refine ⟨h2.os, h2.tape, h2.output, nt (by simp) h2.size, fun k hk hne => (h2.block k (by simp; omega) hne).trans (Below.heap_alloc wr _ k hk), fun k hk => ?_⟩
 rcases h2.own k hk with h3 | h3
 ·exact .inl h3
 exact .inr (by simp at h3; omega)
end
theorem frac_sub (a b : Rat) (w : World) (ha : QS 137438953472 a) (hb : QS 137438953472 b) (hT : Tab w) : Calls Tryz.prog 125 #[qV a, qV b] w (Ret (qV (a - b)) w) := by
 have hng := fun w => frac_neg b w (hb.mono (by omega))
 have had := fun w (hT : Tab w) => frac_add a (-b) w ha hb.neg hT
 rw [<- Rat.sub_eq_add_neg] at had
 generalize -b = c at *
 generalize a - b = s at *
 unfold qV at hng had ⊢
 have HNG := lh hng
 have HAD := lh had
 clear hng had ha hb
 have b0 := ((Blk.new w  56 #[.bool (decide (a.num < 0)), .int .u64 (lo a.num.natAbs : Int), .string (mo a.num.natAbs), .int .u64 (lo ((qden a)) : Int), .string (mo ((qden a)))]).alloc (.cells #[.bool (decide (b.num < 0)), .int .u64 (lo b.num.natAbs : Int), .string (mo b.num.natAbs), .int .u64 (lo ((qden b)) : Int), .string (mo ((qden b)))] 56)).alloc (.cells #[.bool false, .int .u64 0, .string ⟨#[]⟩, .int .u64 0, .string ⟨#[]⟩] 56); have b1 := (Blk.new2 w (.cells #[.bool (decide (a.num < 0)), .int .u64 (lo a.num.natAbs : Int), .string (mo a.num.natAbs), .int .u64 (lo ((qden a)) : Int), .string (mo ((qden a)))] 56) 56 #[.bool (decide (b.num < 0)), .int .u64 (lo b.num.natAbs : Int), .string (mo b.num.natAbs), .int .u64 (lo ((qden b)) : Int), .string (mo ((qden b)))]).alloc (.cells #[.bool false, .int .u64 0, .string ⟨#[]⟩, .int .u64 0, .string ⟨#[]⟩] 56); have b2 := Blk.new3 w (.cells #[.bool (decide (a.num < 0)), .int .u64 (lo a.num.natAbs : Int), .string (mo a.num.natAbs), .int .u64 (lo ((qden a)) : Int), .string (mo ((qden a)))] 56) (.cells #[.bool (decide (b.num < 0)), .int .u64 (lo b.num.natAbs : Int), .string (mo b.num.natAbs), .int .u64 (lo ((qden b)) : Int), .string (mo ((qden b)))] 56) 56 #[.bool false, .int .u64 0, .string ⟨#[]⟩, .int .u64 0, .string ⟨#[]⟩]; have hB := balloc3 w (.cells #[.bool (decide (a.num < 0)), .int .u64 (lo a.num.natAbs : Int), .string (mo a.num.natAbs), .int .u64 (lo ((qden a)) : Int), .string (mo ((qden a)))] 56) (.cells #[.bool (decide (b.num < 0)), .int .u64 (lo b.num.natAbs : Int), .string (mo b.num.natAbs), .int .u64 (lo ((qden b)) : Int), .string (mo ((qden b)))] 56) (.cells #[.bool false, .int .u64 0, .string ⟨#[]⟩, .int .u64 0, .string ⟨#[]⟩] 56); have hZ := lh (show (((w.alloc (.cells #[.bool (decide (a.num < 0)), .int .u64 (lo a.num.natAbs : Int), .string (mo a.num.natAbs), .int .u64 (lo ((qden a)) : Int), .string (mo ((qden a)))] 56)).alloc (.cells #[.bool (decide (b.num < 0)), .int .u64 (lo b.num.natAbs : Int), .string (mo b.num.natAbs), .int .u64 (lo ((qden b)) : Int), .string (mo ((qden b)))] 56)).alloc (.cells #[.bool false, .int .u64 0, .string ⟨#[]⟩, .int .u64 0, .string ⟨#[]⟩] 56)).heap.size = w.heap.size + 1 + 1 + 1 from by simp)
 have ne1 : ¬ w.heap.size = w.heap.size + 1 + 1 := by omega
 have ne2 : ¬ w.heap.size + 1 = w.heap.size + 1 + 1 := by omega
 have ne3 : ¬ w.heap.size + 1 + 1 = w.heap.size := by omega
 have ne4 : ¬ w.heap.size + 1 + 1 = w.heap.size + 1 := by omega
 go_enter Tryz.func125, Tryz.ntmps125
 go_wp2_with fail
 generalize (((w.alloc (.cells #[.bool (decide (a.num < 0)), .int .u64 (lo a.num.natAbs : Int), .string (mo a.num.natAbs), .int .u64 (lo ((qden a)) : Int), .string (mo ((qden a)))] 56)).alloc (.cells #[.bool (decide (b.num < 0)), .int .u64 (lo b.num.natAbs : Int), .string (mo b.num.natAbs), .int .u64 (lo ((qden b)) : Int), .string (mo ((qden b)))] 56)).alloc (.cells #[.bool false, .int .u64 0, .string ⟨#[]⟩, .int .u64 0, .string ⟨#[]⟩] 56)) = W at *
 have tT := hT.next hB
 obtain ⟨b0q0, b0q1, b0q2, b0q3, b0q4⟩ := b0.c5; have c0z := b0.lt; have c0 := b0.drew; have c0l := c0.lt; obtain ⟨b1q0, b1q1, b1q2, b1q3, b1q4⟩ := b1.c5; have c1z := b1.lt; have c1 := b1.drew; have c1l := c1.lt; have c2 := b2.drew; have c2l := c2.lt; have hc := bdrew0 W; have tT : Tab W.drew := tT; go_region_held3 (fun w' => w'.cell? ⟨w.heap.size, 0, none⟩ = some (.bool (decide (a.num < 0))) /\ w'.cell? ⟨w.heap.size, 1, none⟩ = some (.int .u64 (lo a.num.natAbs : Int)) /\ w'.cell? ⟨w.heap.size, 2, none⟩ = some (.string (mo a.num.natAbs)) /\ w'.cell? ⟨w.heap.size, 3, none⟩ = some (.int .u64 (lo ((qden a)) : Int)) /\ w'.cell? ⟨w.heap.size, 4, none⟩ = some (.string (mo ((qden a)))) /\ w'.cell? ⟨w.heap.size + 1, 0, none⟩ = some (.bool (decide (b.num < 0))) /\ w'.cell? ⟨w.heap.size + 1, 1, none⟩ = some (.int .u64 (lo b.num.natAbs : Int)) /\ w'.cell? ⟨w.heap.size + 1, 2, none⟩ = some (.string (mo b.num.natAbs)) /\ w'.cell? ⟨w.heap.size + 1, 3, none⟩ = some (.int .u64 (lo ((qden b)) : Int)) /\ w'.cell? ⟨w.heap.size + 1, 4, none⟩ = some (.string (mo ((qden b))))) (go_keep) (first | (go_at_call 157; refine (HNG.out _).mono ?_; rintro e w1 ⟨rfl, hw1⟩; (first | have c0 := c0.ya hw1 | have c0 := c0.yb hw1 | have c0 := c0.yc hw1); (try clear c0q0 c0q1 c0q2 c0q3 c0q4); obtain ⟨c0q0, c0q1, c0q2, c0q3, c0q4⟩ := c0.c5; (try clear c0l); have c0l := c0.lt; (first | have c1 := c1.ya hw1 | have c1 := c1.yb hw1 | have c1 := c1.yc hw1); (try clear c1q0 c1q1 c1q2 c1q3 c1q4); obtain ⟨c1q0, c1q1, c1q2, c1q3, c1q4⟩ := c1.c5; (try clear c1l); have c1l := c1.lt; (first | have c2 := c2.ya hw1 | have c2 := c2.yb hw1 | have c2 := c2.yc hw1); (try clear c2l); have c2l := c2.lt; (first | have tT := tT.next hw1 | have tT := (tT.next (balloc1 _ _)).next hw1 | have tT := (tT.next (balloc2 _ _ _)).next hw1); have hc := bthen hc hw1) | (go_at_call 124; (first | refine (HAD.out _ tT).mono ?_ | refine (HAD.out _ (tT.next (balloc1 _ _))).mono ?_ | refine (HAD.out _ (tT.next (balloc2 _ _ _))).mono ?_); rintro e w2 ⟨rfl, hw2⟩; (first | have c0 := c0.ya hw2 | have c0 := c0.yb hw2 | have c0 := c0.yc hw2); (try clear c0q0 c0q1 c0q2 c0q3 c0q4); obtain ⟨c0q0, c0q1, c0q2, c0q3, c0q4⟩ := c0.c5; (try clear c0l); have c0l := c0.lt; (first | have c1 := c1.ya hw2 | have c1 := c1.yb hw2 | have c1 := c1.yc hw2); (try clear c1q0 c1q1 c1q2 c1q3 c1q4); obtain ⟨c1q0, c1q1, c1q2, c1q3, c1q4⟩ := c1.c5; (try clear c1l); have c1l := c1.lt; (first | have c2 := c2.ya hw2 | have c2 := c2.yb hw2 | have c2 := c2.yc hw2); (try clear c2l); have c2l := c2.lt; have hc := bthen hc hw2; obtain ⟨c2q0, c2q1, c2q2, c2q3, c2q4, c2f0, c2f1, c2f2, c2f3, c2f4, c2s0, c2s1, c2s2, c2s3, c2s4⟩ := c2.f5))
 all_goals
  go_wp2
  refine bodyPost_ret (v := .agg #[.bool (decide (s.num < 0)), .int .u64 (lo s.num.natAbs : Int), .string (mo s.num.natAbs), .int .u64 (lo ((qden s)) : Int), .string (mo ((qden s)))]) (by simp [results, Tryz.results125, go_sem, c2s0, c2s1, c2s2, c2s3, c2s4]) rfl ?_
  exact ⟨rfl, bset5 (bthen hB hc) (by omega) _ _ _ _ _⟩
theorem qC_set (y : Rat) (l : List Rat) : ∀ i, ((((((l.flatMap qC).set (i * 5) (.bool (decide (y.num < 0)))).set (i * 5 + 1) (.int .u64 (lo y.num.natAbs : Int))).set (i * 5 + 2) (.string (mo y.num.natAbs))).set (i * 5 + 3) (.int .u64 (lo (qden y) : Int))).set (i * 5 + 4) (.string (mo (qden y)))) = (l.set i y).flatMap qC := by
 induction l with
 | nil => intro i; simp
 | cons a l ih =>
  intro i
  cases i with
  | zero => simp [qC]
  | succ i =>
   have := ih i
   rw [show (i + 1) * 5 = i * 5 + 5 from by omega]
   simp only [List.flatMap_cons, qC, List.cons_append, List.nil_append, List.set_cons_succ] at this ⊢
   rw [this]
theorem OwnQ.len {w : World} {A : Option Addr} {n c : Nat} {l : List Rat} (h : OwnQ w (.slice A n c) l) : n = l.length := by
 obtain ⟨A', c', h3, _⟩ := OwnW.form h
 injection h3
theorem OwnQ.frozen {w : World} {g n c : Nat} {l : List Rat} (h : OwnQ w (.slice (some ⟨g, 0, none⟩) n c) l) (j : Nat) : w.frozen? ⟨g, j, none⟩ = false := by
 obtain rfl := OwnQ.len h
 exact World.ownsRow.frozenAt h j
theorem OwnQ.addr {w : World} {A : Option Addr} {n c : Nat} {l : List Rat} (h : OwnQ w (.slice A n c) l) (hn : 0 < l.length) : ∃ g, A = some ⟨g, 0, none⟩ := by
 rcases h.2 with ⟨h3, h4⟩ | ⟨g, cap, cur, h3, _⟩
 ·omega
 injection h3 with h3 _ _
 exact ⟨g, h3⟩
theorem OwnQ.cell5 {w : World} {g n c : Nat} {l : List Rat} (h : OwnQ w (.slice (some ⟨g, 0, none⟩) n c) l) {k : Nat} {x : Rat} (hx : l[k]? = some x) :
  w.cell? ⟨g, k * 5, none⟩ = some (.bool (decide (x.num < 0))) /\ w.cell? ⟨g, k * 5 + 1, none⟩ = some (.int .u64 (lo x.num.natAbs : Int)) /\ w.cell? ⟨g, k * 5 + 2, none⟩ = some (.string (mo x.num.natAbs)) /\
   w.cell? ⟨g, k * 5 + 3, none⟩ = some (.int .u64 (lo (qden x) : Int)) /\ w.cell? ⟨g, k * 5 + 4, none⟩ = some (.string (mo (qden x))) := by
 obtain rfl := OwnQ.len h
 have hk : k < l.length := (List.getElem?_eq_some_iff.1 hx).1
 have hc : ∀ j, j < 5 -> w.cell? ⟨g, k * 5 + j, none⟩ = (qC x)[j]? := fun j hj => by
  rw [World.ownsRow.cellAt h (k * 5 + j) (by omega)]
  exact flatW_at qC_len l k j _ hx hj
 exact ⟨hc 0 (by omega), hc 1 (by omega), hc 2 (by omega), hc 3 (by omega), hc 4 (by omega)⟩
theorem OwnQ.store {w : World} {g n c : Nat} {l : List Rat} (h : OwnQ w (.slice (some ⟨g, 0, none⟩) n c) l) (i : Nat) (y : Rat) :
  OwnQ (((((w.setCell ⟨g, i * 5, none⟩ (.bool (decide (y.num < 0)))).setCell ⟨g, i * 5 + 1, none⟩ (.int .u64 (lo y.num.natAbs : Int))).setCell ⟨g, i * 5 + 2, none⟩ (.string (mo y.num.natAbs))).setCell ⟨g, i * 5 + 3, none⟩ (.int .u64 (lo (qden y) : Int))).setCell ⟨g, i * 5 + 4, none⟩ (.string (mo (qden y)))) (.slice (some ⟨g, 0, none⟩) n c) (l.set i y) := by
 obtain rfl := OwnQ.len h
 have s1 := World.ownsRow.stored h (i * 5) (.bool (decide (y.num < 0)))
 have s2 := World.ownsRow.stored s1.1 (i * 5 + 1) (.int .u64 (lo y.num.natAbs : Int))
 have s3 := World.ownsRow.stored s2.1 (i * 5 + 2) (.string (mo y.num.natAbs))
 have s4 := World.ownsRow.stored s3.1 (i * 5 + 3) (.int .u64 (lo (qden y) : Int))
 have s5 := World.ownsRow.stored s4.1 (i * 5 + 4) (.string (mo (qden y)))
 rw [qC_set] at s5
 unfold OwnQ OwnW
 rw [List.length_set]
 exact s5.1
theorem madeQ (n : Nat) : (madeCells #[.bool false, .int .u64 0, .string ⟨#[]⟩, .int .u64 0, .string ⟨#[]⟩] (n * 5)).toList = (List.replicate n (0 : Rat)).flatMap qC := by
 apply List.ext_getElem?
 intro j
 by_cases hj : j < n * 5
 ·have hi : j / 5 < n := by omega
  have e : j = j / 5 * 5 + j % 5 := by omega
  have h := flatW_at qC_len (List.replicate n (0 : Rat)) (j / 5) (j % 5) 0 (by rw [List.getElem?_replicate, if_pos hi]) (by omega)
  rw [<- e] at h
  rw [h]
  have h5 : j % 5 = 0 \/ j % 5 = 1 \/ j % 5 = 2 \/ j % 5 = 3 \/ j % 5 = 4 := by omega
  have h6 : (madeCells #[.bool false, .int .u64 0, .string ⟨#[]⟩, .int .u64 0, .string ⟨#[]⟩] (n * 5)).toList[j]? = some ((#[.bool false, .int .u64 0, .string ⟨#[]⟩, .int .u64 0, .string ⟨#[]⟩] : Array Value)[j % 5]!) := by
   unfold madeCells
   rw [Array.getElem?_toList, Array.getElem?_map, Array.getElem?_range, if_pos hj]
   rfl
  rw [h6]
  rcases h5 with h5 | h5 | h5 | h5 | h5 <;> rw [h5] <;> rfl
 rw [List.getElem?_eq_none (by simp [size_madeCells]; omega), List.getElem?_eq_none (by rw [flatW_len qC_len, List.length_replicate]; omega)]
theorem make_q (n : Nat) (hn : n <= 1000000) (w : World) : ∃ w', (Instr.makeSlice 73 (.int .i64 (n : Int)) (.int .i64 (n : Int))).run Tryz.prog w = .ok (.slice (some ⟨w.heap.size, 0, none⟩) n n) w' /\ OwnQ w' (.slice (some ⟨w.heap.size, 0, none⟩) n n) (List.replicate n 0) /\ Below w.heap.size w w' := by
 obtain ⟨i0, hi0, hz0, hz1, hz2⟩ := info_parts (Tryz.eltQ).info
 obtain ⟨w', h1, h2, h3⟩ := run_makeSlice_full (P := Tryz.prog) (w := w) 0 73 56 i0 _ 5 (Tryz.eltQ).under hi0 hz0 hz1 .i64 .i64 n (by omega) (by rw [hz2]; omega) (by unfold maxLen; omega) (Nat.zero_le _)
 refine ⟨w', h1, ?_, ?_⟩
 ·unfold OwnQ OwnW
  rw [List.length_replicate, <- madeQ]
  exact h2
 obtain ⟨k1, k2, k3, k4, k5⟩ := h3
 exact ⟨k1, k2, k3, k4, fun k hk => k5 k hk (by simp)⟩
structure AtQ (w : World) (g o : Nat) (x : Rat) : Prop where
 c5 : w.cell? ⟨g, o, none⟩ = some (.bool (decide (x.num < 0))) /\ w.cell? ⟨g, o + 1, none⟩ = some (.int .u64 (lo x.num.natAbs : Int)) /\ w.cell? ⟨g, o + 2, none⟩ = some (.string (mo x.num.natAbs)) /\
   w.cell? ⟨g, o + 3, none⟩ = some (.int .u64 (lo (qden x) : Int)) /\ w.cell? ⟨g, o + 4, none⟩ = some (.string (mo (qden x)))
theorem AtQ.lt {w : World} {g o : Nat} {x : Rat} (h : AtQ w g o x) : g < w.heap.size := cell_lt h.c5.1
theorem AtQ.below {w w' : World} {g o B : Nat} {x : Rat} (h : AtQ w g o x) (hb : Below B w w') (hg : g < B) : AtQ w' g o x := by
 obtain ⟨h0, h1, h2, h3, h4⟩ := h.c5
 refine ⟨?_⟩
 rw [hb.cell (p := ⟨g, o, none⟩) hg, hb.cell (p := ⟨g, o + 1, none⟩) hg, hb.cell (p := ⟨g, o + 2, none⟩) hg, hb.cell (p := ⟨g, o + 3, none⟩) hg, hb.cell (p := ⟨g, o + 4, none⟩) hg]
 exact ⟨h0, h1, h2, h3, h4⟩
theorem AtQ.drew {w : World} {g o : Nat} {x : Rat} (h : AtQ w g o x) : AtQ w.drew g o x := h.below (bdrew0 w) h.lt
theorem AtQ.alloc {w : World} {g o : Nat} {x : Rat} (h : AtQ w g o x) (b : Obj) : AtQ (w.alloc b) g o x := h.below (balloc1 w b) h.lt
theorem AtQ.ya {w : World} {g o : Nat} {x : Rat} (h : AtQ w g o x) {w' : World} (hb : Below w.heap.size w w') : AtQ w' g o x := h.below hb h.lt
theorem AtQ.yb {w : World} {g o : Nat} {x : Rat} (h : AtQ w g o x) {w' : World} {b : Obj} (hb : Below (w.alloc b).heap.size (w.alloc b) w') : AtQ w' g o x := (h.alloc b).below hb (h.alloc b).lt
theorem AtQ.yc {w : World} {g o : Nat} {x : Rat} (h : AtQ w g o x) {w' : World} {b b' : Obj} (hb : Below ((w.alloc b).alloc b').heap.size ((w.alloc b).alloc b') w') : AtQ w' g o x := ((h.alloc b).alloc b').below hb ((h.alloc b).alloc b').lt
theorem OwnQ.at_ {w : World} {g n c : Nat} {l : List Rat} (h : OwnQ w (.slice (some ⟨g, 0, none⟩) n c) l) {k : Nat} {x : Rat} (hx : l[k]? = some x) : AtQ w g (k * 5) x := ⟨OwnQ.cell5 h hx⟩
theorem ReadsQ.at_ {w : World} {B : Nat} {A : Option Addr} {n : Nat} {l : List Rat} (h : ReadsQ w B A n l) {k : Nat} {x : Rat} (hx : l[k]? = some x) : ∃ ad g o, A = some ad /\ ad.add (k * 5) = ⟨g, o, none⟩ /\ g < B /\ AtQ w g o x := by
 have hk : k < n := by rw [<- h.len]; exact (List.getElem?_eq_some_iff.1 hx).1
 obtain ⟨ad, g, o, y, h1, h2, h3, h4, h5⟩ := ReadsQ.cells h hk
 obtain rfl := Option.some.inj (hx.symm.trans h4)
 exact ⟨ad, g, o, h1, h2, h3, ⟨h5⟩⟩
structure At1 (w : World) (g o : Nat) (u : Value) : Prop where
 c2 : w.cell? ⟨g, o, none⟩ = some u /\ g < w.heap.size
theorem At1.mk' {w : World} {g o : Nat} {u : Value} (h : w.cell? ⟨g, o, none⟩ = some u) : At1 w g o u := ⟨h, cell_lt h⟩
theorem At1.lt {w : World} {g o : Nat} {u : Value} (h : At1 w g o u) : g < w.heap.size := h.c2.2
theorem At1.below {w w' : World} {g o B : Nat} {u : Value} (h : At1 w g o u) (hb : Below B w w') (hg : g < B) : At1 w' g o u := by
 refine At1.mk' ?_
 rw [hb.cell (p := ⟨g, o, none⟩) hg]
 exact h.c2.1
theorem At1.drew {w : World} {g o : Nat} {u : Value} (h : At1 w g o u) : At1 w.drew g o u := h.below (bdrew0 w) h.lt
theorem At1.alloc {w : World} {g o : Nat} {u : Value} (h : At1 w g o u) (b : Obj) : At1 (w.alloc b) g o u := h.below (balloc1 w b) h.lt
theorem At1.ya {w : World} {g o : Nat} {u : Value} (h : At1 w g o u) {w' : World} (hb : Below w.heap.size w w') : At1 w' g o u := h.below hb h.lt
theorem At1.yb {w : World} {g o : Nat} {u : Value} (h : At1 w g o u) {w' : World} {b : Obj} (hb : Below (w.alloc b).heap.size (w.alloc b) w') : At1 w' g o u := (h.alloc b).below hb (h.alloc b).lt
theorem At1.yc {w : World} {g o : Nat} {u : Value} (h : At1 w g o u) {w' : World} {b b' : Obj} (hb : Below ((w.alloc b).alloc b').heap.size ((w.alloc b).alloc b') w') : At1 w' g o u := ((h.alloc b).alloc b').below hb ((h.alloc b).alloc b').lt
theorem OwnW.far {α : Type} {w : World} {e : TypeId} {k : Nat} {f : α -> List Value} {v : Value} {l : List α} (h : OwnW w e k f v l) {g : Nat} (hne : v.ownBlock ≠ some g) (i : Nat) (x : Value) : OwnW (w.setCell ⟨g, i, none⟩ x) e k f v l := by
 refine ⟨h.1, ?_⟩
 rcases h.2 with h3 | ⟨b, cap, cur, h3, h4, h5, h6⟩
 ·exact .inl h3
 exact .inr ⟨b, cap, cur, h3, h4, (Below.heap_setCell _ _ _ b (fun e => hne (by rw [h3]; exact congrArg some e))).trans h5, h6⟩
theorem bset5' {B g i j m p q : Nat} {w w' : World} (h : Below B w w') (hg : B <= g) (x y z t u : Value) : Below B w (((((w'.setCell ⟨g, i, none⟩ x).setCell ⟨g, j, none⟩ y).setCell ⟨g, m, none⟩ z).setCell ⟨g, p, none⟩ t).setCell ⟨g, q, none⟩ u) :=
 ((((h.setCell hg x).setCell hg y).setCell hg z).setCell hg t).setCell hg u
theorem born_end {W wn : World} {t : TypeId} {cs : Array Value} (hc : Below W.heap.size W wn) : Born W t cs (.pointer (some ⟨wn.heap.size, 0, none⟩)) (wn.alloc (.cells cs t)) := ⟨_, rfl, hc.size, Blk.new _ _ _, bthen hc (balloc1 _ _)⟩
theorem QS.sub {m n : Nat} {a b : Rat} (ha : QS m a) (hb : QS n b) : QS (m + n + 1) (a - b) := by
 rw [Rat.sub_eq_add_neg]
 exact ha.add hb.neg
theorem QS.getD {m : Nat} {l : List Rat} (hl : ∀ x ∈ l, QS m x) (hm : 1 <= m) (k : Nat) : QS m (l.getD k 0) := by
 rw [List.getD_eq_getElem?_getD]
 cases h : l[k]? with
 | none => exact QS.zero m hm
 | some x => exact hl x (List.mem_of_getElem? h)
theorem QS.set_ {m : Nat} {l : List Rat} {y : Rat} (hl : ∀ x ∈ l, QS m x) (hy : QS m y) (i : Nat) : ∀ x ∈ l.set i y, QS m x := by
 intro x hx
 rcases List.mem_or_eq_of_mem_set hx with h | h
 ·exact hl x h
 rw [h]; exact hy
end Go.Proofs.YtecnjlcfoobepaaGreatDoor
