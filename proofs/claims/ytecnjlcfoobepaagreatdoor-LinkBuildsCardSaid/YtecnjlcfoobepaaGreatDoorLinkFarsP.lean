import Derived.Test.YtecnjlcfoobepaaGreatDoorLinkJoin
import Derived.Test.YtecnjlcfoobepaaGreatDoorRowQ
import Derived.Test.YtecnjlcfoobepaaGreatDoorHandRows
import Derived.Test.YtecnjlcfoobepaaGreatDoorFracMul
import Derived.Test.YtecnjlcfoobepaaGreatDoorRefSub
import Derived.Deep.DeepCutAuto
import Derived.Deep.CutBlock
import Derived.Test.YtecnjlcfoobepaaGreatDoorFracCmp
import Derived.RegionTactic
namespace Go.Proofs.YtecnjlcfoobepaaGreatDoor
set_option maxRecDepth 100000
set_option maxHeartbeats 8000000
set_option linter.unusedSimpArgs false
set_option linter.unusedVariables false
theorem QS.nat {k n : Nat} (h : n < 2 ^ k) (hk : 1 <= k) : QS k (n : Rat) := by
 refine ⟨?_, ?_⟩
 ·show blen ((n : Rat).num.natAbs) <= k
  rw [Rat.num_natCast, Int.natAbs_natCast]
  exact blen_le n k h
 rw [Rat.den_natCast]
 exact blen_le 1 k (by have := Nat.pow_le_pow_right (show 0 < 2 by omega) hk; omega)
theorem minQ_QS {m : Nat} {x y : Rat} (hx : QS m x) (hy : QS m y) : QS m (minQ x y) := by unfold minQ; split <;> assumption
theorem maxQ_QS {m : Nat} {x y : Rat} (hx : QS m x) (hy : QS m y) : QS m (maxQ x y) := by unfold maxQ; split <;> assumption
theorem merged_QS {m how sa sb : Nat} {x y : Rat} (hx : QS m x) (hy : QS m y) (ha : sa <= 1000) (hb : sb <= 1000) : QS (2 * m + 40) (mergedQ how sa sb x y) := by
 unfold mergedQ
 split
 ·exact (minQ_QS hx hy).mono (by omega)
 split
 ·exact (maxQ_QS hx hy).mono (by omega)
 rw [Rat.div_def]
 have h1 := hx.mul (QS.nat (k := 10) (n := sa) (by omega) (by omega))
 have h2 := hy.mul (QS.nat (k := 10) (n := sb) (by omega) (by omega))
 have h3 := (QS.nat (k := 11) (n := sa + sb) (by omega) (by omega)).inv (by omega)
 exact ((h1.add h2).mul h3).mono (by omega)
def QSC (m : Nat) (c : Cls) : Prop := ∀ l ∈ c.far, ∀ x ∈ l, QS m x
theorem QSC.betw {m : Nat} {c : Cls} (h : QSC m c) (hm : 1 <= m) (a b : Nat) : QS m (betw c.far a b) := by
 unfold Go.Proofs.YtecnjlcfoobepaaGreatDoor.betw
 rw [List.getD_eq_getElem?_getD]
 by_cases ha : max a b < c.far.length
 ·rw [List.getD_eq_getElem?_getD, List.getElem?_eq_getElem ha]
  show QS m ((c.far[max a b])[min a b]?.getD 0)
  by_cases hb : min a b < (c.far[max a b]).length
  ·rw [List.getElem?_eq_getElem hb]
   exact h _ (List.getElem_mem ha) _ (List.getElem_mem hb)
  rw [List.getElem?_eq_none (by omega)]
  exact ⟨Nat.zero_le _, hm⟩
 rw [List.getD_eq_getElem?_getD, List.getElem?_eq_none (show c.far.length <= max a b by omega)]
 exact ⟨Nat.zero_le _, hm⟩
def SZC (s : Nat) (c : Cls) : Prop := ∀ i, c.size.getD i 0 <= s
theorem newRow_QS {m how : Nat} {c : Cls} (h : QSC m c) (hm : 1 <= m) (hs : SZC 1000 c) (a b i : Nat) : QS (2 * m + 40) (newRow how c a b i) := by
 unfold newRow
 split
 ·exact merged_QS (h.betw hm _ _) (h.betw hm _ _) (hs a) (hs b)
 exact ⟨Nat.zero_le _, by show 1 <= _; omega⟩
theorem joined_QSC {m how : Nat} {c : Cls} (h : QSC m c) (hm : 1 <= m) (hs : SZC 1000 c) (a b : Nat) : QSC (2 * m + 40) (joined how c a b) := by
 intro l hl x hx
 rcases List.mem_append.1 hl with hl | hl
 ·exact (h l hl x hx).mono (by omega)
 obtain rfl := List.mem_singleton.1 hl
 obtain ⟨i, _, rfl⟩ := List.mem_map.1 hx
 exact newRow_QS h hm hs a b i
theorem joined_SZC {s how : Nat} {c : Cls} (h : SZC s c) (a b : Nat) : SZC (2 * s) (joined how c a b) := by
 intro i
 show (c.size ++ [_]).getD i 0 <= _
 have h1 := h a
 have h2 := h b
 have h3 := h i
 rw [List.getD_eq_getElem?_getD] at h3 ⊢
 by_cases hi : i < c.size.length
 ·rw [List.getElem?_append_left hi]
  omega
 rw [List.getElem?_append_right (by omega)]
 by_cases hi2 : i - c.size.length = 0
 ·rw [hi2]
  show c.size.getD a 0 + c.size.getD b 0 <= _
  omega
 rw [List.getElem?_eq_none (by simp; omega)]
 exact Nat.zero_le _
def growQ (m : Nat) : Nat -> Nat
 | 0 => m
 | k + 1 => 2 * growQ m k + 40
theorem growQ_le (m : Nat) {k : Nat} (hk : k <= 6) : growQ m k <= 64 * m + 2520 := by
 have h : k = 0 \/ k = 1 \/ k = 2 \/ k = 3 \/ k = 4 \/ k = 5 \/ k = 6 := by omega
 rcases h with rfl | rfl | rfl | rfl | rfl | rfl | rfl <;> simp only [growQ] <;> omega
theorem growQ_ge (m : Nat) : ∀ k, m <= growQ m k := by
 intro k
 induction k with
 | zero => exact Nat.le_refl _
 | succ k ih => show m <= 2 * growQ m k + 40; omega
theorem cls_size {how m : Nat} {f : List (List Rat)} (hf : SymF f) (hm : 1 <= m) (hq : ∀ l ∈ f, ∀ x ∈ l, QS m x) : ∀ k, k <= 6 -> k < f.length -> QSC (growQ m k) (clsAt how f k) /\ SZC (2 ^ k) (clsAt how f k) := by
 intro k
 induction k with
 | zero =>
  intro _ h0
  refine ⟨fun l hl x hx => ?_, fun i => ?_⟩
  ·obtain ⟨i, hi, rfl⟩ := List.mem_map.1 hl
   have hi := List.mem_range.1 hi
   have e : f.getD i [] = f[i] := by rw [List.getD_eq_getElem?_getD, List.getElem?_eq_getElem hi]; rfl
   rw [e] at hx
   exact hq _ (List.getElem_mem hi) x (List.mem_of_mem_take hx)
  show (List.replicate f.length 1).getD i 0 <= 1
  rw [List.getD_eq_getElem?_getD, List.getElem?_replicate]
  split
  ·exact Nat.le_refl _
  exact Nat.zero_le _
 | succ k ih =>
  intro hk hkn
  obtain ⟨h1, h2⟩ := ih (by omega) (by omega)
  obtain ⟨A, B, hj, hc⟩ := joined_at (how := how) (k := k) hf (by omega)
  rw [hc]
  have h3 : 2 ^ k <= 1000 := nt (Nat.pow_le_pow_right (by omega) (show k <= 6 by omega)) (by decide)
  refine ⟨joined_QSC h1 (nt hm (growQ_ge m k)) (fun i => nt (h2 i) h3) A B, ?_⟩
  rw [Nat.pow_succ, Nat.mul_comm]
  exact joined_SZC h2 A B
structure WalkC (n m : Nat) (c : Cls) : Prop where
 lenf : c.far.length = n
 lens : c.size.length = n
 leng : c.gone.length = n
 row : ∀ i, i < n -> (c.far.getD i []).length = i
 qs : QSC m c
 sz : SZC 1000 c
 pos : ∀ i, i < n -> aliveL c.gone i = true -> 0 < c.size.getD i 0
theorem walkC_at {how m k : Nat} {f : List (List Rat)} (hf : SymF f) (hm : 1 <= m) (hq : ∀ l ∈ f, ∀ x ∈ l, QS m x) (hk : k <= 6) (hkn : k < f.length) : WalkC (f.length + k) (64 * m + 2520) (clsAt how f k) := by
 have hi := inv_at (how := how) hf k hkn
 obtain ⟨h1, h2⟩ := cls_size (how := how) hf hm hq k hk hkn
 refine ⟨hi.lenf, hi.lens, hi.leng, hi.row, fun l hl x hx => (h1 l hl x hx).mono (growQ_le m hk), fun i => nt (h2 i) (nt (Nat.pow_le_pow_right (by omega) hk) (by decide)), fun i hin ha => ?_⟩
 have hp := (alive_iff hi hin).1 ha
 rw [hi.sz i hin hp]
 exact List.length_pos_iff.2 hp
theorem symF_of {f : List (List Rat)} (h : checkFar f = 0) : SymF f /\ PosF f /\ (∀ i, i < f.length -> dOf f i i = 0) /\ 1 <= f.length /\ f.length <= 64 := by
 unfold checkFar at h
 split at h
 ·cases h
 rename_i h1
 split at h
 ·cases h
 rename_i h2
 split at h
 ·cases h
 rename_i h3
 have h4 : ∀ i, i < f.length -> ∀ k, k < f.length -> badAt f i k = false := by
  intro i hi k hk
  cases hb : badAt f i k with
  | false => rfl
  | true => exact absurd (badFar_of hi hk hb) h3
 have h5 : ∀ i, i < f.length -> (f.getD i []).length = f.length := by
  intro i hi
  rw [List.getD_eq_getElem?_getD, List.getElem?_eq_getElem hi]
  refine Classical.byContradiction fun hne => h2 (List.any_eq_true.2 ⟨f[i], List.getElem_mem hi, decide_eq_true hne⟩)
 have h6 : ∀ i, i < f.length -> ∀ k, k < f.length -> ¬ dOf f i k < 0 /\ (i = k -> dOf f i k = 0) /\ dOf f i k = dOf f k i := by
  intro i hi k hk
  have := h4 i hi k hk
  unfold badAt at this
  simp only [Bool.or_eq_false_iff, Bool.and_eq_false_iff, decide_eq_false_iff_not, Decidable.not_not] at this
  obtain ⟨⟨a1, a2⟩, a3⟩ := this
  refine ⟨a1, fun e => ?_, a3⟩
  rcases a2 with a2 | a2
  ·exact absurd e a2
  exact a2
 refine ⟨⟨h5, fun i j hi hj => (h6 i hi j hj).2.2⟩, fun i j hi hj => Rat.not_lt.1 (h6 i hi j hj).1, fun i hi => (h6 i hi i hi).2.1 rfl, by omega, by omega⟩
open Go.RowKit
def jC (j : Jn) : List Value := [.int .i64 j.a, .int .i64 j.b, .int .i64 j.size, .bool (decide (j.high.num < 0)), .int .u64 (lo j.high.num.natAbs : Int), .string (mo j.high.num.natAbs), .int .u64 (lo ((qden j.high)) : Int), .string (mo ((qden j.high)))]
theorem jC_len (j : Jn) : (jC j).length = 8 := rfl
theorem jC_one (j : Jn) : ∀ u ∈ jC j, u.oneCell' = true := by
 intro u hu
 simp [jC] at hu
 rcases hu with rfl | rfl | rfl | rfl | rfl | rfl | rfl | rfl <;> rfl
def jV (j : Jn) : Value := .agg #[.int .i64 j.a, .int .i64 j.b, .int .i64 j.size, .bool (decide (j.high.num < 0)), .int .u64 (lo j.high.num.natAbs : Int), .string (mo j.high.num.natAbs), .int .u64 (lo ((qden j.high)) : Int), .string (mo ((qden j.high)))]
abbrev ReadsJ (w : World) (B : Nat) (A : Option Addr) (n : Nat) (l : List Jn) : Prop := ReadsW w B 8 jC A n l
abbrev OwnJ (w : World) (v : Value) (l : List Jn) : Prop := OwnW w 58 8 jC v l
theorem Tryz.eltJ : EltW Tryz.prog 40 58 (.agg #[.int .i64 0, .int .i64 0, .int .i64 0, .bool false, .int .u64 0, .string ⟨#[]⟩, .int .u64 0, .string ⟨#[]⟩]) 8 80 := ⟨Tryz.underlying40, by kernel_rfl, by kernel_rfl⟩
theorem readsJ1 (wr : World) (j : Jn) : ReadsW (wr.alloc (.cells #[.int .i64 j.a, .int .i64 j.b, .int .i64 j.size, .bool (decide (j.high.num < 0)), .int .u64 (lo j.high.num.natAbs : Int), .string (mo j.high.num.natAbs), .int .u64 (lo ((qden j.high)) : Int), .string (mo ((qden j.high)))] 58)) (wr.heap.size + 1) 8 jC (some ⟨wr.heap.size, 0, none⟩) 1 [j] :=
 ⟨rfl, by
  have h : Blk (wr.alloc (.cells #[.int .i64 j.a, .int .i64 j.b, .int .i64 j.size, .bool (decide (j.high.num < 0)), .int .u64 (lo j.high.num.natAbs : Int), .string (mo j.high.num.natAbs), .int .u64 (lo ((qden j.high)) : Int), .string (mo ((qden j.high)))] 58)) wr.heap.size 58 (jC j).toArray := Blk.new wr 58 #[.int .i64 j.a, .int .i64 j.b, .int .i64 j.size, .bool (decide (j.high.num < 0)), .int .u64 (lo j.high.num.natAbs : Int), .string (mo j.high.num.natAbs), .int .u64 (lo ((qden j.high)) : Int), .string (mo ((qden j.high)))]
  have := Reads.ofBlk h (jC_len j)
  simpa using this⟩
section
variable {ops : Array Oper} {rest : List Oper} {o : Oper} {a : Act} {Q : Exit -> Act -> World -> Prop}
theorem appJ (hgd : o.guard = none) (s x : Operand)
  (ho : o.op = .call { callee := .builtin .append, args := #[s, x], argTypes := #[40, 40] })
  (wr : World) (v : Value) (l : List Jn) (j : Jn) (hs : a.eval s = v) (hown : OwnJ wr v l) (hx : a.eval x = .slice (some ⟨wr.heap.size, 0, none⟩) 1 1) (hl : l.length <= 1000000)
  (h : ∀ v' w1, OwnJ w1 v' (l ++ [j]) -> Grew wr w1 v v' -> wpList Tryz.prog ops Q rest (a.put o.dst v') w1) : wpList Tryz.prog ops Q (o :: rest) a (wr.alloc (.cells #[.int .i64 j.a, .int .i64 j.b, .int .i64 j.size, .bool (decide (j.high.num < 0)), .int .u64 (lo j.high.num.natAbs : Int), .string (mo j.high.num.natAbs), .int .u64 (lo ((qden j.high)) : Int), .string (mo ((qden j.high)))] 58)) := by
 refine appW Tryz.eltJ (by omega) hgd s x ho _ v l (wr.heap.size + 1) (some ⟨wr.heap.size, 0, none⟩) 1 1 [j] hs (hown.alloc _) hx (readsJ1 wr j) jC_one (by unfold maxLen; omega) (by omega) ?_
 intro v' w1 h1 h2
 refine h v' w1 h1 ?_
 refine ⟨h2.os, h2.tape, h2.output, nt (by simp) h2.size, fun k hk hne => (h2.block k (by simp; omega) hne).trans (Below.heap_alloc wr _ k hk), fun k hk => ?_⟩
 rcases h2.own k hk with h3 | h3
 ·exact .inl h3
 exact .inr (by simp at h3; omega)
end
structure AtJ (w : World) (g o : Nat) (j : Jn) : Prop where
 c8 : w.cell? ⟨g, o, none⟩ = some (.int .i64 j.a) /\ w.cell? ⟨g, o + 1, none⟩ = some (.int .i64 j.b) /\ w.cell? ⟨g, o + 2, none⟩ = some (.int .i64 j.size) /\
   w.cell? ⟨g, o + 3, none⟩ = some (.bool (decide (j.high.num < 0))) /\ w.cell? ⟨g, o + 4, none⟩ = some (.int .u64 (lo j.high.num.natAbs : Int)) /\ w.cell? ⟨g, o + 5, none⟩ = some (.string (mo j.high.num.natAbs)) /\
   w.cell? ⟨g, o + 6, none⟩ = some (.int .u64 (lo (qden j.high) : Int)) /\ w.cell? ⟨g, o + 7, none⟩ = some (.string (mo (qden j.high)))
theorem AtJ.lt {w : World} {g o : Nat} {j : Jn} (h : AtJ w g o j) : g < w.heap.size := cell_lt h.c8.1
theorem AtJ.below {w w' : World} {g o B : Nat} {j : Jn} (h : AtJ w g o j) (hb : Below B w w') (hg : g < B) : AtJ w' g o j := by
 obtain ⟨h0, h1, h2, h3, h4, h5, h6, h7⟩ := h.c8
 refine ⟨?_⟩
 rw [hb.cell (p := ⟨g, o, none⟩) hg, hb.cell (p := ⟨g, o + 1, none⟩) hg, hb.cell (p := ⟨g, o + 2, none⟩) hg, hb.cell (p := ⟨g, o + 3, none⟩) hg, hb.cell (p := ⟨g, o + 4, none⟩) hg, hb.cell (p := ⟨g, o + 5, none⟩) hg, hb.cell (p := ⟨g, o + 6, none⟩) hg, hb.cell (p := ⟨g, o + 7, none⟩) hg]
 exact ⟨h0, h1, h2, h3, h4, h5, h6, h7⟩
theorem AtJ.drew {w : World} {g o : Nat} {j : Jn} (h : AtJ w g o j) : AtJ w.drew g o j := h.below (bdrew0 w) h.lt
theorem AtJ.alloc {w : World} {g o : Nat} {j : Jn} (h : AtJ w g o j) (b : Obj) : AtJ (w.alloc b) g o j := h.below (balloc1 w b) h.lt
theorem AtJ.high {w : World} {g o : Nat} {j : Jn} (h : AtJ w g o j) : AtQ w g (o + 3) j.high := by
 obtain ⟨h0, h1, h2, h3, h4, h5, h6, h7⟩ := h.c8
 exact ⟨⟨h3, h4, h5, h6, h7⟩⟩
theorem ReadsJ.at_ {w : World} {B : Nat} {A : Option Addr} {n : Nat} {l : List Jn} (h : ReadsJ w B A n l) {k : Nat} {j : Jn} (hj : l[k]? = some j) : ∃ ad g o, A = some ad /\ ad.add (k * 8) = ⟨g, o, none⟩ /\ g < B /\ AtJ w g o j := by
 have hk : k < n := by rw [<- h.len]; exact (List.getElem?_eq_some_iff.1 hj).1
 obtain ⟨ad, y, h1, h2, h3, h4⟩ := ReadsW.at_ jC_len h hk
 obtain rfl := Option.some.inj (hj.symm.trans h3)
 have c0 := h4 0 _ rfl
 have e0 := spot_none c0
 rw [Nat.add_zero] at c0 e0
 have hb := block_of_add ad (k * 8)
 have hc : ∀ i u, (jC j)[i + 1]? = some u -> w.cell? ((ad.add (k * 8)).add (i + 1)) = some u := fun i u hu => by rw [add_of_add]; exact h4 (i + 1) u hu
 cases hP : ad.add (k * 8) with
 | mk g o sp =>
  rw [hP] at c0 e0 hb hc
  obtain rfl : sp = none := e0
  exact ⟨ad, g, o, h1, hP, by have : g = ad.block := hb; omega, ⟨⟨c0, hc 0 _ rfl, hc 1 _ rfl, hc 2 _ rfl, hc 3 _ rfl, hc 4 _ rfl, hc 5 _ rfl, hc 6 _ rfl⟩⟩⟩
theorem mean_far0 (A A' : Option Addr) (n c c' B m : Nat) (a b : List Rat) (w : World) (ha : ReadsQ w B A n a) (hb : ReadsQ w B A' n b) (hB : B <= w.heap.size) (hn : n <= 1000) (hm : 1 <= m) (hm2 : m <= 10000000) (sa : ∀ x ∈ a, QS m x) (sb : ∀ x ∈ b, QS m x) (hT : Tab w) :
  Calls Tryz.prog 89 #[.slice A n c, .slice A' n c'] w (Ret (qV (farQ a b)) w) := by
 have HLA := lh ha.len
 have HLB := lh hb.len
 have HSZ := lh (farStep_size sa sb hm)
 have HA := lh ha
 have HBR := lh hb
 have HSA := lh sa
 have HSB := lh sb
 have HT := lh hT
 clear ha hb sa sb hT
 go_enter Tryz.func89, Tryz.ntmps89
 go_wp2_with fail
 have b0 := (Blk.new w 56 #[.bool false, .int .u64 0, .string ⟨#[]⟩, .int .u64 0, .string ⟨#[]⟩]).alloc (.cells #[.bool false, .int .u64 0, .string ⟨#[]⟩, .int .u64 0, .string ⟨#[]⟩] 56)
 have b1 := Blk.new2 w (.cells #[.bool false, .int .u64 0, .string ⟨#[]⟩, .int .u64 0, .string ⟨#[]⟩] 56) 56 #[.bool false, .int .u64 0, .string ⟨#[]⟩, .int .u64 0, .string ⟨#[]⟩]
 have hW := balloc2 w (.cells #[.bool false, .int .u64 0, .string ⟨#[]⟩, .int .u64 0, .string ⟨#[]⟩] 56) (.cells #[.bool false, .int .u64 0, .string ⟨#[]⟩, .int .u64 0, .string ⟨#[]⟩] 56)
 generalize (w.alloc (.cells #[.bool false, .int .u64 0, .string ⟨#[]⟩, .int .u64 0, .string ⟨#[]⟩] 56)).alloc (.cells #[.bool false, .int .u64 0, .string ⟨#[]⟩, .int .u64 0, .string ⟨#[]⟩] 56) = W at *
 go_loopw [10] (fun p wr => ∃ (k : Nat) (s : Rat), k <= n /\ p = .int .i64 (k : Int) /\ Hid (farStep a b k = s) /\ Blk wr w.heap.size 56 #[.bool false, .int .u64 0, .string ⟨#[]⟩, .int .u64 0, .string ⟨#[]⟩] /\ Blk wr (w.heap.size + 1) 56 #[.bool (decide (s.num < 0)), .int .u64 (lo s.num.natAbs : Int), .string (mo s.num.natAbs), .int .u64 (lo ((qden s)) : Int), .string (mo ((qden s)))] /\ Below w.heap.size w wr) (fun p _ => n - (intOf p).toNat)
 case atStart => exact ⟨0, 0, by omega, rfl, lh rfl, b0, b1, hW⟩
 case round =>
  obtain ⟨k, s, hk, rfl, hs, c0, c1, hbw⟩ := hrel
  clear b0 b1 hW
  rename World => wr
  by_cases hkn : k < n
  ·have k1 : (k : Int) < (n : Int) := by omega
   obtain ⟨x, hx⟩ : ∃ x, a[k]? = some x := ⟨_, List.getElem?_eq_getElem (by have := HLA.out; omega)⟩
   obtain ⟨y, hy⟩ : ∃ y, b[k]? = some y := ⟨_, List.getElem?_eq_getElem (by have := HLB.out; omega)⟩
   obtain ⟨ad, g1, o1, rfl, hP1, hg1, b1⟩ := ReadsQ.at_ (HA.out.below (hbw.mono hB)) hx
   obtain ⟨ad', g2, o2, rfl, hP2, hg2, b2⟩ := ReadsQ.at_ (HBR.out.below (hbw.mono hB)) hy
   have qx := HSA.out x (List.mem_of_getElem? hx)
   have qy := HSB.out y (List.mem_of_getElem? hy)
   have hst : farStep a b (k + 1) = s + (x - y) * (x - y) := by
    rw [<- hs.out]
    show farStep a b k + _ = _
    rw [List.getD_eq_getElem?_getD, hx, List.getD_eq_getElem?_getD, hy]
    rfl
   have hsz : QS 68719476736 s := by
    rw [<- hs.out]
    refine (HSZ.out k).mono ?_
    have := Nat.mul_le_mul (show k <= 1000 by omega) (show 4 * m + 3 <= 40000003 by omega)
    omega
   have hsub := fun w (hT : Tab w) => frac_sub x y w (qx.mono (by omega)) (qy.mono (by omega)) hT
   have qd : QS 20000001 (x - y) := (qx.sub qy).mono (by omega)
   generalize x - y = d at *
   have hmul := fun w (hT : Tab w) => frac_mul d d w (qd.mono (by omega)) (qd.mono (by omega)) hT
   have qp : QS 40000002 (d * d) := (qd.mul qd).mono (by omega)
   generalize d * d = p at *
   have hadd := fun w (hT : Tab w) => frac_add s p w (hsz.mono (by omega)) (qp.mono (by omega)) hT
   generalize s + p = s' at *
   unfold qV at hsub hmul hadd
   have HSUB := lh hsub
   have HMUL := lh hmul
   have HADD := lh hadd
   have HST := lh hst
   have HBW := lh hbw
   have tT := HT.out.next hbw
   have g0 := c0.lt
   have g5 := c1.lt
   clear hsub hmul hadd hst qx qy hsz qd qp hx hy hs hbw hg1 hg2
   go_upto_region 5 with fail
   go_cut [7] (fun v wc => Born wr 56 #[.bool (decide (d.num < 0)), .int .u64 (lo d.num.natAbs : Int), .string (mo d.num.natAbs), .int .u64 (lo ((qden d)) : Int), .string (mo ((qden d)))] v wc)
   case first =>
    obtain ⟨b1q0, b1q1, b1q2, b1q3, b1q4⟩ := b1.c5; have c1 := b1.drew; have c1l := c1.lt; obtain ⟨b2q0, b2q1, b2q2, b2q3, b2q4⟩ := b2.c5; have c2 := b2.drew; have c2l := c2.lt; have hc := bdrew0 wr; go_region_held3 (fun w' => w'.cell? ⟨g1, o1, none⟩ = some (.bool (decide (x.num < 0))) /\ w'.cell? ⟨g1, o1 + 1, none⟩ = some (.int .u64 (lo x.num.natAbs : Int)) /\ w'.cell? ⟨g1, o1 + 2, none⟩ = some (.string (mo x.num.natAbs)) /\ w'.cell? ⟨g1, o1 + 3, none⟩ = some (.int .u64 (lo ((qden x)) : Int)) /\ w'.cell? ⟨g1, o1 + 4, none⟩ = some (.string (mo ((qden x)))) /\ w'.cell? ⟨g2, o2, none⟩ = some (.bool (decide (y.num < 0))) /\ w'.cell? ⟨g2, o2 + 1, none⟩ = some (.int .u64 (lo y.num.natAbs : Int)) /\ w'.cell? ⟨g2, o2 + 2, none⟩ = some (.string (mo y.num.natAbs)) /\ w'.cell? ⟨g2, o2 + 3, none⟩ = some (.int .u64 (lo ((qden y)) : Int)) /\ w'.cell? ⟨g2, o2 + 4, none⟩ = some (.string (mo ((qden y))))) (go_keep) (first | (go_at_call 125; (first | with_reducible refine (HSUB.out _ (tT.next hc)).mono ?_ | (have hga : wr.heap.size <= wr.heap.size := hc.size; have ca : Blk _ wr.heap.size _ _ := Blk.new wr.drew 56 #[.bool false, .int .u64 0, .string ⟨#[]⟩, .int .u64 0, .string ⟨#[]⟩]; have c1na := nelt (show _ < wr.heap.size from c1l) zd; have c1 := c1.alloc (.cells #[.bool false, .int .u64 0, .string ⟨#[]⟩, .int .u64 0, .string ⟨#[]⟩] 56); have c2na := nelt (show _ < wr.heap.size from c2l) zd; have c2 := c2.alloc (.cells #[.bool false, .int .u64 0, .string ⟨#[]⟩, .int .u64 0, .string ⟨#[]⟩] 56); have hc := bthen hc (balloc1 _ (.cells #[.bool false, .int .u64 0, .string ⟨#[]⟩, .int .u64 0, .string ⟨#[]⟩] 56)); with_reducible refine (HSUB.out _ (tT.next hc)).mono ?_) | (have hga : wr.heap.size <= wr.heap.size := hc.size; have ca : Blk (wr.alloc (.cells #[.bool false, .int .u64 0, .string ⟨#[]⟩, .int .u64 0, .string ⟨#[]⟩] 56)).drew wr.heap.size _ _ := Blk.new wr.drew 56 #[.bool false, .int .u64 0, .string ⟨#[]⟩, .int .u64 0, .string ⟨#[]⟩]; have c1na := nelt (show _ < wr.heap.size from c1l) zd; have c1 : AtQ (wr.alloc (.cells #[.bool false, .int .u64 0, .string ⟨#[]⟩, .int .u64 0, .string ⟨#[]⟩] 56)).drew _ _ _ := c1.alloc (.cells #[.bool false, .int .u64 0, .string ⟨#[]⟩, .int .u64 0, .string ⟨#[]⟩] 56); have c2na := nelt (show _ < wr.heap.size from c2l) zd; have c2 : AtQ (wr.alloc (.cells #[.bool false, .int .u64 0, .string ⟨#[]⟩, .int .u64 0, .string ⟨#[]⟩] 56)).drew _ _ _ := c2.alloc (.cells #[.bool false, .int .u64 0, .string ⟨#[]⟩, .int .u64 0, .string ⟨#[]⟩] 56); have hc : Below wr.heap.size wr (wr.alloc (.cells #[.bool false, .int .u64 0, .string ⟨#[]⟩, .int .u64 0, .string ⟨#[]⟩] 56)).drew := bthen hc (balloc1 _ (.cells #[.bool false, .int .u64 0, .string ⟨#[]⟩, .int .u64 0, .string ⟨#[]⟩] 56)); with_reducible refine (HSUB.out _ (tT.next hc)).mono ?_)); rintro e w1 ⟨rfl, hw1⟩; (try have ca := ca.below hw1 ca.lt); have c1 := c1.below hw1 c1.lt; (try clear c1q0 c1q1 c1q2 c1q3 c1q4); obtain ⟨c1q0, c1q1, c1q2, c1q3, c1q4⟩ := c1.c5; (try clear c1l); have c1l := c1.lt; have c2 := c2.below hw1 c2.lt; (try clear c2q0 c2q1 c2q2 c2q3 c2q4); obtain ⟨c2q0, c2q1, c2q2, c2q3, c2q4⟩ := c2.c5; (try clear c2l); have c2l := c2.lt; have hc := bthen hc hw1; (try (have cal := ca.lt; obtain ⟨caq0, caq1, caq2, caq3, caq4, caf0, caf1, caf2, caf3, caf4, cas0, cas1, cas2, cas3, cas4⟩ := ca.f5))))
    all_goals
     go_wp2
     go_meet
     first | with_reducible exact born_end hc | with_reducible exact one5 hc ca hga | with_reducible exact one5 (bthen hc (balloc1 _ _)) (Blk.new _ _ _) hc.size
   case rest =>
    obtain ⟨g7, rfl, hg7, b7, hb7⟩ := hcut
    rename World => W2
    have b0 := c0.below hb7 g0
    have b5 := c1.below hb7 g5
    have tT := tT.next hb7
    have ne1 : ¬ w.heap.size + 1 = g7 := by omega
    have ne2 : ¬ g7 = w.heap.size + 1 := by omega
    have ne3 : ¬ w.heap.size = g7 := by omega
    have hB2 := HBW.out.trans (hb7.mono HBW.out.size)
    clear c0 c1 b1 b2 HSUB
    go_upto_region 6 with fail
    obtain ⟨b5q0, b5q1, b5q2, b5q3, b5q4⟩ := b5.c5; have c5 := b5.drew; have c5l := c5.lt; obtain ⟨b7q0, b7q1, b7q2, b7q3, b7q4⟩ := b7.c5; have c7 := b7.drew; have c7l := c7.lt; have c0 := b0.drew; have c0l := c0.lt; have hc := bdrew0 W2; go_region_with (first | (go_at_call 37; (with_reducible refine (HMUL.out _ (tT.next hc)).mono ?_); rintro e w1 ⟨rfl, hw1⟩; have c5 := c5.below hw1 c5.lt; (try clear c5q0 c5q1 c5q2 c5q3 c5q4); obtain ⟨c5q0, c5q1, c5q2, c5q3, c5q4⟩ := c5.c5; (try clear c5l); have c5l := c5.lt; have c7 := c7.below hw1 c7.lt; (try clear c7q0 c7q1 c7q2 c7q3 c7q4); obtain ⟨c7q0, c7q1, c7q2, c7q3, c7q4⟩ := c7.c5; (try clear c7l); have c7l := c7.lt; have c0 := c0.below hw1 c0.lt; (try clear c0l); have c0l := c0.lt; have hc := bthen hc hw1) | (go_at_call 124; (with_reducible refine (HADD.out _ (tT.next hc)).mono ?_); rintro e w2 ⟨rfl, hw2⟩; have c5 := c5.below hw2 c5.lt; (try clear c5q0 c5q1 c5q2 c5q3 c5q4); obtain ⟨c5q0, c5q1, c5q2, c5q3, c5q4⟩ := c5.c5; (try clear c5l); have c5l := c5.lt; have c7 := c7.below hw2 c7.lt; (try clear c7q0 c7q1 c7q2 c7q3 c7q4); obtain ⟨c7q0, c7q1, c7q2, c7q3, c7q4⟩ := c7.c5; (try clear c7l); have c7l := c7.lt; have c0 := c0.below hw2 c0.lt; (try clear c0l); have c0l := c0.lt; have hc := bthen hc hw2; obtain ⟨_, _, _, _, _, f0, f1, f2, f3, f4, z0, z1, z2, z3, z4⟩ := c5.f5))
    all_goals
     go_wp2
     have e1 := ((((c5.set_ 0 (.bool (decide (s'.num < 0)))).set_ 1 (.int .u64 (lo s'.num.natAbs : Int))).set_ 2 (.string (mo s'.num.natAbs))).set_ 3 (.int .u64 (lo (qden s') : Int))).set_ 4 (.string (mo (qden s')))
     have e0 := ((((c0.far (p := ⟨w.heap.size + 1, 0, none⟩) (by simp) (.bool (decide (s'.num < 0)))).far (p := ⟨w.heap.size + 1, 1, none⟩) (by simp) (.int .u64 (lo s'.num.natAbs : Int))).far (p := ⟨w.heap.size + 1, 2, none⟩) (by simp) (.string (mo s'.num.natAbs))).far (p := ⟨w.heap.size + 1, 3, none⟩) (by simp) (.int .u64 (lo (qden s') : Int))).far (p := ⟨w.heap.size + 1, 4, none⟩) (by simp) (.string (mo (qden s')))
     exact ⟨⟨k + 1, s', by omega, by go_num, HST, e0, by simpa using e1, bset5 (bthen hB2 hc) (by omega) _ _ _ _ _⟩, by simp [intOf]; omega⟩
  obtain rfl : k = n := by omega
  have hs' : farQ a b = s := by rw [<- hs.out]; unfold farQ; rw [HLA.out]
  have HS2 := lh hs'
  clear hs' hs
  have hkk : ¬ (k : Int) < (k : Int) := by omega
  obtain ⟨c0q0, c0q1, c0q2, c0q3, c0q4, c0f0, c0f1, c0f2, c0f3, c0f4, c0s0, c0s1, c0s2, c0s3, c0s4⟩ := c0.f5
  obtain ⟨c1q0, c1q1, c1q2, c1q3, c1q4⟩ := c1.c5
  go_wp2
  refine bodyPost_ret (v := .agg #[.bool (decide (s.num < 0)), .int .u64 (lo s.num.natAbs : Int), .string (mo s.num.natAbs), .int .u64 (lo ((qden s)) : Int), .string (mo ((qden s)))]) (by simp [results, Tryz.results89, go_sem, c0s0, c0s1, c0s2, c0s3, c0s4]) rfl ?_
  exact ⟨by rw [HS2.out]; rfl, bset5 hbw (by omega) _ _ _ _ _⟩
def BornR (W : World) (q : Rat) (v : Value) (wc : World) : Prop :=
 ∃ g ng A l c A' l' c', v = .pointer (some ⟨g, 0, none⟩) /\ W.heap.size <= g /\ Blk wc g 70 #[.bool ng, .slice A l c, .slice A' l' c'] /\ IsQ wc wc.heap.size (.agg #[.bool ng, .slice A l c, .slice A' l' c']) q /\ Below W.heap.size W wc
theorem bornR_new {W wn : World} {q : Rat} {l c l' c' : Nat} {ng : Bool} {A A' : Option Addr} (hc : Below W.heap.size W wn) (hQ : IsQ wn wn.heap.size (.agg #[.bool ng, .slice A l c, .slice A' l' c']) q) :
  BornR W q (.pointer (some ⟨wn.heap.size, 0, none⟩)) (wn.alloc (.cells #[.bool ng, .slice A l c, .slice A' l' c'] 70)) :=
 ⟨_, _, _, _, _, _, _, _, rfl, hc.size, Blk.new _ _ _, (hQ.next zd (balloc1 _ _)).more (balloc1 _ _).size, bthen hc (balloc1 _ _)⟩
theorem bornR_set {W wn : World} {q : Rat} {g l c l' c' : Nat} {ng : Bool} {A A' : Option Addr} (hc : Below W.heap.size W wn) (hQ : IsQ wn wn.heap.size (.agg #[.bool ng, .slice A l c, .slice A' l' c']) q)
  (ca : Blk wn g 70 #[.bool false, .slice none 0 0, .slice none 0 0]) (hg : W.heap.size <= g) :
  BornR W q (.pointer (some ⟨g, 0, none⟩)) (((wn.setCell ⟨g, 0, none⟩ (.bool ng)).setCell ⟨g, 1, none⟩ (.slice A l c)).setCell ⟨g, 2, none⟩ (.slice A' l' c')) := by
 refine ⟨_, _, _, _, _, _, _, _, rfl, hg, by simpa using ((ca.set_ 0 (.bool ng)).set_ 1 (.slice A l c)).set_ 2 (.slice A' l' c'), ?_, bset3 hc hg _ _ _⟩
 rw [World.size_setCell, World.size_setCell, World.size_setCell]
 exact hQ.set3 ca _ _ _ _ _ _ _
theorem bornR_set' {W wn : World} {q : Rat} {l c l' c' : Nat} {ng : Bool} {A A' : Option Addr} (hc : Below W.heap.size W wn) (hQ : IsQ wn wn.heap.size (.agg #[.bool ng, .slice A l c, .slice A' l' c']) q) :
  BornR W q (.pointer (some ⟨wn.heap.size, 0, none⟩)) ((((wn.alloc (.cells #[.bool false, .slice none 0 0, .slice none 0 0] 70)).setCell ⟨wn.heap.size, 0, none⟩ (.bool ng)).setCell ⟨wn.heap.size, 1, none⟩ (.slice A l c)).setCell ⟨wn.heap.size, 2, none⟩ (.slice A' l' c')) :=
 bornR_set (bthen hc (balloc1 _ _)) ((hQ.next zd (balloc1 _ _)).more (balloc1 _ _).size) (Blk.new _ _ _) hc.size
theorem mean_far (A A' : Option Addr) (n c c' B m : Nat) (a b : List Rat) (w : World) (ha : ReadsQ w B A n a) (hb : ReadsQ w B A' n b) (hB : B <= w.heap.size) (hn : n <= 1000) (hm : 1 <= m) (hm2 : m <= 10000000) (sa : ∀ x ∈ a, QS m x) (sb : ∀ x ∈ b, QS m x) (hT : Tab w) :
  Calls Tryz.prog 54 #[.slice A n c, .slice A' n c'] w (Ret (.tuple #[qV (farQ a b), .bool true]) w) := by
 have hf := fun w' (hb' : Below w.heap.size w w') => mean_far0 A A' n c c' B m a b w' (ha.below (hb'.mono hB)) (hb.below (hb'.mono hB)) (nt hB hb'.size) hn hm hm2 sa sb (hT.next hb')
 generalize farQ a b = q at *
 unfold qV at hf ⊢
 have HF := lh hf
 clear hf ha hb sa sb
 have b0 := Blk.new w  56 #[.bool false, .int .u64 0, .string ⟨#[]⟩, .int .u64 0, .string ⟨#[]⟩]; have hB := balloc1 w (.cells #[.bool false, .int .u64 0, .string ⟨#[]⟩, .int .u64 0, .string ⟨#[]⟩] 56); have hZ := lh (show (w.alloc (.cells #[.bool false, .int .u64 0, .string ⟨#[]⟩, .int .u64 0, .string ⟨#[]⟩] 56)).heap.size = w.heap.size + 1 from by simp)
 go_enter Tryz.func54, Tryz.ntmps54
 go_wp2_with fail
 generalize (w.alloc (.cells #[.bool false, .int .u64 0, .string ⟨#[]⟩, .int .u64 0, .string ⟨#[]⟩] 56)) = W at *
 refine (HF.out W hB).mono ?_
 rintro e w1 ⟨rfl, hb1⟩
 have b0 := b0.below hb1 b0.lt
 obtain ⟨b0q0, b0q1, b0q2, b0q3, b0q4, b0f0, b0f1, b0f2, b0f3, b0f4, b0s0, b0s1, b0s2, b0s3, b0s4⟩ := b0.f5
 go_wp2
 refine bodyPost_ret (v := .tuple #[.agg #[.bool (decide (q.num < 0)), .int .u64 (lo q.num.natAbs : Int), .string (mo q.num.natAbs), .int .u64 (lo ((qden q)) : Int), .string (mo ((qden q)))], .bool true]) (by simp [results, Tryz.results54, go_sem, b0s0, b0s1, b0s2, b0s3, b0s4]) rfl ?_
 exact ⟨rfl, bset5 (bthen hB hb1) (by omega) _ _ _ _ _⟩
theorem ref_far (A A' : Option Addr) (n c c' B m : Nat) (a b : List Rat) (w : World) (ha : ReadsR w B A n a) (hb : ReadsR w B A' n b) (hB : B <= w.heap.size) (hn : n <= 1000) (hm : 1 <= m) (hm2 : m <= 10000000) (sa : ∀ x ∈ a, QS m x) (sb : ∀ x ∈ b, QS m x) :
  Calls Tryz.prog 60 #[.slice A n c, .slice A' n c'] w (RetQ (farQ a b) w) := by
 have HLA := lh ha.len
 have HLB := lh hb.len
 have HSZ := lh (farStep_size sa sb hm)
 have HA := lh ha
 have HBR := lh hb
 have HSA := lh sa
 have HSB := lh sb
 clear ha hb sa sb
 have b0 := Blk.new w  70 #[.bool false, .slice none 0 0, .slice none 0 0]; have hB := balloc1 w (.cells #[.bool false, .slice none 0 0, .slice none 0 0] 70); have hZ := lh (show (w.alloc (.cells #[.bool false, .slice none 0 0, .slice none 0 0] 70)).heap.size = w.heap.size + 1 from by simp)
 go_enter Tryz.func60, Tryz.ntmps60
 go_wp2_with fail
 generalize (w.alloc (.cells #[.bool false, .slice none 0 0, .slice none 0 0] 70)) = W at *
 refine (ref_of 0 W (by omega) (by omega)).mono ?_
 rintro e w1 ⟨v1, rfl, hR1, hw1⟩
 obtain ⟨g1, A1, l1, c1c, A1', l1', c1c', rfl⟩ := hR1.shape
 have b0 := b0.below hw1 b0.lt
 have hb01 := b0.lt
 have b0 := b0.alloc (.cells #[.bool g1, .slice A1 l1 c1c, .slice A1' l1' c1c'] 70)
 have hal := balloc1 w1 (.cells #[.bool g1, .slice A1 l1 c1c, .slice A1' l1' c1c'] 70)
 have HI : Hid (AccRel w w.heap.size w1.heap.size (farStep a b 0) (w1.alloc (.cells #[.bool g1, .slice A1 l1 c1c, .slice A1' l1' c1c'] 70))) :=
  lh ⟨g1, A1, l1, c1c, A1', l1', c1c', b0, Blk.new _ _ _, (hR1.next zd hal).more hal.size, bthen (bthen hB hw1) hal⟩
 have hB1 := bthen hB hw1
 have hb3 : w.heap.size <= w1.heap.size := hB1.size
 clear b0 hal hR1 hB hB1 hw1
 go_wp2_with fail
 generalize w1.alloc (.cells #[.bool g1, .slice A1 l1 c1c, .slice A1' l1' c1c'] 70) = w2 at *
 generalize w1.heap.size = b3 at *
 have hne : w.heap.size ≠ b3 := by omega
 have hne1 : ¬ w.heap.size = b3 := hne
 have hne2 : ¬ b3 = w.heap.size := by omega
 go_loopw [6] (fun p wr => ∃ (k : Nat), k <= n /\ p = .int .i64 (k : Int) /\ AccRel w w.heap.size b3 (farStep a b k) wr) (fun p _ => n - (intOf p).toNat)
 case atStart => exact ⟨0, by omega, rfl, HI.out⟩
 case round =>
  obtain ⟨k, hk, rfl, g, Aa, l, c9, Aa', l', c9', h0, h3, hq, hbel⟩ := hrel
  rename World => wr
  clear HI
  by_cases hkn : k < n
  ·have k1 : (k : Int) < (n : Int) := by omega
   obtain ⟨x, hx⟩ : ∃ x, a[k]? = some x := ⟨_, List.getElem?_eq_getElem (by have := HLA.out; omega)⟩
   obtain ⟨y, hy⟩ : ∃ y, b[k]? = some y := ⟨_, List.getElem?_eq_getElem (by have := HLB.out; omega)⟩
   have hBw := nt ‹B <= _› hbel.size
   obtain ⟨ad, gx, ox, r, rfl, hP1, hg1, b1, iq1⟩ := (HA.out.below (hbel.mono ‹B <= _›)).at_ hx hkn
   obtain ⟨ad', gy, oy, r', rfl, hP2, hg2, b2, iq2⟩ := (HBR.out.below (hbel.mono ‹B <= _›)).at_ hy hkn
   have qx := HSA.out x (List.mem_of_getElem? hx)
   have qy := HSB.out y (List.mem_of_getElem? hy)
   have hst : farStep a b (k + 1) = farStep a b k + (x - y) * (x - y) := by
    show farStep a b k + _ = _
    rw [List.getD_eq_getElem?_getD, hx, List.getD_eq_getElem?_getD, hy]
    rfl
   have hsz : QS 68719476736 (farStep a b k) := by
    refine (HSZ.out k).mono ?_
    have := Nat.mul_le_mul (show k <= 1000 by omega) (show 4 * m + 3 <= 40000003 by omega)
    omega
   have qd : QS 20000001 (x - y) := (qx.sub qy).mono (by omega)
   have qp : QS 40000002 ((x - y) * (x - y)) := (qd.mul qd).mono (by omega)
   have hsub := fun w' (hb' : Below wr.heap.size wr w') => ref_sub x y wr.heap.size _ _ w' ((iq1.more hBw).below hb') ((iq2.more hBw).below hb') hb'.size (qx.mono (by omega)) (qy.mono (by omega))
   generalize hde : x - y = d at *
   obtain ⟨rg, rA, rl, rc, rA', rl', rc'⟩ := r
   obtain ⟨sg, sA, sl, sc, sA', sl', sc'⟩ := r'
   unfold RC.v at hsub
   simp only [] at b1 b2 hsub
   have HSUB := lh hsub
   have HST := lh hst
   have HQS := lh hsz
   have HQD := lh qd
   have HQP := lh qp
   have HBW := lh hbel
   have HQ := lh hq
   clear hsub hst qx qy hsz qd qp hx hy hbel hg1 hg2 iq1 iq2 hq hde
   have hl0 := h0.lt
   have hl3 := h3.lt
   go_upto_region 5 with fail
   go_cut [7] (fun v wc => BornR wr d v wc)
   case first =>
    obtain ⟨b1q0, b1q1, b1q2⟩ := b1.c3; have c1 := b1.drew; have c1l := c1.lt; obtain ⟨b2q0, b2q1, b2q2⟩ := b2.c3; have c2 := b2.drew; have c2l := c2.lt; have hc := bdrew0 wr; go_region_held3 (fun w' => w'.cell? ⟨gx, ox, none⟩ = some (.bool rg) /\ w'.cell? ⟨gx, ox + 1, none⟩ = some (.slice rA rl rc) /\ w'.cell? ⟨gx, ox + 2, none⟩ = some (.slice rA' rl' rc') /\ w'.cell? ⟨gy, oy, none⟩ = some (.bool sg) /\ w'.cell? ⟨gy, oy + 1, none⟩ = some (.slice sA sl sc) /\ w'.cell? ⟨gy, oy + 2, none⟩ = some (.slice sA' sl' sc')) (go_keep) (first | (go_at_call 94; (first | with_reducible refine (HSUB.out _ hc).mono ?_ | (have hga : wr.heap.size <= wr.heap.size := hc.size; have ca : Blk _ wr.heap.size _ _ := Blk.new wr.drew 70 #[.bool false, .slice none 0 0, .slice none 0 0]; have c1na := nelt (show _ < wr.heap.size from c1l) zd; have c1 := c1.alloc (.cells #[.bool false, .slice none 0 0, .slice none 0 0] 70); have c2na := nelt (show _ < wr.heap.size from c2l) zd; have c2 := c2.alloc (.cells #[.bool false, .slice none 0 0, .slice none 0 0] 70); have hc := bthen hc (balloc1 _ (.cells #[.bool false, .slice none 0 0, .slice none 0 0] 70)); with_reducible refine (HSUB.out _ hc).mono ?_) | (have hga : wr.heap.size <= wr.heap.size := hc.size; have ca : Blk (wr.alloc (.cells #[.bool false, .slice none 0 0, .slice none 0 0] 70)).drew wr.heap.size _ _ := Blk.new wr.drew 70 #[.bool false, .slice none 0 0, .slice none 0 0]; have c1na := nelt (show _ < wr.heap.size from c1l) zd; have c1 : AtR (wr.alloc (.cells #[.bool false, .slice none 0 0, .slice none 0 0] 70)).drew _ _ _ := c1.alloc (.cells #[.bool false, .slice none 0 0, .slice none 0 0] 70); have c2na := nelt (show _ < wr.heap.size from c2l) zd; have c2 : AtR (wr.alloc (.cells #[.bool false, .slice none 0 0, .slice none 0 0] 70)).drew _ _ _ := c2.alloc (.cells #[.bool false, .slice none 0 0, .slice none 0 0] 70); have hc : Below wr.heap.size wr (wr.alloc (.cells #[.bool false, .slice none 0 0, .slice none 0 0] 70)).drew := bthen hc (balloc1 _ (.cells #[.bool false, .slice none 0 0, .slice none 0 0] 70)); with_reducible refine (HSUB.out _ hc).mono ?_)); rintro e w1 ⟨v1, rfl, hR1, hw1⟩; obtain ⟨g1, A1, l1, c1c, A1', l1', c1c', hv1⟩ := hR1.shape; subst hv1; (try have ca := ca.below hw1 ca.lt); have c1 := c1.below hw1 c1.lt; (try clear c1q0 c1q1 c1q2); obtain ⟨c1q0, c1q1, c1q2⟩ := c1.c3; (try clear c1l); have c1l := c1.lt; have c2 := c2.below hw1 c2.lt; (try clear c2q0 c2q1 c2q2); obtain ⟨c2q0, c2q1, c2q2⟩ := c2.c3; (try clear c2l); have c2l := c2.lt; have hc := bthen hc hw1; (try (have cal := ca.lt; obtain ⟨caq0, caq1, caq2, caf0, caf1, caf2, cas0, cas1, cas2⟩ := ca.f3))))
    all_goals
     go_wp2
     go_meet
     first | with_reducible exact bornR_new hc hR1 | with_reducible exact bornR_set hc hR1 ca hga | with_reducible exact bornR_set' hc hR1
   case rest =>
    obtain ⟨g7, ng, A7, l7, c7, A7', l7', c7', rfl, hg7, b7, hQ7, hb7⟩ := hcut
    rename World => W2
    have b0 := h0.below hb7 hl0
    have b3' := h3.below hb7 hl3
    have ne1 : ¬ b3 = g7 := by omega
    have ne2 : ¬ g7 = b3 := by omega
    have hB2 := HBW.out.trans (hb7.mono HBW.out.size)
    have hq3 := (HQ.out.next zd hb7).more hb7.size
    have HM := lh (fun w' (hb' : Below W2.heap.size W2 w') => ref_mul d d W2.heap.size _ _ w' (hQ7.below hb') (hQ7.below hb') hb'.size (HQD.out.mono (by omega)) (HQD.out.mono (by omega)))
    have HA2 := lh (fun w' V' (hb' : Below W2.heap.size W2 w') (hv : IsQ w' w'.heap.size V' (d * d)) => ref_add (farStep a b k) (d * d) w'.heap.size _ V' w' ((hq3.next zd hb').more hb'.size) hv zd (HQS.out.mono (by omega)) (HQP.out.mono (by omega)))
    rw [<- HST.out] at HA2
    have HB2 := lh hB2
    obtain ⟨s', hs'⟩ : ∃ s', farStep a b (k + 1) = s' := ⟨_, rfl⟩
    rw [hs'] at HA2
    have HS' := lh hs'
    clear hs'
    clear h0 h3 b1 b2 HSUB hQ7 hq3 hB2
    go_upto_region 6 with fail
    obtain ⟨b3'q0, b3'q1, b3'q2⟩ := b3'.c3; have c3' := b3'.drew; have c3'l := c3'.lt; obtain ⟨b7q0, b7q1, b7q2⟩ := b7.c3; have c7 := b7.drew; have c7l := c7.lt; have c0 := b0.drew; have c0l := c0.lt; have hc := bdrew0 W2; go_region_with (first | (go_at_call 96; (with_reducible refine (HM.out _ hc).mono ?_); rintro e w1 ⟨v1, rfl, hR1, hw1⟩; obtain ⟨g1, A1, l1, c1c, A1', l1', c1c', hv1⟩ := hR1.shape; subst hv1; have c3' := c3'.below hw1 c3'.lt; (try clear c3'q0 c3'q1 c3'q2); obtain ⟨c3'q0, c3'q1, c3'q2⟩ := c3'.c3; (try clear c3'l); have c3'l := c3'.lt; have c7 := c7.below hw1 c7.lt; (try clear c7q0 c7q1 c7q2); obtain ⟨c7q0, c7q1, c7q2⟩ := c7.c3; (try clear c7l); have c7l := c7.lt; have c0 := c0.below hw1 c0.lt; (try clear c0l); have c0l := c0.lt; have hc := bthen hc hw1) | (go_at_call 95; (with_reducible refine (HA2.out _ _ hc hR1).mono ?_); rintro e w2 ⟨v2, rfl, hR2, hw2⟩; obtain ⟨g2, A2, l2, c2c, A2', l2', c2c', hv2⟩ := hR2.shape; subst hv2; have c3' := c3'.below hw2 c3'.lt; (try clear c3'q0 c3'q1 c3'q2); obtain ⟨c3'q0, c3'q1, c3'q2⟩ := c3'.c3; (try clear c3'l); have c3'l := c3'.lt; have c7 := c7.below hw2 c7.lt; (try clear c7q0 c7q1 c7q2); obtain ⟨c7q0, c7q1, c7q2⟩ := c7.c3; (try clear c7l); have c7l := c7.lt; have c0 := c0.below hw2 c0.lt; (try clear c0l); have c0l := c0.lt; have hR1 := (hR1.next zd hw2).more hw2.size; have hc := bthen hc hw2; obtain ⟨_, _, _, f0, f1, f2, z0, z1, z2⟩ := c3'.f3))
    all_goals
     go_wp2
     exact ⟨⟨k + 1, by omega, by go_num, by rw [HS'.out]; exact AccRel.store c0 c3' hR2 (bthen HB2.out hc) hne hb3⟩, by simp [intOf]; omega⟩
  obtain rfl : k = n := by omega
  have k1 : ¬ (k : Int) < (k : Int) := by omega
  have hfq : farStep a b k = farQ a b := by unfold farQ; rw [HLA.out]
  rw [hfq] at hq
  have HF := lh (retQ_done (Below.refl _ _) hbel hq h0 zd)
  obtain ⟨h3q0, h3q1, h3q2⟩ := h3.c3
  obtain ⟨h0q0, h0q1, h0q2, h0f0, h0f1, h0f2, h0s0, h0s1, h0s2⟩ := h0.f3
  clear hq hbel hfq
  go_wp2
  refine bodyPost_ret (v := .agg #[.bool g, .slice Aa l c9, .slice Aa' l' c9']) (by simp [results, Tryz.results60, go_sem, h0s0, h0s1, h0s2]) rfl ?_
  exact HF.out
theorem sign_zero (q : Rat) : q.num.sign = 0 ↔ q = 0 := by
 rw [Int.sign_eq_zero_iff_zero]
 exact Rat.num_eq_zero
theorem sign_neg (q : Rat) : q.num.sign < 0 ↔ q < 0 := by
 rw [Int.sign_neg_iff]
 have h : 0 <= q.num ↔ 0 <= q := Rat.num_nonneg
 constructor
 ·intro h1
  exact Rat.not_le.1 fun h2 => absurd (h.2 h2) (by omega)
 intro h1
 by_cases h2 : q.num < 0
 ·exact h2
 exact absurd (h.1 (by omega)) (Rat.not_le.2 h1)
theorem below_cell {B k : Nat} {w w' : World} {ad : Addr} {v : Value} (hb : Below B w w') (h : w.cell? (ad.add k) = some v) (hlt : ad.block < B) : w'.cell? (ad.add k) = some v := by
 rw [hb.cell (p := ad.add k) (by rw [block_of_add]; exact hlt)]
 exact h
theorem checkFar_5 {f : List (List Rat)} (h : f.length < 1 \/ 64 < f.length) : checkFar f = 5 := if_pos h
theorem checkFar_row {f : List (List Rat)} {k : Nat} {l : List Rat} (hl : f[k]? = some l) (hne : l.length ≠ f.length) : checkFar f = 5 := by
 unfold checkFar
 split
 ·rfl
 rw [if_pos (List.any_eq_true.2 ⟨l, List.mem_of_getElem? hl, decide_eq_true hne⟩)]
theorem checkFar_bad {f : List (List Rat)} (h : ¬ (f.length < 1 \/ 64 < f.length)) (hr : ∀ (k : Nat) (l : List Rat), f[k]? = some l -> l.length = f.length) {i k : Nat} (hi : i < f.length) (hk : k < f.length) (hb : badAt f i k = true) : checkFar f = 1 := by
 unfold checkFar
 rw [if_neg h, if_neg, if_pos (badFar_of hi hk hb)]
 rw [Bool.not_eq_true, List.any_eq_false]
 intro l hl
 obtain ⟨j, hj, e⟩ := List.mem_iff_getElem.1 hl
 simp [hr j l (by rw [List.getElem?_eq_getElem hj, e])]
theorem checkFar_ok {f : List (List Rat)} (h : ¬ (f.length < 1 \/ 64 < f.length)) (hr : ∀ (k : Nat) (l : List Rat), f[k]? = some l -> l.length = f.length) (hb : ∀ i, i < f.length -> ∀ k, k < f.length -> badAt f i k = false) : checkFar f = 0 := by
 unfold checkFar
 rw [if_neg h, if_neg, badFar_not hb, if_neg (by simp)]
 rw [Bool.not_eq_true, List.any_eq_false]
 intro l hl
 obtain ⟨j, hj, e⟩ := List.mem_iff_getElem.1 hl
 simp [hr j l (by rw [List.getElem?_eq_getElem hj, e])]
theorem at_getD {f : List (List Rat)} {i k : Nat} {l : List Rat} {x : Rat} (hl : f[i]? = some l) (hx : l[k]? = some x) : (f.getD i []).getD k 0 = x := by
 rw [List.getD_eq_getElem?_getD, List.getD_eq_getElem?_getD, hl]
 show (l[k]?).getD 0 = x
 rw [hx]
 rfl
theorem badAt_eq {f : List (List Rat)} {i k : Nat} {l l' : List Rat} {x y : Rat} (hl : f[i]? = some l) (hx : l[k]? = some x) (hl' : f[k]? = some l') (hy : l'[i]? = some y) : badAt f i k = (decide (x < 0) || (decide (i = k) && decide (x ≠ 0)) || decide (x ≠ y)) := by
 unfold badAt
 rw [at_getD hl hx, at_getD hl' hy]
theorem cmpQ_zero (x y : Rat) : cmpQ x y = 0 ↔ x = y := by
 unfold cmpQ
 by_cases h : x < y
 ·rw [if_pos h]
  exact ⟨fun e => absurd e (by omega), fun e => by subst e; grind⟩
 rw [if_neg h]
 by_cases h2 : y < x
 ·rw [if_pos h2]
  exact ⟨fun e => absurd e (by omega), fun e => by subst e; grind⟩
 rw [if_neg h2]
 exact ⟨fun _ => by grind, fun _ => rfl⟩
def GoodTo (f : List (List Rat)) (i k : Nat) : Prop := (∀ a, a < i -> ∀ b, b < f.length -> badAt f a b = false) /\ ∀ b, b < k -> badAt f i b = false
theorem link_check (A : Option Addr) (n c B : Nat) (f : List (List Rat)) (w : World) (h : ReadsQQ w B A n f) (hB : B <= w.heap.size) (hn : n <= 1000) (hs : ∀ l ∈ f, ∀ x ∈ l, QS 549755813888 x) :
  Calls Tryz.prog 19 #[.slice A n c] w (Ret (.int .i64 (checkFar f : Int)) w) := by
 have hlen := h.len
 have H := lh h
 have HS := lh hs
 clear h hs
 go_enter Tryz.func19, Tryz.ntmps19
 by_cases h1 : n < 1
 ·have k1 : (n : Int) < 1 := by omega
  rw [checkFar_5 (.inl (by omega))]
  go_wp2
  go_ret
  exact ⟨rfl, Below.refl _ _⟩
 by_cases h64 : 64 < n
 ·have k1 : ¬ (n : Int) < 1 := by omega
  have k2 : (64 : Int) < (n : Int) := by omega
  rw [checkFar_5 (.inr (by omega))]
  go_wp2
  go_ret
  exact ⟨rfl, Below.refl _ _⟩
 have k1 : ¬ (n : Int) < 1 := by omega
 have k2 : ¬ (64 : Int) < (n : Int) := by omega
 have hr64 : ¬ (f.length < 1 \/ 64 < f.length) := by omega
 go_wp2_with fail
 go_loopw [19] (fun i wr => ∃ k : Nat, k <= n /\ i = .int .i64 (k : Int) /\ wr = w /\ Hid (∀ (j : Nat) (l : List Rat), j < k -> f[j]? = some l -> l.length = f.length)) (fun i _ => n - (intOf i).toNat)
 case atStart => exact ⟨0, by omega, rfl, rfl, lh (fun j l hj => absurd hj (by omega))⟩
 case round =>
  obtain ⟨k, hk, rfl, rfl, hrow⟩ := hrel
  rename World => w
  by_cases hkn : k < n
  ·have k3 : (k : Int) < (n : Int) := by omega
   obtain ⟨l, hl⟩ : ∃ l, f[k]? = some l := ⟨_, List.getElem?_eq_getElem (by omega)⟩
   obtain ⟨ad, A1, m1, c1, rfl, hlt, hc1, hr1⟩ := H.out.at_ hl
   obtain rfl : l.length = m1 := hr1.len
   obtain ⟨m1, hm1⟩ : ∃ m1, l.length = m1 := ⟨_, rfl⟩
   rw [hm1] at hc1
   by_cases hne : m1 = n
   ·subst hne
    have hrow2 : Hid (∀ (j : Nat) (l : List Rat), j < k + 1 -> f[j]? = some l -> l.length = f.length) := lh fun j l' hj hl' => by
     by_cases hjk : j = k
     ·subst hjk
      obtain rfl := Option.some.inj (hl.symm.trans hl')
      omega
     exact hrow.out j l' (by omega) hl'
    clear hrow hr1 hl hm1 hlt
    go_wp2
    exact ⟨⟨k + 1, by omega, by go_num, by first | rfl | trivial, hrow2⟩, by simp [intOf]; omega⟩
   have q1 : ¬ (m1 : Int) = (n : Int) := by omega
   have q2 : ((m1 : Int) == (n : Int)) = false := by simp; omega
   have q3 : ((m1 : Int) != (n : Int)) = true := by simp; omega
   have HE := lh (checkFar_row hl (by omega))
   clear hrow hr1 hl hlt
   go_wp2
   go_ret
   exact ⟨by rw [HE.out]; rfl, Below.refl _ _⟩
  obtain rfl : k = n := by omega
  have k3 : ¬ (k : Int) < (k : Int) := by omega
  have HR : Hid (∀ (j : Nat) (l : List Rat), f[j]? = some l -> l.length = f.length) := lh fun j l hl => hrow.out j l (by have := (List.getElem?_eq_some_iff.1 hl).1; omega) hl
  clear hrow
  go_wp2_with fail
  go_loopw [31] (fun i wr => ∃ a : Nat, a <= k /\ i = .int .i64 (a : Int) /\ Hid (GoodTo f a 0) /\ Below w.heap.size w wr) (fun i _ => k - (intOf i).toNat)
  case atStart => exact ⟨0, by omega, rfl, lh ⟨fun a ha => absurd ha (by omega), fun b hb => absurd hb (by omega)⟩, Below.refl _ _⟩
  case round =>
   obtain ⟨a, ha, rfl, hgood, hbel⟩ := hrel
   rename World => wr
   by_cases hak : a < k
   ·have k4 : (a : Int) < (k : Int) := by omega
    obtain ⟨l, hl⟩ : ∃ l, f[a]? = some l := ⟨_, List.getElem?_eq_getElem (by omega)⟩
    obtain ⟨ad, A1, m1, c1, rfl, hlt, hc0, hr0⟩ := H.out.at_ hl
    have hc1 := below_cell (hbel.mono hB) hc0 hlt
    obtain rfl : l.length = m1 := hr0.len
    have hlk : l.length = k := by rw [HR.out a l hl, hlen]
    rw [hlk] at hr0 hc0 hc1
    have hr1 := hr0.below (hbel.mono hB)
    obtain ⟨x, hx⟩ : ∃ x, l[a]? = some x := ⟨_, List.getElem?_eq_getElem (by omega)⟩
    obtain ⟨ad', g1, o1, rfl, hP1, hg1, b1⟩ := ReadsQ.at_ hr1 hx
    have qx := HS.out l (List.mem_of_getElem? hl) x (List.mem_of_getElem? hx)
    have hsg := fun w => frac_sign x w (qx.mono (by omega))
    have hsz := sign_zero x
    have hbd := badAt_eq hl hx hl hx
    have HL := lh hl
    have HX := lh hx
    have HBW := lh hbel
    have HR0 := lh hr0
    obtain ⟨x0, x1, x2, x3, x4⟩ := b1.c5
    generalize x.num.sign = sg at *
    unfold qV at hsg
    have HSG := lh hsg
    clear hsg qx hl hx hbel hr1 hg1 b1 hlk hc0 hr0
    go_wp2_with fail
    refine (HSG.out wr).mono ?_
    rintro e w1 ⟨rfl, hw1⟩
    by_cases hz : sg = 0
    ·subst hz
     have HZ : Hid (∀ y, l[a]? = some y -> y = 0) := lh fun y hy => by
      obtain rfl := Option.some.inj (HX.out.symm.trans hy)
      exact hsz.1 rfl
     clear hsz hbd
     have HB1 := lh (HBW.out.trans (hw1.mono HBW.out.size))
     clear hc1 x0 x1 x2 x3 x4 hP1 HSG HBW hw1 hlt
     go_wp2_with fail
     go_loopw [44] (fun i wr => ∃ b : Nat, b <= k /\ i = .int .i64 (b : Int) /\ Hid (GoodTo f a b) /\ Below w.heap.size w wr) (fun i _ => k - (intOf i).toNat)
     case atStart => exact ⟨0, by omega, rfl, hgood, HB1.out⟩
     case round =>
      obtain ⟨b, hb, rfl, hgd, hbel⟩ := hrel
      rename World => w2
      clear hgood HB1 HX
      by_cases hbk : b < k
      ·have k5 : (b : Int) < (k : Int) := by omega
       obtain ⟨l2, hl2⟩ : ∃ l, f[b]? = some l := ⟨_, List.getElem?_eq_getElem (by omega)⟩
       have hlk := HR.out _ _ HL.out
       have hlk2 := HR.out _ _ hl2
       obtain ⟨ad2, A2, m2, cp2, hA2, hlt, hcc, hr2⟩ := (H.out.below rkindQ (hbel.mono hB)).at_ hl2
       obtain rfl := Option.some.inj hA2
       obtain rfl : l2.length = m2 := hr2.len
       obtain ⟨x, hx⟩ : ∃ x, l[b]? = some x := ⟨_, List.getElem?_eq_getElem (by omega)⟩
       obtain ⟨y, hy⟩ : ∃ y, l2[a]? = some y := ⟨_, List.getElem?_eq_getElem (by omega)⟩
       rw [show l2.length = k by omega] at hr2 hcc
       obtain ⟨ad1, g1, o1, hA1, hP1, hg1, b1⟩ := ReadsQ.at_ (HR0.out.below (hbel.mono hB)) hx
       obtain rfl := Option.some.inj hA1
       obtain ⟨ad3, g2, o2, rfl, hP2, hg2, b2⟩ := ReadsQ.at_ hr2 hy
       obtain ⟨g3, o3, hP3, hg3⟩ := plainAdd hcc
       rw [hP3] at hcc
       have b3 := At1.mk' hcc
       have qx := HS.out l (List.mem_of_getElem? HL.out) x (List.mem_of_getElem? hx)
       have qy := HS.out l2 (List.mem_of_getElem? hl2) y (List.mem_of_getElem? hy)
       have hbd := badAt_eq HL.out hx hl2 hy
       have hdz : a = b -> x = 0 := fun e => by
        subst e
        exact HZ.out x hx
       have hsn := sign_neg x
       have hs3 : x.num.sign < 0 -> x.num.sign = -1 := fun h => Int.sign_eq_neg_one_of_neg (Int.sign_neg_iff.1 h)
       have hcz : cmpQ x y = 0 ↔ x = y := cmpQ_zero x y
       have hsg := fun w => frac_sign x w (qx.mono (by omega))
       have hcm := fun w => frac_cmp x y w qx qy
       generalize x.num.sign = sg at *
       generalize cmpQ x y = cv at *
       unfold qV at hsg hcm
       have HSG := lh hsg
       have HCM := lh hcm
       have HBW := lh hbel
       have HBD := lh hbd
       have HSN := lh hsn
       have HS3 := lh hs3
       have HCZ := lh hcz
       have HDZ := lh hdz
       obtain ⟨y0, y1, y2, y3, y4⟩ := b1.c5
       clear hsg hcm hbel hbd hs3 hsn hcz hdz qx qy hg1 hg2 hg3 hx hy hl2 hlk hlk2 hcc hlt hr2
       go_upto_region 17 with fail
       have b8 := Blk.new w2 56 #[.bool (decide (x.num < 0)), .int .u64 (lo x.num.natAbs : Int), .string (mo x.num.natAbs), .int .u64 (lo ((qden x)) : Int), .string (mo ((qden x)))]
       have b2 := b2.alloc (.cells #[.bool (decide (x.num < 0)), .int .u64 (lo x.num.natAbs : Int), .string (mo x.num.natAbs), .int .u64 (lo ((qden x)) : Int), .string (mo ((qden x)))] 56)
       have b3 := b3.alloc (.cells #[.bool (decide (x.num < 0)), .int .u64 (lo x.num.natAbs : Int), .string (mo x.num.natAbs), .int .u64 (lo ((qden x)) : Int), .string (mo ((qden x)))] 56)
       have HBW := lh (HBW.out.alloc HBW.out.size (.cells #[.bool (decide (x.num < 0)), .int .u64 (lo x.num.natAbs : Int), .string (mo x.num.natAbs), .int .u64 (lo ((qden x)) : Int), .string (mo ((qden x)))] 56))
       clear y0 y1 y2 y3 y4 b1
       generalize w2.alloc (.cells #[.bool (decide (x.num < 0)), .int .u64 (lo x.num.natAbs : Int), .string (mo x.num.natAbs), .int .u64 (lo ((qden x)) : Int), .string (mo ((qden x)))] 56) = W at *
       generalize w2.heap.size = b8a at *
       by_cases hneg : sg < 0
       ·have q1 : decide (sg < 0) = true := decide_eq_true hneg
        have HE := lh (checkFar_bad hr64 HR.out (i := a) (k := b) (by omega) (by omega) (by rw [HBD.out]; simp [HSN.out.1 hneg]))
        obtain rfl := HS3.out hneg
        clear b2 b3 HCM HBD HSN HCZ HDZ hP1 hP2 hP3 hneg q1 HS3
        obtain ⟨z0, z1, z2, z3, z4⟩ := b8.c5
        refine wp_region_any (by kernel_rfl) ?_; (try (change wpAny _ _ _ _ _ _ _ (World.drew _))); refine wpAny_ready (rs := [0]) (by kernel_rfl) (by simp) ?_; refine AllReady.cons rfl (fun K hK => ?_) AllReady.nil; go_simp; refine hK _ _ ?_; clear hK K; refine wpAny_ready (rs := [1]) (by kernel_rfl) (by simp) ?_; refine AllReady.cons rfl (fun K hK => ?_) AllReady.nil; go_simp; go_wp2_with (go_at_call 49; (with_reducible refine (HSG.out _).mono ?_); rintro e w1 ⟨rfl, hw1⟩); refine wpAny_take (i := 2) (v := ?_) rfl (by kernel_rfl) (by kernel_rfl) (by kernel_rfl) (fun _ _ _ h => h) (Or.inl ⟨by rfl, ?_⟩) ?_; rotate_left; (focus (intro w; go_simp; try with_reducible rfl)); go_simp; refine wpAny_take (i := 3) (v := ?_) rfl (by kernel_rfl) (by kernel_rfl) (by kernel_rfl) (fun _ _ _ h => h) (Or.inl ⟨by rfl, ?_⟩) ?_; rotate_left; (focus (intro w; go_simp; try with_reducible rfl)); go_simp; refine wpAny_take (i := 4) (v := undef) rfl (by kernel_rfl) (by kernel_rfl) (by kernel_rfl) (fun _ _ _ h => h) (Or.inr ⟨by rfl, rfl⟩) ?_; go_simp; refine wpAny_take (i := 5) (v := undef) rfl (by kernel_rfl) (by kernel_rfl) (by kernel_rfl) (fun _ _ _ h => h) (Or.inr ⟨by rfl, rfl⟩) ?_; go_simp; refine wpAny_take (i := 6) (v := undef) rfl (by kernel_rfl) (by kernel_rfl) (by kernel_rfl) (fun _ _ _ h => h) (Or.inr ⟨by rfl, rfl⟩) ?_; go_simp; refine wpAny_take (i := 7) (v := undef) rfl (by kernel_rfl) (by kernel_rfl) (by kernel_rfl) (fun _ _ _ h => h) (Or.inr ⟨by rfl, rfl⟩) ?_; go_simp; refine wpAny_take (i := 8) (v := undef) rfl (by kernel_rfl) (by kernel_rfl) (by kernel_rfl) (fun _ _ _ h => h) (Or.inr ⟨by rfl, rfl⟩) ?_; go_simp; refine wpAny_take (i := 9) (v := undef) rfl (by kernel_rfl) (by kernel_rfl) (by kernel_rfl) (fun _ _ _ h => h) (Or.inr ⟨by rfl, rfl⟩) ?_; go_simp; refine wpAny_take (i := 10) (v := undef) rfl (by kernel_rfl) (by kernel_rfl) (by kernel_rfl) (fun _ _ _ h => h) (Or.inr ⟨by rfl, rfl⟩) ?_; go_simp; refine wpAny_take (i := 11) (v := undef) rfl (by kernel_rfl) (by kernel_rfl) (by kernel_rfl) (fun _ _ _ h => h) (Or.inr ⟨by rfl, rfl⟩) ?_; go_simp; refine wpAny_take (i := 12) (v := undef) rfl (by kernel_rfl) (by kernel_rfl) (by kernel_rfl) (fun _ _ _ h => h) (Or.inr ⟨by rfl, rfl⟩) ?_; go_simp; refine wpAny_take (i := 13) (v := undef) rfl (by kernel_rfl) (by kernel_rfl) (by kernel_rfl) (fun _ _ _ h => h) (Or.inr ⟨by rfl, rfl⟩) ?_; go_simp; refine wpAny_take (i := 14) (v := ?_) rfl (by kernel_rfl) (by kernel_rfl) (by kernel_rfl) (fun _ _ _ h => h) (Or.inl ⟨by rfl, ?_⟩) ?_; rotate_left; (focus (intro w; go_simp; try with_reducible rfl)); go_simp; refine wpAny_done (by kernel_rfl) ?_ _
        go_wp2
        go_ret
        exact ⟨by rw [HE.out]; rfl, HBW.out.trans ((bthen (bdrew0 W) hw1).mono HBW.out.size)⟩
       have q1 : decide (sg < 0) = false := decide_eq_false hneg
       by_cases hcv : cv = 0
       ·subst hcv
        have hgd2 : Hid (GoodTo f a (b + 1)) := lh ⟨hgd.out.1, fun j hj => by
         by_cases hjb : j = b
         ·subst hjb
          rw [HBD.out]
          have e1 : ¬ x < 0 := fun e => hneg (HSN.out.2 e)
          have e2 := HCZ.out.1 rfl
          have e3 : (decide (a = j) && decide (x ≠ 0)) = false := by
           by_cases h : a = j
           ·simp [HDZ.out h]
           simp [h]
          rw [e3, <- e2]
          simp [e1]
         exact hgd.out.2 j (by omega)⟩
        have q2 : ((0 : Int) != 0) = false := rfl
        obtain ⟨b8q0, b8q1, b8q2, b8q3, b8q4⟩ := b8.c5; have c8 := b8.drew; have c8l := c8.lt; obtain ⟨b3q0, b3q1⟩ := b3.c2; have c3 := b3.drew; have c3l := c3.lt; obtain ⟨b2q0, b2q1, b2q2, b2q3, b2q4⟩ := b2.c5; have c2 := b2.drew; have c2l := c2.lt; have hc := bdrew0 W; go_region_held3 (fun w' => w'.cell? ⟨b8a, 0, none⟩ = some (.bool (decide (x.num < 0))) /\ w'.cell? ⟨b8a, 1, none⟩ = some (.int .u64 (lo x.num.natAbs : Int)) /\ w'.cell? ⟨b8a, 2, none⟩ = some (.string (mo x.num.natAbs)) /\ w'.cell? ⟨b8a, 3, none⟩ = some (.int .u64 (lo ((qden x)) : Int)) /\ w'.cell? ⟨b8a, 4, none⟩ = some (.string (mo ((qden x)))) /\ w'.cell? ⟨g3, o3, none⟩ = some (.slice (some ad3) k cp2) /\ w'.cell? ⟨g2, o2, none⟩ = some (.bool (decide (y.num < 0))) /\ w'.cell? ⟨g2, o2 + 1, none⟩ = some (.int .u64 (lo y.num.natAbs : Int)) /\ w'.cell? ⟨g2, o2 + 2, none⟩ = some (.string (mo y.num.natAbs)) /\ w'.cell? ⟨g2, o2 + 3, none⟩ = some (.int .u64 (lo ((qden y)) : Int)) /\ w'.cell? ⟨g2, o2 + 4, none⟩ = some (.string (mo ((qden y))))) (go_keep) (first | (go_at_call 49; (with_reducible refine (HSG.out _).mono ?_); rintro e w1 ⟨rfl, hw1⟩; have c8 := c8.below hw1 c8.lt; (try clear c8q0 c8q1 c8q2 c8q3 c8q4); obtain ⟨c8q0, c8q1, c8q2, c8q3, c8q4⟩ := c8.c5; (try clear c8l); have c8l := c8.lt; have c3 := c3.below hw1 c3.lt; (try clear c3q0 c3q1); obtain ⟨c3q0, c3q1⟩ := c3.c2; (try clear c3l); have c3l := c3.lt; have c2 := c2.below hw1 c2.lt; (try clear c2q0 c2q1 c2q2 c2q3 c2q4); obtain ⟨c2q0, c2q1, c2q2, c2q3, c2q4⟩ := c2.c5; (try clear c2l); have c2l := c2.lt; have hc := bthen hc hw1) | (go_at_call 29; (with_reducible refine (HCM.out _).mono ?_); rintro e w2 ⟨rfl, hw2⟩; have c8 := c8.below hw2 c8.lt; (try clear c8q0 c8q1 c8q2 c8q3 c8q4); obtain ⟨c8q0, c8q1, c8q2, c8q3, c8q4⟩ := c8.c5; (try clear c8l); have c8l := c8.lt; have c3 := c3.below hw2 c3.lt; (try clear c3q0 c3q1); obtain ⟨c3q0, c3q1⟩ := c3.c2; (try clear c3l); have c3l := c3.lt; have c2 := c2.below hw2 c2.lt; (try clear c2q0 c2q1 c2q2 c2q3 c2q4); obtain ⟨c2q0, c2q1, c2q2, c2q3, c2q4⟩ := c2.c5; (try clear c2l); have c2l := c2.lt; have hc := bthen hc hw2))
        all_goals
         go_wp2
         exact ⟨⟨b + 1, by omega, by go_num, hgd2, HBW.out.trans (hc.mono HBW.out.size)⟩, by simp [intOf]; omega⟩
       have q2 : (cv == 0) = false := by simp [hcv]
       have q3 : (cv != 0) = true := by simp [hcv]
       have HE := lh (checkFar_bad hr64 HR.out (i := a) (k := b) (by omega) (by omega) (by rw [HBD.out]; have : x ≠ y := fun e => hcv (HCZ.out.2 e); simp [this]))
       obtain ⟨b8q0, b8q1, b8q2, b8q3, b8q4⟩ := b8.c5; have c8 := b8.drew; have c8l := c8.lt; obtain ⟨b3q0, b3q1⟩ := b3.c2; have c3 := b3.drew; have c3l := c3.lt; obtain ⟨b2q0, b2q1, b2q2, b2q3, b2q4⟩ := b2.c5; have c2 := b2.drew; have c2l := c2.lt; have hc := bdrew0 W; go_region_held3 (fun w' => w'.cell? ⟨b8a, 0, none⟩ = some (.bool (decide (x.num < 0))) /\ w'.cell? ⟨b8a, 1, none⟩ = some (.int .u64 (lo x.num.natAbs : Int)) /\ w'.cell? ⟨b8a, 2, none⟩ = some (.string (mo x.num.natAbs)) /\ w'.cell? ⟨b8a, 3, none⟩ = some (.int .u64 (lo ((qden x)) : Int)) /\ w'.cell? ⟨b8a, 4, none⟩ = some (.string (mo ((qden x)))) /\ w'.cell? ⟨g3, o3, none⟩ = some (.slice (some ad3) k cp2) /\ w'.cell? ⟨g2, o2, none⟩ = some (.bool (decide (y.num < 0))) /\ w'.cell? ⟨g2, o2 + 1, none⟩ = some (.int .u64 (lo y.num.natAbs : Int)) /\ w'.cell? ⟨g2, o2 + 2, none⟩ = some (.string (mo y.num.natAbs)) /\ w'.cell? ⟨g2, o2 + 3, none⟩ = some (.int .u64 (lo ((qden y)) : Int)) /\ w'.cell? ⟨g2, o2 + 4, none⟩ = some (.string (mo ((qden y))))) (go_keep) (first | (go_at_call 49; (with_reducible refine (HSG.out _).mono ?_); rintro e w1 ⟨rfl, hw1⟩; have c8 := c8.below hw1 c8.lt; (try clear c8q0 c8q1 c8q2 c8q3 c8q4); obtain ⟨c8q0, c8q1, c8q2, c8q3, c8q4⟩ := c8.c5; (try clear c8l); have c8l := c8.lt; have c3 := c3.below hw1 c3.lt; (try clear c3q0 c3q1); obtain ⟨c3q0, c3q1⟩ := c3.c2; (try clear c3l); have c3l := c3.lt; have c2 := c2.below hw1 c2.lt; (try clear c2q0 c2q1 c2q2 c2q3 c2q4); obtain ⟨c2q0, c2q1, c2q2, c2q3, c2q4⟩ := c2.c5; (try clear c2l); have c2l := c2.lt; have hc := bthen hc hw1) | (go_at_call 29; (with_reducible refine (HCM.out _).mono ?_); rintro e w2 ⟨rfl, hw2⟩; have c8 := c8.below hw2 c8.lt; (try clear c8q0 c8q1 c8q2 c8q3 c8q4); obtain ⟨c8q0, c8q1, c8q2, c8q3, c8q4⟩ := c8.c5; (try clear c8l); have c8l := c8.lt; have c3 := c3.below hw2 c3.lt; (try clear c3q0 c3q1); obtain ⟨c3q0, c3q1⟩ := c3.c2; (try clear c3l); have c3l := c3.lt; have c2 := c2.below hw2 c2.lt; (try clear c2q0 c2q1 c2q2 c2q3 c2q4); obtain ⟨c2q0, c2q1, c2q2, c2q3, c2q4⟩ := c2.c5; (try clear c2l); have c2l := c2.lt; have hc := bthen hc hw2))
       all_goals
        go_wp2
        go_ret
        exact ⟨by rw [HE.out]; rfl, HBW.out.trans (hc.mono HBW.out.size)⟩
      obtain rfl : b = k := by omega
      have k5 : ¬ (b : Int) < (b : Int) := by omega
      have hg2 : Hid (GoodTo f (a + 1) 0) := lh ⟨fun i hi j hj => by
       by_cases hia : i = a
       ·subst hia; exact hgd.out.2 j (by omega)
       exact hgd.out.1 i (by omega) j hj, fun j hj => absurd hj (by omega)⟩
      have HB2 := lh hbel
      clear hgd hbel
      go_wp2
      exact ⟨⟨a + 1, by omega, by go_num, hg2, HB2.out⟩, by simp [intOf]; omega⟩
    have q1 : (sg == 0) = false := by simp [hz]
    have q2 : (sg != 0) = true := by simp [hz]
    have hxz : x ≠ 0 := fun e => hz (hsz.2 e)
    have HE := lh (checkFar_bad hr64 HR.out (i := a) (k := a) (by omega) (by omega) (by rw [hbd]; simp [hxz]))
    have HB2 := lh (HBW.out.trans (hw1.mono HBW.out.size))
    clear hbd hsz
    go_wp2
    go_ret
    exact ⟨by rw [HE.out]; rfl, HB2.out⟩
   obtain rfl : a = k := by omega
   have k4 : ¬ (a : Int) < (a : Int) := by omega
   have HE := lh (checkFar_ok hr64 HR.out (fun i hi k hk => hgood.out.1 i (by omega) k hk))
   have HBW := lh hbel
   clear hbel hgood
   go_wp2
   go_ret
   exact ⟨by rw [HE.out]; rfl, HBW.out⟩
def learnB (x : List (List Rat)) : Bool := decide (1 <= x.length) && decide (x.length <= 300) && decide (1 <= (x.getD 0 []).length) && decide ((x.getD 0 []).length <= 20) && x.all fun l => decide (l.length = (x.getD 0 []).length)
def matL (n m : Nat) (E : Nat -> Nat -> Rat) : List (List Rat) := (List.range n).map fun a => if a < m then (List.range n).map (E a) else []
theorem matL_at {n m a : Nat} {E : Nat -> Nat -> Rat} (ha : a < n) : (matL n m E)[a]? = some (if a < m then (List.range n).map (E a) else []) := by
 unfold matL
 rw [List.getElem?_map, List.getElem?_range ha]
 rfl
theorem matL_row {n m a : Nat} {E : Nat -> Nat -> Rat} (ha : a < n) (hm : a < m) : (matL n m E)[a]? = some ((List.range n).map (E a)) := by rw [matL_at ha, if_pos hm]
theorem matL_none {n m a : Nat} {E : Nat -> Nat -> Rat} (ha : a < n) (hm : m <= a) : (matL n m E)[a]? = some [] := by rw [matL_at ha, if_neg (by omega)]
theorem matL_zero (n : Nat) (E : Nat -> Nat -> Rat) : matL n 0 E = List.replicate n [] := by
 refine List.ext_getElem (by simp [matL]) fun a h1 h2 => ?_
 simp [matL]
theorem matL_set {n m a : Nat} {E : Nat -> Nat -> Rat} {g : Nat -> Rat} (hm : a < m) : (matL n m E).set a ((List.range n).map g) = matL n m (fun i j => if i = a then g j else E i j) := by
 refine List.ext_getElem (by simp [matL]) fun i h1 h2 => ?_
 rw [List.getElem_set]
 simp only [matL, List.getElem_map, List.getElem_range]
 by_cases h : a = i
 ·subst h
  rw [if_pos rfl, if_pos hm]
  simp
 rw [if_neg h]
 split
 ·refine List.map_congr_left fun j _ => ?_
  rw [if_neg (fun e => h e.symm)]
 rfl
theorem matL_new {n m : Nat} {E : Nat -> Nat -> Rat} {g : Nat -> Rat} : (matL n m E).set m ((List.range n).map g) = matL n (m + 1) (fun i j => if i = m then g j else E i j) := by
 refine List.ext_getElem (by simp [matL]) fun i h1 h2 => ?_
 rw [List.getElem_set]
 simp only [matL, List.getElem_map, List.getElem_range]
 by_cases h : m = i
 ·subst h
  rw [if_pos rfl, if_pos (by omega)]
  simp
 rw [if_neg h]
 by_cases h3 : i < m
 ·rw [if_pos h3, if_pos (by omega)]
  refine List.map_congr_left fun j _ => ?_
  rw [if_neg (fun e => h e.symm)]
 rw [if_neg h3, if_neg (by omega)]
theorem rowL_set {n b : Nat} {g : Nat -> Rat} {v : Rat} : ((List.range n).map g).set b v = (List.range n).map (fun j => if j = b then v else g j) := by
 refine List.ext_getElem (by simp) fun i h1 h2 => ?_
 rw [List.getElem_set]
 simp only [List.getElem_map, List.getElem_range]
 by_cases h : b = i
 ·subst h; simp
 rw [if_neg h, if_neg (fun e => h e.symm)]
theorem matL_store {n m a b : Nat} {E : Nat -> Nat -> Rat} {v : Rat} (hm : a < m) : (matL n m E).set a (((List.range n).map (E a)).set b v) = matL n m (fun i j => if i = a then (if j = b then v else E a j) else E i j) := by
 rw [rowL_set, matL_set hm]
theorem matL_full {n : Nat} {E E' : Nat -> Nat -> Rat} (h : ∀ a b, a < n -> b < n -> E a b = E' a b) : matL n n E = (List.range n).map fun a => (List.range n).map (E' a) := by
 unfold matL
 refine List.map_congr_left fun a ha => ?_
 have ha := List.mem_range.1 ha
 rw [if_pos ha]
 exact List.map_congr_left fun b hb => h a b ha (List.mem_range.1 hb)
theorem farsQ_range (x : List (List Rat)) : farsQ x = (List.range x.length).map fun a => (List.range x.length).map fun b => farQ (x.getD a []) (x.getD b []) := by
 refine List.ext_getElem (by simp [farsQ]) fun i h1 h2 => ?_
 have hi : i < x.length := by simpa [farsQ] using h1
 simp only [farsQ, List.getElem_map, List.getElem_range]
 refine List.ext_getElem (by simp) fun j h3 h4 => ?_
 have hj : j < x.length := by simpa using h3
 simp [hi, hj]
structure FarTo (x : List (List Rat)) (i j : Nat) (E : Nat -> Nat -> Rat) : Prop where
 old : ∀ a b, a < i -> b < i -> E a b = farQ (x.getD a []) (x.getD b [])
 row : ∀ b, b < j -> E i b = farQ (x.getD i []) (x.getD b [])
 col : ∀ b, b < j -> E b i = farQ (x.getD i []) (x.getD b [])
 diag : E i i = 0
theorem FarTo.next {x : List (List Rat)} {i : Nat} {E : Nat -> Nat -> Rat} (h : FarTo x i i E) (hl : ∀ a b, a <= i -> b <= i -> (x.getD a []).length = (x.getD b []).length) : ∀ a b, a < i + 1 -> b < i + 1 -> E a b = farQ (x.getD a []) (x.getD b []) := by
 intro a b ha hb
 by_cases h1 : a = i
 ·subst h1
  by_cases h2 : b = a
  ·subst h2; rw [h.diag, farQ_self]
  exact h.row b (by omega)
 by_cases h2 : b = i
 ·subst h2
  rw [h.col a (by omega), farQ_comm (hl b a (by omega) (by omega))]
 exact h.old a b (by omega) (by omega)
theorem FarTo.store {x : List (List Rat)} {i j : Nat} {E : Nat -> Nat -> Rat} {q : Rat} (h : FarTo x i j E) (hj : j < i) (hq : q = farQ (x.getD i []) (x.getD j [])) :
  FarTo x i (j + 1) (fun a b => if a = j then (if b = i then q else (fun a b => if a = i then (if b = j then q else E i b) else E a b) j b) else (fun a b => if a = i then (if b = j then q else E i b) else E a b) a b) := by
 refine ⟨fun a b ha hb => ?_, fun b hb => ?_, fun b hb => ?_, ?_⟩
 ·have e1 : ¬ a = i := by omega
  have e2 : ¬ b = i := by omega
  by_cases h1 : a = j
  ·subst h1
   simp only [if_true, e1, e2, if_false]
   exact h.old a b ha hb
  simp only [h1, e1, if_false]
  exact h.old a b ha hb
 ·have e1 : ¬ i = j := by omega
  simp only [e1, if_false, if_true]
  by_cases h1 : b = j
  ·rw [if_pos h1, h1, hq]
  rw [if_neg h1]; exact h.row b (by omega)
 ·by_cases h1 : b = j
  ·subst h1
   simp only [if_true]
   exact hq
  have e1 : ¬ b = i := by omega
  simp only [h1, e1, if_false]
  exact h.col b (by omega)
 have e1 : ¬ i = j := by omega
 simp only [e1, if_false, if_true]
 exact h.diag
theorem size5 (w : World) (p q r s t : Addr) (x y z u v : Value) : (((((w.setCell p x).setCell q y).setCell r z).setCell s u).setCell t v).heap.size = w.heap.size := by simp
theorem own_eq {g n c y : Nat} (h : (Value.slice (some ⟨g, 0, none⟩) n c).ownBlock = some y) : g = y := by simpa [Value.ownBlock] using h
theorem rep_range (k : Nat) : List.replicate k (0 : Rat) = (List.range k).map (fun _ => (0 : Rat)) := by rw [List.map_const', List.length_range]
theorem OwnQ.addr' {w : World} {A : Option Addr} {n c : Nat} {l : List Rat} (h : OwnQ w (.slice A n c) l) (hn : 0 < l.length) : ∃ g, A = some ⟨g, 0, none⟩ /\ n = l.length := by
 obtain ⟨g, hg⟩ := OwnQ.addr h hn
 exact ⟨g, hg, OwnQ.len h⟩
def FarRel (w : World) (x : List (List Rat)) (n g6 i : Nat) (wr : World) : Prop :=
 ∃ E, OwnSA 73 OwnQ w.heap.size wr.heap.size wr (.slice (some ⟨g6, 0, none⟩) n n) (matL n i E) /\ (∀ a b, a < i -> b < i -> E a b = farQ (x.getD a []) (x.getD b [])) /\ Below w.heap.size w wr
def FarRel2 (w : World) (x : List (List Rat)) (n g6 i j : Nat) (wr : World) : Prop :=
 ∃ E, OwnSA 73 OwnQ w.heap.size wr.heap.size wr (.slice (some ⟨g6, 0, none⟩) n n) (matL n (i + 1) E) /\ FarTo x i j E /\ Below w.heap.size w wr
theorem FarRel2.drew {w wr : World} {x : List (List Rat)} {n g6 i j : Nat} (h : FarRel2 w x n g6 i j wr) : FarRel2 w x n g6 i j wr.drew := by
 obtain ⟨E, h1, h2, h3⟩ := h
 exact ⟨E, OwnSA.next (kindXQ (by decide)).toKind h1 (bdrew0 _), h2, h3.trans ((bdrew0 _).mono h3.size)⟩
def FarRel3 (w : World) (x : List (List Rat)) (n g6 i j : Nat) (wr : World) : Prop :=
 ∃ E q, OwnSA 73 OwnQ w.heap.size wr.heap.size wr (.slice (some ⟨g6, 0, none⟩) n n) (matL n (i + 1) (fun a b => if a = i then (if b = j then q else E i b) else E a b)) /\ FarTo x i j E /\ q = farQ (x.getD i []) (x.getD j []) /\ Below w.heap.size w wr
theorem link_fars (A : Option Addr) (n c B m : Nat) (x : List (List Rat)) (w : World) (h : ReadsQQ w B A n x) (hB : B <= w.heap.size) (hn : n <= 64) (hm : 1 <= m) (hm2 : m <= 10000000) (hs : ∀ l ∈ x, ∀ y ∈ l, QS m y) (hT : Tab w) (hl : learnB x = true) :
  Calls Tryz.prog 15 #[.slice A n c] w fun e w' => ∃ v, e = .returned (.tuple #[v, .int .i64 0]) /\ OwnQQ w' v (farsQ x) /\ (∀ b, v.ownBlock = some b -> w.heap.size <= b) /\ Below w.heap.size w w' := by
 have hlen := h.len
 obtain ⟨⟨⟨⟨h1, h2⟩, h3⟩, h4⟩, h5⟩ : (((1 <= x.length /\ x.length <= 300) /\ 1 <= (x.getD 0 []).length) /\ (x.getD 0 []).length <= 20) /\ ∀ l ∈ x, l.length = (x.getD 0 []).length := by
  unfold learnB at hl
  simp only [Bool.and_eq_true, decide_eq_true_eq, List.all_eq_true] at hl
  exact hl
 obtain ⟨r0, hr0⟩ : ∃ r, x[0]? = some r := ⟨_, List.getElem?_eq_getElem (by omega)⟩
 have e0 : x.getD 0 [] = r0 := by rw [List.getD_eq_getElem?_getD, hr0]; rfl
 rw [e0] at h3 h4 h5
 obtain ⟨ad, A0, m0, c0, rfl, hlt0, hc0, hrd0⟩ := h.at_ hr0
 obtain rfl : r0.length = m0 := hrd0.len
 obtain ⟨wd, hwd⟩ : ∃ wd, r0.length = wd := ⟨_, rfl⟩
 rw [hwd] at h3 h4 h5 hc0
 have H := lh h
 have HS := lh hs
 have HT := lh hT
 have HW := lh h5
 have k1 : ¬ (n : Int) < 1 := by omega
 have k2 : ¬ (300 : Int) < (n : Int) := by omega
 have k3 : (0 : Int) < (n : Int) := by omega
 have k4 : ¬ (wd : Int) < 1 := by omega
 have k5 : ¬ (20 : Int) < (wd : Int) := by omega
 have k6 : ¬ (64 : Int) < (n : Int) := by omega
 rw [Addr.add_zero'] at hc0
 clear h hs hT h5 hl hrd0 hwd hr0 e0
 go_enter Tryz.func15, Tryz.ntmps15
 go_wp2_with fail
 go_loopw [33] (fun i wr => ∃ k : Nat, k <= n /\ i = .int .i64 (k : Int) /\ wr = w) (fun i _ => n - (intOf i).toNat)
 case atStart => exact ⟨0, by omega, rfl, rfl⟩
 case round =>
  obtain ⟨k, hk, rfl, rfl⟩ := hrel
  rename World => w
  by_cases hkn : k < n
  ·have q1 : (k : Int) < (n : Int) := by omega
   obtain ⟨l, hl⟩ : ∃ l, x[k]? = some l := ⟨_, List.getElem?_eq_getElem (by omega)⟩
   obtain ⟨ad', A1, m1, c1, hA, hlt, hc1, hr1⟩ := H.out.at_ hl
   obtain rfl := Option.some.inj hA
   obtain rfl : m1 = wd := by rw [<- hr1.len]; exact HW.out l (List.mem_of_getElem? hl)
   clear hr1 hl hlt hA
   go_wp2
   exact ⟨⟨k + 1, by omega, by go_num, by first | rfl | trivial⟩, by simp [intOf]; omega⟩
  obtain rfl : k = n := by omega
  have q1 : ¬ (k : Int) < (k : Int) := by omega
  obtain ⟨i0, hi0, hz0, hz1, hz2⟩ := info_parts (Tryz.eltQQ).info
  have hmk := make_row (P := Tryz.prog) SW.v ⟨none, 0, 0⟩ 27 73 24 (Tryz.eltQQ).under (Tryz.eltQQ).info rfl .i64 .i64 k (by omega) (by omega) w
  have hmd := ownSA_made (T := 73) (kindXQ (by decide)) (e := []) (fun w => OwnW.nil_ _ _ _ _) w.heap.size (w.heap.size + 1) k w (by unfold maxLen; omega)
  rw [<- matL_zero k (fun _ _ => 0)] at hmd
  have hbw := balloc1 w (.cells ((List.replicate k (⟨none, 0, 0⟩ : SW)).map SW.v).toArray 73)
  have hsz : (w.alloc (.cells ((List.replicate k (⟨none, 0, 0⟩ : SW)).map SW.v).toArray 73)).heap.size = w.heap.size + 1 := by simp
  generalize w.alloc (.cells ((List.replicate k (⟨none, 0, 0⟩ : SW)).map SW.v).toArray 73) = W at *
  go_wp2_with fail
  clear hmk
  obtain ⟨g6, hg6⟩ : ∃ g6, w.heap.size = g6 := ⟨_, rfl⟩
  have HI : Hid (FarRel w x k g6 0 W) := lh ⟨fun _ _ => 0, by rw [hsz, <- hg6]; exact hmd, fun a b ha => absurd ha (by omega), hbw⟩
  have hgw : w.heap.size <= g6 := by omega
  rw [hg6]
  clear hmd hbw hsz hi0 hz0 hz1 hz2 hg6 hc0 hlt0
  go_loopw [53] (fun p wr => ∃ i : Nat, i <= k /\ p = .int .i64 (i : Int) /\ FarRel w x k g6 i wr) (fun p _ => k - (intOf p).toNat)
  case atStart => exact ⟨0, by omega, rfl, HI.out⟩
  case round =>
   obtain ⟨i, hi, rfl, E, ho, hE, hbw⟩ := hrel
   rename World => wr
   clear HI
   by_cases hik : i < k
   ·have q1 : (i : Int) < (k : Int) := by omega
    obtain ⟨w1, hmk, ho1, hb1⟩ := make_q k (by omega) wr
    have o1 := OwnSA.next (kindXQ (by decide)).toKind ho hb1
    have hfz := o1.frozen i
    obtain ⟨A9, m9, cp9, hc9, -, -, -⟩ := OwnSA.at_ (kindXQ (T := 73) (by decide)) o1 (matL_none (by omega) (Nat.le_refl i))
    have hl1 : wr.heap.size < w1.heap.size := OwnW.lt ho1 _ rfl
    rw [rep_range] at ho1
    have o2 := OwnSA.put (kindXQ (by decide)) (i := i) (B' := w1.heap.size) o1 ho1 (fun y hy => by have e := own_eq hy; omega) (by omega) hbw.size
    rw [matL_new] at o2
    have hbw2 := (hbw.trans (hb1.mono hbw.size)).setCell (p := ⟨g6, i, none⟩) hgw (.slice (some ⟨wr.heap.size, 0, none⟩) k k)
    have hz2 : (w1.setCell ⟨g6, i, none⟩ (.slice (some ⟨wr.heap.size, 0, none⟩) k k)).heap.size = w1.heap.size := by simp
    have HI : Hid (FarRel2 w x k g6 i 0 (w1.setCell ⟨g6, i, none⟩ (.slice (some ⟨wr.heap.size, 0, none⟩) k k))) := lh ⟨_, by rw [hz2]; exact o2, ⟨fun a b ha hb => by rw [if_neg (by omega)]; exact hE a b ha hb, fun b hb => absurd hb (by omega), fun b hb => absurd hb (by omega), by rw [if_pos rfl]⟩, hbw2⟩
    clear o1 ho1 o2 ho hbw hb1 hbw2 hz2 hE
    go_wp2_with fail
    clear hmk hfz hc9
    generalize w1.setCell ⟨g6, i, none⟩ (.slice (some ⟨wr.heap.size, 0, none⟩) k k) = W1 at *
    go_loopw [63] (fun p wq => ∃ j : Nat, j <= i /\ p = .int .i64 (j : Int) /\ FarRel2 w x k g6 i j wq) (fun p _ => i - (intOf p).toNat)
    case atStart => exact ⟨0, by omega, rfl, HI.out⟩
    case round =>
     obtain ⟨j, hj, rfl, hrel⟩ := hrel
     rename World => wq
     clear HI
     by_cases hji : j < i
     ·have q2 : (j : Int) < (i : Int) := by omega
      obtain ⟨E9, ho, hE9, hbw⟩ := hrel
      obtain ⟨li, hli⟩ : ∃ l, x[i]? = some l := ⟨_, List.getElem?_eq_getElem (by omega)⟩
      obtain ⟨lj, hlj⟩ : ∃ l, x[j]? = some l := ⟨_, List.getElem?_eq_getElem (by omega)⟩
      have hBq := nt hB hbw.size
      have hxw := H.out.below rkindQ (hbw.mono hB)
      obtain ⟨ad1, Ai, mi, ci, hA, hlti, hci, hri⟩ := hxw.at_ hli
      obtain rfl := Option.some.inj hA
      obtain ⟨ad2, Aj, mj, cj, hA, hltj, hcj, hrj⟩ := hxw.at_ hlj
      obtain rfl := Option.some.inj hA
      obtain rfl : mi = wd := by rw [<- hri.len]; exact HW.out li (List.mem_of_getElem? hli)
      obtain rfl : mj = mi := by rw [<- hrj.len]; exact HW.out lj (List.mem_of_getElem? hlj)
      obtain ⟨gx, ox, hPx, hgx⟩ := plainAdd hci
      obtain ⟨gy, oy, hPy, hgy⟩ := plainAdd hcj
      rw [hPx] at hci
      rw [hPy] at hcj
      have b1 := At1.mk' hci
      have b2 := At1.mk' hcj
      have hrow := matL_row (E := E9) (n := k) (m := i + 1) hik (Nat.lt_succ_self i)
      obtain ⟨A9, m9, cp9, hc9, hr9, hL9, -⟩ := OwnSA.at_ (kindXQ (T := 73) (by decide)) ho hrow
      obtain ⟨ga, rfl, hm9⟩ := OwnQ.addr' hr9 (by simp; omega)
      obtain rfl : m9 = k := by rw [hm9]; simp
      have b3 := At1.mk' hc9
      have hq := fun w' (hb' : Below wq.heap.size wq w') => mean_far Ai Aj mj ci cj B m li lj w' (hri.below (hb'.mono hBq)) (hrj.below (hb'.mono hBq)) (nt hBq hb'.size) (by omega) hm hm2 (HS.out li (List.mem_of_getElem? hli)) (HS.out lj (List.mem_of_getElem? hlj)) (HT.out.next (hbw.trans (hb'.mono hbw.size)))
      have eqq : farQ li lj = farQ (x.getD i []) (x.getD j []) := by rw [List.getD_eq_getElem?_getD, List.getD_eq_getElem?_getD, hli, hlj]; rfl
      generalize farQ li lj = q at *
      unfold qV at hq
      have HF := lh hq
      have HO := lh ho
      have HE9 := lh hE9
      have HBW := lh hbw
      have HQ := lh eqq
      have HROW := lh hrow
      have HGA := lh (hL9 ga rfl)
      have HY := lh (show ((List.range m9).map (E9 i))[j]? = some (E9 i j) by rw [List.getElem?_map, List.getElem?_range (by omega)]; rfl)
      have k7 : (j : Int) < (m9 : Int) := by omega
      have HR9 := lh hr9
      clear hq ho hE9 hbw eqq hrow hL9 hr9 hxw hli hlj hri hrj hci hcj hlti hltj hgx hgy hm9 hc9
      go_upto_region 19 with fail
      go_cut [] (fun wc => FarRel3 w x m9 g6 i j wc)
      case first =>
       obtain ⟨b1q0, b1q1⟩ := b1.c2; have c1 := b1.drew; have c1l := c1.lt; obtain ⟨b2q0, b2q1⟩ := b2.c2; have c2 := b2.drew; have c2l := c2.lt; obtain ⟨b3q0, b3q1⟩ := b3.c2; have c3 := b3.drew; have c3l := c3.lt; have hc := bdrew0 wq; go_region_with (first | (go_at_call 54; (with_reducible refine (HF.out _ hc).mono ?_); rintro e w1 ⟨rfl, hw1⟩; have c1 := c1.below hw1 c1.lt; (try clear c1q0 c1q1); obtain ⟨c1q0, c1q1⟩ := c1.c2; (try clear c1l); have c1l := c1.lt; have c2 := c2.below hw1 c2.lt; (try clear c2q0 c2q1); obtain ⟨c2q0, c2q1⟩ := c2.c2; (try clear c2l); have c2l := c2.lt; have c3 := c3.below hw1 c3.lt; (try clear c3q0 c3q1); obtain ⟨c3q0, c3q1⟩ := c3.c2; (try clear c3l); have c3l := c3.lt; have hc := bthen hc hw1; have hrn := OwnW.next HR9.out hc; obtain ⟨y0, y1, y2, y3, y4⟩ := OwnQ.cell5 hrn (k := j) HY.out; have z0 := OwnQ.frozen hrn (j * 5); have z1 := OwnQ.frozen hrn (j * 5 + 1); have z2 := OwnQ.frozen hrn (j * 5 + 2); have z3 := OwnQ.frozen hrn (j * 5 + 3); have z4 := OwnQ.frozen hrn (j * 5 + 4)))
       all_goals
        go_wp2
        go_meet
        have o1 := (OwnSA.next (kindXQ (by decide)).toKind HO.out hc).more hc.size
        obtain ⟨-, -, -, -, hst⟩ := OwnSA.storeQ (by decide) o1 HROW.out c3.c2.1
        have o2 := hst j q
        rw [matL_store (by omega)] at o2
        exact ⟨E9, q, by rw [size5]; exact o2, HE9.out, HQ.out, bset5' (HBW.out.trans (hc.mono HBW.out.size)) HGA.out.1 _ _ _ _ _⟩
      case rest =>
       obtain ⟨E8, q8, ho, hE8, hq8, hbw⟩ := hcut
       rename World => wr2
       have hrowi := matL_row (E := fun a b => if a = i then (if b = j then q8 else E8 i b) else E8 a b) (n := m9) (m := i + 1) hik (Nat.lt_succ_self i)
       have hrowj := matL_row (E := fun a b => if a = i then (if b = j then q8 else E8 i b) else E8 a b) (n := m9) (m := i + 1) (a := j) (by omega) (by omega)
       obtain ⟨Ai2, mi2, ci2, hci, hri, hLi, -⟩ := OwnSA.at_ (kindXQ (T := 73) (by decide)) ho hrowi
       obtain ⟨Aj2, mj2, cj2, hcj, hrj, hLj, -⟩ := OwnSA.at_ (kindXQ (T := 73) (by decide)) ho hrowj
       obtain ⟨gi, rfl, hmi⟩ := OwnQ.addr' hri (by simp; omega)
       obtain ⟨gj, rfl, hmj⟩ := OwnQ.addr' hrj (by simp; omega)
       obtain rfl : mi2 = m9 := by rw [hmi]; simp
       obtain rfl : mj2 = mi2 := by rw [hmj]; simp
       have hx5 := OwnQ.cell5 hri (k := j) (x := q8) (by rw [List.getElem?_map, List.getElem?_range (by omega)]; simp)
       obtain ⟨x0, x1, x2, x3, x4⟩ := hx5
       obtain ⟨y0, y1, y2, y3, y4⟩ := OwnQ.cell5 hrj (k := i) (x := _) (by rw [List.getElem?_map, List.getElem?_range (by omega)]; rfl)
       have z0 := hrj.frozen (i * 5)
       have z1 := hrj.frozen (i * 5 + 1)
       have z2 := hrj.frozen (i * 5 + 2)
       have z3 := hrj.frozen (i * 5 + 3)
       have z4 := hrj.frozen (i * 5 + 4)
       obtain ⟨-, hl, -, -, hst⟩ := OwnSA.storeQ (by decide) ho hrowj hcj
       have o2 := hst i q8
       rw [matL_store (by omega)] at o2
       have HF2 : Hid (FarRel2 w x mj2 g6 i (j + 1) (((((wr2.setCell ⟨gj, i * 5, none⟩ (.bool (decide (q8.num < 0)))).setCell ⟨gj, i * 5 + 1, none⟩ (.int .u64 (lo q8.num.natAbs : Int))).setCell ⟨gj, i * 5 + 2, none⟩ (.string (mo q8.num.natAbs))).setCell ⟨gj, i * 5 + 3, none⟩ (.int .u64 (lo (qden q8) : Int))).setCell ⟨gj, i * 5 + 4, none⟩ (.string (mo (qden q8))))) :=
        lh ⟨_, by rw [size5]; exact o2, hE8.store hji hq8, bset5' hbw hl _ _ _ _ _⟩
       clear ho hE8 hq8 hbw hrowi hrowj hri hrj hLi hLj hmi hmj hl hst o2 HF HO HE9 HBW HQ HROW HGA HR9 b1 b2 b3 hPx hPy
       go_upto_region 20 with fail
       go_region
       all_goals
        go_wp2
        exact ⟨⟨j + 1, by omega, by go_num, FarRel2.drew HF2.out⟩, by simp [intOf]; omega⟩
     obtain rfl : j = i := by omega
     have q2 : ¬ (j : Int) < (j : Int) := by omega
     obtain ⟨E', ho, hE, hbw⟩ := hrel
     have HF : Hid (FarRel w x k g6 (j + 1) wq) := lh ⟨E', ho, hE.next (fun a b ha hb => by
      have hx : ∀ a, a <= j -> (x.getD a []).length = wd := fun a ha => HW.out _ (by
       rw [List.getD_eq_getElem?_getD, List.getElem?_eq_getElem (by omega)]
       exact List.getElem_mem _)
      rw [hx a ha, hx b hb]), hbw⟩
     clear ho hE hbw
     go_wp2
     exact ⟨⟨j + 1, by omega, by go_num, HF.out⟩, by simp [intOf]; omega⟩
   obtain rfl : i = k := by omega
   have q1 : ¬ (i : Int) < (i : Int) := by omega
   have e1 : matL i i E = farsQ x := by
    rw [matL_full hE, farsQ_range, hlen]
   rw [e1] at ho
   have HF := lh ho
   clear ho hE e1
   go_wp2
   go_returns
   exact ⟨_, rfl, HF.out.plain, fun b hb => by have e := own_eq hb; omega, hbw⟩
theorem sq_nonneg (x : Rat) : 0 <= x * x := by
 rcases Rat.le_total (a := 0) (b := x) with h | h
 ·exact Rat.mul_nonneg h h
 have h2 : 0 <= -x := by grind
 have e : x * x = (-x) * (-x) := by rw [Rat.neg_mul, Rat.mul_neg, Rat.neg_neg]
 rw [e]
 exact Rat.mul_nonneg h2 h2
theorem farQ_nonneg (a b : List Rat) : 0 <= farQ a b := by
 have h : ∀ k, 0 <= farStep a b k := by
  intro k
  induction k with
  | zero => exact Rat.le_refl
  | succ k ih =>
   unfold farStep
   have h2 := sq_nonneg (a.getD k 0 - b.getD k 0)
   grind
 exact h _
theorem fars_check {x : List (List Rat)} (h1 : 1 <= x.length) (h64 : x.length <= 64) (hl : ∀ a ∈ x, ∀ b ∈ x, a.length = b.length) : checkFar (farsQ x) = 0 := by
 refine checkFar_ok (by rw [farsQ_len]; omega) (fun k l hk => ?_) (fun i hi k hk => ?_)
 ·have hk2 := (List.getElem?_eq_some_iff.1 hk).1
  rw [farsQ_len] at hk2 ⊢
  rw [farsQ_at (List.getElem?_eq_getElem hk2)] at hk
  obtain rfl := Option.some.inj hk
  simp
 rw [farsQ_len] at hi hk
 have e1 := farsQ_at (List.getElem?_eq_getElem hi)
 have e2 := farsQ_at (List.getElem?_eq_getElem hk)
 have e3 : (x.map fun b => farQ x[i] b)[k]? = some (farQ x[i] x[k]) := by rw [List.getElem?_map, List.getElem?_eq_getElem hk]; rfl
 have e4 : (x.map fun b => farQ x[k] b)[i]? = some (farQ x[k] x[i]) := by rw [List.getElem?_map, List.getElem?_eq_getElem hi]; rfl
 rw [badAt_eq e1 e3 e2 e4]
 have q1 : ¬ farQ x[i] x[k] < 0 := Rat.not_lt.2 (farQ_nonneg _ _)
 have q2 := farQ_comm (hl x[i] (List.getElem_mem hi) x[k] (List.getElem_mem hk))
 have q3 : (decide (i = k) && decide (farQ x[i] x[k] ≠ 0)) = false := by
  by_cases h : i = k
  ·subst h
   rw [farQ_self]
   simp
  simp [h]
 rw [q3, decide_eq_false q1, <- q2]
 simp
theorem fars_QS {m wd : Nat} {x : List (List Rat)} (hs : ∀ l ∈ x, ∀ y ∈ l, QS m y) (hm : 1 <= m) (hw : ∀ l ∈ x, l.length = wd) : ∀ l ∈ farsQ x, ∀ y ∈ l, QS (wd * (4 * m + 3) + 1) y := by
 intro l hl y hy
 obtain ⟨a, ha, rfl⟩ := List.mem_map.1 hl
 obtain ⟨b, hb, rfl⟩ := List.mem_map.1 hy
 unfold farQ
 rw [hw a ha]
 exact farStep_size (hs a ha) (hs b hb) hm wd
theorem rowsOf_row {zs : List Int} {m n : Nat} {l : List Rat} (h : l ∈ rowsOf zs m n) : ∃ zs', l = rowOf zs' m := by
 obtain ⟨i, _, rfl⟩ := List.mem_map.1 h
 exact ⟨_, rfl⟩
end Go.Proofs.YtecnjlcfoobepaaGreatDoor
