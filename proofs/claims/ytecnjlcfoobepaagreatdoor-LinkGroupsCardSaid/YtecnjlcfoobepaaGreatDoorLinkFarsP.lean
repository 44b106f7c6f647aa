import Derived.Test.YtecnjlcfoobepaaGreatDoorLinkJoin
import Derived.Test.YtecnjlcfoobepaaGreatDoorHandRows
import Derived.Test.YtecnjlcfoobepaaGreatDoorFracMul
import Derived.Test.YtecnjlcfoobepaaGreatDoorRefSub
import Derived.Deep.DeepCutAuto
import Derived.Deep.CutBlock
import Derived.Test.YtecnjlcfoobepaaGreatDoorFracCmp
import Derived.RegionTactic
namespace Go.Proofs.YtecnjlcfoobepaaGreatDoor
set_option maxRecDepth 100000
set_option maxHeartbeats 8000000
set_option linter.all false
theorem QS.nat {k n : Nat} (h : n < 2 ^ k) (hk : 1 <= k) : QS k (n : Rat) := by
 refine ⟨?_, ?_⟩
 ·show Je ((n : Rat).num.natAbs) <= k
  rw [Rat.num_natCast, Int.natAbs_natCast]
  exact Zt n k h
 rw [Rat.den_natCast]
 exact Zt 1 k (by have := Nat.pow_le_pow_right (show 0 < 2 by omega) hk; omega)
theorem Jq9 {m : Nat} {x y : Rat} (hx : QS m x) (hy : QS m y) : QS m (Jpb x y) := by unfold Jpb; split <;> assumption
theorem Jra {m : Nat} {x y : Rat} (hx : QS m x) (hy : QS m y) : QS m (Jpf x y) := by unfold Jpf; split <;> assumption
theorem Jnd {m how sa sb : Nat} {x y : Rat} (hx : QS m x) (hy : QS m y) (ha : sa <= 1000) (hb : sb <= 1000) : QS (2 * m + 40) (Yj how sa sb x y) := by
 unfold Yj
 split
 ·exact (Jq9 hx hy).mono (by omega)
 split
 ·exact (Jra hx hy).mono (by omega)
 rw [Rat.div_def]
 have h1 := hx.mul (QS.nat (k := 10) (n := sa) (by omega) (by omega))
 have h2 := hy.mul (QS.nat (k := 10) (n := sb) (by omega) (by omega))
 have h3 := (QS.nat (k := 11) (n := sa + sb) (by omega) (by omega)).inv (by omega)
 exact ((h1.add h2).mul h3).mono (by omega)
def QSC (m : Nat) (c : Cls) : Prop := ∀ l ∈ c.far, ∀ x ∈ l, QS m x
theorem QSC.betw {m : Nat} {c : Cls} (h : QSC m c) (hm : 1 <= m) (a b : Nat) : QS m (betw c.far a b) := by
 unfold Go.Proofs.YtecnjlcfoobepaaGreatDoor.betw
 rw [List.getD_eq_getElem?_getD]
 by_cases ha : max a b < c.far.length
 ·rw [List.getD_eq_getElem?_getD, List.getElem?_eq_getElem ha]
  show QS m ((c.far[max a b])[min a b]?.getD 0)
  by_cases hb : min a b < (c.far[max a b]).length
  ·rw [List.getElem?_eq_getElem hb]
   exact h _ (List.getElem_mem ha) _ (List.getElem_mem hb)
  rw [List.getElem?_eq_none (by omega)]
  exact ⟨Nat.zero_le _, hm⟩
 rw [List.getD_eq_getElem?_getD, List.getElem?_eq_none (show c.far.length <= max a b by omega)]
 exact ⟨Nat.zero_le _, hm⟩
def SZC (s : Nat) (c : Cls) : Prop := ∀ i, c.size.getD i 0 <= s
theorem Jm8 {m how : Nat} {c : Cls} (h : QSC m c) (hm : 1 <= m) (hs : SZC 1000 c) (a b i : Nat) : QS (2 * m + 40) (Xb how c a b i) := by
 unfold Xb
 split
 ·exact Jnd (h.betw hm _ _) (h.betw hm _ _) (hs a) (hs b)
 exact ⟨Nat.zero_le _, by show 1 <= _; omega⟩
theorem Jk3 {m how : Nat} {c : Cls} (h : QSC m c) (hm : 1 <= m) (hs : SZC 1000 c) (a b : Nat) : QSC (2 * m + 40) (Vs how c a b) := by
 intro l hl x hx
 rcases List.mem_append.1 hl with hl | hl
 ·exact (h l hl x hx).mono (by omega)
 obtain rfl := List.mem_singleton.1 hl
 obtain ⟨i, _, rfl⟩ := List.mem_map.1 hx
 exact Jm8 h hm hs a b i
theorem Jk2 {s how : Nat} {c : Cls} (h : SZC s c) (a b : Nat) : SZC (2 * s) (Vs how c a b) := by
 intro i
 show (c.size ++ [_]).getD i 0 <= _
 have h1 := h a
 have h2 := h b
 have h3 := h i
 rw [List.getD_eq_getElem?_getD] at h3 ⊢
 by_cases hi : i < c.size.length
 ·rw [List.getElem?_append_left hi]
  omega
 rw [List.getElem?_append_right (by omega)]
 by_cases gP : i - c.size.length = 0
 ·rw [gP]
  show c.size.getD a 0 + c.size.getD b 0 <= _
  omega
 rw [List.getElem?_eq_none (by simp; omega)]
 exact Nat.zero_le _
def Jgf (m : Nat) : Nat -> Nat
 | 0 => m
 | k + 1 => 2 * Jgf m k + 40
theorem Jpy (m : Nat) {k : Nat} (hk : k <= 6) : Jgf m k <= 64 * m + 2520 := by
 have h : k = 0 \/ k = 1 \/ k = 2 \/ k = 3 \/ k = 4 \/ k = 5 \/ k = 6 := by omega
 rcases h with rfl | rfl | rfl | rfl | rfl | rfl | rfl <;> simp only [Jgf] <;> omega
theorem Jpz (m : Nat) : ∀ k, m <= Jgf m k := by
 intro k
 induction k with
 | zero => exact Nat.le_refl _
 | succ k ih => show m <= 2 * Jgf m k + 40; omega
theorem Jjz {how m : Nat} {f : List (List Rat)} (hf : SymF f) (hm : 1 <= m) (hq : ∀ l ∈ f, ∀ x ∈ l, QS m x) : ∀ k, k <= 6 -> k < f.length -> QSC (Jgf m k) (Qe how f k) /\ SZC (2 ^ k) (Qe how f k) := by
 intro k
 induction k with
 | zero =>
  intro _ h0
  refine ⟨fun l hl x hx => ?_, fun i => ?_⟩
  ·obtain ⟨i, hi, rfl⟩ := List.mem_map.1 hl
   have hi := List.mem_range.1 hi
   have e : f.getD i [] = f[i] := by rw [List.getD_eq_getElem?_getD, List.getElem?_eq_getElem hi]; rfl
   rw [e] at hx
   exact hq _ (List.getElem_mem hi) x (List.mem_of_mem_take hx)
  show (List.replicate f.length 1).getD i 0 <= 1
  rw [List.getD_eq_getElem?_getD, List.getElem?_replicate]
  split
  ·exact Nat.le_refl _
  exact Nat.zero_le _
 | succ k ih =>
  intro hk bB
  obtain ⟨h1, h2⟩ := ih (by omega) (by omega)
  obtain ⟨A, B, hj, hc⟩ := Zo (how := how) (k := k) hf (by omega)
  rw [hc]
  have h3 : 2 ^ k <= 1000 := nt (Nat.pow_le_pow_right (by omega) (show k <= 6 by omega)) (by decide)
  refine ⟨Jk3 h1 (nt hm (Jpz m k)) (fun i => nt (h2 i) h3) A B, ?_⟩
  rw [Nat.pow_succ, Nat.mul_comm]
  exact Jk2 h2 A B
structure WalkC (n m : Nat) (c : Cls) : Prop where
 lenf : c.far.length = n
 lens : c.size.length = n
 leng : c.gone.length = n
 row : ∀ i, i < n -> (c.far.getD i []).length = i
 qs : QSC m c
 sz : SZC 1000 c
 pos : ∀ i, i < n -> Qq c.gone i = true -> 0 < c.size.getD i 0
theorem Jd2 {how m k : Nat} {f : List (List Rat)} (hf : SymF f) (hm : 1 <= m) (hq : ∀ l ∈ f, ∀ x ∈ l, QS m x) (hk : k <= 6) (bB : k < f.length) : WalkC (f.length + k) (64 * m + 2520) (Qe how f k) := by
 have hi := Jau (how := how) hf k bB
 obtain ⟨h1, h2⟩ := Jjz (how := how) hf hm hq k hk bB
 refine ⟨hi.lenf, hi.lens, hi.leng, hi.row, fun l hl x hx => (h1 l hl x hx).mono (Jpy m hk), fun i => nt (h2 i) (nt (Nat.pow_le_pow_right (by omega) hk) (by decide)), fun i fQ ha => ?_⟩
 have hp := (Ze hi fQ).1 ha
 rw [hi.sz i fQ hp]
 exact List.length_pos_iff.2 hp
theorem Jg4 {f : List (List Rat)} (h : Xi f = 0) : SymF f /\ Jqm f /\ (∀ i, i < f.length -> dOf f i i = 0) /\ 1 <= f.length /\ f.length <= 64 := by
 unfold Xi at h
 split at h
 ·cases h
 rename_i h1
 split at h
 ·cases h
 rename_i h2
 split at h
 ·cases h
 rename_i h3
 have h4 : ∀ i, i < f.length -> ∀ k, k < f.length -> Jac f i k = false := by
  intro i hi k hk
  cases hb : Jac f i k with
  | false => rfl
  | true => exact absurd (Jgx hi hk hb) h3
 have h5 : ∀ i, i < f.length -> (f.getD i []).length = f.length := by
  intro i hi
  rw [List.getD_eq_getElem?_getD, List.getElem?_eq_getElem hi]
  refine Classical.byContradiction fun aY => h2 (List.any_eq_true.2 ⟨f[i], List.getElem_mem hi, decide_eq_true aY⟩)
 have h6 : ∀ i, i < f.length -> ∀ k, k < f.length -> ¬ dOf f i k < 0 /\ (i = k -> dOf f i k = 0) /\ dOf f i k = dOf f k i := by
  intro i hi k hk
  have := h4 i hi k hk
  unfold Jac at this
  simp only [Bool.or_eq_false_iff, Bool.and_eq_false_iff, decide_eq_false_iff_not, Decidable.not_not] at this
  obtain ⟨⟨a1, a2⟩, a3⟩ := this
  refine ⟨a1, fun e => ?_, a3⟩
  rcases a2 with a2 | a2
  ·exact absurd e a2
  exact a2
 refine ⟨⟨h5, fun i j hi hj => (h6 i hi j hj).2.2⟩, fun i j hi hj => Rat.not_lt.1 (h6 i hi j hj).1, fun i hi => (h6 i hi i hi).2.1 rfl, by omega, by omega⟩
open Go.RowKit
def jC (j : Jn) : List Value := [.int .i64 j.a, .int .i64 j.b, .int .i64 j.size, .bool (decide (j.high.num < 0)), .int .u64 (lo j.high.num.natAbs : Int), .string (mo j.high.num.natAbs), .int .u64 (lo ((qden j.high)) : Int), .string (mo ((qden j.high)))]
theorem Jht (j : Jn) : (jC j).length = 8 := rfl
theorem Jps (j : Jn) : ∀ u ∈ jC j, u.oneCell' = true := by
 intro u hu
 simp [jC] at hu
 rcases hu with rfl | rfl | rfl | rfl | rfl | rfl | rfl | rfl <;> rfl
def jV (j : Jn) : Value := .agg #[.int .i64 j.a, .int .i64 j.b, .int .i64 j.size, .bool (decide (j.high.num < 0)), .int .u64 (lo j.high.num.natAbs : Int), .string (mo j.high.num.natAbs), .int .u64 (lo ((qden j.high)) : Int), .string (mo ((qden j.high)))]
abbrev ReadsJ (w : World) (B : Nat) (A : Option Addr) (n : Nat) (l : List Jn) : Prop := ReadsW w B 8 jC A n l
abbrev OwnJ (w : World) (v : Value) (l : List Jn) : Prop := OwnW w 58 8 jC v l
theorem Tryz.eltJ : EltW Tryz.prog 40 58 (.agg #[.int .i64 0, .int .i64 0, .int .i64 0, .bool false, .int .u64 0, .string ⟨#[]⟩, .int .u64 0, .string ⟨#[]⟩]) 8 80 := ⟨Tryz.underlying40, by kernel_rfl, by kernel_rfl⟩
theorem Jl8 (wr : World) (j : Jn) : ReadsW (wr.alloc (.cells #[.int .i64 j.a, .int .i64 j.b, .int .i64 j.size, .bool (decide (j.high.num < 0)), .int .u64 (lo j.high.num.natAbs : Int), .string (mo j.high.num.natAbs), .int .u64 (lo ((qden j.high)) : Int), .string (mo ((qden j.high)))] 58)) (wr.heap.size + 1) 8 jC (some ⟨wr.heap.size, 0, none⟩) 1 [j] :=
 ⟨rfl, by
  have h : Blk (wr.alloc (.cells #[.int .i64 j.a, .int .i64 j.b, .int .i64 j.size, .bool (decide (j.high.num < 0)), .int .u64 (lo j.high.num.natAbs : Int), .string (mo j.high.num.natAbs), .int .u64 (lo ((qden j.high)) : Int), .string (mo ((qden j.high)))] 58)) wr.heap.size 58 (jC j).toArray := Blk.new wr 58 #[.int .i64 j.a, .int .i64 j.b, .int .i64 j.size, .bool (decide (j.high.num < 0)), .int .u64 (lo j.high.num.natAbs : Int), .string (mo j.high.num.natAbs), .int .u64 (lo ((qden j.high)) : Int), .string (mo ((qden j.high)))]
  have := Reads.ofBlk h (Jht j)
  simpa using this⟩
section
variable {ops : Array Oper} {rest : List Oper} {o : Oper} {a : Act} {Q : Exit -> Act -> World -> Prop}
theorem appJ (bN : o.guard = none) (s x : Operand)
  (ho : o.op = .call { callee := .builtin .append, args := #[s, x], argTypes := #[40, 40] })
  (wr : World) (v : Value) (l : List Jn) (j : Jn) (hs : a.eval s = v) (dS : OwnJ wr v l) (hx : a.eval x = .slice (some ⟨wr.heap.size, 0, none⟩) 1 1) (hl : l.length <= 1000000)
  (h : ∀ v' w1, OwnJ w1 v' (l ++ [j]) -> Grew wr w1 v v' -> wpList Tryz.prog ops Q rest (a.put o.dst v') w1) : wpList Tryz.prog ops Q (o :: rest) a (wr.alloc (.cells #[.int .i64 j.a, .int .i64 j.b, .int .i64 j.size, .bool (decide (j.high.num < 0)), .int .u64 (lo j.high.num.natAbs : Int), .string (mo j.high.num.natAbs), .int .u64 (lo ((qden j.high)) : Int), .string (mo ((qden j.high)))] 58)) := by
 refine Jro Tryz.eltJ (by omega) bN s x ho _ v l (wr.heap.size + 1) (some ⟨wr.heap.size, 0, none⟩) 1 1 [j] hs (dS.alloc _) hx (Jl8 wr j) Jps (by unfold maxLen; omega) (by omega) ?_
 intro v' w1 h1 h2
 refine h v' w1 h1 ?_
 refine ⟨h2.os, h2.tape, h2.output, nt (by simp) h2.size, fun k hk aY => (h2.block k (by simp; omega) aY).trans (Below.heap_alloc wr _ k hk), fun k hk => ?_⟩
 rcases h2.own k hk with h3 | h3
 ·exact .inl h3
 exact .inr (by simp at h3; omega)
end
structure AtJ (w : World) (g o : Nat) (j : Jn) : Prop where
 c8 : w.cell? ⟨g, o, none⟩ = some (.int .i64 j.a) /\ w.cell? ⟨g, o + 1, none⟩ = some (.int .i64 j.b) /\ w.cell? ⟨g, o + 2, none⟩ = some (.int .i64 j.size) /\
   w.cell? ⟨g, o + 3, none⟩ = some (.bool (decide (j.high.num < 0))) /\ w.cell? ⟨g, o + 4, none⟩ = some (.int .u64 (lo j.high.num.natAbs : Int)) /\ w.cell? ⟨g, o + 5, none⟩ = some (.string (mo j.high.num.natAbs)) /\
   w.cell? ⟨g, o + 6, none⟩ = some (.int .u64 (lo (qden j.high) : Int)) /\ w.cell? ⟨g, o + 7, none⟩ = some (.string (mo (qden j.high)))
theorem AtJ.lt {w : World} {g o : Nat} {j : Jn} (h : AtJ w g o j) : g < w.heap.size := Ka h.c8.1
theorem AtJ.below {w w' : World} {g o B : Nat} {j : Jn} (h : AtJ w g o j) (hb : Below B w w') (hg : g < B) : AtJ w' g o j := by
 obtain ⟨h0, h1, h2, h3, h4, h5, h6, h7⟩ := h.c8
 refine ⟨?_⟩
 rw [hb.cell (p := ⟨g, o, none⟩) hg, hb.cell (p := ⟨g, o + 1, none⟩) hg, hb.cell (p := ⟨g, o + 2, none⟩) hg, hb.cell (p := ⟨g, o + 3, none⟩) hg, hb.cell (p := ⟨g, o + 4, none⟩) hg, hb.cell (p := ⟨g, o + 5, none⟩) hg, hb.cell (p := ⟨g, o + 6, none⟩) hg, hb.cell (p := ⟨g, o + 7, none⟩) hg]
 exact ⟨h0, h1, h2, h3, h4, h5, h6, h7⟩
theorem AtJ.drew {w : World} {g o : Nat} {j : Jn} (h : AtJ w g o j) : AtJ w.drew g o j := h.below (Jf w) h.lt
theorem AtJ.alloc {w : World} {g o : Nat} {j : Jn} (h : AtJ w g o j) (b : Obj) : AtJ (w.alloc b) g o j := h.below (Jb w b) h.lt
theorem AtJ.yy {w w' V : World} {g o : Nat} {j : Jn} {n : Nat} (h : AtJ w g o j) (hb : Below n V w') (hs : Sbw n w V := by first | exact sb0 _ | exact sb1 _ _ | exact sb2 _ _ _) : AtJ w' g o j := (h.below hs.1 h.lt).below hb (Nat.lt_of_lt_of_le h.lt hs.2)
theorem AtJ.zc8 {w w' V : World} {g o : Nat} {j : Jn} {n : Nat} (h : AtJ w g o j) (hb : Below n V w') (hs : Sbw n w V := by first | exact sb0 _ | exact sb1 _ _ | exact sb2 _ _ _) : AtJ w' g o j /\ w'.cell? ⟨g, o, none⟩ = some (.int .i64 j.a) /\ w'.cell? ⟨g, o + 1, none⟩ = some (.int .i64 j.b) /\ w'.cell? ⟨g, o + 2, none⟩ = some (.int .i64 j.size) /\ w'.cell? ⟨g, o + 3, none⟩ = some (.bool (decide (j.high.num < 0))) /\ w'.cell? ⟨g, o + 4, none⟩ = some (.int .u64 (lo j.high.num.natAbs : Int)) /\ w'.cell? ⟨g, o + 5, none⟩ = some (.string (mo j.high.num.natAbs)) /\ w'.cell? ⟨g, o + 6, none⟩ = some (.int .u64 (lo (qden j.high) : Int)) /\ w'.cell? ⟨g, o + 7, none⟩ = some (.string (mo (qden j.high))) := have h := h.yy hb hs; ⟨h, h.c8⟩
theorem AtJ.high {w : World} {g o : Nat} {j : Jn} (h : AtJ w g o j) : AtQ w g (o + 3) j.high := by
 obtain ⟨h0, h1, h2, h3, h4, h5, h6, h7⟩ := h.c8
 exact ⟨⟨h3, h4, h5, h6, h7⟩⟩
theorem ReadsJ.at_ {w : World} {B : Nat} {A : Option Addr} {n : Nat} {l : List Jn} (h : ReadsJ w B A n l) {k : Nat} {j : Jn} (hj : l[k]? = some j) : ∃ ad g o, A = some ad /\ ad.add (k * 8) = ⟨g, o, none⟩ /\ g < B /\ AtJ w g o j := by
 have hk : k < n := by rw [<- h.len]; exact (List.getElem?_eq_some_iff.1 hj).1
 obtain ⟨ad, y, h1, h2, h3, h4⟩ := ReadsW.at_ Jht h hk
 obtain rfl := Option.some.inj (hj.symm.trans h3)
 have c0 := h4 0 _ rfl
 have e0 := Uy c0
 rw [Nat.add_zero] at c0 e0
 have hb := Jw ad (k * 8)
 have hc : ∀ i u, (jC j)[i + 1]? = some u -> w.cell? ((ad.add (k * 8)).add (i + 1)) = some u := fun i u hu => by rw [Ud]; exact h4 (i + 1) u hu
 cases hP : ad.add (k * 8) with
 | mk g o sp =>
  rw [hP] at c0 e0 hb hc
  obtain rfl : sp = none := e0
  exact ⟨ad, g, o, h1, hP, by have : g = ad.block := hb; omega, ⟨⟨c0, hc 0 _ rfl, hc 1 _ rfl, hc 2 _ rfl, hc 3 _ rfl, hc 4 _ rfl, hc 5 _ rfl, hc 6 _ rfl⟩⟩⟩
theorem Jne (A A' : Option Addr) (n c c' B m : Nat) (a b : List Rat) (w : World) (ha : ReadsQ w B A n a) (hb : ReadsQ w B A' n b) (hB : B <= w.heap.size) (hn : n <= 1000) (hm : 1 <= m) (cL : m <= 10000000) (sa : ∀ x ∈ a, QS m x) (sb : ∀ x ∈ b, QS m x) (hT : Tab w) :
  Calls Tryz.prog 89 #[.slice A n c, .slice A' n c'] w (Ret (qV (Xt a b)) w) := by
 have HLA := lh ha.len
 have HLB := lh hb.len
 have HSZ := lh (Vv sa sb hm)
 have HA := lh ha
 have HBR := lh hb
 have HSA := lh sa
 have HSB := lh sb
 have HT := lh hT
 clear ha hb sa sb hT
 go_enter Tryz.func89, Tryz.ntmps89
 go_wp2_with fail
 have b0 := (Blk.new w 56 #[.bool false, .int .u64 0, .string ⟨#[]⟩, .int .u64 0, .string ⟨#[]⟩]).alloc (.cells #[.bool false, .int .u64 0, .string ⟨#[]⟩, .int .u64 0, .string ⟨#[]⟩] 56)
 have b1 := Blk.new2 w (.cells #[.bool false, .int .u64 0, .string ⟨#[]⟩, .int .u64 0, .string ⟨#[]⟩] 56) 56 #[.bool false, .int .u64 0, .string ⟨#[]⟩, .int .u64 0, .string ⟨#[]⟩]
 have hW := Jl w (.cells #[.bool false, .int .u64 0, .string ⟨#[]⟩, .int .u64 0, .string ⟨#[]⟩] 56) (.cells #[.bool false, .int .u64 0, .string ⟨#[]⟩, .int .u64 0, .string ⟨#[]⟩] 56)
 generalize (w.alloc (.cells #[.bool false, .int .u64 0, .string ⟨#[]⟩, .int .u64 0, .string ⟨#[]⟩] 56)).alloc (.cells #[.bool false, .int .u64 0, .string ⟨#[]⟩, .int .u64 0, .string ⟨#[]⟩] 56) = W at *
 go_loopw [10] (fun p wr => ∃ (k : Nat) (s : Rat), k <= n /\ p = .int .i64 (k : Int) /\ Hid (Qv a b k = s) /\ Blk wr w.heap.size 56 #[.bool false, .int .u64 0, .string ⟨#[]⟩, .int .u64 0, .string ⟨#[]⟩] /\ Blk wr (w.heap.size + 1) 56 #[.bool (decide (s.num < 0)), .int .u64 (lo s.num.natAbs : Int), .string (mo s.num.natAbs), .int .u64 (lo ((qden s)) : Int), .string (mo ((qden s)))] /\ Below w.heap.size w wr) (fun p _ => n - (intOf p).toNat)
 case atStart => exact ⟨0, 0, by omega, rfl, lh rfl, b0, b1, hW⟩
 case round =>
  obtain ⟨k, s, hk, rfl, hs, c0, c1, j8⟩ := hrel
  clear b0 b1 hW
  rename World => wr
  by_cases bB : k < n
  ·have k1 : (k : Int) < (n : Int) := by omega
   obtain ⟨x, hx⟩ : ∃ x, a[k]? = some x := ⟨_, List.getElem?_eq_getElem (by have := HLA.out; omega)⟩
   obtain ⟨y, hy⟩ : ∃ y, b[k]? = some y := ⟨_, List.getElem?_eq_getElem (by have := HLB.out; omega)⟩
   obtain ⟨ad, g1, o1, rfl, cM, bO, b1⟩ := ReadsQ.at_ (HA.out.below (j8.mono hB)) hx
   obtain ⟨ad', g2, o2, rfl, dT, bP, b2⟩ := ReadsQ.at_ (HBR.out.below (j8.mono hB)) hy
   have qx := HSA.out x (List.mem_of_getElem? hx)
   have qy := HSB.out y (List.mem_of_getElem? hy)
   have aZ : Qv a b (k + 1) = s + (x - y) * (x - y) := by
    rw [<- hs.out]
    show Qv a b k + _ = _
    rw [List.getD_eq_getElem?_getD, hx, List.getD_eq_getElem?_getD, hy]
    rfl
   have aL : QS 68719476736 s := by
    rw [<- hs.out]
    refine (HSZ.out k).mono ?_
    have := Nat.mul_le_mul (show k <= 1000 by omega) (show 4 * m + 3 <= 40000003 by omega)
    omega
   have aB := fun w (hT : Tab w) => Jp1 x y w (qx.mono (by omega)) (qy.mono (by omega)) hT
   have qd : QS 20000001 (x - y) := (qx.sub qy).mono (by omega)
   generalize x - y = d at *
   have bQ := fun w (hT : Tab w) => Jck d d w (qd.mono (by omega)) (qd.mono (by omega)) hT
   have qp : QS 40000002 (d * d) := (qd.mul qd).mono (by omega)
   generalize d * d = p at *
   have bR := fun w (hT : Tab w) => Jez s p w (aL.mono (by omega)) (qp.mono (by omega)) hT
   generalize s + p = s' at *
   unfold qV at aB bQ bR
   have HSUB := lh aB
   have HMUL := lh bQ
   have HADD := lh bR
   have HST := lh aZ
   have HBW := lh j8
   have tT := HT.out.next j8
   have g0 := c0.lt
   have g5 := c1.lt
   clear aB bQ bR aZ qx qy aL qd qp hx hy hs j8 bO bP
   go_upto_region 5 with fail
   go_cut [7] (fun v wc => Jb6 wr 56 #[.bool (decide (d.num < 0)), .int .u64 (lo d.num.natAbs : Int), .string (mo d.num.natAbs), .int .u64 (lo ((qden d)) : Int), .string (mo ((qden d)))] v wc)
   case first =>
    obtain ⟨cN, cO, dU, gQ, gR⟩ := b1.c5; have c1 := b1.drew; have aQ := c1.lt; obtain ⟨bC, bD, bS, cP, cQ⟩ := b2.c5; have c2 := b2.drew; have s9 := c2.lt; have hc := Jf wr; go_region_held3 (fun w' => w'.cell? ⟨g1, o1, none⟩ = some (.bool (decide (x.num < 0))) /\ w'.cell? ⟨g1, o1 + 1, none⟩ = some (.int .u64 (lo x.num.natAbs : Int)) /\ w'.cell? ⟨g1, o1 + 2, none⟩ = some (.string (mo x.num.natAbs)) /\ w'.cell? ⟨g1, o1 + 3, none⟩ = some (.int .u64 (lo ((qden x)) : Int)) /\ w'.cell? ⟨g1, o1 + 4, none⟩ = some (.string (mo ((qden x)))) /\ w'.cell? ⟨g2, o2, none⟩ = some (.bool (decide (y.num < 0))) /\ w'.cell? ⟨g2, o2 + 1, none⟩ = some (.int .u64 (lo y.num.natAbs : Int)) /\ w'.cell? ⟨g2, o2 + 2, none⟩ = some (.string (mo y.num.natAbs)) /\ w'.cell? ⟨g2, o2 + 3, none⟩ = some (.int .u64 (lo ((qden y)) : Int)) /\ w'.cell? ⟨g2, o2 + 4, none⟩ = some (.string (mo ((qden y))))) (go_keep) (first | (go_at_call 125; (first | with_reducible refine (HSUB.out _ (tT.next hc)).mono ?_ | (have cR : wr.heap.size <= wr.heap.size := hc.size; have ca : Blk _ wr.heap.size _ _ := Blk.new wr.drew 56 #[.bool false, .int .u64 0, .string ⟨#[]⟩, .int .u64 0, .string ⟨#[]⟩]; have bT := Jo (show _ < wr.heap.size from aQ) zd; have c1 := c1.alloc (.cells #[.bool false, .int .u64 0, .string ⟨#[]⟩, .int .u64 0, .string ⟨#[]⟩] 56); have bU := Jo (show _ < wr.heap.size from s9) zd; have c2 := c2.alloc (.cells #[.bool false, .int .u64 0, .string ⟨#[]⟩, .int .u64 0, .string ⟨#[]⟩] 56); have hc := Ja hc (Jb _ (.cells #[.bool false, .int .u64 0, .string ⟨#[]⟩, .int .u64 0, .string ⟨#[]⟩] 56)); with_reducible refine (HSUB.out _ (tT.next hc)).mono ?_) | (have cR : wr.heap.size <= wr.heap.size := hc.size; have ca : Blk (wr.alloc (.cells #[.bool false, .int .u64 0, .string ⟨#[]⟩, .int .u64 0, .string ⟨#[]⟩] 56)).drew wr.heap.size _ _ := Blk.new wr.drew 56 #[.bool false, .int .u64 0, .string ⟨#[]⟩, .int .u64 0, .string ⟨#[]⟩]; have bT := Jo (show _ < wr.heap.size from aQ) zd; have c1 : AtQ (wr.alloc (.cells #[.bool false, .int .u64 0, .string ⟨#[]⟩, .int .u64 0, .string ⟨#[]⟩] 56)).drew _ _ _ := c1.alloc (.cells #[.bool false, .int .u64 0, .string ⟨#[]⟩, .int .u64 0, .string ⟨#[]⟩] 56); have bU := Jo (show _ < wr.heap.size from s9) zd; have c2 : AtQ (wr.alloc (.cells #[.bool false, .int .u64 0, .string ⟨#[]⟩, .int .u64 0, .string ⟨#[]⟩] 56)).drew _ _ _ := c2.alloc (.cells #[.bool false, .int .u64 0, .string ⟨#[]⟩, .int .u64 0, .string ⟨#[]⟩] 56); have hc : Below wr.heap.size wr (wr.alloc (.cells #[.bool false, .int .u64 0, .string ⟨#[]⟩, .int .u64 0, .string ⟨#[]⟩] 56)).drew := Ja hc (Jb _ (.cells #[.bool false, .int .u64 0, .string ⟨#[]⟩, .int .u64 0, .string ⟨#[]⟩] 56)); with_reducible refine (HSUB.out _ (tT.next hc)).mono ?_)); rintro e w1 ⟨rfl, j6⟩; (try have ca := ca.below j6 ca.lt); (try clear aM aN bE cS cT); obtain ⟨c1, aM, aN, bE, cS, cT⟩ := c1.zc5 j6; (try clear aQ); have aQ := c1.lt; (try clear j9 o0 o5 x8 x9); obtain ⟨c2, j9, o0, o5, x8, x9⟩ := c2.zc5 j6; (try clear s9); have s9 := c2.lt; have hc := Ja hc j6; (try (have gS := ca.lt; obtain ⟨dV, dW, dX, gT, gU, dY, dZ, eA, gV, gW, eB, eC, eD, gY, gZ⟩ := ca.f5))))
    all_goals
     go_wp2
     go_meet
     first | with_reducible exact Jqh hc | with_reducible exact Ji2 hc ca cR | with_reducible exact Ji2 (Ja hc (Jb _ _)) (Blk.new _ _ _) hc.size
   case rest =>
    obtain ⟨g7, rfl, iA, b7, bA⟩ := hcut
    rename World => W2
    have b0 := c0.below bA g0
    have b5 := c1.below bA g5
    have tT := tT.next bA
    have ne1 : ¬ w.heap.size + 1 = g7 := by omega
    have ne2 : ¬ g7 = w.heap.size + 1 := by omega
    have ne3 : ¬ w.heap.size = g7 := by omega
    have dI := HBW.out.trans (bA.mono HBW.out.size)
    clear c0 c1 b1 b2 HSUB
    go_upto_region 6 with fail
    obtain ⟨iB, iC, iD, iE, iF⟩ := b5.c5; have c5 := b5.drew; have dJ := c5.lt; obtain ⟨eE, eF, eG, iG, iH⟩ := b7.c5; have c7 := b7.drew; have bF := c7.lt; have c0 := b0.drew; have bG := c0.lt; have hc := Jf W2; go_region_with (first | (go_at_call 37; (with_reducible refine (HMUL.out _ (tT.next hc)).mono ?_); rintro e w1 ⟨rfl, j6⟩; (try clear bV bW bX bY bZ); obtain ⟨c5, bV, bW, bX, bY, bZ⟩ := c5.zc5 j6; (try clear dJ); have dJ := c5.lt; (try clear aC aD aE cA cB); obtain ⟨c7, aC, aD, aE, cA, cB⟩ := c7.zc5 j6; (try clear bF); have bF := c7.lt; have c0 := c0.below j6 c0.lt; (try clear bG); have bG := c0.lt; have hc := Ja hc j6) | (go_at_call 124; (with_reducible refine (HADD.out _ (tT.next hc)).mono ?_); rintro e w2 ⟨rfl, t7⟩; (try clear bV bW bX bY bZ); obtain ⟨c5, bV, bW, bX, bY, bZ⟩ := c5.zc5 t7; (try clear dJ); have dJ := c5.lt; (try clear aC aD aE cA cB); obtain ⟨c7, aC, aD, aE, cA, cB⟩ := c7.zc5 t7; (try clear bF); have bF := c7.lt; have c0 := c0.below t7 c0.lt; (try clear bG); have bG := c0.lt; have hc := Ja hc t7; obtain ⟨_, _, _, _, _, f0, f1, f2, f3, f4, z0, z1, z2, z3, z4⟩ := c5.f5))
    all_goals
     go_wp2
     have e1 := ((((c5.set_ 0 (.bool (decide (s'.num < 0)))).set_ 1 (.int .u64 (lo s'.num.natAbs : Int))).set_ 2 (.string (mo s'.num.natAbs))).set_ 3 (.int .u64 (lo (qden s') : Int))).set_ 4 (.string (mo (qden s')))
     have e0 := ((((c0.far (p := ⟨w.heap.size + 1, 0, none⟩) (by simp) (.bool (decide (s'.num < 0)))).far (p := ⟨w.heap.size + 1, 1, none⟩) (by simp) (.int .u64 (lo s'.num.natAbs : Int))).far (p := ⟨w.heap.size + 1, 2, none⟩) (by simp) (.string (mo s'.num.natAbs))).far (p := ⟨w.heap.size + 1, 3, none⟩) (by simp) (.int .u64 (lo (qden s') : Int))).far (p := ⟨w.heap.size + 1, 4, none⟩) (by simp) (.string (mo (qden s')))
     exact ⟨⟨k + 1, s', by omega, by go_num, HST, e0, by simpa using e1, Qy (Ja dI hc) (by omega) _ _ _ _ _⟩, by simp [intOf]; omega⟩
  obtain rfl : k = n := by omega
  have cG : Xt a b = s := by rw [<- hs.out]; unfold Xt; rw [HLA.out]
  have HS2 := lh cG
  clear cG hs
  have kO : ¬ (k : Int) < (k : Int) := by omega
  obtain ⟨iI, iJ, iK, iL, iM, iN, iO, iP, iQ, iR, eH, eI, eJ, eK, eL⟩ := c0.f5
  obtain ⟨aM, aN, bE, cS, cT⟩ := c1.c5
  go_wp2
  refine bodyPost_ret (v := .agg #[.bool (decide (s.num < 0)), .int .u64 (lo s.num.natAbs : Int), .string (mo s.num.natAbs), .int .u64 (lo ((qden s)) : Int), .string (mo ((qden s)))]) (by simp [results, Tryz.results89, go_sem, eH, eI, eJ, eK, eL]) rfl ?_
  exact ⟨by rw [HS2.out]; rfl, Qy j8 (by omega) _ _ _ _ _⟩
def Jkb (W : World) (q : Rat) (v : Value) (wc : World) : Prop :=
 ∃ g ng A l c A' l' c', v = .pointer (some ⟨g, 0, none⟩) /\ W.heap.size <= g /\ Blk wc g 70 #[.bool ng, .slice A l c, .slice A' l' c'] /\ IsQ wc wc.heap.size (.agg #[.bool ng, .slice A l c, .slice A' l' c']) q /\ Below W.heap.size W wc
theorem Jgu {W wn : World} {q : Rat} {l c l' c' : Nat} {ng : Bool} {A A' : Option Addr} (hc : Below W.heap.size W wn) (hQ : IsQ wn wn.heap.size (.agg #[.bool ng, .slice A l c, .slice A' l' c']) q) :
  Jkb W q (.pointer (some ⟨wn.heap.size, 0, none⟩)) (wn.alloc (.cells #[.bool ng, .slice A l c, .slice A' l' c'] 70)) :=
 ⟨_, _, _, _, _, _, _, _, rfl, hc.size, Blk.new _ _ _, (hQ.next zd (Jb _ _)).more (Jb _ _).size, Ja hc (Jb _ _)⟩
theorem Jda {W wn : World} {q : Rat} {g l c l' c' : Nat} {ng : Bool} {A A' : Option Addr} (hc : Below W.heap.size W wn) (hQ : IsQ wn wn.heap.size (.agg #[.bool ng, .slice A l c, .slice A' l' c']) q)
  (ca : Blk wn g 70 #[.bool false, .slice none 0 0, .slice none 0 0]) (hg : W.heap.size <= g) :
  Jkb W q (.pointer (some ⟨g, 0, none⟩)) (((wn.setCell ⟨g, 0, none⟩ (.bool ng)).setCell ⟨g, 1, none⟩ (.slice A l c)).setCell ⟨g, 2, none⟩ (.slice A' l' c')) := by
 refine ⟨_, _, _, _, _, _, _, _, rfl, hg, by simpa using ((ca.set_ 0 (.bool ng)).set_ 1 (.slice A l c)).set_ 2 (.slice A' l' c'), ?_, Kh hc hg _ _ _⟩
 rw [World.size_setCell, World.size_setCell, World.size_setCell]
 exact hQ.set3 ca _ _ _ _ _ _ _
theorem Jfa {W wn : World} {q : Rat} {l c l' c' : Nat} {ng : Bool} {A A' : Option Addr} (hc : Below W.heap.size W wn) (hQ : IsQ wn wn.heap.size (.agg #[.bool ng, .slice A l c, .slice A' l' c']) q) :
  Jkb W q (.pointer (some ⟨wn.heap.size, 0, none⟩)) ((((wn.alloc (.cells #[.bool false, .slice none 0 0, .slice none 0 0] 70)).setCell ⟨wn.heap.size, 0, none⟩ (.bool ng)).setCell ⟨wn.heap.size, 1, none⟩ (.slice A l c)).setCell ⟨wn.heap.size, 2, none⟩ (.slice A' l' c')) :=
 Jda (Ja hc (Jb _ _)) ((hQ.next zd (Jb _ _)).more (Jb _ _).size) (Blk.new _ _ _) hc.size
theorem Jpe (A A' : Option Addr) (n c c' B m : Nat) (a b : List Rat) (w : World) (ha : ReadsQ w B A n a) (hb : ReadsQ w B A' n b) (hB : B <= w.heap.size) (hn : n <= 1000) (hm : 1 <= m) (cL : m <= 10000000) (sa : ∀ x ∈ a, QS m x) (sb : ∀ x ∈ b, QS m x) (hT : Tab w) :
  Calls Tryz.prog 54 #[.slice A n c, .slice A' n c'] w (Ret (.tuple #[qV (Xt a b), .bool true]) w) := by
 have hf := fun w' (t8 : Below w.heap.size w w') => Jne A A' n c c' B m a b w' (ha.below (t8.mono hB)) (hb.below (t8.mono hB)) (nt hB t8.size) hn hm cL sa sb (hT.next t8)
 generalize Xt a b = q at *
 unfold qV at hf ⊢
 have HF := lh hf
 clear hf ha hb sa sb
 obtain ⟨b0, hB, hZ⟩ := bx1 w 56 #[.bool false, .int .u64 0, .string ⟨#[]⟩, .int .u64 0, .string ⟨#[]⟩]
 go_enter Tryz.func54, Tryz.ntmps54
 go_wp2_with fail
 generalize (w.alloc (.cells #[.bool false, .int .u64 0, .string ⟨#[]⟩, .int .u64 0, .string ⟨#[]⟩] 56)) = W at *
 refine (HF.out W hB).mono ?_
 rintro e w1 ⟨rfl, cH⟩
 have b0 := b0.below cH b0.lt
 obtain ⟨iS, iT, iU, iV, iW, iX, iY, iZ, jB, jD, eM, eO, eP, eQ, eR⟩ := b0.f5
 go_wp2
 refine bodyPost_ret (v := .tuple #[.agg #[.bool (decide (q.num < 0)), .int .u64 (lo q.num.natAbs : Int), .string (mo q.num.natAbs), .int .u64 (lo ((qden q)) : Int), .string (mo ((qden q)))], .bool true]) (by simp [results, Tryz.results54, go_sem, eM, eO, eP, eQ, eR]) rfl ?_
 exact ⟨rfl, Qy (Ja hB cH) (by omega) _ _ _ _ _⟩
theorem Jq4 (A A' : Option Addr) (n c c' B m : Nat) (a b : List Rat) (w : World) (ha : ReadsR w B A n a) (hb : ReadsR w B A' n b) (hB : B <= w.heap.size) (hn : n <= 1000) (hm : 1 <= m) (cL : m <= 10000000) (sa : ∀ x ∈ a, QS m x) (sb : ∀ x ∈ b, QS m x) :
  Calls Tryz.prog 60 #[.slice A n c, .slice A' n c'] w (Vz (Xt a b) w) := by
 have HLA := lh ha.len
 have HLB := lh hb.len
 have HSZ := lh (Vv sa sb hm)
 have HA := lh ha
 have HBR := lh hb
 have HSA := lh sa
 have HSB := lh sb
 clear ha hb sa sb
 obtain ⟨b0, hB, hZ⟩ := bx1 w 70 #[.bool false, .slice none 0 0, .slice none 0 0]
 go_enter Tryz.func60, Tryz.ntmps60
 go_wp2_with fail
 generalize (w.alloc (.cells #[.bool false, .slice none 0 0, .slice none 0 0] 70)) = W at *
 refine (Jcv 0 W (by omega) (by omega)).mono ?_
 rintro e w1 ⟨v1, rfl, aO, j6⟩
 obtain ⟨g1, A1, l1, c1c, A1', l1', c1c', rfl⟩ := aO.shape
 have b0 := b0.below j6 b0.lt
 have jE := b0.lt
 have b0 := b0.alloc (.cells #[.bool g1, .slice A1 l1 c1c, .slice A1' l1' c1c'] 70)
 have dK := Jb w1 (.cells #[.bool g1, .slice A1 l1 c1c, .slice A1' l1' c1c'] 70)
 have HI : Hid (AccRel w w.heap.size w1.heap.size (Qv a b 0) (w1.alloc (.cells #[.bool g1, .slice A1 l1 c1c, .slice A1' l1' c1c'] 70))) :=
  lh ⟨g1, A1, l1, c1c, A1', l1', c1c', b0, Blk.new _ _ _, (aO.next zd dK).more dK.size, Ja (Ja hB j6) dK⟩
 have fR := Ja hB j6
 have jF : w.heap.size <= w1.heap.size := fR.size
 clear b0 dK aO hB fR j6
 go_wp2_with fail
 generalize w1.alloc (.cells #[.bool g1, .slice A1 l1 c1c, .slice A1' l1' c1c'] 70) = w2 at *
 generalize w1.heap.size = b3 at *
 have aY : w.heap.size ≠ b3 := by omega
 have jG : ¬ w.heap.size = b3 := aY
 have jH : ¬ b3 = w.heap.size := by omega
 go_loopw [6] (fun p wr => ∃ (k : Nat), k <= n /\ p = .int .i64 (k : Int) /\ AccRel w w.heap.size b3 (Qv a b k) wr) (fun p _ => n - (intOf p).toNat)
 case atStart => exact ⟨0, by omega, rfl, HI.out⟩
 case round =>
  obtain ⟨k, hk, rfl, g, Aa, l, c9, Aa', l', c9', h0, h3, hq, j7⟩ := hrel
  rename World => wr
  clear HI
  by_cases bB : k < n
  ·have k1 : (k : Int) < (n : Int) := by omega
   obtain ⟨x, hx⟩ : ∃ x, a[k]? = some x := ⟨_, List.getElem?_eq_getElem (by have := HLA.out; omega)⟩
   obtain ⟨y, hy⟩ : ∃ y, b[k]? = some y := ⟨_, List.getElem?_eq_getElem (by have := HLB.out; omega)⟩
   have fS := nt ‹B <= _› j7.size
   obtain ⟨ad, gx, ox, r, rfl, cM, bO, b1, iq1⟩ := (HA.out.below (j7.mono ‹B <= _›)).at_ hx bB
   obtain ⟨ad', gy, oy, r', rfl, dT, bP, b2, iq2⟩ := (HBR.out.below (j7.mono ‹B <= _›)).at_ hy bB
   have qx := HSA.out x (List.mem_of_getElem? hx)
   have qy := HSB.out y (List.mem_of_getElem? hy)
   have aZ : Qv a b (k + 1) = Qv a b k + (x - y) * (x - y) := by
    show Qv a b k + _ = _
    rw [List.getD_eq_getElem?_getD, hx, List.getD_eq_getElem?_getD, hy]
    rfl
   have aL : QS 68719476736 (Qv a b k) := by
    refine (HSZ.out k).mono ?_
    have := Nat.mul_le_mul (show k <= 1000 by omega) (show 4 * m + 3 <= 40000003 by omega)
    omega
   have qd : QS 20000001 (x - y) := (qx.sub qy).mono (by omega)
   have qp : QS 40000002 ((x - y) * (x - y)) := (qd.mul qd).mono (by omega)
   have aB := fun w' (t8 : Below wr.heap.size wr w') => Jqz x y wr.heap.size _ _ w' ((iq1.more fS).below t8) ((iq2.more fS).below t8) t8.size (qx.mono (by omega)) (qy.mono (by omega))
   generalize hde : x - y = d at *
   obtain ⟨rg, rA, rl, rc, rA', rl', rc'⟩ := r
   obtain ⟨sg, sA, sl, sc, sA', sl', sc'⟩ := r'
   unfold RC.v at aB
   simp only [] at b1 b2 aB
   have HSUB := lh aB
   have HST := lh aZ
   have HQS := lh aL
   have HQD := lh qd
   have HQP := lh qp
   have HBW := lh j7
   have HQ := lh hq
   clear aB aZ qx qy aL qd qp hx hy j7 bO bP iq1 iq2 hq hde
   have jI := h0.lt
   have jJ := h3.lt
   go_upto_region 5 with fail
   go_cut [7] (fun v wc => Jkb wr d v wc)
   case first =>
    obtain ⟨cN, cO, dU⟩ := b1.c3; have c1 := b1.drew; have aQ := c1.lt; obtain ⟨bC, bD, bS⟩ := b2.c3; have c2 := b2.drew; have s9 := c2.lt; have hc := Jf wr; go_region_held3 (fun w' => w'.cell? ⟨gx, ox, none⟩ = some (.bool rg) /\ w'.cell? ⟨gx, ox + 1, none⟩ = some (.slice rA rl rc) /\ w'.cell? ⟨gx, ox + 2, none⟩ = some (.slice rA' rl' rc') /\ w'.cell? ⟨gy, oy, none⟩ = some (.bool sg) /\ w'.cell? ⟨gy, oy + 1, none⟩ = some (.slice sA sl sc) /\ w'.cell? ⟨gy, oy + 2, none⟩ = some (.slice sA' sl' sc')) (go_keep) (first | (go_at_call 94; (first | with_reducible refine (HSUB.out _ hc).mono ?_ | (have cR : wr.heap.size <= wr.heap.size := hc.size; have ca : Blk _ wr.heap.size _ _ := Blk.new wr.drew 70 #[.bool false, .slice none 0 0, .slice none 0 0]; have bT := Jo (show _ < wr.heap.size from aQ) zd; have c1 := c1.alloc (.cells #[.bool false, .slice none 0 0, .slice none 0 0] 70); have bU := Jo (show _ < wr.heap.size from s9) zd; have c2 := c2.alloc (.cells #[.bool false, .slice none 0 0, .slice none 0 0] 70); have hc := Ja hc (Jb _ (.cells #[.bool false, .slice none 0 0, .slice none 0 0] 70)); with_reducible refine (HSUB.out _ hc).mono ?_) | (have cR : wr.heap.size <= wr.heap.size := hc.size; have ca : Blk (wr.alloc (.cells #[.bool false, .slice none 0 0, .slice none 0 0] 70)).drew wr.heap.size _ _ := Blk.new wr.drew 70 #[.bool false, .slice none 0 0, .slice none 0 0]; have bT := Jo (show _ < wr.heap.size from aQ) zd; have c1 : AtR (wr.alloc (.cells #[.bool false, .slice none 0 0, .slice none 0 0] 70)).drew _ _ _ := c1.alloc (.cells #[.bool false, .slice none 0 0, .slice none 0 0] 70); have bU := Jo (show _ < wr.heap.size from s9) zd; have c2 : AtR (wr.alloc (.cells #[.bool false, .slice none 0 0, .slice none 0 0] 70)).drew _ _ _ := c2.alloc (.cells #[.bool false, .slice none 0 0, .slice none 0 0] 70); have hc : Below wr.heap.size wr (wr.alloc (.cells #[.bool false, .slice none 0 0, .slice none 0 0] 70)).drew := Ja hc (Jb _ (.cells #[.bool false, .slice none 0 0, .slice none 0 0] 70)); with_reducible refine (HSUB.out _ hc).mono ?_)); rintro e w1 ⟨v1, rfl, aO, j6⟩; obtain ⟨g1, A1, l1, c1c, A1', l1', c1c', eT⟩ := aO.shape; subst eT; (try have ca := ca.below j6 ca.lt); (try clear aM aN bE); obtain ⟨c1, aM, aN, bE⟩ := c1.zc3 j6; (try clear aQ); have aQ := c1.lt; (try clear j9 o0 o5); obtain ⟨c2, j9, o0, o5⟩ := c2.zc3 j6; (try clear s9); have s9 := c2.lt; have hc := Ja hc j6; (try (have gS := ca.lt; obtain ⟨dV, dW, dX, dY, dZ, eA, eB, eC, eD⟩ := ca.f3))))
    all_goals
     go_wp2
     go_meet
     first | with_reducible exact Jgu hc aO | with_reducible exact Jda hc aO ca cR | with_reducible exact Jfa hc aO
   case rest =>
    obtain ⟨g7, ng, A7, l7, c7, A7', l7', c7', rfl, iA, b7, eU, bA⟩ := hcut
    rename World => W2
    have b0 := h0.below bA jI
    have b3' := h3.below bA jJ
    have ne1 : ¬ b3 = g7 := by omega
    have ne2 : ¬ g7 = b3 := by omega
    have dI := HBW.out.trans (bA.mono HBW.out.size)
    have fT := (HQ.out.next zd bA).more bA.size
    have HM := lh (fun w' (t8 : Below W2.heap.size W2 w') => Jq2 d d W2.heap.size _ _ w' (eU.below t8) (eU.below t8) t8.size (HQD.out.mono (by omega)) (HQD.out.mono (by omega)))
    have HA2 := lh (fun w' V' (t8 : Below W2.heap.size W2 w') (hv : IsQ w' w'.heap.size V' (d * d)) => Jhd (Qv a b k) (d * d) w'.heap.size _ V' w' ((fT.next zd t8).more t8.size) hv zd (HQS.out.mono (by omega)) (HQP.out.mono (by omega)))
    rw [<- HST.out] at HA2
    have HB2 := lh dI
    obtain ⟨s', cG⟩ : ∃ s', Qv a b (k + 1) = s' := ⟨_, rfl⟩
    rw [cG] at HA2
    have HS' := lh cG
    clear cG
    clear h0 h3 b1 b2 HSUB eU fT dI
    go_upto_region 6 with fail
    obtain ⟨b3'q0, b3'q1, b3'q2⟩ := b3'.c3; have c3' := b3'.drew; have bH := c3'.lt; obtain ⟨eE, eF, eG⟩ := b7.c3; have c7 := b7.drew; have bF := c7.lt; have c0 := b0.drew; have bG := c0.lt; have hc := Jf W2; go_region_with (first | (go_at_call 96; (with_reducible refine (HM.out _ hc).mono ?_); rintro e w1 ⟨v1, rfl, aO, j6⟩; obtain ⟨g1, A1, l1, c1c, A1', l1', c1c', eT⟩ := aO.shape; subst eT; have c3' := c3'.below j6 c3'.lt; (try clear aT aU aV); obtain ⟨aT, aU, aV⟩ := c3'.c3; (try clear bH); have bH := c3'.lt; (try clear aC aD aE); obtain ⟨c7, aC, aD, aE⟩ := c7.zc3 j6; (try clear bF); have bF := c7.lt; have c0 := c0.below j6 c0.lt; (try clear bG); have bG := c0.lt; have hc := Ja hc j6) | (go_at_call 95; (with_reducible refine (HA2.out _ _ hc aO).mono ?_); rintro e w2 ⟨v2, rfl, fU, t7⟩; obtain ⟨g2, A2, l2, c2c, A2', l2', c2c', jK⟩ := fU.shape; subst jK; have c3' := c3'.below t7 c3'.lt; (try clear aT aU aV); obtain ⟨aT, aU, aV⟩ := c3'.c3; (try clear bH); have bH := c3'.lt; (try clear aC aD aE); obtain ⟨c7, aC, aD, aE⟩ := c7.zc3 t7; (try clear bF); have bF := c7.lt; have c0 := c0.below t7 c0.lt; (try clear bG); have bG := c0.lt; have aO := (aO.next zd t7).more t7.size; have hc := Ja hc t7; obtain ⟨_, _, _, f0, f1, f2, z0, z1, z2⟩ := c3'.f3))
    all_goals
     go_wp2
     exact ⟨⟨k + 1, by omega, by go_num, by rw [HS'.out]; exact AccRel.store c0 c3' fU (Ja HB2.out hc) aY jF⟩, by simp [intOf]; omega⟩
  obtain rfl : k = n := by omega
  have k1 : ¬ (k : Int) < (k : Int) := by omega
  have fV : Qv a b k = Xt a b := by unfold Xt; rw [HLA.out]
  rw [fV] at hq
  have HF := lh (Qj (Below.refl _ _) j7 hq h0 zd)
  obtain ⟨jL, jM, jN⟩ := h3.c3
  obtain ⟨jO, jP, jQ, jR, jS, jT, eV, eX, eY⟩ := h0.f3
  clear hq j7 fV
  go_wp2
  refine bodyPost_ret (v := .agg #[.bool g, .slice Aa l c9, .slice Aa' l' c9']) (by simp [results, Tryz.results60, go_sem, eV, eX, eY]) rfl ?_
  exact HF.out
theorem Jm0 (q : Rat) : q.num.sign = 0 ↔ q = 0 := by
 rw [Int.sign_eq_zero_iff_zero]
 exact Rat.num_eq_zero
theorem Jim (q : Rat) : q.num.sign < 0 ↔ q < 0 := by
 rw [Int.sign_neg_iff]
 have h : 0 <= q.num ↔ 0 <= q := Rat.num_nonneg
 constructor
 ·intro h1
  exact Rat.not_le.1 fun h2 => absurd (h.2 h2) (by omega)
 intro h1
 by_cases h2 : q.num < 0
 ·exact h2
 exact absurd (h.1 (by omega)) (Rat.not_le.2 h1)
theorem Jlu {B k : Nat} {w w' : World} {ad : Addr} {v : Value} (hb : Below B w w') (h : w.cell? (ad.add k) = some v) (aW : ad.block < B) : w'.cell? (ad.add k) = some v := by
 rw [hb.cell (p := ad.add k) (by rw [Jw]; exact aW)]
 exact h
theorem Je9 {f : List (List Rat)} (h : f.length < 1 \/ 64 < f.length) : Xi f = 5 := if_pos h
theorem Jh4 {f : List (List Rat)} {k : Nat} {l : List Rat} (hl : f[k]? = some l) (aY : l.length ≠ f.length) : Xi f = 5 := by
 unfold Xi
 split
 ·rfl
 rw [if_pos (List.any_eq_true.2 ⟨l, List.mem_of_getElem? hl, decide_eq_true aY⟩)]
theorem Vx {f : List (List Rat)} (h : ¬ (f.length < 1 \/ 64 < f.length)) (hr : ∀ (k : Nat) (l : List Rat), f[k]? = some l -> l.length = f.length) {i k : Nat} (hi : i < f.length) (hk : k < f.length) (hb : Jac f i k = true) : Xi f = 1 := by
 unfold Xi
 rw [if_neg h, if_neg, if_pos (Jgx hi hk hb)]
 rw [Bool.not_eq_true, List.any_eq_false]
 intro l hl
 obtain ⟨j, hj, e⟩ := List.mem_iff_getElem.1 hl
 simp [hr j l (by rw [List.getElem?_eq_getElem hj, e])]
theorem Jdn {f : List (List Rat)} (h : ¬ (f.length < 1 \/ 64 < f.length)) (hr : ∀ (k : Nat) (l : List Rat), f[k]? = some l -> l.length = f.length) (hb : ∀ i, i < f.length -> ∀ k, k < f.length -> Jac f i k = false) : Xi f = 0 := by
 unfold Xi
 rw [if_neg h, if_neg, Jlw hb, if_neg (by simp)]
 rw [Bool.not_eq_true, List.any_eq_false]
 intro l hl
 obtain ⟨j, hj, e⟩ := List.mem_iff_getElem.1 hl
 simp [hr j l (by rw [List.getElem?_eq_getElem hj, e])]
theorem Jmn {f : List (List Rat)} {i k : Nat} {l : List Rat} {x : Rat} (hl : f[i]? = some l) (hx : l[k]? = some x) : (f.getD i []).getD k 0 = x := by
 rw [List.getD_eq_getElem?_getD, List.getD_eq_getElem?_getD, hl]
 show (l[k]?).getD 0 = x
 rw [hx]
 rfl
theorem Jfj {f : List (List Rat)} {i k : Nat} {l l' : List Rat} {x y : Rat} (hl : f[i]? = some l) (hx : l[k]? = some x) (dL : f[k]? = some l') (hy : l'[i]? = some y) : Jac f i k = (decide (x < 0) || (decide (i = k) && decide (x ≠ 0)) || decide (x ≠ y)) := by
 unfold Jac
 rw [Jmn hl hx, Jmn dL hy]
theorem Jn8 (x y : Rat) : Yw x y = 0 ↔ x = y := by
 unfold Yw
 by_cases h : x < y
 ·rw [if_pos h]
  exact ⟨fun e => absurd e (by omega), fun e => by subst e; grind⟩
 rw [if_neg h]
 by_cases h2 : y < x
 ·rw [if_pos h2]
  exact ⟨fun e => absurd e (by omega), fun e => by subst e; grind⟩
 rw [if_neg h2]
 exact ⟨fun _ => by grind, fun _ => rfl⟩
def Jh7 (f : List (List Rat)) (i k : Nat) : Prop := (∀ a, a < i -> ∀ b, b < f.length -> Jac f a b = false) /\ ∀ b, b < k -> Jac f i b = false
theorem Jkw (A : Option Addr) (n c B : Nat) (f : List (List Rat)) (w : World) (h : Jd0 w B A n f) (hB : B <= w.heap.size) (hn : n <= 1000) (hs : ∀ l ∈ f, ∀ x ∈ l, QS 549755813888 x) :
  Calls Tryz.prog 19 #[.slice A n c] w (Ret (.int .i64 (Xi f : Int)) w) := by
 have cC := h.len
 have H := lh h
 have HS := lh hs
 clear h hs
 go_enter Tryz.func19, Tryz.ntmps19
 by_cases h1 : n < 1
 ·have k1 : (n : Int) < 1 := by omega
  rw [Je9 (.inl (by omega))]
  go_wp2
  go_ret
  exact ⟨rfl, Below.refl _ _⟩
 by_cases jU : 64 < n
 ·have k1 : ¬ (n : Int) < 1 := by omega
  have k2 : (64 : Int) < (n : Int) := by omega
  rw [Je9 (.inr (by omega))]
  go_wp2
  go_ret
  exact ⟨rfl, Below.refl _ _⟩
 have k1 : ¬ (n : Int) < 1 := by omega
 have k2 : ¬ (64 : Int) < (n : Int) := by omega
 have bI : ¬ (f.length < 1 \/ 64 < f.length) := by omega
 go_wp2_with fail
 go_loopw [19] (fun i wr => ∃ k : Nat, k <= n /\ i = .int .i64 (k : Int) /\ wr = w /\ Hid (∀ (j : Nat) (l : List Rat), j < k -> f[j]? = some l -> l.length = f.length)) (fun i _ => n - (intOf i).toNat)
 case atStart => exact ⟨0, by omega, rfl, rfl, lh (fun j l hj => absurd hj (by omega))⟩
 case round =>
  obtain ⟨k, hk, rfl, rfl, y8⟩ := hrel
  rename World => w
  by_cases bB : k < n
  ·have k3 : (k : Int) < (n : Int) := by omega
   obtain ⟨l, hl⟩ : ∃ l, f[k]? = some l := ⟨_, List.getElem?_eq_getElem (by omega)⟩
   obtain ⟨ad, A1, m1, c1, rfl, aW, cU, bJ⟩ := H.out.at_ hl
   obtain rfl : l.length = m1 := bJ.len
   obtain ⟨m1, fW⟩ : ∃ m1, l.length = m1 := ⟨_, rfl⟩
   rw [fW] at cU
   by_cases aY : m1 = n
   ·subst aY
    have cV : Hid (∀ (j : Nat) (l : List Rat), j < k + 1 -> f[j]? = some l -> l.length = f.length) := lh fun j l' hj dL => by
     by_cases jW : j = k
     ·subst jW
      obtain rfl := Option.some.inj (hl.symm.trans dL)
      omega
     exact y8.out j l' (by omega) dL
    clear y8 bJ hl fW aW
    go_wp2
    exact ⟨⟨k + 1, by omega, by go_num, by first | rfl | trivial, cV⟩, by simp [intOf]; omega⟩
   have q1 : ¬ (m1 : Int) = (n : Int) := by omega
   have q2 : ((m1 : Int) == (n : Int)) = false := by simp; omega
   have q3 : ((m1 : Int) != (n : Int)) = true := by simp; omega
   have HE := lh (Jh4 hl (by omega))
   clear y8 bJ hl aW
   go_wp2
   go_ret
   exact ⟨by rw [HE.out]; rfl, Below.refl _ _⟩
  obtain rfl : k = n := by omega
  have k3 : ¬ (k : Int) < (k : Int) := by omega
  have HR : Hid (∀ (j : Nat) (l : List Rat), f[j]? = some l -> l.length = f.length) := lh fun j l hl => y8.out j l (by have := (List.getElem?_eq_some_iff.1 hl).1; omega) hl
  clear y8
  go_wp2_with fail
  go_loopw [31] (fun i wr => ∃ a : Nat, a <= k /\ i = .int .i64 (a : Int) /\ Hid (Jh7 f a 0) /\ Below w.heap.size w wr) (fun i _ => k - (intOf i).toNat)
  case atStart => exact ⟨0, by omega, rfl, lh ⟨fun a ha => absurd ha (by omega), fun b hb => absurd hb (by omega)⟩, Below.refl _ _⟩
  case round =>
   obtain ⟨a, ha, rfl, aK, j7⟩ := hrel
   rename World => wr
   by_cases kP : a < k
   ·have k4 : (a : Int) < (k : Int) := by omega
    obtain ⟨l, hl⟩ : ∃ l, f[a]? = some l := ⟨_, List.getElem?_eq_getElem (by omega)⟩
    obtain ⟨ad, A1, m1, c1, rfl, aW, cD, bK⟩ := H.out.at_ hl
    have cU := Jlu (j7.mono hB) cD aW
    obtain rfl : l.length = m1 := bK.len
    have dM : l.length = k := by rw [HR.out a l hl, cC]
    rw [dM] at bK cD cU
    have bJ := bK.below (j7.mono hB)
    obtain ⟨x, hx⟩ : ∃ x, l[a]? = some x := ⟨_, List.getElem?_eq_getElem (by omega)⟩
    obtain ⟨ad', g1, o1, rfl, cM, bO, b1⟩ := ReadsQ.at_ bJ hx
    have qx := HS.out l (List.mem_of_getElem? hl) x (List.mem_of_getElem? hx)
    have cE := fun w => Ye x w (qx.mono (by omega))
    have aL := Jm0 x
    have cI := Jfj hl hx hl hx
    have HL := lh hl
    have HX := lh hx
    have HBW := lh j7
    have HR0 := lh bK
    obtain ⟨x0, x1, x2, x3, x4⟩ := b1.c5
    generalize x.num.sign = sg at *
    unfold qV at cE
    have HSG := lh cE
    clear cE qx hl hx j7 bJ bO b1 dM cD bK
    go_wp2_with fail
    refine (HSG.out wr).mono ?_
    rintro e w1 ⟨rfl, j6⟩
    by_cases hz : sg = 0
    ·subst hz
     have HZ : Hid (∀ y, l[a]? = some y -> y = 0) := lh fun y hy => by
      obtain rfl := Option.some.inj (HX.out.symm.trans hy)
      exact aL.1 rfl
     clear aL cI
     have HB1 := lh (HBW.out.trans (j6.mono HBW.out.size))
     clear cU x0 x1 x2 x3 x4 cM HSG HBW j6 aW
     go_wp2_with fail
     go_loopw [44] (fun i wr => ∃ b : Nat, b <= k /\ i = .int .i64 (b : Int) /\ Hid (Jh7 f a b) /\ Below w.heap.size w wr) (fun i _ => k - (intOf i).toNat)
     case atStart => exact ⟨0, by omega, rfl, aK, HB1.out⟩
     case round =>
      obtain ⟨b, hb, rfl, bN, j7⟩ := hrel
      rename World => w2
      clear aK HB1 HX
      by_cases kQ : b < k
      ·have k5 : (b : Int) < (k : Int) := by omega
       obtain ⟨l2, cZ⟩ : ∃ l, f[b]? = some l := ⟨_, List.getElem?_eq_getElem (by omega)⟩
       have dM := HR.out _ _ HL.out
       have eZ := HR.out _ _ cZ
       obtain ⟨ad2, A2, m2, cp2, jX, aW, dA, dN⟩ := (H.out.below Jou (j7.mono hB)).at_ cZ
       obtain rfl := Option.some.inj jX
       obtain rfl : l2.length = m2 := dN.len
       obtain ⟨x, hx⟩ : ∃ x, l[b]? = some x := ⟨_, List.getElem?_eq_getElem (by omega)⟩
       obtain ⟨y, hy⟩ : ∃ y, l2[a]? = some y := ⟨_, List.getElem?_eq_getElem (by omega)⟩
       rw [show l2.length = k by omega] at dN dA
       obtain ⟨ad1, g1, o1, jY, cM, bO, b1⟩ := ReadsQ.at_ (HR0.out.below (j7.mono hB)) hx
       obtain rfl := Option.some.inj jY
       obtain ⟨ad3, g2, o2, rfl, dT, bP, b2⟩ := ReadsQ.at_ dN hy
       obtain ⟨g3, o3, fX, jZ⟩ := Kd dA
       rw [fX] at dA
       have b3 := At1.mk' dA
       have qx := HS.out l (List.mem_of_getElem? HL.out) x (List.mem_of_getElem? hx)
       have qy := HS.out l2 (List.mem_of_getElem? cZ) y (List.mem_of_getElem? hy)
       have cI := Jfj HL.out hx cZ hy
       have fY : a = b -> x = 0 := fun e => by
        subst e
        exact HZ.out x hx
       have fZ := Jim x
       have gA : x.num.sign < 0 -> x.num.sign = -1 := fun h => Int.sign_eq_neg_one_of_neg (Int.sign_neg_iff.1 h)
       have gB : Yw x y = 0 ↔ x = y := Jn8 x y
       have cE := fun w => Ye x w (qx.mono (by omega))
       have fA := fun w => Vf x y w qx qy
       generalize x.num.sign = sg at *
       generalize Yw x y = cv at *
       unfold qV at cE fA
       have HSG := lh cE
       have HCM := lh fA
       have HBW := lh j7
       have HBD := lh cI
       have HSN := lh fZ
       have HS3 := lh gA
       have HCZ := lh gB
       have HDZ := lh fY
       obtain ⟨y0, y1, y2, y3, y4⟩ := b1.c5
       clear cE fA j7 cI gA fZ gB fY qx qy bO bP jZ hx hy cZ dM eZ dA aW dN
       go_upto_region 17 with fail
       have b8 := Blk.new w2 56 #[.bool (decide (x.num < 0)), .int .u64 (lo x.num.natAbs : Int), .string (mo x.num.natAbs), .int .u64 (lo ((qden x)) : Int), .string (mo ((qden x)))]
       have b2 := b2.alloc (.cells #[.bool (decide (x.num < 0)), .int .u64 (lo x.num.natAbs : Int), .string (mo x.num.natAbs), .int .u64 (lo ((qden x)) : Int), .string (mo ((qden x)))] 56)
       have b3 := b3.alloc (.cells #[.bool (decide (x.num < 0)), .int .u64 (lo x.num.natAbs : Int), .string (mo x.num.natAbs), .int .u64 (lo ((qden x)) : Int), .string (mo ((qden x)))] 56)
       have HBW := lh (HBW.out.alloc HBW.out.size (.cells #[.bool (decide (x.num < 0)), .int .u64 (lo x.num.natAbs : Int), .string (mo x.num.natAbs), .int .u64 (lo ((qden x)) : Int), .string (mo ((qden x)))] 56))
       clear y0 y1 y2 y3 y4 b1
       generalize w2.alloc (.cells #[.bool (decide (x.num < 0)), .int .u64 (lo x.num.natAbs : Int), .string (mo x.num.natAbs), .int .u64 (lo ((qden x)) : Int), .string (mo ((qden x)))] 56) = W at *
       generalize w2.heap.size = b8a at *
       by_cases aP : sg < 0
       ·have q1 : decide (sg < 0) = true := decide_eq_true aP
        have HE := lh (Vx bI HR.out (i := a) (k := b) (by omega) (by omega) (by rw [HBD.out]; simp [HSN.out.1 aP]))
        obtain rfl := HS3.out aP
        clear b2 b3 HCM HBD HSN HCZ HDZ cM dT fX aP q1 HS3
        obtain ⟨z0, z1, z2, z3, z4⟩ := b8.c5
        refine wp_region_any (by kernel_rfl) ?_; (try (change wpAny _ _ _ _ _ _ _ (World.drew _))); refine wpAny_ready (rs := [0]) (by kernel_rfl) (by simp) ?_; refine AllReady.cons rfl (fun K hK => ?_) AllReady.nil; go_simp; refine hK _ _ ?_; clear hK K; refine wpAny_ready (rs := [1]) (by kernel_rfl) (by simp) ?_; refine AllReady.cons rfl (fun K hK => ?_) AllReady.nil; go_simp; go_wp2_with (go_at_call 49; (with_reducible refine (HSG.out _).mono ?_); rintro e w1 ⟨rfl, j6⟩); refine wpAny_take (i := 2) (v := ?_) rfl (by kernel_rfl) (by kernel_rfl) (by kernel_rfl) (fun _ _ _ h => h) (Or.inl ⟨by rfl, ?_⟩) ?_; rotate_left; (focus (intro w; go_simp; try with_reducible rfl)); go_simp; refine wpAny_take (i := 3) (v := ?_) rfl (by kernel_rfl) (by kernel_rfl) (by kernel_rfl) (fun _ _ _ h => h) (Or.inl ⟨by rfl, ?_⟩) ?_; rotate_left; (focus (intro w; go_simp; try with_reducible rfl)); go_simp; refine wpAny_take (i := 4) (v := undef) rfl (by kernel_rfl) (by kernel_rfl) (by kernel_rfl) (fun _ _ _ h => h) (Or.inr ⟨by rfl, rfl⟩) ?_; go_simp; refine wpAny_take (i := 5) (v := undef) rfl (by kernel_rfl) (by kernel_rfl) (by kernel_rfl) (fun _ _ _ h => h) (Or.inr ⟨by rfl, rfl⟩) ?_; go_simp; refine wpAny_take (i := 6) (v := undef) rfl (by kernel_rfl) (by kernel_rfl) (by kernel_rfl) (fun _ _ _ h => h) (Or.inr ⟨by rfl, rfl⟩) ?_; go_simp; refine wpAny_take (i := 7) (v := undef) rfl (by kernel_rfl) (by kernel_rfl) (by kernel_rfl) (fun _ _ _ h => h) (Or.inr ⟨by rfl, rfl⟩) ?_; go_simp; refine wpAny_take (i := 8) (v := undef) rfl (by kernel_rfl) (by kernel_rfl) (by kernel_rfl) (fun _ _ _ h => h) (Or.inr ⟨by rfl, rfl⟩) ?_; go_simp; refine wpAny_take (i := 9) (v := undef) rfl (by kernel_rfl) (by kernel_rfl) (by kernel_rfl) (fun _ _ _ h => h) (Or.inr ⟨by rfl, rfl⟩) ?_; go_simp; refine wpAny_take (i := 10) (v := undef) rfl (by kernel_rfl) (by kernel_rfl) (by kernel_rfl) (fun _ _ _ h => h) (Or.inr ⟨by rfl, rfl⟩) ?_; go_simp; refine wpAny_take (i := 11) (v := undef) rfl (by kernel_rfl) (by kernel_rfl) (by kernel_rfl) (fun _ _ _ h => h) (Or.inr ⟨by rfl, rfl⟩) ?_; go_simp; refine wpAny_take (i := 12) (v := undef) rfl (by kernel_rfl) (by kernel_rfl) (by kernel_rfl) (fun _ _ _ h => h) (Or.inr ⟨by rfl, rfl⟩) ?_; go_simp; refine wpAny_take (i := 13) (v := undef) rfl (by kernel_rfl) (by kernel_rfl) (by kernel_rfl) (fun _ _ _ h => h) (Or.inr ⟨by rfl, rfl⟩) ?_; go_simp; refine wpAny_take (i := 14) (v := ?_) rfl (by kernel_rfl) (by kernel_rfl) (by kernel_rfl) (fun _ _ _ h => h) (Or.inl ⟨by rfl, ?_⟩) ?_; rotate_left; (focus (intro w; go_simp; try with_reducible rfl)); go_simp; refine wpAny_done (by kernel_rfl) ?_ _
        go_wp2
        go_ret
        exact ⟨by rw [HE.out]; rfl, HBW.out.trans ((Ja (Jf W) j6).mono HBW.out.size)⟩
       have q1 : decide (sg < 0) = false := decide_eq_false aP
       by_cases dO : cv = 0
       ·subst dO
        have fB : Hid (Jh7 f a (b + 1)) := lh ⟨bN.out.1, fun j hj => by
         by_cases kA : j = b
         ·subst kA
          rw [HBD.out]
          have e1 : ¬ x < 0 := fun e => aP (HSN.out.2 e)
          have e2 := HCZ.out.1 rfl
          have e3 : (decide (a = j) && decide (x ≠ 0)) = false := by
           by_cases h : a = j
           ·simp [HDZ.out h]
           simp [h]
          rw [e3, <- e2]
          simp [e1]
         exact bN.out.2 j (by omega)⟩
        have q2 : ((0 : Int) != 0) = false := rfl
        obtain ⟨fC, fD, fE, fF, fG⟩ := b8.c5; have c8 := b8.drew; have bL := c8.lt; obtain ⟨dB, dC⟩ := b3.c2; have c3 := b3.drew; have aR := c3.lt; obtain ⟨bC, bD, bS, cP, cQ⟩ := b2.c5; have c2 := b2.drew; have s9 := c2.lt; have hc := Jf W; go_region_held3 (fun w' => w'.cell? ⟨b8a, 0, none⟩ = some (.bool (decide (x.num < 0))) /\ w'.cell? ⟨b8a, 1, none⟩ = some (.int .u64 (lo x.num.natAbs : Int)) /\ w'.cell? ⟨b8a, 2, none⟩ = some (.string (mo x.num.natAbs)) /\ w'.cell? ⟨b8a, 3, none⟩ = some (.int .u64 (lo ((qden x)) : Int)) /\ w'.cell? ⟨b8a, 4, none⟩ = some (.string (mo ((qden x)))) /\ w'.cell? ⟨g3, o3, none⟩ = some (.slice (some ad3) k cp2) /\ w'.cell? ⟨g2, o2, none⟩ = some (.bool (decide (y.num < 0))) /\ w'.cell? ⟨g2, o2 + 1, none⟩ = some (.int .u64 (lo y.num.natAbs : Int)) /\ w'.cell? ⟨g2, o2 + 2, none⟩ = some (.string (mo y.num.natAbs)) /\ w'.cell? ⟨g2, o2 + 3, none⟩ = some (.int .u64 (lo ((qden y)) : Int)) /\ w'.cell? ⟨g2, o2 + 4, none⟩ = some (.string (mo ((qden y))))) (go_keep) (first | (go_at_call 49; (with_reducible refine (HSG.out _).mono ?_); rintro e w1 ⟨rfl, j6⟩; (try clear aF aG aH aI aJ); obtain ⟨c8, aF, aG, aH, aI, aJ⟩ := c8.zc5 j6; (try clear bL); have bL := c8.lt; (try clear y9 aA); obtain ⟨c3, y9, aA⟩ := c3.zc2 j6; (try clear aR); have aR := c3.lt; (try clear j9 o0 o5 x8 x9); obtain ⟨c2, j9, o0, o5, x8, x9⟩ := c2.zc5 j6; (try clear s9); have s9 := c2.lt; have hc := Ja hc j6) | (go_at_call 29; (with_reducible refine (HCM.out _).mono ?_); rintro e w2 ⟨rfl, t7⟩; (try clear aF aG aH aI aJ); obtain ⟨c8, aF, aG, aH, aI, aJ⟩ := c8.zc5 t7; (try clear bL); have bL := c8.lt; (try clear y9 aA); obtain ⟨c3, y9, aA⟩ := c3.zc2 t7; (try clear aR); have aR := c3.lt; (try clear j9 o0 o5 x8 x9); obtain ⟨c2, j9, o0, o5, x8, x9⟩ := c2.zc5 t7; (try clear s9); have s9 := c2.lt; have hc := Ja hc t7))
        all_goals
         go_wp2
         exact ⟨⟨b + 1, by omega, by go_num, fB, HBW.out.trans (hc.mono HBW.out.size)⟩, by simp [intOf]; omega⟩
       have q2 : (cv == 0) = false := by simp [dO]
       have q3 : (cv != 0) = true := by simp [dO]
       have HE := lh (Vx bI HR.out (i := a) (k := b) (by omega) (by omega) (by rw [HBD.out]; have : x ≠ y := fun e => dO (HCZ.out.2 e); simp [this]))
       obtain ⟨fC, fD, fE, fF, fG⟩ := b8.c5; have c8 := b8.drew; have bL := c8.lt; obtain ⟨dB, dC⟩ := b3.c2; have c3 := b3.drew; have aR := c3.lt; obtain ⟨bC, bD, bS, cP, cQ⟩ := b2.c5; have c2 := b2.drew; have s9 := c2.lt; have hc := Jf W; go_region_held3 (fun w' => w'.cell? ⟨b8a, 0, none⟩ = some (.bool (decide (x.num < 0))) /\ w'.cell? ⟨b8a, 1, none⟩ = some (.int .u64 (lo x.num.natAbs : Int)) /\ w'.cell? ⟨b8a, 2, none⟩ = some (.string (mo x.num.natAbs)) /\ w'.cell? ⟨b8a, 3, none⟩ = some (.int .u64 (lo ((qden x)) : Int)) /\ w'.cell? ⟨b8a, 4, none⟩ = some (.string (mo ((qden x)))) /\ w'.cell? ⟨g3, o3, none⟩ = some (.slice (some ad3) k cp2) /\ w'.cell? ⟨g2, o2, none⟩ = some (.bool (decide (y.num < 0))) /\ w'.cell? ⟨g2, o2 + 1, none⟩ = some (.int .u64 (lo y.num.natAbs : Int)) /\ w'.cell? ⟨g2, o2 + 2, none⟩ = some (.string (mo y.num.natAbs)) /\ w'.cell? ⟨g2, o2 + 3, none⟩ = some (.int .u64 (lo ((qden y)) : Int)) /\ w'.cell? ⟨g2, o2 + 4, none⟩ = some (.string (mo ((qden y))))) (go_keep) (first | (go_at_call 49; (with_reducible refine (HSG.out _).mono ?_); rintro e w1 ⟨rfl, j6⟩; (try clear aF aG aH aI aJ); obtain ⟨c8, aF, aG, aH, aI, aJ⟩ := c8.zc5 j6; (try clear bL); have bL := c8.lt; (try clear y9 aA); obtain ⟨c3, y9, aA⟩ := c3.zc2 j6; (try clear aR); have aR := c3.lt; (try clear j9 o0 o5 x8 x9); obtain ⟨c2, j9, o0, o5, x8, x9⟩ := c2.zc5 j6; (try clear s9); have s9 := c2.lt; have hc := Ja hc j6) | (go_at_call 29; (with_reducible refine (HCM.out _).mono ?_); rintro e w2 ⟨rfl, t7⟩; (try clear aF aG aH aI aJ); obtain ⟨c8, aF, aG, aH, aI, aJ⟩ := c8.zc5 t7; (try clear bL); have bL := c8.lt; (try clear y9 aA); obtain ⟨c3, y9, aA⟩ := c3.zc2 t7; (try clear aR); have aR := c3.lt; (try clear j9 o0 o5 x8 x9); obtain ⟨c2, j9, o0, o5, x8, x9⟩ := c2.zc5 t7; (try clear s9); have s9 := c2.lt; have hc := Ja hc t7))
       all_goals
        go_wp2
        go_ret
        exact ⟨by rw [HE.out]; rfl, HBW.out.trans (hc.mono HBW.out.size)⟩
      obtain rfl : b = k := by omega
      have k5 : ¬ (b : Int) < (b : Int) := by omega
      have bP : Hid (Jh7 f (a + 1) 0) := lh ⟨fun i hi j hj => by
       by_cases kB : i = a
       ·subst kB; exact bN.out.2 j (by omega)
       exact bN.out.1 i (by omega) j hj, fun j hj => absurd hj (by omega)⟩
      have HB2 := lh j7
      clear bN j7
      go_wp2
      exact ⟨⟨a + 1, by omega, by go_num, bP, HB2.out⟩, by simp [intOf]; omega⟩
    have q1 : (sg == 0) = false := by simp [hz]
    have q2 : (sg != 0) = true := by simp [hz]
    have kC : x ≠ 0 := fun e => hz (aL.2 e)
    have HE := lh (Vx bI HR.out (i := a) (k := a) (by omega) (by omega) (by rw [cI]; simp [kC]))
    have HB2 := lh (HBW.out.trans (j6.mono HBW.out.size))
    clear cI aL
    go_wp2
    go_ret
    exact ⟨by rw [HE.out]; rfl, HB2.out⟩
   obtain rfl : a = k := by omega
   have k4 : ¬ (a : Int) < (a : Int) := by omega
   have HE := lh (Jdn bI HR.out (fun i hi k hk => aK.out.1 i (by omega) k hk))
   have HBW := lh j7
   clear j7 aK
   go_wp2
   go_ret
   exact ⟨by rw [HE.out]; rfl, HBW.out⟩
def Jk1 (x : List (List Rat)) : Bool := decide (1 <= x.length) && decide (x.length <= 300) && decide (1 <= (x.getD 0 []).length) && decide ((x.getD 0 []).length <= 20) && x.all fun l => decide (l.length = (x.getD 0 []).length)
def Ku (n m : Nat) (E : Nat -> Nat -> Rat) : List (List Rat) := (List.range n).map fun a => if a < m then (List.range n).map (E a) else []
theorem Jmc {n m a : Nat} {E : Nat -> Nat -> Rat} (ha : a < n) : (Ku n m E)[a]? = some (if a < m then (List.range n).map (E a) else []) := by
 unfold Ku
 rw [List.getElem?_map, List.getElem?_range ha]
 rfl
theorem Jes {n m a : Nat} {E : Nat -> Nat -> Rat} (ha : a < n) (hm : a < m) : (Ku n m E)[a]? = some ((List.range n).map (E a)) := by rw [Jmc ha, if_pos hm]
theorem Jng {n m a : Nat} {E : Nat -> Nat -> Rat} (ha : a < n) (hm : m <= a) : (Ku n m E)[a]? = some [] := by rw [Jmc ha, if_neg (by omega)]
theorem Jnf (n : Nat) (E : Nat -> Nat -> Rat) : Ku n 0 E = List.replicate n [] := by
 refine List.ext_getElem (by simp [Ku]) fun a h1 h2 => ?_
 simp [Ku]
theorem Jpg {n m a : Nat} {E : Nat -> Nat -> Rat} {g : Nat -> Rat} (hm : a < m) : (Ku n m E).set a ((List.range n).map g) = Ku n m (fun i j => if i = a then g j else E i j) := by
 refine List.ext_getElem (by simp [Ku]) fun i h1 h2 => ?_
 rw [List.getElem_set]
 simp only [Ku, List.getElem_map, List.getElem_range]
 by_cases h : a = i
 ·subst h
  rw [if_pos rfl, if_pos hm]
  simp
 rw [if_neg h]
 split
 ·refine List.map_congr_left fun j _ => ?_
  rw [if_neg (fun e => h e.symm)]
 rfl
theorem Jph {n m : Nat} {E : Nat -> Nat -> Rat} {g : Nat -> Rat} : (Ku n m E).set m ((List.range n).map g) = Ku n (m + 1) (fun i j => if i = m then g j else E i j) := by
 refine List.ext_getElem (by simp [Ku]) fun i h1 h2 => ?_
 rw [List.getElem_set]
 simp only [Ku, List.getElem_map, List.getElem_range]
 by_cases h : m = i
 ·subst h
  rw [if_pos rfl, if_pos (by omega)]
  simp
 rw [if_neg h]
 by_cases h3 : i < m
 ·rw [if_pos h3, if_pos (by omega)]
  refine List.map_congr_left fun j _ => ?_
  rw [if_neg (fun e => h e.symm)]
 rw [if_neg h3, if_neg (by omega)]
theorem Jot {n b : Nat} {g : Nat -> Rat} {v : Rat} : ((List.range n).map g).set b v = (List.range n).map (fun j => if j = b then v else g j) := by
 refine List.ext_getElem (by simp) fun i h1 h2 => ?_
 rw [List.getElem_set]
 simp only [List.getElem_map, List.getElem_range]
 by_cases h : b = i
 ·subst h; simp
 rw [if_neg h, if_neg (fun e => h e.symm)]
theorem Jer {n m a b : Nat} {E : Nat -> Nat -> Rat} {v : Rat} (hm : a < m) : (Ku n m E).set a (((List.range n).map (E a)).set b v) = Ku n m (fun i j => if i = a then (if j = b then v else E a j) else E i j) := by
 rw [Jot, Jpg hm]
theorem Jnh {n : Nat} {E E' : Nat -> Nat -> Rat} (h : ∀ a b, a < n -> b < n -> E a b = E' a b) : Ku n n E = (List.range n).map fun a => (List.range n).map (E' a) := by
 unfold Ku
 refine List.map_congr_left fun a ha => ?_
 have ha := List.mem_range.1 ha
 rw [if_pos ha]
 exact List.map_congr_left fun b hb => h a b ha (List.mem_range.1 hb)
theorem Jju (x : List (List Rat)) : Xr x = (List.range x.length).map fun a => (List.range x.length).map fun b => Xt (x.getD a []) (x.getD b []) := by
 refine List.ext_getElem (by simp [Xr]) fun i h1 h2 => ?_
 have hi : i < x.length := by simpa [Xr] using h1
 simp only [Xr, List.getElem_map, List.getElem_range]
 refine List.ext_getElem (by simp) fun j h3 h4 => ?_
 have hj : j < x.length := by simpa using h3
 simp [hi, hj]
structure FarTo (x : List (List Rat)) (i j : Nat) (E : Nat -> Nat -> Rat) : Prop where
 old : ∀ a b, a < i -> b < i -> E a b = Xt (x.getD a []) (x.getD b [])
 row : ∀ b, b < j -> E i b = Xt (x.getD i []) (x.getD b [])
 col : ∀ b, b < j -> E b i = Xt (x.getD i []) (x.getD b [])
 diag : E i i = 0
theorem FarTo.next {x : List (List Rat)} {i : Nat} {E : Nat -> Nat -> Rat} (h : FarTo x i i E) (hl : ∀ a b, a <= i -> b <= i -> (x.getD a []).length = (x.getD b []).length) : ∀ a b, a < i + 1 -> b < i + 1 -> E a b = Xt (x.getD a []) (x.getD b []) := by
 intro a b ha hb
 by_cases h1 : a = i
 ·subst h1
  by_cases h2 : b = a
  ·subst h2; rw [h.diag, Jgl]
  exact h.row b (by omega)
 by_cases h2 : b = i
 ·subst h2
  rw [h.col a (by omega), Jgm (hl b a (by omega) (by omega))]
 exact h.old a b (by omega) (by omega)
theorem FarTo.store {x : List (List Rat)} {i j : Nat} {E : Nat -> Nat -> Rat} {q : Rat} (h : FarTo x i j E) (hj : j < i) (hq : q = Xt (x.getD i []) (x.getD j [])) :
  FarTo x i (j + 1) (fun a b => if a = j then (if b = i then q else (fun a b => if a = i then (if b = j then q else E i b) else E a b) j b) else (fun a b => if a = i then (if b = j then q else E i b) else E a b) a b) := by
 refine ⟨fun a b ha hb => ?_, fun b hb => ?_, fun b hb => ?_, ?_⟩
 ·have e1 : ¬ a = i := by omega
  have e2 : ¬ b = i := by omega
  by_cases h1 : a = j
  ·subst h1
   simp only [if_true, e1, e2, if_false]
   exact h.old a b ha hb
  simp only [h1, e1, if_false]
  exact h.old a b ha hb
 ·have e1 : ¬ i = j := by omega
  simp only [e1, if_false, if_true]
  by_cases h1 : b = j
  ·rw [if_pos h1, h1, hq]
  rw [if_neg h1]; exact h.row b (by omega)
 ·by_cases h1 : b = j
  ·subst h1
   simp only [if_true]
   exact hq
  have e1 : ¬ b = i := by omega
  simp only [h1, e1, if_false]
  exact h.col b (by omega)
 have e1 : ¬ i = j := by omega
 simp only [e1, if_false, if_true]
 exact h.diag
theorem Jrx (w : World) (p q r s t : Addr) (x y z u v : Value) : (((((w.setCell p x).setCell q y).setCell r z).setCell s u).setCell t v).heap.size = w.heap.size := by simp
theorem Jo6 {g n c y : Nat} (h : (Value.slice (some ⟨g, 0, none⟩) n c).ownBlock = some y) : g = y := by simpa [Value.ownBlock] using h
theorem Jm3 (k : Nat) : List.replicate k (0 : Rat) = (List.range k).map (fun _ => (0 : Rat)) := by rw [List.map_const', List.length_range]
theorem OwnQ.addr' {w : World} {A : Option Addr} {n c : Nat} {l : List Rat} (h : OwnQ w (.slice A n c) l) (hn : 0 < l.length) : ∃ g, A = some ⟨g, 0, none⟩ /\ n = l.length := by
 obtain ⟨g, hg⟩ := OwnQ.addr h hn
 exact ⟨g, hg, OwnQ.len h⟩
def Jlz (w : World) (x : List (List Rat)) (n g6 i : Nat) (wr : World) : Prop :=
 ∃ E, OwnSA 73 OwnQ w.heap.size wr.heap.size wr (.slice (some ⟨g6, 0, none⟩) n n) (Ku n i E) /\ (∀ a b, a < i -> b < i -> E a b = Xt (x.getD a []) (x.getD b [])) /\ Below w.heap.size w wr
def FarRel2 (w : World) (x : List (List Rat)) (n g6 i j : Nat) (wr : World) : Prop :=
 ∃ E, OwnSA 73 OwnQ w.heap.size wr.heap.size wr (.slice (some ⟨g6, 0, none⟩) n n) (Ku n (i + 1) E) /\ FarTo x i j E /\ Below w.heap.size w wr
theorem FarRel2.drew {w wr : World} {x : List (List Rat)} {n g6 i j : Nat} (h : FarRel2 w x n g6 i j wr) : FarRel2 w x n g6 i j wr.drew := by
 obtain ⟨E, h1, h2, h3⟩ := h
 exact ⟨E, OwnSA.next (Uq (by decide)).toKind h1 (Jf _), h2, h3.trans ((Jf _).mono h3.size)⟩
def Jrq (w : World) (x : List (List Rat)) (n g6 i j : Nat) (wr : World) : Prop :=
 ∃ E q, OwnSA 73 OwnQ w.heap.size wr.heap.size wr (.slice (some ⟨g6, 0, none⟩) n n) (Ku n (i + 1) (fun a b => if a = i then (if b = j then q else E i b) else E a b)) /\ FarTo x i j E /\ q = Xt (x.getD i []) (x.getD j []) /\ Below w.heap.size w wr
theorem Jnl (A : Option Addr) (n c B m : Nat) (x : List (List Rat)) (w : World) (h : Jd0 w B A n x) (hB : B <= w.heap.size) (hn : n <= 64) (hm : 1 <= m) (cL : m <= 10000000) (hs : ∀ l ∈ x, ∀ y ∈ l, QS m y) (hT : Tab w) (hl : Jk1 x = true) :
  Calls Tryz.prog 15 #[.slice A n c] w fun e w' => ∃ v, e = .returned (.tuple #[v, .int .i64 0]) /\ OwnQQ w' v (Xr x) /\ (∀ b, v.ownBlock = some b -> w.heap.size <= b) /\ Below w.heap.size w w' := by
 have cC := h.len
 obtain ⟨⟨⟨⟨h1, h2⟩, h3⟩, h4⟩, h5⟩ : (((1 <= x.length /\ x.length <= 300) /\ 1 <= (x.getD 0 []).length) /\ (x.getD 0 []).length <= 20) /\ ∀ l ∈ x, l.length = (x.getD 0 []).length := by
  unfold Jk1 at hl
  simp only [Bool.and_eq_true, decide_eq_true_eq, List.all_eq_true] at hl
  exact hl
 obtain ⟨r0, bK⟩ : ∃ r, x[0]? = some r := ⟨_, List.getElem?_eq_getElem (by omega)⟩
 have e0 : x.getD 0 [] = r0 := by rw [List.getD_eq_getElem?_getD, bK]; rfl
 rw [e0] at h3 h4 h5
 obtain ⟨ad, A0, m0, c0, rfl, fH, cD, dD⟩ := h.at_ bK
 obtain rfl : r0.length = m0 := dD.len
 obtain ⟨wd, gC⟩ : ∃ wd, r0.length = wd := ⟨_, rfl⟩
 rw [gC] at h3 h4 h5 cD
 have H := lh h
 have HS := lh hs
 have HT := lh hT
 have HW := lh h5
 have k1 : ¬ (n : Int) < 1 := by omega
 have k2 : ¬ (300 : Int) < (n : Int) := by omega
 have k3 : (0 : Int) < (n : Int) := by omega
 have k4 : ¬ (wd : Int) < 1 := by omega
 have k5 : ¬ (20 : Int) < (wd : Int) := by omega
 have k6 : ¬ (64 : Int) < (n : Int) := by omega
 rw [Addr.add_zero'] at cD
 clear h hs hT h5 hl dD gC bK e0
 go_enter Tryz.func15, Tryz.ntmps15
 go_wp2_with fail
 go_loopw [33] (fun i wr => ∃ k : Nat, k <= n /\ i = .int .i64 (k : Int) /\ wr = w) (fun i _ => n - (intOf i).toNat)
 case atStart => exact ⟨0, by omega, rfl, rfl⟩
 case round =>
  obtain ⟨k, hk, rfl, rfl⟩ := hrel
  rename World => w
  by_cases bB : k < n
  ·have q1 : (k : Int) < (n : Int) := by omega
   obtain ⟨l, hl⟩ : ∃ l, x[k]? = some l := ⟨_, List.getElem?_eq_getElem (by omega)⟩
   obtain ⟨ad', A1, m1, c1, hA, aW, cU, bJ⟩ := H.out.at_ hl
   obtain rfl := Option.some.inj hA
   obtain rfl : m1 = wd := by rw [<- bJ.len]; exact HW.out l (List.mem_of_getElem? hl)
   clear bJ hl aW hA
   go_wp2
   exact ⟨⟨k + 1, by omega, by go_num, by first | rfl | trivial⟩, by simp [intOf]; omega⟩
  obtain rfl : k = n := by omega
  have q1 : ¬ (k : Int) < (k : Int) := by omega
  obtain ⟨i0, kD, kE, kF, dP⟩ := info_parts (Tryz.eltQQ).info
  have fI := Ql (P := Tryz.prog) SW.v ⟨none, 0, 0⟩ 27 73 24 (Tryz.eltQQ).under (Tryz.eltQQ).info rfl .i64 .i64 k (by omega) (by omega) w
  have fJ := Jek (T := 73) (Uq (by decide)) (e := []) (fun w => OwnW.nil_ _ _ _ _) w.heap.size (w.heap.size + 1) k w (by unfold maxLen; omega)
  rw [<- Jnf k (fun _ _ => 0)] at fJ
  have j8 := Jb w (.cells ((List.replicate k (⟨none, 0, 0⟩ : SW)).map SW.v).toArray 73)
  have aL : (w.alloc (.cells ((List.replicate k (⟨none, 0, 0⟩ : SW)).map SW.v).toArray 73)).heap.size = w.heap.size + 1 := by simp
  generalize w.alloc (.cells ((List.replicate k (⟨none, 0, 0⟩ : SW)).map SW.v).toArray 73) = W at *
  go_wp2_with fail
  clear fI
  obtain ⟨g6, fK⟩ : ∃ g6, w.heap.size = g6 := ⟨_, rfl⟩
  have HI : Hid (Jlz w x k g6 0 W) := lh ⟨fun _ _ => 0, by rw [aL, <- fK]; exact fJ, fun a b ha => absurd ha (by omega), j8⟩
  have kG : w.heap.size <= g6 := by omega
  rw [fK]
  clear fJ j8 aL kD kE kF dP fK cD fH
  go_loopw [53] (fun p wr => ∃ i : Nat, i <= k /\ p = .int .i64 (i : Int) /\ Jlz w x k g6 i wr) (fun p _ => k - (intOf p).toNat)
  case atStart => exact ⟨0, by omega, rfl, HI.out⟩
  case round =>
   obtain ⟨i, hi, rfl, E, ho, hE, j8⟩ := hrel
   rename World => wr
   clear HI
   by_cases gD : i < k
   ·have q1 : (i : Int) < (k : Int) := by omega
    obtain ⟨w1, fI, dQ, cH⟩ := Jpi k (by omega) wr
    have o1 := OwnSA.next (Uq (by decide)).toKind ho cH
    have kH := o1.frozen i
    obtain ⟨A9, m9, cp9, dR, -, -, -⟩ := OwnSA.at_ (Uq (T := 73) (by decide)) o1 (Jng (by omega) (Nat.le_refl i))
    have kR : wr.heap.size < w1.heap.size := OwnW.lt dQ _ rfl
    rw [Jm3] at dQ
    have o2 := OwnSA.put (Uq (by decide)) (i := i) (B' := w1.heap.size) o1 dQ (fun y hy => by have e := Jo6 hy; omega) (by omega) j8.size
    rw [Jph] at o2
    have dE := (j8.trans (cH.mono j8.size)).setCell (p := ⟨g6, i, none⟩) kG (.slice (some ⟨wr.heap.size, 0, none⟩) k k)
    have dP : (w1.setCell ⟨g6, i, none⟩ (.slice (some ⟨wr.heap.size, 0, none⟩) k k)).heap.size = w1.heap.size := by simp
    have HI : Hid (FarRel2 w x k g6 i 0 (w1.setCell ⟨g6, i, none⟩ (.slice (some ⟨wr.heap.size, 0, none⟩) k k))) := lh ⟨_, by rw [dP]; exact o2, ⟨fun a b ha hb => by rw [if_neg (by omega)]; exact hE a b ha hb, fun b hb => absurd hb (by omega), fun b hb => absurd hb (by omega), by rw [if_pos rfl]⟩, dE⟩
    clear o1 dQ o2 ho j8 cH dE dP hE
    go_wp2_with fail
    clear fI kH dR
    generalize w1.setCell ⟨g6, i, none⟩ (.slice (some ⟨wr.heap.size, 0, none⟩) k k) = W1 at *
    go_loopw [63] (fun p wq => ∃ j : Nat, j <= i /\ p = .int .i64 (j : Int) /\ FarRel2 w x k g6 i j wq) (fun p _ => i - (intOf p).toNat)
    case atStart => exact ⟨0, by omega, rfl, HI.out⟩
    case round =>
     obtain ⟨j, hj, rfl, hrel⟩ := hrel
     rename World => wq
     clear HI
     by_cases kI : j < i
     ·have q2 : (j : Int) < (i : Int) := by omega
      obtain ⟨E9, ho, gE, j8⟩ := hrel
      obtain ⟨li, dF⟩ : ∃ l, x[i]? = some l := ⟨_, List.getElem?_eq_getElem (by omega)⟩
      obtain ⟨lj, dG⟩ : ∃ l, x[j]? = some l := ⟨_, List.getElem?_eq_getElem (by omega)⟩
      have fL := nt hB j8.size
      have fM := H.out.below Jou (j8.mono hB)
      obtain ⟨ad1, Ai, mi, ci, hA, fN, dH, cF⟩ := fM.at_ dF
      obtain rfl := Option.some.inj hA
      obtain ⟨ad2, Aj, mj, cj, hA, fO, cJ, aS⟩ := fM.at_ dG
      obtain rfl := Option.some.inj hA
      obtain rfl : mi = wd := by rw [<- cF.len]; exact HW.out li (List.mem_of_getElem? dF)
      obtain rfl : mj = mi := by rw [<- aS.len]; exact HW.out lj (List.mem_of_getElem? dG)
      obtain ⟨gx, ox, gG, kJ⟩ := Kd dH
      obtain ⟨gy, oy, gH, kK⟩ := Kd cJ
      rw [gG] at dH
      rw [gH] at cJ
      have b1 := At1.mk' dH
      have b2 := At1.mk' cJ
      have y8 := Jes (E := E9) (n := k) (m := i + 1) gD (Nat.lt_succ_self i)
      obtain ⟨A9, m9, cp9, dR, fP, gI, -⟩ := OwnSA.at_ (Uq (T := 73) (by decide)) ho y8
      obtain ⟨ga, rfl, gJ⟩ := OwnQ.addr' fP (by simp; omega)
      obtain rfl : m9 = k := by rw [gJ]; simp
      have b3 := At1.mk' dR
      have hq := fun w' (t8 : Below wq.heap.size wq w') => Jpe Ai Aj mj ci cj B m li lj w' (cF.below (t8.mono fL)) (aS.below (t8.mono fL)) (nt fL t8.size) (by omega) hm cL (HS.out li (List.mem_of_getElem? dF)) (HS.out lj (List.mem_of_getElem? dG)) (HT.out.next (j8.trans (t8.mono j8.size)))
      have eqq : Xt li lj = Xt (x.getD i []) (x.getD j []) := by rw [List.getD_eq_getElem?_getD, List.getD_eq_getElem?_getD, dF, dG]; rfl
      generalize Xt li lj = q at *
      unfold qV at hq
      have HF := lh hq
      have HO := lh ho
      have HE9 := lh gE
      have HBW := lh j8
      have HQ := lh eqq
      have HROW := lh y8
      have HGA := lh (gI ga rfl)
      have HY := lh (show ((List.range m9).map (E9 i))[j]? = some (E9 i j) by rw [List.getElem?_map, List.getElem?_range (by omega)]; rfl)
      have k7 : (j : Int) < (m9 : Int) := by omega
      have HR9 := lh fP
      clear hq ho gE j8 eqq y8 gI fP fM dF dG cF aS dH cJ fN fO kJ kK gJ dR
      go_upto_region 19 with fail
      go_cut [] (fun wc => Jrq w x m9 g6 i j wc)
      case first =>
       obtain ⟨cN, cO⟩ := b1.c2; have c1 := b1.drew; have aQ := c1.lt; obtain ⟨bC, bD⟩ := b2.c2; have c2 := b2.drew; have s9 := c2.lt; obtain ⟨dB, dC⟩ := b3.c2; have c3 := b3.drew; have aR := c3.lt; have hc := Jf wq; go_region_with (first | (go_at_call 54; (with_reducible refine (HF.out _ hc).mono ?_); rintro e w1 ⟨rfl, j6⟩; (try clear aM aN); obtain ⟨c1, aM, aN⟩ := c1.zc2 j6; (try clear aQ); have aQ := c1.lt; (try clear j9 o0); obtain ⟨c2, j9, o0⟩ := c2.zc2 j6; (try clear s9); have s9 := c2.lt; (try clear y9 aA); obtain ⟨c3, y9, aA⟩ := c3.zc2 j6; (try clear aR); have aR := c3.lt; have hc := Ja hc j6; have cK := OwnW.next HR9.out hc; obtain ⟨y0, y1, y2, y3, y4⟩ := OwnQ.cell5 cK (k := j) HY.out; have z0 := OwnQ.frozen cK (j * 5); have z1 := OwnQ.frozen cK (j * 5 + 1); have z2 := OwnQ.frozen cK (j * 5 + 2); have z3 := OwnQ.frozen cK (j * 5 + 3); have z4 := OwnQ.frozen cK (j * 5 + 4)))
       all_goals
        go_wp2
        go_meet
        have o1 := (OwnSA.next (Uq (by decide)).toKind HO.out hc).more hc.size
        obtain ⟨-, -, -, -, aZ⟩ := OwnSA.storeQ (by decide) o1 HROW.out c3.c2.1
        have o2 := aZ j q
        rw [Jer (by omega)] at o2
        exact ⟨E9, q, by rw [Jrx]; exact o2, HE9.out, HQ.out, Jb0 (HBW.out.trans (hc.mono HBW.out.size)) HGA.out.1 _ _ _ _ _⟩
      case rest =>
       obtain ⟨E8, q8, ho, gK, gL, j8⟩ := hcut
       rename World => wr2
       have bM := Jes (E := fun a b => if a = i then (if b = j then q8 else E8 i b) else E8 a b) (n := m9) (m := i + 1) gD (Nat.lt_succ_self i)
       have aX := Jes (E := fun a b => if a = i then (if b = j then q8 else E8 i b) else E8 a b) (n := m9) (m := i + 1) (a := j) (by omega) (by omega)
       obtain ⟨Ai2, mi2, ci2, dH, cF, kL, -⟩ := OwnSA.at_ (Uq (T := 73) (by decide)) ho bM
       obtain ⟨Aj2, mj2, cj2, cJ, aS, kM, -⟩ := OwnSA.at_ (Uq (T := 73) (by decide)) ho aX
       obtain ⟨gi, rfl, gM⟩ := OwnQ.addr' cF (by simp; omega)
       obtain ⟨gj, rfl, gN⟩ := OwnQ.addr' aS (by simp; omega)
       obtain rfl : mi2 = m9 := by rw [gM]; simp
       obtain rfl : mj2 = mi2 := by rw [gN]; simp
       have kN := OwnQ.cell5 cF (k := j) (x := q8) (by rw [List.getElem?_map, List.getElem?_range (by omega)]; simp)
       obtain ⟨x0, x1, x2, x3, x4⟩ := kN
       obtain ⟨y0, y1, y2, y3, y4⟩ := OwnQ.cell5 aS (k := i) (x := _) (by rw [List.getElem?_map, List.getElem?_range (by omega)]; rfl)
       have z0 := aS.frozen (i * 5)
       have z1 := aS.frozen (i * 5 + 1)
       have z2 := aS.frozen (i * 5 + 2)
       have z3 := aS.frozen (i * 5 + 3)
       have z4 := aS.frozen (i * 5 + 4)
       obtain ⟨-, hl, -, -, aZ⟩ := OwnSA.storeQ (by decide) ho aX cJ
       have o2 := aZ i q8
       rw [Jer (by omega)] at o2
       have HF2 : Hid (FarRel2 w x mj2 g6 i (j + 1) (((((wr2.setCell ⟨gj, i * 5, none⟩ (.bool (decide (q8.num < 0)))).setCell ⟨gj, i * 5 + 1, none⟩ (.int .u64 (lo q8.num.natAbs : Int))).setCell ⟨gj, i * 5 + 2, none⟩ (.string (mo q8.num.natAbs))).setCell ⟨gj, i * 5 + 3, none⟩ (.int .u64 (lo (qden q8) : Int))).setCell ⟨gj, i * 5 + 4, none⟩ (.string (mo (qden q8))))) :=
        lh ⟨_, by rw [Jrx]; exact o2, gK.store kI gL, Jb0 j8 hl _ _ _ _ _⟩
       clear ho gK gL j8 bM aX cF aS kL kM gM gN hl aZ o2 HF HO HE9 HBW HQ HROW HGA HR9 b1 b2 b3 gG gH
       go_upto_region 20 with fail
       go_region
       all_goals
        go_wp2
        exact ⟨⟨j + 1, by omega, by go_num, FarRel2.drew HF2.out⟩, by simp [intOf]; omega⟩
     obtain rfl : j = i := by omega
     have q2 : ¬ (j : Int) < (j : Int) := by omega
     obtain ⟨E', ho, hE, j8⟩ := hrel
     have HF : Hid (Jlz w x k g6 (j + 1) wq) := lh ⟨E', ho, hE.next (fun a b ha hb => by
      have hx : ∀ a, a <= j -> (x.getD a []).length = wd := fun a ha => HW.out _ (by
       rw [List.getD_eq_getElem?_getD, List.getElem?_eq_getElem (by omega)]
       exact List.getElem_mem _)
      rw [hx a ha, hx b hb]), j8⟩
     clear ho hE j8
     go_wp2
     exact ⟨⟨j + 1, by omega, by go_num, HF.out⟩, by simp [intOf]; omega⟩
   obtain rfl : i = k := by omega
   have q1 : ¬ (i : Int) < (i : Int) := by omega
   have e1 : Ku i i E = Xr x := by
    rw [Jnh hE, Jju, cC]
   rw [e1] at ho
   have HF := lh ho
   clear ho hE e1
   go_wp2
   go_returns
   exact ⟨_, rfl, HF.out.plain, fun b hb => by have e := Jo6 hb; omega, j8⟩
theorem Jmy (x : Rat) : 0 <= x * x := by
 rcases Rat.le_total (a := 0) (b := x) with h | h
 ·exact Rat.mul_nonneg h h
 have h2 : 0 <= -x := by grind
 have e : x * x = (-x) * (-x) := by rw [Rat.neg_mul, Rat.mul_neg, Rat.neg_neg]
 rw [e]
 exact Rat.mul_nonneg h2 h2
theorem Jjw (a b : List Rat) : 0 <= Xt a b := by
 have h : ∀ k, 0 <= Qv a b k := by
  intro k
  induction k with
  | zero => exact Rat.le_refl
  | succ k ih =>
   unfold Qv
   have h2 := Jmy (a.getD k 0 - b.getD k 0)
   grind
 exact h _
theorem Je3 {x : List (List Rat)} (h1 : 1 <= x.length) (jU : x.length <= 64) (hl : ∀ a ∈ x, ∀ b ∈ x, a.length = b.length) : Xi (Xr x) = 0 := by
 refine Jdn (by rw [Yu]; omega) (fun k l hk => ?_) (fun i hi k hk => ?_)
 ·have gO := (List.getElem?_eq_some_iff.1 hk).1
  rw [Yu] at gO ⊢
  rw [Jcl (List.getElem?_eq_getElem gO)] at hk
  obtain rfl := Option.some.inj hk
  simp
 rw [Yu] at hi hk
 have e1 := Jcl (List.getElem?_eq_getElem hi)
 have e2 := Jcl (List.getElem?_eq_getElem hk)
 have e3 : (x.map fun b => Xt x[i] b)[k]? = some (Xt x[i] x[k]) := by rw [List.getElem?_map, List.getElem?_eq_getElem hk]; rfl
 have e4 : (x.map fun b => Xt x[k] b)[i]? = some (Xt x[k] x[i]) := by rw [List.getElem?_map, List.getElem?_eq_getElem hi]; rfl
 rw [Jfj e1 e3 e2 e4]
 have q1 : ¬ Xt x[i] x[k] < 0 := Rat.not_lt.2 (Jjw _ _)
 have q2 := Jgm (hl x[i] (List.getElem_mem hi) x[k] (List.getElem_mem hk))
 have q3 : (decide (i = k) && decide (Xt x[i] x[k] ≠ 0)) = false := by
  by_cases h : i = k
  ·subst h
   rw [Jgl]
   simp
  simp [h]
 rw [q3, decide_eq_false q1, <- q2]
 simp
theorem Jml {m wd : Nat} {x : List (List Rat)} (hs : ∀ l ∈ x, ∀ y ∈ l, QS m y) (hm : 1 <= m) (hw : ∀ l ∈ x, l.length = wd) : ∀ l ∈ Xr x, ∀ y ∈ l, QS (wd * (4 * m + 3) + 1) y := by
 intro l hl y hy
 obtain ⟨a, ha, rfl⟩ := List.mem_map.1 hl
 obtain ⟨b, hb, rfl⟩ := List.mem_map.1 hy
 unfold Xt
 rw [hw a ha]
 exact Vv (hs a ha) (hs b hb) hm wd
theorem Jbt {zs : List Int} {m n : Nat} {l : List Rat} (h : l ∈ Zv zs m n) : ∃ zs', l = Vb zs' m := by
 obtain ⟨i, _, rfl⟩ := List.mem_map.1 h
 exact ⟨_, rfl⟩
