import Derived.Test.YtcoloflmigcphaaGreatDoorFracAdd
namespace Go.Proofs.YtcoloflmigcphaaGreatDoor
set_option maxRecDepth 100000
set_option maxHeartbeats 2000000
open Go.RowKit
set_option linter.all false
def qC (q : Rat) : List Value := [.bool (decide (q.num < 0)), .int .u64 (lo q.num.natAbs : Int), .string (mo q.num.natAbs), .int .u64 (lo ((qden q)) : Int), .string (mo ((qden q)))]
theorem Je5 (q : Rat) : (qC q).length = 5 := rfl
abbrev ReadsQ (w : World) (B : Nat) (A : Option Addr) (n : Nat) (l : List Rat) : Prop := ReadsW w B 5 qC A n l
theorem Vi {w : World} {a : Addr} {v : Value} (h : w.cell? a = some v) : a.spot = none := by
 unfold World.cell? at h
 split at h
 ·split at h
  ·cases h
  rename_i h1
  simpa using h1
 cases h
theorem ReadsQ.cells {w : World} {B : Nat} {A : Option Addr} {n : Nat} {l : List Rat} (h : ReadsQ w B A n l) {k : Nat} (hk : k < n) :
  ∃ ad g o x, A = some ad /\ ad.add (k * 5) = ⟨g, o, none⟩ /\ g < B /\ l[k]? = some x /\ w.cell? ⟨g, o, none⟩ = some (.bool (decide (x.num < 0))) /\ w.cell? ⟨g, o + 1, none⟩ = some (.int .u64 (lo x.num.natAbs : Int)) /\
   w.cell? ⟨g, o + 2, none⟩ = some (.string (mo x.num.natAbs)) /\ w.cell? ⟨g, o + 3, none⟩ = some (.int .u64 (lo (qden x) : Int)) /\ w.cell? ⟨g, o + 4, none⟩ = some (.string (mo (qden x))) := by
 obtain ⟨ad, x, h1, h2, h3, h4⟩ := h.at_ Je5 hk
 have c0 := h4 0 _ rfl
 have e0 := Vi c0
 rw [Nat.add_zero] at c0 e0
 have hb := Jz ad (k * 5)
 have hc : ∀ j u, (qC x)[j + 1]? = some u -> w.cell? ((ad.add (k * 5)).add (j + 1)) = some u := fun j u hu => by rw [Jad]; exact h4 (j + 1) u hu
 cases hP : ad.add (k * 5) with
 | mk g o sp =>
  rw [hP] at c0 e0 hb hc
  obtain rfl : sp = none := e0
  exact ⟨ad, g, o, x, h1, hP, by have : g = ad.block := hb; omega, h3, c0, hc 0 _ rfl, hc 1 _ rfl, hc 2 _ rfl, hc 3 _ rfl⟩
def Jck (l : List Rat) : Rat := l.foldl (· + ·) 0
theorem Jd1 (l : List Rat) (k : Nat) (x : Rat) (h : l[k]? = some x) : Jck (l.take (k + 1)) = Jck (l.take k) + x := by
 unfold Jck
 rw [List.take_add_one, h, List.foldl_append]
 rfl
theorem QS.zero (m : Nat) (hm : 1 <= m) : QS m 0 := ⟨Nat.zero_le _, hm⟩
theorem QS.sum {m : Nat} (l : List Rat) (hl : ∀ x ∈ l, QS m x) : ∀ k, QS (k * (m + 1) + 1) (Jck (l.take k)) := by
 intro k
 induction k with
 | zero => exact QS.zero _ (by omega)
 | succ k ih =>
  cases h : l[k]? with
  | none =>
   have j6 : l.length <= k := by simpa using h
   have e : l.take (k + 1) = l.take k := by rw [List.take_of_length_le (by omega), List.take_of_length_le j6]
   rw [e]
   exact ih.mono (by rw [Nat.add_mul]; omega)
  | some x =>
   rw [Jd1 l k x h]
   exact (ih.add (hl x (List.mem_of_getElem? h))).mono (by rw [Nat.add_mul]; omega)
theorem Jll (A : Option Addr) (n c B m : Nat) (l : List Rat) (w : World) (h : ReadsQ w B A n l) (hB : B <= w.heap.size) (hn : n <= 1000000) (hm : m <= 100000) (hl : ∀ x ∈ l, QS m x) (hT : Tab w) :
  Calls Tryz.prog 63 #[.slice A n c] w (Ret (qV (Jck l)) w) := by
 have bA := h.len
 have bB := QS.sum l hl
 go_enter Tryz.func63, Tryz.ntmps63
 go_wp2_with fail
 have b0 := (Blk.new w 41 #[.bool false, .int .u64 0, .string ⟨#[]⟩, .int .u64 0, .string ⟨#[]⟩]).alloc (.cells #[.bool false, .int .u64 0, .string ⟨#[]⟩, .int .u64 0, .string ⟨#[]⟩] 41)
 have b1 := Blk.new2 w (.cells #[.bool false, .int .u64 0, .string ⟨#[]⟩, .int .u64 0, .string ⟨#[]⟩] 41) 41 #[.bool false, .int .u64 0, .string ⟨#[]⟩, .int .u64 0, .string ⟨#[]⟩]
 have hW := Jo w (.cells #[.bool false, .int .u64 0, .string ⟨#[]⟩, .int .u64 0, .string ⟨#[]⟩] 41) (.cells #[.bool false, .int .u64 0, .string ⟨#[]⟩, .int .u64 0, .string ⟨#[]⟩] 41)
 generalize (w.alloc (.cells #[.bool false, .int .u64 0, .string ⟨#[]⟩, .int .u64 0, .string ⟨#[]⟩] 41)).alloc (.cells #[.bool false, .int .u64 0, .string ⟨#[]⟩, .int .u64 0, .string ⟨#[]⟩] 41) = W at *
 have HS := lh bB
 have HL := lh hl
 have HR := lh h
 have HT := lh hT
 have HLN := lh bA
 clear bB hl h hT bA
 have ez : qden 0 = 0 := rfl
 go_loopw [8] (fun p wr => ∃ (k : Nat) (s : Rat), k <= n /\ p = .int .i64 (k : Int) /\ Hid (Jck (l.take k) = s) /\ Blk wr w.heap.size 41 #[.bool false, .int .u64 0, .string ⟨#[]⟩, .int .u64 0, .string ⟨#[]⟩] /\ Blk wr (w.heap.size + 1) 41 #[.bool (decide (s.num < 0)), .int .u64 (lo s.num.natAbs : Int), .string (mo s.num.natAbs), .int .u64 (lo ((qden s)) : Int), .string (mo ((qden s)))] /\ Below w.heap.size w wr) (fun p _ => n - (intOf p).toNat)
 case atStart => exact ⟨0, 0, by omega, rfl, lh rfl, b0, b1, hW⟩
 case round =>
  obtain ⟨k, s, hk, rfl, hs, c0, c1, hb⟩ := hrel
  clear b0 b1 hW
  rename World => wr
  by_cases y9 : k < n
  ·obtain ⟨ad, g, o, x, rfl, hP, aR, hx, x0, x1, x2, x3, x4⟩ := ReadsQ.cells (HR.out.below (hb.mono hB)) y9
   have aS : (k : Int) < n := by omega
   have aT : (k : Int) + 1 <= 9223372036854775807 := by omega
   have bC : QS 137438953472 s := by
    rw [<- hs.out]
    refine (HS.out k).mono ?_
    have := Nat.mul_le_mul (show k <= 1000000 by omega) (show m + 1 <= 100001 by omega)
    omega
   have bD : QS 137438953472 x := (HL.out x (List.mem_of_getElem? hx)).mono (by omega)
   have j7 := fun w (hT : Tab w) => Jcx s x w bC bD hT
   have j0 : Jck (l.take (k + 1)) = s + x := by rw [Jd1 l k x hx, hs.out]
   have HS' := lh j0
   unfold qV at j7
   have HAD := lh j7
   clear j7 bC bD j0 hs
   generalize s + x = s' at *
   obtain ⟨j8, j9, aV, aW, aX⟩ := c1.c5
   have cl0 := c0.lt
   have cl1 := c1.lt
   have tT := HT.out.next (Ja hb (Jb wr (.cells #[.bool (decide (x.num < 0)), .int .u64 (lo x.num.natAbs : Int), .string (mo x.num.natAbs), .int .u64 (lo ((qden x)) : Int), .string (mo ((qden x)))] 41)))
   have d0 := c0.alloc (.cells #[.bool (decide (x.num < 0)), .int .u64 (lo x.num.natAbs : Int), .string (mo x.num.natAbs), .int .u64 (lo ((qden x)) : Int), .string (mo ((qden x)))] 41)
   have d1 := c1.alloc (.cells #[.bool (decide (x.num < 0)), .int .u64 (lo x.num.natAbs : Int), .string (mo x.num.natAbs), .int .u64 (lo ((qden x)) : Int), .string (mo ((qden x)))] 41)
   have aA := Ja hb (Jb wr (.cells #[.bool (decide (x.num < 0)), .int .u64 (lo x.num.natAbs : Int), .string (mo x.num.natAbs), .int .u64 (lo ((qden x)) : Int), .string (mo ((qden x)))] 41))
   go_wp2_with fail
   refine (HAD.out _ tT).mono ?_
   rintro e w1 ⟨rfl, o0⟩
   have d0 := d0.below o0 d0.lt
   have d1 := d1.below o0 d1.lt
   have aB := Ja aA o0
   obtain ⟨d1q0, d1q1, d1q2, d1q3, d1q4, d1f0, d1f1, d1f2, d1f3, d1f4, d1s0, d1s1, d1s2, d1s3, d1s4⟩ := d1.f5
   go_wp2
   have e1 := ((((d1.set_ 0 (.bool (decide (s'.num < 0)))).set_ 1 (.int .u64 (lo s'.num.natAbs : Int))).set_ 2 (.string (mo s'.num.natAbs))).set_ 3 (.int .u64 (lo (qden s') : Int))).set_ 4 (.string (mo (qden s')))
   have e0 := ((((d0.far (p := ⟨w.heap.size + 1, 0, none⟩) (by simp) (.bool (decide (s'.num < 0)))).far (p := ⟨w.heap.size + 1, 1, none⟩) (by simp) (.int .u64 (lo s'.num.natAbs : Int))).far (p := ⟨w.heap.size + 1, 2, none⟩) (by simp) (.string (mo s'.num.natAbs))).far (p := ⟨w.heap.size + 1, 3, none⟩) (by simp) (.int .u64 (lo (qden s') : Int))).far (p := ⟨w.heap.size + 1, 4, none⟩) (by simp) (.string (mo (qden s')))
   refine ⟨⟨k + 1, s', by omega, by simp, HS', e0, by simpa using e1, Uy aB (by omega) _ _ _ _ _⟩, by simp [intOf]; omega⟩
  obtain rfl : k = n := by omega
  have j0 : Jck l = s := by rw [<- hs.out, List.take_of_length_le (by have := HLN.out; omega)]
  have HS2 := lh j0
  clear j0 hs
  have aU : ¬ (k : Int) < (k : Int) := by omega
  obtain ⟨aC, aD, aE, aF, aG, aH, aI, aJ, aK, aL, o9, aY, p9, aZ, s9⟩ := c0.f5
  obtain ⟨j8, j9, aV, aW, aX⟩ := c1.c5
  go_wp2
  refine bodyPost_ret (v := .agg #[.bool (decide (s.num < 0)), .int .u64 (lo s.num.natAbs : Int), .string (mo s.num.natAbs), .int .u64 (lo ((qden s)) : Int), .string (mo ((qden s)))]) (by simp [results, Tryz.results63, go_sem, o9, aY, p9, aZ, s9]) rfl ?_
  exact ⟨by rw [HS2.out]; rfl, Uy hb (by omega) _ _ _ _ _⟩
theorem Tryz.eltQ : EltW Tryz.prog 56 41 (.agg #[.bool false, .int .u64 0, .string ⟨#[]⟩, .int .u64 0, .string ⟨#[]⟩]) 5 56 := ⟨Tryz.underlying56, by kernel_rfl, by kernel_rfl⟩
abbrev OwnQ (w : World) (v : Value) (l : List Rat) : Prop := OwnW w 41 5 qC v l
section
variable {ops : Array Oper} {rest : List Oper} {o : Oper} {a : Act} {Q : Exit -> Act -> World -> Prop}
end
theorem Jnd (y : Rat) (l : List Rat) : ∀ i, ((((((l.flatMap qC).set (i * 5) (.bool (decide (y.num < 0)))).set (i * 5 + 1) (.int .u64 (lo y.num.natAbs : Int))).set (i * 5 + 2) (.string (mo y.num.natAbs))).set (i * 5 + 3) (.int .u64 (lo (qden y) : Int))).set (i * 5 + 4) (.string (mo (qden y)))) = (l.set i y).flatMap qC := by
 induction l with
 | nil => intro i; simp
 | cons a l ih =>
  intro i
  cases i with
  | zero => simp [qC]
  | succ i =>
   have := ih i
   rw [show (i + 1) * 5 = i * 5 + 5 from by omega]
   simp only [List.flatMap_cons, qC, List.cons_append, List.nil_append, List.set_cons_succ] at this ⊢
   rw [this]
theorem OwnQ.len {w : World} {A : Option Addr} {n c : Nat} {l : List Rat} (h : OwnQ w (.slice A n c) l) : n = l.length := by
 obtain ⟨A', c', h3, _⟩ := OwnW.form h
 injection h3
theorem OwnQ.frozen {w : World} {g n c : Nat} {l : List Rat} (h : OwnQ w (.slice (some ⟨g, 0, none⟩) n c) l) (j : Nat) : w.frozen? ⟨g, j, none⟩ = false := by
 obtain rfl := OwnQ.len h
 exact World.ownsRow.frozenAt h j
theorem OwnQ.cell5 {w : World} {g n c : Nat} {l : List Rat} (h : OwnQ w (.slice (some ⟨g, 0, none⟩) n c) l) {k : Nat} {x : Rat} (hx : l[k]? = some x) :
  w.cell? ⟨g, k * 5, none⟩ = some (.bool (decide (x.num < 0))) /\ w.cell? ⟨g, k * 5 + 1, none⟩ = some (.int .u64 (lo x.num.natAbs : Int)) /\ w.cell? ⟨g, k * 5 + 2, none⟩ = some (.string (mo x.num.natAbs)) /\
   w.cell? ⟨g, k * 5 + 3, none⟩ = some (.int .u64 (lo (qden x) : Int)) /\ w.cell? ⟨g, k * 5 + 4, none⟩ = some (.string (mo (qden x))) := by
 obtain rfl := OwnQ.len h
 have hk : k < l.length := (List.getElem?_eq_some_iff.1 hx).1
 have hc : ∀ j, j < 5 -> w.cell? ⟨g, k * 5 + j, none⟩ = (qC x)[j]? := fun j hj => by
  rw [World.ownsRow.cellAt h (k * 5 + j) (by omega)]
  exact Jcz Je5 l k j _ hx hj
 exact ⟨hc 0 (by omega), hc 1 (by omega), hc 2 (by omega), hc 3 (by omega), hc 4 (by omega)⟩
theorem OwnQ.store {w : World} {g n c : Nat} {l : List Rat} (h : OwnQ w (.slice (some ⟨g, 0, none⟩) n c) l) (i : Nat) (y : Rat) :
  OwnQ (((((w.setCell ⟨g, i * 5, none⟩ (.bool (decide (y.num < 0)))).setCell ⟨g, i * 5 + 1, none⟩ (.int .u64 (lo y.num.natAbs : Int))).setCell ⟨g, i * 5 + 2, none⟩ (.string (mo y.num.natAbs))).setCell ⟨g, i * 5 + 3, none⟩ (.int .u64 (lo (qden y) : Int))).setCell ⟨g, i * 5 + 4, none⟩ (.string (mo (qden y)))) (.slice (some ⟨g, 0, none⟩) n c) (l.set i y) := by
 obtain rfl := OwnQ.len h
 have s1 := World.ownsRow.stored h (i * 5) (.bool (decide (y.num < 0)))
 have s2 := World.ownsRow.stored s1.1 (i * 5 + 1) (.int .u64 (lo y.num.natAbs : Int))
 have s3 := World.ownsRow.stored s2.1 (i * 5 + 2) (.string (mo y.num.natAbs))
 have s4 := World.ownsRow.stored s3.1 (i * 5 + 3) (.int .u64 (lo (qden y) : Int))
 have s5 := World.ownsRow.stored s4.1 (i * 5 + 4) (.string (mo (qden y)))
 rw [Jnd] at s5
 unfold OwnQ OwnW
 rw [List.length_set]
 exact s5.1
theorem Joe (n : Nat) : (madeCells #[.bool false, .int .u64 0, .string ⟨#[]⟩, .int .u64 0, .string ⟨#[]⟩] (n * 5)).toList = (List.replicate n (0 : Rat)).flatMap qC := by
 apply List.ext_getElem?
 intro j
 by_cases hj : j < n * 5
 ·have hi : j / 5 < n := by omega
  have e : j = j / 5 * 5 + j % 5 := by omega
  have h := Jcz Je5 (List.replicate n (0 : Rat)) (j / 5) (j % 5) 0 (by rw [List.getElem?_replicate, if_pos hi]) (by omega)
  rw [<- e] at h
  rw [h]
  have h5 : j % 5 = 0 \/ j % 5 = 1 \/ j % 5 = 2 \/ j % 5 = 3 \/ j % 5 = 4 := by omega
  have h6 : (madeCells #[.bool false, .int .u64 0, .string ⟨#[]⟩, .int .u64 0, .string ⟨#[]⟩] (n * 5)).toList[j]? = some ((#[.bool false, .int .u64 0, .string ⟨#[]⟩, .int .u64 0, .string ⟨#[]⟩] : Array Value)[j % 5]!) := by
   unfold madeCells
   rw [Array.getElem?_toList, Array.getElem?_map, Array.getElem?_range, if_pos hj]
   rfl
  rw [h6]
  rcases h5 with h5 | h5 | h5 | h5 | h5 <;> rw [h5] <;> rfl
 rw [List.getElem?_eq_none (by simp [size_madeCells]; omega), List.getElem?_eq_none (by rw [Jei Je5, List.length_replicate]; omega)]
theorem Jnj (n : Nat) (hn : n <= 1000000) (w : World) : ∃ w', (Instr.makeSlice 56 (.int .i64 (n : Int)) (.int .i64 (n : Int))).run Tryz.prog w = .ok (.slice (some ⟨w.heap.size, 0, none⟩) n n) w' /\ OwnQ w' (.slice (some ⟨w.heap.size, 0, none⟩) n n) (List.replicate n 0) /\ Below w.heap.size w w' := by
 obtain ⟨i0, aM, aN, aO, aP⟩ := info_parts (Tryz.eltQ).info
 obtain ⟨w', h1, h2, h3⟩ := run_makeSlice_full (P := Tryz.prog) (w := w) 0 56 41 i0 _ 5 (Tryz.eltQ).under aM aN aO .i64 .i64 n (by omega) (by rw [aP]; omega) (by unfold maxLen; omega) (Nat.zero_le _)
 refine ⟨w', h1, ?_, ?_⟩
 ·unfold OwnQ OwnW
  rw [List.length_replicate, <- Joe]
  exact h2
 obtain ⟨k1, k2, k3, k4, k5⟩ := h3
 exact ⟨k1, k2, k3, k4, fun k hk => k5 k hk (by simp)⟩
structure AtQ (w : World) (g o : Nat) (x : Rat) : Prop where
 c5 : w.cell? ⟨g, o, none⟩ = some (.bool (decide (x.num < 0))) /\ w.cell? ⟨g, o + 1, none⟩ = some (.int .u64 (lo x.num.natAbs : Int)) /\ w.cell? ⟨g, o + 2, none⟩ = some (.string (mo x.num.natAbs)) /\
   w.cell? ⟨g, o + 3, none⟩ = some (.int .u64 (lo (qden x) : Int)) /\ w.cell? ⟨g, o + 4, none⟩ = some (.string (mo (qden x)))
theorem AtQ.lt {w : World} {g o : Nat} {x : Rat} (h : AtQ w g o x) : g < w.heap.size := Xw h.c5.1
theorem AtQ.below {w w' : World} {g o B : Nat} {x : Rat} (h : AtQ w g o x) (hb : Below B w w') (hg : g < B) : AtQ w' g o x := by
 obtain ⟨h0, h1, h2, h3, h4⟩ := h.c5
 refine ⟨?_⟩
 rw [hb.cell (p := ⟨g, o, none⟩) hg, hb.cell (p := ⟨g, o + 1, none⟩) hg, hb.cell (p := ⟨g, o + 2, none⟩) hg, hb.cell (p := ⟨g, o + 3, none⟩) hg, hb.cell (p := ⟨g, o + 4, none⟩) hg]
 exact ⟨h0, h1, h2, h3, h4⟩
theorem AtQ.drew {w : World} {g o : Nat} {x : Rat} (h : AtQ w g o x) : AtQ w.drew g o x := h.below (Jt w) h.lt
theorem AtQ.yy {w w' V : World} {g o : Nat} {x : Rat} {n : Nat} (h : AtQ w g o x) (hb : Below n V w') (hs : Sbw n w V := by first | exact sb0 _ | exact sb1 _ _ | exact sb2 _ _ _) : AtQ w' g o x := (h.below hs.1 h.lt).below hb (Nat.lt_of_lt_of_le h.lt hs.2)
theorem AtQ.zc5 {w w' V : World} {g o : Nat} {x : Rat} {n : Nat} (h : AtQ w g o x) (hb : Below n V w') (hs : Sbw n w V := by first | exact sb0 _ | exact sb1 _ _ | exact sb2 _ _ _) : AtQ w' g o x /\ w'.cell? ⟨g, o, none⟩ = some (.bool (decide (x.num < 0))) /\ w'.cell? ⟨g, o + 1, none⟩ = some (.int .u64 (lo x.num.natAbs : Int)) /\ w'.cell? ⟨g, o + 2, none⟩ = some (.string (mo x.num.natAbs)) /\ w'.cell? ⟨g, o + 3, none⟩ = some (.int .u64 (lo (qden x) : Int)) /\ w'.cell? ⟨g, o + 4, none⟩ = some (.string (mo (qden x))) := have h := h.yy hb hs; ⟨h, h.c5⟩
theorem OwnQ.at_ {w : World} {g n c : Nat} {l : List Rat} (h : OwnQ w (.slice (some ⟨g, 0, none⟩) n c) l) {k : Nat} {x : Rat} (hx : l[k]? = some x) : AtQ w g (k * 5) x := ⟨OwnQ.cell5 h hx⟩
structure At1 (w : World) (g o : Nat) (u : Value) : Prop where
 c2 : w.cell? ⟨g, o, none⟩ = some u /\ g < w.heap.size
theorem At1.mk' {w : World} {g o : Nat} {u : Value} (h : w.cell? ⟨g, o, none⟩ = some u) : At1 w g o u := ⟨h, Xw h⟩
theorem At1.lt {w : World} {g o : Nat} {u : Value} (h : At1 w g o u) : g < w.heap.size := h.c2.2
theorem At1.below {w w' : World} {g o B : Nat} {u : Value} (h : At1 w g o u) (hb : Below B w w') (hg : g < B) : At1 w' g o u := by
 refine At1.mk' ?_
 rw [hb.cell (p := ⟨g, o, none⟩) hg]
 exact h.c2.1
theorem At1.drew {w : World} {g o : Nat} {u : Value} (h : At1 w g o u) : At1 w.drew g o u := h.below (Jt w) h.lt
theorem At1.alloc {w : World} {g o : Nat} {u : Value} (h : At1 w g o u) (b : Obj) : At1 (w.alloc b) g o u := h.below (Jb w b) h.lt
theorem At1.yy {w w' V : World} {g o : Nat} {u : Value} {n : Nat} (h : At1 w g o u) (hb : Below n V w') (hs : Sbw n w V := by first | exact sb0 _ | exact sb1 _ _ | exact sb2 _ _ _) : At1 w' g o u := (h.below hs.1 h.lt).below hb (Nat.lt_of_lt_of_le h.lt hs.2)
theorem At1.zc2 {w w' V : World} {g o : Nat} {u : Value} {n : Nat} (h : At1 w g o u) (hb : Below n V w') (hs : Sbw n w V := by first | exact sb0 _ | exact sb1 _ _ | exact sb2 _ _ _) : At1 w' g o u /\ w'.cell? ⟨g, o, none⟩ = some u /\ g < w'.heap.size := have h := h.yy hb hs; ⟨h, h.c2⟩
theorem Jfp {B g i j m p q : Nat} {w w' : World} (h : Below B w w') (hg : B <= g) (x y z t u : Value) : Below B w (((((w'.setCell ⟨g, i, none⟩ x).setCell ⟨g, j, none⟩ y).setCell ⟨g, m, none⟩ z).setCell ⟨g, p, none⟩ t).setCell ⟨g, q, none⟩ u) :=
 ((((h.setCell hg x).setCell hg y).setCell hg z).setCell hg t).setCell hg u
theorem Jlu {W wn : World} {t : TypeId} {cs : Array Value} (hc : Below W.heap.size W wn) : Jdu W t cs (.pointer (some ⟨wn.heap.size, 0, none⟩)) (wn.alloc (.cells cs t)) := ⟨_, rfl, hc.size, Blk.new _ _ _, Ja hc (Jb _ _)⟩
theorem QS.sub {m n : Nat} {a b : Rat} (ha : QS m a) (hb : QS n b) : QS (m + n + 1) (a - b) := by
 rw [Rat.sub_eq_add_neg]
 exact ha.add hb.neg