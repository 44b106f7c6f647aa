import Derived.Test.YtecnjlcfoobepaaGreatDoorLinkFine
namespace Go.Proofs.YtecnjlcfoobepaaGreatDoor
open Go.RowKit
set_option linter.unusedSimpArgs false
set_option linter.unusedVariables false
theorem farGo_none' {n : Nat} {J : Nat → Jn} {a b : Nat} (k : Nat) (h : ownAt n J a k ≠ ownAt n J b k) : farGo n J a b k = none := by
 rcases Nat.eq_zero_or_pos k with h3 | h3
 ·subst h3; rfl
 ·exact farGo_none k h3 h
theorem farV_never {n : Nat} {J : Nat → Jn} {a b : Nat} (len : Nat) (h : ownAt n J a len ≠ ownAt n J b len) : farV n J len a b = 0 := by
 unfold farV
 rw [farGo_none' len h]
 split <;> rfl
set_option maxRecDepth 100000 in
set_option maxHeartbeats 4000000 in
theorem link_far (A : Option Addr) (n len c M : Nat) (l : List Jn) (a b : Nat) (w : World) (h : OwnJ w (.slice A len c) l) (hn1 : 1 ≤ n) (hn : n ≤ 64) (hM : M ≤ 100000000) (hb : ∀ j ∈ l, JB M j) (hT : Tab w) (hf : fineB n l = true) (hlen : len ≤ 64) (ha : a < n) (hbn : b < n) :
  Calls Tryz.prog 30 #[.int .i64 (n : Int), .slice A len c, .int .i64 (a : Int), .int .i64 (b : Int)] w (Ret (.tuple #[qV (farV n (fun i => l.getD i default) len a b), .int .i64 0]) w) := by
 have hll : len = l.length := by
  obtain ⟨A', c', h4, -⟩ := OwnW.form h
  injection h4
 have hfine := fun w' (hb1 : Below w.heap.size w w') => link_fine A n len c M l w' (OwnW.next h hb1) hn1 hn hM hb (hT.next hb1)
 rw [hf] at hfine
 have HFI := Lib.hid hfine
 have HO := Lib.hid h
 have HLL := Lib.hid hll
 clear h hfine hb hT hf hll
 obtain ⟨J, hJ⟩ : ∃ J, (fun i => l.getD i default) = J := ⟨_, rfl⟩
 rw [hJ]
 have HJ : Hid (∀ k j, l[k]? = some j → J k = j) := Lib.hid fun k j hj => by
  rw [← hJ]
  show l.getD k default = j
  rw [List.getD_eq_getElem?_getD, hj]
  rfl
 clear hJ
 have q1 : ¬ (a : Int) < 0 := by omega
 have q2 : ¬ (n : Int) ≤ (a : Int) := by omega
 have q3 : ¬ (b : Int) < 0 := by omega
 have q4 : ¬ (n : Int) ≤ (b : Int) := by omega
 have b0 := Blk.new w 56 #[.bool false, .int .u64 0, .string ⟨#[]⟩, .int .u64 0, .string ⟨#[]⟩]
 have hB0 := balloc1 w (.cells #[.bool false, .int .u64 0, .string ⟨#[]⟩, .int .u64 0, .string ⟨#[]⟩] 56)
 obtain ⟨g8, hg8⟩ : ∃ g8, w.heap.size = g8 := ⟨_, rfl⟩
 have hg8' : w.heap.size ≤ g8 := by omega
 go_enter Tryz.func30, Tryz.ntmps30
 go_upto_region 1 with fail
 go_cut [33] (fun v wc => v = .bool false ∧ Blk wc g8 56 #[.bool false, .int .u64 0, .string ⟨#[]⟩, .int .u64 0, .string ⟨#[]⟩] ∧ Below w.heap.size w wc)
 case first =>
  go_wp2_with fail
  refine (HFI.out _ (hB0.mono (Nat.le_refl _))).mono ?_
  rintro e w1 ⟨rfl, hb1⟩
  have b0 := b0.below hb1 b0.lt
  have HB1 := Lib.hid (bthen hB0 hb1)
  clear hb1 hB0 HFI
  have HB0 := Lib.hid b0
  clear b0
  go_wp2
  go_meet
  exact ⟨by first | rfl | (congr 1; simp; omega), by rw [← hg8]; exact HB0.out, HB1.out⟩
 case rest =>
 obtain ⟨rfl, b0, hb0⟩ := hcut
 rename World => w1
 have HB1 := Lib.hid hb0
 clear hb0 HFI hB0
 clear hg8
 go_wp2_with fail
 by_cases hab : a = b
 ·subst hab
  have HV : Hid (farV n J len a a = 0) := Lib.hid (if_pos rfl)
  go_loopw [2, 3, 37] (fun va vb p wr => va = .int .i64 (a : Int) ∧ vb = .int .i64 (a : Int) ∧ p = .int .i64 ((0 : Nat) : Int) ∧ Blk wr g8 56 #[.bool false, .int .u64 0, .string ⟨#[]⟩, .int .u64 0, .string ⟨#[]⟩] ∧ Below w.heap.size w wr) (fun _ _ p _ => len - (intOf p).toNat)
  case atStart => exact ⟨rfl, rfl, rfl, b0, HB1.out⟩
  case round =>
   obtain ⟨rfl, rfl, rfl, c0, hbw⟩ := hrel
   clear b0 HB1
   rename World => wr
   by_cases h0 : 0 < len
   ·have p0 : ((0 : Nat) : Int) < (len : Int) := by omega
    obtain ⟨j, hj⟩ : ∃ j, l[0]? = some j := ⟨_, List.getElem?_eq_getElem (by have := HLL.out; omega)⟩
    obtain ⟨-, g1, hA1⟩ := OwnJ.addr HO.out (by have := HLL.out; omega)
    subst hA1
    have hat := OwnJ.at_ (OwnW.next HO.out hbw) hj
    obtain ⟨x0, x1, x2, x3, x4, x5, x6, x7⟩ := hat.c8
    have HC := Lib.hid c0
    have HBW := Lib.hid hbw
    clear hbw c0 hat hj
    go_upto_region 5 with fail
    go_cut [] (fun wc => Blk wc g8 56 #[.bool false, .int .u64 0, .string ⟨#[]⟩, .int .u64 0, .string ⟨#[]⟩] ∧ Below w.heap.size w wc)
    case first =>
     go_wp2
     go_meet
     exact ⟨HC.out.alloc _, bthen HBW.out (balloc1 _ _)⟩
    case rest =>
     obtain ⟨c0, hbw⟩ := hcut
     clear x0 x1 x2 x3 x4 x5 x6 x7 HC HBW
     have HBW := Lib.hid hbw
     clear hbw
     obtain ⟨c0q0, c0q1, c0q2, c0q3, c0q4, c0f0, c0f1, c0f2, c0f3, c0f4, c0s0, c0s1, c0s2, c0s3, c0s4⟩ := c0.f5
     go_wp2
     refine bodyPost_ret (v := .tuple #[.agg #[.bool false, .int .u64 0, .string ⟨#[]⟩, .int .u64 0, .string ⟨#[]⟩], .int .i64 0]) (by simp [results, Tryz.results30, go_sem, c0s0, c0s1, c0s2, c0s3, c0s4]) rfl ?_
     exact ⟨by rw [HV.out]; rfl, bset5 HBW.out hg8' _ _ _ _ _⟩
   ·have p0 : ¬ ((0 : Nat) : Int) < (len : Int) := by omega
    have HBW := Lib.hid hbw
    clear hbw
    obtain ⟨c0q0, c0q1, c0q2, c0q3, c0q4, c0f0, c0f1, c0f2, c0f3, c0f4, c0s0, c0s1, c0s2, c0s3, c0s4⟩ := c0.f5
    go_wp2
    refine bodyPost_ret (v := .tuple #[.agg #[.bool false, .int .u64 0, .string ⟨#[]⟩, .int .u64 0, .string ⟨#[]⟩], .int .i64 0]) (by simp [results, Tryz.results30, go_sem, c0s0, c0s1, c0s2, c0s3, c0s4]) rfl ?_
    exact ⟨by rw [HV.out]; rfl, bset5 HBW.out hg8' _ _ _ _ _⟩
 ·have HAB := Lib.hid hab
  clear hab
  go_loopw [2, 3, 37] (fun va vb p wr => ∃ k : Nat, k ≤ len ∧ va = .int .i64 (ownAt n J a k) ∧ vb = .int .i64 (ownAt n J b k) ∧ p = .int .i64 ((k : Nat) : Int) ∧ Hid (ownAt n J a k ≠ ownAt n J b k) ∧ Blk wr g8 56 #[.bool false, .int .u64 0, .string ⟨#[]⟩, .int .u64 0, .string ⟨#[]⟩] ∧ Below w.heap.size w wr) (fun _ _ p _ => len - (intOf p).toNat)
  case atStart => exact ⟨0, by omega, rfl, rfl, rfl, Lib.hid (fun e => HAB.out (Int.natCast_inj.1 e)), b0, HB1.out⟩
  case round =>
   obtain ⟨k, hk, rfl, rfl, rfl, hne, c0, hbw⟩ := hrel
   clear b0 HB1
   rename World => wr
   by_cases hkl : k < len
   ·have p0 : (k : Int) < (len : Int) := by omega
    obtain ⟨j, hj⟩ : ∃ j, l[k]? = some j := ⟨_, List.getElem?_eq_getElem (by have := HLL.out; omega)⟩
    obtain ⟨-, g1, hA1⟩ := OwnJ.addr HO.out (by have := HLL.out; omega)
    subst hA1
    have hat := OwnJ.at_ (OwnW.next HO.out hbw) hj
    have hjk := HJ.out k j hj
    obtain ⟨x0, x1, x2, x3, x4, x5, x6, x7⟩ := hat.c8
    obtain ⟨ja, jb, s, q⟩ := j
    have hsa := own_step n J a k
    have hsb := own_step n J b k
    rw [hjk] at hsa hsb
    have hla := own_lt (J := J) ha k
    have hlb := own_lt (J := J) hbn k
    have HM : Hid (ownAt n J a (k + 1) = ownAt n J b (k + 1) → farV n J len a b = q) := Lib.hid fun e => by
     rw [farV_merged HAB.out hkl ⟨hne.out, e⟩, hjk]
    obtain ⟨x, hx⟩ : ∃ x, ownAt n J a k = x := ⟨_, rfl⟩
    obtain ⟨y, hy⟩ : ∃ y, ownAt n J b k = y := ⟨_, rfl⟩
    obtain ⟨N, hN⟩ : ∃ N, n + k = N := ⟨_, rfl⟩
    have e1 : (n : Int) + (k : Int) = (N : Int) := by omega
    rw [hx, hN] at hsa
    rw [hy, hN] at hsb
    rw [hx, hy] at hne
    rw [hx, hN] at hla
    rw [hy, hN] at hlb
    rw [hx, hy]
    have hN1 : N ≤ n + k := by omega
    have HSA := Lib.hid hsa
    have HSB := Lib.hid hsb
    have HC := Lib.hid c0
    have HBW := Lib.hid hbw
    have hgw := c0.lt
    clear hbw c0 hat hj hjk hsa hsb hx hy hN
    have r0 : ¬ x = y := hne.out
    have r1 : (x == y) = false := by simpa using r0
    have n1 : ¬ (N : Int) = y := by omega
    have n2 : ((N : Int) == y) = false := by simpa using n1
    have n3 : ¬ x = (N : Int) := by omega
    have n4 : (x == (N : Int)) = false := by simpa using n3
    go_upto_region 5 with fail
    go_cut [10, 11] (fun v p wc => v = .int .i64 (k : Int) ∧ ∃ gj, p = .pointer (some ⟨gj, 0, none⟩) ∧ Blk wc gj 58 (jA ⟨ja, jb, s, q⟩) ∧ g8 ≠ gj ∧ Blk wc g8 56 #[.bool false, .int .u64 0, .string ⟨#[]⟩, .int .u64 0, .string ⟨#[]⟩] ∧ Below w.heap.size w wc)
    case first =>
     go_wp2
     go_meet
     (with_reducible refine ⟨rfl, wr.heap.size, rfl, Blk.new _ _ _, by omega, ?_, ?_⟩)
     ·exact HC.out.alloc _
     ·exact bthen HBW.out (balloc1 _ _)
    case rest =>
     obtain ⟨rfl, gj, rfl, hbj, hgj, c0, hbw⟩ := hcut
     clear x0 x1 x2 x3 x4 x5 x6 x7 HC HBW
     have hbj : Blk _ gj 58 #[.int .i64 ja, .int .i64 jb, .int .i64 s, .bool (decide (q.num < 0)), .int .u64 (lo q.num.natAbs : Int), .string (mo q.num.natAbs), .int .u64 (lo ((qden q)) : Int), .string (mo ((qden q)))] := hbj
     obtain ⟨x0, x1, x2, x3, x4, x5, x6, x7⟩ := hbj.c8
     have HC := Lib.hid c0
     have HBW := Lib.hid hbw
     clear hbj c0 hbw
     by_cases hxa : x = ja
     ·have xa1 : (x == ja) = true := by simpa using hxa
      have xm := Lib.hid (HSA.out.trans (if_pos (Or.inl hxa)))
      have hxa := Lib.hid hxa
      by_cases hya : y = ja
      ·have ya1 : (y == ja) = true := by simpa using hya
       have ym := Lib.hid (HSB.out.trans (if_pos (Or.inl hya)))
       have hya := Lib.hid hya
       exact absurd (hxa.out.trans hya.out.symm) hne.out
      ·have ya1 : (y == ja) = false := by simpa using hya
       by_cases hyb : y = jb
       ·have yb1 : (y == jb) = true := by simpa using hyb
        have ym := Lib.hid (HSB.out.trans (if_pos (Or.inr hyb)))
        have hyb := Lib.hid hyb
        have HV := Lib.hid (HM.out (xm.out.trans ym.out.symm))
        have c0 := HC.out
        obtain ⟨c0q0, c0q1, c0q2, c0q3, c0q4, c0f0, c0f1, c0f2, c0f3, c0f4, c0s0, c0s1, c0s2, c0s3, c0s4⟩ := c0.f5
        have ng : ¬ g8 = gj := hgj
        have ng2 : ¬ gj = g8 := fun e => hgj e.symm
        clear xm ym HM HC
        go_wp2
        refine bodyPost_ret (v := .tuple #[.agg #[.bool (decide (q.num < 0)), .int .u64 (lo q.num.natAbs : Int), .string (mo q.num.natAbs), .int .u64 (lo ((qden q)) : Int), .string (mo ((qden q)))], .int .i64 0]) (by simp [results, Tryz.results30, go_sem, c0s0, c0s1, c0s2, c0s3, c0s4]) rfl ?_
        exact ⟨by rw [HV.out]; rfl, bset5 HBW.out hg8' _ _ _ _ _⟩
       ·have yb1 : (y == jb) = false := by simpa using hyb
        have ym := Lib.hid (HSB.out.trans (if_neg (fun e => e.elim hya hyb)))
        have HNE := Lib.hid (show ownAt n J a (k + 1) ≠ ownAt n J b (k + 1) from by rw [xm.out, ym.out]; exact n1)
        go_wp2
        exact ⟨⟨k + 1, by omega, by rw [xm.out], by rw [ym.out], by go_num, HNE, HC.out, HBW.out⟩, by simp [intOf]; omega⟩
     ·have xa1 : (x == ja) = false := by simpa using hxa
      by_cases hxb : x = jb
      ·have xb1 : (x == jb) = true := by simpa using hxb
       have xm := Lib.hid (HSA.out.trans (if_pos (Or.inr hxb)))
       have hxb := Lib.hid hxb
       by_cases hya : y = ja
       ·have ya1 : (y == ja) = true := by simpa using hya
        have ym := Lib.hid (HSB.out.trans (if_pos (Or.inl hya)))
        have hya := Lib.hid hya
        have HV := Lib.hid (HM.out (xm.out.trans ym.out.symm))
        have c0 := HC.out
        obtain ⟨c0q0, c0q1, c0q2, c0q3, c0q4, c0f0, c0f1, c0f2, c0f3, c0f4, c0s0, c0s1, c0s2, c0s3, c0s4⟩ := c0.f5
        have ng : ¬ g8 = gj := hgj
        have ng2 : ¬ gj = g8 := fun e => hgj e.symm
        clear xm ym HM HC
        go_wp2
        refine bodyPost_ret (v := .tuple #[.agg #[.bool (decide (q.num < 0)), .int .u64 (lo q.num.natAbs : Int), .string (mo q.num.natAbs), .int .u64 (lo ((qden q)) : Int), .string (mo ((qden q)))], .int .i64 0]) (by simp [results, Tryz.results30, go_sem, c0s0, c0s1, c0s2, c0s3, c0s4]) rfl ?_
        exact ⟨by rw [HV.out]; rfl, bset5 HBW.out hg8' _ _ _ _ _⟩
       ·have ya1 : (y == ja) = false := by simpa using hya
        by_cases hyb : y = jb
        ·have yb1 : (y == jb) = true := by simpa using hyb
         have ym := Lib.hid (HSB.out.trans (if_pos (Or.inr hyb)))
         have hyb := Lib.hid hyb
         exact absurd (hxb.out.trans hyb.out.symm) hne.out
        ·have yb1 : (y == jb) = false := by simpa using hyb
         have ym := Lib.hid (HSB.out.trans (if_neg (fun e => e.elim hya hyb)))
         have HNE := Lib.hid (show ownAt n J a (k + 1) ≠ ownAt n J b (k + 1) from by rw [xm.out, ym.out]; exact n1)
         go_wp2
         exact ⟨⟨k + 1, by omega, by rw [xm.out], by rw [ym.out], by go_num, HNE, HC.out, HBW.out⟩, by simp [intOf]; omega⟩
      ·have xb1 : (x == jb) = false := by simpa using hxb
       have xm := Lib.hid (HSA.out.trans (if_neg (fun e => e.elim hxa hxb)))
       by_cases hya : y = ja
       ·have ya1 : (y == ja) = true := by simpa using hya
        have ym := Lib.hid (HSB.out.trans (if_pos (Or.inl hya)))
        have hya := Lib.hid hya
        have HNE := Lib.hid (show ownAt n J a (k + 1) ≠ ownAt n J b (k + 1) from by rw [xm.out, ym.out]; exact n3)
        go_wp2
        exact ⟨⟨k + 1, by omega, by rw [xm.out], by rw [ym.out], by go_num, HNE, HC.out, HBW.out⟩, by simp [intOf]; omega⟩
       ·have ya1 : (y == ja) = false := by simpa using hya
        by_cases hyb : y = jb
        ·have yb1 : (y == jb) = true := by simpa using hyb
         have ym := Lib.hid (HSB.out.trans (if_pos (Or.inr hyb)))
         have hyb := Lib.hid hyb
         have HNE := Lib.hid (show ownAt n J a (k + 1) ≠ ownAt n J b (k + 1) from by rw [xm.out, ym.out]; exact n3)
         go_wp2
         exact ⟨⟨k + 1, by omega, by rw [xm.out], by rw [ym.out], by go_num, HNE, HC.out, HBW.out⟩, by simp [intOf]; omega⟩
        ·have yb1 : (y == jb) = false := by simpa using hyb
         have ym := Lib.hid (HSB.out.trans (if_neg (fun e => e.elim hya hyb)))
         have HNE := Lib.hid (show ownAt n J a (k + 1) ≠ ownAt n J b (k + 1) from by rw [xm.out, ym.out]; exact r0)
         go_wp2
         exact ⟨⟨k + 1, by omega, by rw [xm.out], by rw [ym.out], by go_num, HNE, HC.out, HBW.out⟩, by simp [intOf]; omega⟩
   ·obtain rfl : k = len := by omega
    have p0 : ¬ (k : Int) < (k : Int) := by omega
    have HV := Lib.hid (farV_never k hne.out)
    have HBW := Lib.hid hbw
    clear hbw
    generalize ownAt n J a k = x at *
    generalize ownAt n J b k = y at *
    obtain ⟨c0q0, c0q1, c0q2, c0q3, c0q4, c0f0, c0f1, c0f2, c0f3, c0f4, c0s0, c0s1, c0s2, c0s3, c0s4⟩ := c0.f5
    go_wp2
    refine bodyPost_ret (v := .tuple #[.agg #[.bool false, .int .u64 0, .string ⟨#[]⟩, .int .u64 0, .string ⟨#[]⟩], .int .i64 0]) (by simp [results, Tryz.results30, go_sem, c0s0, c0s1, c0s2, c0s3, c0s4]) rfl ?_
    exact ⟨by rw [HV.out]; rfl, bset5 HBW.out hg8' _ _ _ _ _⟩
theorem farGo_in {n : Nat} {J : Nat → Jn} {a b : Nat} {q : Rat} : ∀ k, farGo n J a b k = some q → ∃ i, i < k ∧ q = (J i).high := by
 intro k
 induction k with
 | zero => intro h; cases h
 | succ k ih =>
  intro h
  unfold farGo at h
  cases h2 : farGo n J a b k with
  | some x =>
   rw [h2] at h
   obtain ⟨i, h3, h4⟩ := ih (by rw [h2]; exact h)
   exact ⟨i, by omega, h4⟩
  | none =>
   rw [h2] at h
   have h : (if ownAt n J a (k + 1) = ownAt n J b (k + 1) then some (J k).high else none) = some q := h
   split at h
   ·exact ⟨k, by omega, (Option.some.inj h).symm⟩
   ·cases h
theorem farV_size {n len m : Nat} {J : Nat → Jn} {a b : Nat} (h : ∀ i, i < len → QS m (J i).high) : QS (m + 1) (farV n J len a b) := by
 unfold farV
 split
 ·exact QS.zero _ (by omega)
 ·cases h2 : farGo n J a b len with
  | none => exact QS.zero _ (by omega)
  | some q =>
   obtain ⟨i, h3, rfl⟩ := farGo_in len h2
   exact (h i h3).mono (by omega)
theorem lj_far {f : List (List Rat)} {how : Nat} {l : List Jn} (h : LJ f how l) (a b : Nat) : farV f.length (fun i => l.getD i default) l.length a b = farB how f a b ∧ QS 5529 (farB how f a b) := by
 have e : farV f.length (fun i => l.getD i default) l.length a b = farB how f a b := by
  have hl := h.len
  unfold farB
  rw [show l.length = f.length - 1 by omega]
  exact farV_congr fun i hi => h.at_ i (by omega)
 refine ⟨e, ?_⟩
 rw [← e]
 refine farV_size fun i hi => (h.jb _ ?_).high
 rw [List.getD_eq_getElem?_getD, List.getElem?_eq_getElem hi]
 exact List.getElem_mem hi
theorem lj_walk {f : List (List Rat)} {how m nj c4 : Nat} {A4 : Option Addr} {l : List Jn} {w1 : World} (h : LJ f how l) (ho : OwnJ w1 (.slice A4 nj c4) l) (hT : Tab w1) (hm : f.length = m) (hm7 : m ≤ 7) (a b : Nat) (ha : a < m) (hb : b < m) :
  ∀ w', Below w1.heap.size w1 w' → Calls Tryz.prog 30 #[.int .i64 (m : Int), .slice A4 nj c4, .int .i64 (a : Int), .int .i64 (b : Int)] w' (Ret (.tuple #[qV (farB how f a b), .int .i64 0]) w') := by
 intro w' hb'
 have hl := h.len
 have hnj : nj = l.length := by
  obtain ⟨A', c', h4, -⟩ := OwnW.form ho
  injection h4
 have hw := link_far A4 m nj c4 5528 l a b w' (OwnW.next ho hb') (by omega) (by omega) (by omega) h.jb (hT.next hb') (by rw [← hm]; exact h.fine) (by omega) ha hb
 rw [← hm, hnj, (lj_far h a b).1] at hw
 rw [hm] at hw
 rw [hnj]
 exact hw
end Go.Proofs.YtecnjlcfoobepaaGreatDoor
