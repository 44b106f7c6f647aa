import Derived.Test.YtecnjlcfoobepaaGreatDoorRefFine
import Derived.Test.YtecnjlcfoobepaaGreatDoorLinkGrp
namespace Go.Proofs.YtecnjlcfoobepaaGreatDoor
set_option maxRecDepth 100000
set_option maxHeartbeats 8000000
open Go.RowKit
set_option linter.all false
theorem Jjx {n : Nat} {J : Nat -> Jn} {a b : Nat} (k : Nat) (h : Jk n J a k ≠ Jk n J b k) : Zl n J a b k = none := by
 rcases Nat.eq_zero_or_pos k with h3 | h3
 ·subst h3; rfl
 exact Je5 k h3 h
theorem Jlj {n : Nat} {J : Nat -> Jn} {a b : Nat} (len : Nat) (h : Jk n J a len ≠ Jk n J b len) : Jax n J len a b = 0 := by
 unfold Jax
 rw [Jjx len h]
 split <;> rfl
theorem Jpn (A : Option Addr) (n len c M : Nat) (l : List Jn) (a b : Nat) (w : World) (h : OwnJ w (.slice A len c) l) (cC : 1 <= n) (hn : n <= 64) (hM : M <= 100000000) (hb : ∀ j ∈ l, JB M j) (hT : Tab w) (hf : Zk n l = true) (j8 : len <= 64) (ha : a < n) (jX : b < n) :
  Calls Tryz.prog 30 #[.int .i64 (n : Int), .slice A len c, .int .i64 (a : Int), .int .i64 (b : Int)] w (Ret (.tuple #[qV (Jax n (fun i => l.getD i default) len a b), .int .i64 0]) w) := by
 have dO : len = l.length := by
  obtain ⟨A', c', h4, -⟩ := OwnW.form h
  injection h4
 have j6 := fun w' (j7 : Below w.heap.size w w') => Yc A n len c M l w' (OwnW.next h j7) cC hn hM hb (hT.next j7)
 rw [hf] at j6
 have HFI := lh j6
 have HO := lh h
 have HLL := lh dO
 clear h j6 hb hT hf dO
 obtain ⟨J, hJ⟩ : ∃ J, (fun i => l.getD i default) = J := ⟨_, rfl⟩
 rw [hJ]
 have HJ : Hid (∀ k j, l[k]? = some j -> J k = j) := lh fun k j hj => by
  rw [<- hJ]
  show l.getD k default = j
  rw [List.getD_eq_getElem?_getD, hj]
  rfl
 clear hJ
 have q1 : ¬ (a : Int) < 0 := by omega
 have q2 : ¬ (n : Int) <= (a : Int) := by omega
 have q3 : ¬ (b : Int) < 0 := by omega
 have q4 : ¬ (n : Int) <= (b : Int) := by omega
 have b0 := Blk.new w 56 #[.bool false, .int .u64 0, .string ⟨#[]⟩, .int .u64 0, .string ⟨#[]⟩]
 have bH := Jb w (.cells #[.bool false, .int .u64 0, .string ⟨#[]⟩, .int .u64 0, .string ⟨#[]⟩] 56)
 obtain ⟨g8, cS⟩ : ∃ g8, w.heap.size = g8 := ⟨_, rfl⟩
 have gT : w.heap.size <= g8 := by omega
 go_enter Tryz.func30, Tryz.ntmps30
 go_upto_region 1 with fail
 go_cut [33] (fun v wc => v = .bool false /\ Blk wc g8 56 #[.bool false, .int .u64 0, .string ⟨#[]⟩, .int .u64 0, .string ⟨#[]⟩] /\ Below w.heap.size w wc)
 case first =>
  go_wp2_with fail
  refine (HFI.out _ (bH.mono zd)).mono ?_
  rintro e w1 ⟨rfl, j7⟩
  have b0 := b0.below j7 b0.lt
  have HB1 := lh (Ja bH j7)
  clear j7 bH HFI
  have HB0 := lh b0
  clear b0
  go_wp2
  go_meet
  exact ⟨by first | rfl | (congr 1; simp; omega), by rw [<- cS]; exact HB0.out, HB1.out⟩
 case rest =>
 obtain ⟨rfl, b0, jM⟩ := hcut
 rename World => w1
 have HB1 := lh jM
 clear jM HFI bH
 clear cS
 go_wp2_with fail
 by_cases iF : a = b
 ·subst iF
  have HV : Hid (Jax n J len a a = 0) := lh (if_pos rfl)
  go_loopw [2, 3, 37] (fun va vb p wr => va = .int .i64 (a : Int) /\ vb = .int .i64 (a : Int) /\ p = .int .i64 ((0 : Nat) : Int) /\ Blk wr g8 56 #[.bool false, .int .u64 0, .string ⟨#[]⟩, .int .u64 0, .string ⟨#[]⟩] /\ Below w.heap.size w wr) (fun _ _ p _ => len - (intOf p).toNat)
  case atStart => exact ⟨rfl, rfl, rfl, b0, HB1.out⟩
  case round =>
   obtain ⟨rfl, rfl, rfl, c0, gK⟩ := hrel
   clear b0 HB1
   rename World => wr
   by_cases h0 : 0 < len
   ·have p0 : ((0 : Nat) : Int) < (len : Int) := by omega
    obtain ⟨j, hj⟩ : ∃ j, l[0]? = some j := ⟨_, List.getElem?_eq_getElem (by have := HLL.out; omega)⟩
    obtain ⟨-, g1, jI⟩ := OwnJ.addr HO.out (by have := HLL.out; omega)
    subst jI
    have fB := OwnJ.at_ (OwnW.next HO.out gK) hj
    obtain ⟨x0, x1, x2, x3, x4, x5, x6, x7⟩ := fB.c8
    have HC := lh c0
    have HBW := lh gK
    clear gK c0 fB hj
    go_upto_region 5 with fail
    go_cut [] (fun wc => Blk wc g8 56 #[.bool false, .int .u64 0, .string ⟨#[]⟩, .int .u64 0, .string ⟨#[]⟩] /\ Below w.heap.size w wc)
    case first =>
     go_wp2
     go_meet
     exact ⟨HC.out.alloc _, Ja HBW.out (Jb _ _)⟩
    case rest =>
     obtain ⟨c0, gK⟩ := hcut
     clear x0 x1 x2 x3 x4 x5 x6 x7 HC HBW
     have HBW := lh gK
     clear gK
     obtain ⟨o5, s9, t7, t8, x8, fU, fV, fW, fX, fY, aK, aL, aM, aN, aO⟩ := c0.f5
     go_wp2
     refine bodyPost_ret (v := .tuple #[.agg #[.bool false, .int .u64 0, .string ⟨#[]⟩, .int .u64 0, .string ⟨#[]⟩], .int .i64 0]) (by simp [results, Tryz.results30, go_sem, aK, aL, aM, aN, aO]) rfl ?_
     exact ⟨by rw [HV.out]; rfl, Qy HBW.out gT _ _ _ _ _⟩
   have p0 : ¬ ((0 : Nat) : Int) < (len : Int) := by omega
   have HBW := lh gK
   clear gK
   obtain ⟨o5, s9, t7, t8, x8, fU, fV, fW, fX, fY, aK, aL, aM, aN, aO⟩ := c0.f5
   go_wp2
   refine bodyPost_ret (v := .tuple #[.agg #[.bool false, .int .u64 0, .string ⟨#[]⟩, .int .u64 0, .string ⟨#[]⟩], .int .i64 0]) (by simp [results, Tryz.results30, go_sem, aK, aL, aM, aN, aO]) rfl ?_
   exact ⟨by rw [HV.out]; rfl, Qy HBW.out gT _ _ _ _ _⟩
 have HAB := lh iF
 clear iF
 go_loopw [2, 3, 37] (fun va vb p wr => ∃ k : Nat, k <= len /\ va = .int .i64 (Jk n J a k) /\ vb = .int .i64 (Jk n J b k) /\ p = .int .i64 ((k : Nat) : Int) /\ Hid (Jk n J a k ≠ Jk n J b k) /\ Blk wr g8 56 #[.bool false, .int .u64 0, .string ⟨#[]⟩, .int .u64 0, .string ⟨#[]⟩] /\ Below w.heap.size w wr) (fun _ _ p _ => len - (intOf p).toNat)
 case atStart => exact ⟨0, by omega, rfl, rfl, rfl, lh (fun e => HAB.out (Int.natCast_inj.1 e)), b0, HB1.out⟩
 case round =>
  obtain ⟨k, hk, rfl, rfl, rfl, cP, c0, gK⟩ := hrel
  clear b0 HB1
  rename World => wr
  by_cases iM : k < len
  ·have p0 : (k : Int) < (len : Int) := by omega
   obtain ⟨j, hj⟩ : ∃ j, l[k]? = some j := ⟨_, List.getElem?_eq_getElem (by have := HLL.out; omega)⟩
   obtain ⟨-, g1, jI⟩ := OwnJ.addr HO.out (by have := HLL.out; omega)
   subst jI
   have fB := OwnJ.at_ (OwnW.next HO.out gK) hj
   have iB := HJ.out k j hj
   obtain ⟨x0, x1, x2, x3, x4, x5, x6, x7⟩ := fB.c8
   obtain ⟨ja, jb, s, q⟩ := j
   have iX := Jcc n J a k
   have iY := Jcc n J b k
   rw [iB] at iX iY
   have jY := Jhf (J := J) ha k
   have jZ := Jhf (J := J) jX k
   have HM : Hid (Jk n J a (k + 1) = Jk n J b (k + 1) -> Jax n J len a b = q) := lh fun e => by
    rw [Jjv HAB.out iM ⟨cP.out, e⟩, iB]
   obtain ⟨x, hx⟩ : ∃ x, Jk n J a k = x := ⟨_, rfl⟩
   obtain ⟨y, hy⟩ : ∃ y, Jk n J b k = y := ⟨_, rfl⟩
   obtain ⟨N, hN⟩ : ∃ N, n + k = N := ⟨_, rfl⟩
   have e1 : (n : Int) + (k : Int) = (N : Int) := by omega
   rw [hx, hN] at iX
   rw [hy, hN] at iY
   rw [hx, hy] at cP
   rw [hx, hN] at jY
   rw [hy, hN] at jZ
   rw [hx, hy]
   have kA : N <= n + k := by omega
   have HSA := lh iX
   have HSB := lh iY
   have HC := lh c0
   have HBW := lh gK
   have jN := c0.lt
   clear gK c0 fB hj iB iX iY hx hy hN
   have r0 : ¬ x = y := cP.out
   have r1 : (x == y) = false := by simpa using r0
   have n1 : ¬ (N : Int) = y := by omega
   have n2 : ((N : Int) == y) = false := by simpa using n1
   have n3 : ¬ x = (N : Int) := by omega
   have n4 : (x == (N : Int)) = false := by simpa using n3
   go_upto_region 5 with fail
   go_cut [10, 11] (fun v p wc => v = .int .i64 (k : Int) /\ ∃ gj, p = .pointer (some ⟨gj, 0, none⟩) /\ Blk wc gj 58 (jA ⟨ja, jb, s, q⟩) /\ g8 ≠ gj /\ Blk wc g8 56 #[.bool false, .int .u64 0, .string ⟨#[]⟩, .int .u64 0, .string ⟨#[]⟩] /\ Below w.heap.size w wc)
   case first =>
    go_wp2
    go_meet
    (with_reducible refine ⟨rfl, wr.heap.size, rfl, Blk.new _ _ _, by omega, ?_, ?_⟩)
    ·exact HC.out.alloc _
    exact Ja HBW.out (Jb _ _)
   case rest =>
    obtain ⟨rfl, gj, rfl, iZ, jB, c0, gK⟩ := hcut
    clear x0 x1 x2 x3 x4 x5 x6 x7 HC HBW
    have iZ : Blk _ gj 58 #[.int .i64 ja, .int .i64 jb, .int .i64 s, .bool (decide (q.num < 0)), .int .u64 (lo q.num.natAbs : Int), .string (mo q.num.natAbs), .int .u64 (lo ((qden q)) : Int), .string (mo ((qden q)))] := iZ
    obtain ⟨x0, x1, x2, x3, x4, x5, x6, x7⟩ := iZ.c8
    have HC := lh c0
    have HBW := lh gK
    clear iZ c0 gK
    by_cases gQ : x = ja
    ·have xa1 : (x == ja) = true := by simpa using gQ
     have xm := lh (HSA.out.trans (if_pos (Or.inl gQ)))
     have gQ := lh gQ
     by_cases gL : y = ja
     ·have ya1 : (y == ja) = true := by simpa using gL
      have ym := lh (HSB.out.trans (if_pos (Or.inl gL)))
      have gL := lh gL
      exact absurd (gQ.out.trans gL.out.symm) cP.out
     have ya1 : (y == ja) = false := by simpa using gL
     by_cases gM : y = jb
     ·have yb1 : (y == jb) = true := by simpa using gM
      have ym := lh (HSB.out.trans (if_pos (Or.inr gM)))
      have gM := lh gM
      have HV := lh (HM.out (xm.out.trans ym.out.symm))
      have c0 := HC.out
      obtain ⟨o5, s9, t7, t8, x8, fU, fV, fW, fX, fY, aK, aL, aM, aN, aO⟩ := c0.f5
      have ng : ¬ g8 = gj := jB
      have ng2 : ¬ gj = g8 := fun e => jB e.symm
      clear xm ym HM HC
      go_wp2
      refine bodyPost_ret (v := .tuple #[.agg #[.bool (decide (q.num < 0)), .int .u64 (lo q.num.natAbs : Int), .string (mo q.num.natAbs), .int .u64 (lo ((qden q)) : Int), .string (mo ((qden q)))], .int .i64 0]) (by simp [results, Tryz.results30, go_sem, aK, aL, aM, aN, aO]) rfl ?_
      exact ⟨by rw [HV.out]; rfl, Qy HBW.out gT _ _ _ _ _⟩
     have yb1 : (y == jb) = false := by simpa using gM
     have ym := lh (HSB.out.trans (if_neg (fun e => e.elim gL gM)))
     have HNE := lh (show Jk n J a (k + 1) ≠ Jk n J b (k + 1) from by rw [xm.out, ym.out]; exact n1)
     go_wp2
     exact ⟨⟨k + 1, by omega, by rw [xm.out], by rw [ym.out], by go_num, HNE, HC.out, HBW.out⟩, by simp [intOf]; omega⟩
    have xa1 : (x == ja) = false := by simpa using gQ
    by_cases iG : x = jb
    ·have xb1 : (x == jb) = true := by simpa using iG
     have xm := lh (HSA.out.trans (if_pos (Or.inr iG)))
     have iG := lh iG
     by_cases gL : y = ja
     ·have ya1 : (y == ja) = true := by simpa using gL
      have ym := lh (HSB.out.trans (if_pos (Or.inl gL)))
      have gL := lh gL
      have HV := lh (HM.out (xm.out.trans ym.out.symm))
      have c0 := HC.out
      obtain ⟨o5, s9, t7, t8, x8, fU, fV, fW, fX, fY, aK, aL, aM, aN, aO⟩ := c0.f5
      have ng : ¬ g8 = gj := jB
      have ng2 : ¬ gj = g8 := fun e => jB e.symm
      clear xm ym HM HC
      go_wp2
      refine bodyPost_ret (v := .tuple #[.agg #[.bool (decide (q.num < 0)), .int .u64 (lo q.num.natAbs : Int), .string (mo q.num.natAbs), .int .u64 (lo ((qden q)) : Int), .string (mo ((qden q)))], .int .i64 0]) (by simp [results, Tryz.results30, go_sem, aK, aL, aM, aN, aO]) rfl ?_
      exact ⟨by rw [HV.out]; rfl, Qy HBW.out gT _ _ _ _ _⟩
     have ya1 : (y == ja) = false := by simpa using gL
     by_cases gM : y = jb
     ·have yb1 : (y == jb) = true := by simpa using gM
      have ym := lh (HSB.out.trans (if_pos (Or.inr gM)))
      have gM := lh gM
      exact absurd (iG.out.trans gM.out.symm) cP.out
     have yb1 : (y == jb) = false := by simpa using gM
     have ym := lh (HSB.out.trans (if_neg (fun e => e.elim gL gM)))
     have HNE := lh (show Jk n J a (k + 1) ≠ Jk n J b (k + 1) from by rw [xm.out, ym.out]; exact n1)
     go_wp2
     exact ⟨⟨k + 1, by omega, by rw [xm.out], by rw [ym.out], by go_num, HNE, HC.out, HBW.out⟩, by simp [intOf]; omega⟩
    have xb1 : (x == jb) = false := by simpa using iG
    have xm := lh (HSA.out.trans (if_neg (fun e => e.elim gQ iG)))
    by_cases gL : y = ja
    ·have ya1 : (y == ja) = true := by simpa using gL
     have ym := lh (HSB.out.trans (if_pos (Or.inl gL)))
     have gL := lh gL
     have HNE := lh (show Jk n J a (k + 1) ≠ Jk n J b (k + 1) from by rw [xm.out, ym.out]; exact n3)
     go_wp2
     exact ⟨⟨k + 1, by omega, by rw [xm.out], by rw [ym.out], by go_num, HNE, HC.out, HBW.out⟩, by simp [intOf]; omega⟩
    have ya1 : (y == ja) = false := by simpa using gL
    by_cases gM : y = jb
    ·have yb1 : (y == jb) = true := by simpa using gM
     have ym := lh (HSB.out.trans (if_pos (Or.inr gM)))
     have gM := lh gM
     have HNE := lh (show Jk n J a (k + 1) ≠ Jk n J b (k + 1) from by rw [xm.out, ym.out]; exact n3)
     go_wp2
     exact ⟨⟨k + 1, by omega, by rw [xm.out], by rw [ym.out], by go_num, HNE, HC.out, HBW.out⟩, by simp [intOf]; omega⟩
    have yb1 : (y == jb) = false := by simpa using gM
    have ym := lh (HSB.out.trans (if_neg (fun e => e.elim gL gM)))
    have HNE := lh (show Jk n J a (k + 1) ≠ Jk n J b (k + 1) from by rw [xm.out, ym.out]; exact r0)
    go_wp2
    exact ⟨⟨k + 1, by omega, by rw [xm.out], by rw [ym.out], by go_num, HNE, HC.out, HBW.out⟩, by simp [intOf]; omega⟩
  obtain rfl : k = len := by omega
  have p0 : ¬ (k : Int) < (k : Int) := by omega
  have HV := lh (Jlj k cP.out)
  have HBW := lh gK
  clear gK
  generalize Jk n J a k = x at *
  generalize Jk n J b k = y at *
  obtain ⟨o5, s9, t7, t8, x8, fU, fV, fW, fX, fY, aK, aL, aM, aN, aO⟩ := c0.f5
  go_wp2
  refine bodyPost_ret (v := .tuple #[.agg #[.bool false, .int .u64 0, .string ⟨#[]⟩, .int .u64 0, .string ⟨#[]⟩], .int .i64 0]) (by simp [results, Tryz.results30, go_sem, aK, aL, aM, aN, aO]) rfl ?_
  exact ⟨by rw [HV.out]; rfl, Qy HBW.out gT _ _ _ _ _⟩
theorem Jqc {n : Nat} {J : Nat -> Jn} {a b : Nat} {q : Rat} : ∀ k, Zl n J a b k = some q -> ∃ i, i < k /\ q = (J i).high := by
 intro k
 induction k with
 | zero => intro h; cases h
 | succ k ih =>
  intro h
  unfold Zl at h
  cases h2 : Zl n J a b k with
  | some x =>
   rw [h2] at h
   obtain ⟨i, h3, h4⟩ := ih (by rw [h2]; exact h)
   exact ⟨i, by omega, h4⟩
  | none =>
   rw [h2] at h
   have h : (if Jk n J a (k + 1) = Jk n J b (k + 1) then some (J k).high else none) = some q := h
   split at h
   ·exact ⟨k, by omega, (Option.some.inj h).symm⟩
   cases h
structure S3 (w : World) (gs : Nat) (vs vo : Value) (ls lo lw : List Int) (n : Nat) (wr : World) : Prop where
 seen : Own wr 3 zi vs ls
 out : Own wr 3 zi vo lo
 own : Own wr 3 zi (.slice (some ⟨gs, 0, none⟩) n n) lw
 fs : ∀ b, vs.ownBlock = some b -> gs + 1 <= b
 fo : ∀ b, vo.ownBlock = some b -> gs + 1 <= b
 ne : ∀ b, vs.ownBlock = some b -> vo.ownBlock ≠ some b
 hg : w.heap.size <= gs
 below : Below w.heap.size w wr
theorem S3.next {w : World} {gs : Nat} {vs vo : Value} {ls lo lw : List Int} {n : Nat} {wr w1 : World} (h : S3 w gs vs vo ls lo lw n wr) (hb : Below wr.heap.size wr w1) : S3 w gs vs vo ls lo lw n w1 :=
 ⟨h.seen.below hb h.seen.lt, h.out.below hb h.out.lt, h.own.below hb h.own.lt, h.fs, h.fo, h.ne, h.hg, h.below.trans (hb.mono h.below.size)⟩
theorem S3.addS {w : World} {gs : Nat} {vs vo vs' : Value} {ls lo lw ls' : List Int} {n : Nat} {wr w1 : World} (h : S3 w gs vs vo ls lo lw n wr) (gN : Grew wr w1 vs vs') (ho : Own w1 3 zi vs' ls') : S3 w gs vs' vo ls' lo lw n w1 := by
 have jN := h.own.lt gs rfl
 refine ⟨ho, h.out.kept gN (fun k hk e => h.ne k e hk), h.own.kept gN (fun k hk e => ?_), Kx gN h.fs (by omega), h.fo, fun b hb e => ?_, h.hg, ?_⟩
 ·have hk : some gs = some k := hk
  injection hk with hk
  have := h.fs k e
  omega
 ·rcases gN.own b hb with h1 | h1
  ·exact h.ne b h1 e
  have := h.out.lt b e
  omega
 exact h.below.trans (gN.below h.below.size (fun k hk => by have := h.fs k hk; have := h.hg; omega))
theorem S3.addO {w : World} {gs : Nat} {vs vo vo' : Value} {ls lo lw lo' : List Int} {n : Nat} {wr w1 : World} (h : S3 w gs vs vo ls lo lw n wr) (gN : Grew wr w1 vo vo') (ho : Own w1 3 zi vo' lo') : S3 w gs vs vo' ls lo' lw n w1 := by
 have jN := h.own.lt gs rfl
 refine ⟨h.seen.kept gN (fun k hk e => h.ne k hk e), ho, h.own.kept gN (fun k hk e => ?_), h.fs, Kx gN h.fo (by omega), fun b hb e => ?_, h.hg, ?_⟩
 ·have hk : some gs = some k := hk
  injection hk with hk
  have := h.fo k e
  omega
 ·rcases gN.own b e with h1 | h1
  ·exact h.ne b hb h1
  have := h.seen.lt b hb
  omega
 exact h.below.trans (gN.below h.below.size (fun k hk => by have := h.fo k hk; have := h.hg; omega))
theorem Jkf {g : Nat -> Int} {r : Nat} {d : Nat} (h : Yo g r = d) : (List.range (r + 1)).map (Xq g) = (List.range r).map (Xq g) ++ [(d : Int)] := by
 rw [List.range_succ, List.map_append]
 simp [Xq, h]
theorem Jdr {x : Int} : ∀ {l : List Int} {j : Nat} (h : j < l.length), l[j] = x -> l.idxOf x <= j := by
 intro l
 induction l with
 | nil => intro j h; exact absurd h (by simp)
 | cons a l ih =>
  intro j h e
  by_cases ha : a = x
  ·subst ha; simp
  rw [List.idxOf_cons, show (a == x) = false by simpa using ha]
  show List.idxOf x l + 1 <= j
  match j, h, e with
  | 0, h, e => exact absurd e ha
  | j + 1, h, e => exact Nat.succ_le_succ (ih (by simpa using h) (by simpa using e))
theorem Jal (A : Option Addr) (n len c B : Nat) (l : List Jn) (K : Nat) (w : World) (h : ReadsJR w B A len l) (hB : B <= w.heap.size) (cC : 1 <= n) (hn : n <= 64) (j8 : len <= 64) (hK : K <= len) :
  Calls Tryz.prog 51 #[.int .i64 (n : Int), .slice A len c, .int .i64 (K : Int)] w fun e w' => ∃ A' c', e = .returned (.slice A' n c') /\ Own w' 3 zi (.slice A' n c') (Qn n (fun i => l.getD i default) K) /\ (∀ b, (Value.slice A' n c').ownBlock = some b -> w.heap.size <= b) /\ Below w.heap.size w w' := by
 have dO : l.length = len := h.len
 have H := lh h
 have HLL := lh dO
 clear h dO
 obtain ⟨J, hJ⟩ : ∃ J, (fun i => l.getD i default) = J := ⟨_, rfl⟩
 rw [hJ]
 have HJ : Hid (∀ k j, l[k]? = some j -> J k = j) := lh fun k j hj => by
  rw [<- hJ]
  show l.getD k default = j
  rw [List.getD_eq_getElem?_getD, hj]
  rfl
 clear hJ
 obtain ⟨w1, eZ, jD, j7⟩ := Jap (P := Tryz.prog) zi 0 22 3 8 (Tryz.eltIntR).under (Tryz.eltIntR).info rfl n n zd (by omega) (by unfold maxLen; omega) w
 obtain ⟨gs, jO⟩ : ∃ gs, w.heap.size = gs := ⟨_, rfl⟩
 have iH : w.heap.size <= gs := by omega
 rw [jO] at eZ jD
 have iN : List.replicate n (0 : Int) = Xl n (fun i => (i : Int)) (fun _ => 0) 0 := by
  rw [Ky]
  exact List.ext_getElem (by simp) fun a h1 h2 => by simp
 rw [iN] at jD
 have HO1 := lh jD
 have HB1 := lh j7
 clear jD j7 jO iN
 go_enter Tryz.func51, Tryz.ntmps51
 go_wp2_with fail
 clear eZ
 go_loopw [8] (fun p wr => ∃ i : Nat, i <= n /\ p = .int .i64 (i : Int) /\ Own wr 3 zi (.slice (some ⟨gs, 0, none⟩) n n) (Xl n (fun i => (i : Int)) (fun _ => 0) i) /\ Below w.heap.size w wr) (fun p _ => n - (intOf p).toNat)
 case atStart => exact ⟨0, by omega, rfl, HO1.out, HB1.out⟩
 case round =>
  obtain ⟨i, hi, rfl, ho, gK⟩ := hrel
  rename World => wr
  clear HO1 HB1
  by_cases jJ : i < n
  ·have q4 : (i : Int) < (n : Int) := by omega
   have jE := ho.putc i (i : Int)
   have kB := ho.frozenc i
   have eB := Own.cellf (by rw [Kq]; exact ho) (Vh jJ)
   rw [Kp rfl] at jE
   unfold zi at jE eB
   have HST := lh jE
   have HBW := lh gK
   clear ho gK jE
   go_wp2
   exact ⟨⟨i + 1, by omega, by go_num, HST.out, HBW.out.setCell iH _⟩, by simp [intOf]; omega⟩
  obtain rfl : i = n := by omega
  have q4 : ¬ (i : Int) < (i : Int) := by omega
  rw [Kz] at ho
  have ho : Own wr 3 zi (.slice (some ⟨gs, 0, none⟩) i i) (Jem i J 0) := ho
  have HO1 := lh ho
  have HB1 := lh gK
  clear ho gK
  go_wp2_with fail
  clear q4
  go_loopw [9] (fun p wr => ∃ k : Nat, k <= K /\ p = .int .i64 ((k : Nat) : Int) /\ Own wr 3 zi (.slice (some ⟨gs, 0, none⟩) i i) (Jem i J k) /\ Below w.heap.size w wr) (fun p _ => K - (intOf p).toNat)
  case atStart => exact ⟨0, by omega, rfl, HO1.out, HB1.out⟩
  case round =>
   obtain ⟨k, hk, rfl, ho, gK⟩ := hrel
   rename World => wr
   clear HO1 HB1
   by_cases iM : k < K
   ·have p0 : (k : Int) < (K : Int) := by omega
    have p3 : (k : Int) < (len : Int) := by omega
    obtain ⟨j, hj⟩ : ∃ j, l[k]? = some j := ⟨_, List.getElem?_eq_getElem (by have := HLL.out; omega)⟩
    have iB := HJ.out k j hj
    have hz : Jem i J k = Xl i (fun r => Jk i J r (k + 1)) (fun r => Jk i J r k) 0 := (Ky _ _ _).symm
    rw [hz] at ho
    have HC := lh ho
    have HBW := lh gK
    have HJK := lh iB
    have HJ2 := lh hj
    clear ho gK hz hj iB
    obtain ⟨N, hN⟩ : ∃ N, i + k = N := ⟨_, rfl⟩
    have e1 : (i : Int) + (k : Int) = (N : Int) := by omega
    have HN := lh hN
    have kA : N <= i + k := by omega
    clear hN
    have ew : IntKind.i64.wrap (N : Int) = (N : Int) := IntWalk.i64_in _ (by omega)
    go_wp2_with fail
    go_loopw [10] (fun p wr => ∃ r : Nat, r <= i /\ p = .int .i64 ((r : Nat) : Int) /\ Own wr 3 zi (.slice (some ⟨gs, 0, none⟩) i i) (Xl i (fun r => Jk i J r (k + 1)) (fun r => Jk i J r k) r) /\ Below w.heap.size w wr) (fun p _ => i - (intOf p).toNat)
    case atStart => exact ⟨0, by omega, rfl, HC.out, HBW.out⟩
    case round =>
     obtain ⟨r, hr, rfl, ho, gK⟩ := hrel
     rename World => wd
     clear HC HBW
     by_cases jF : r < i
     ·have p1 : (r : Int) < (i : Int) := by omega
      obtain ⟨ad, g1, o1, jr, rfl, hP, fD, fB, bU⟩ := (H.out.below (gK.mono hB)).at_ HJ2.out
      obtain ⟨x0, x1, x2, x3, x4, x5⟩ := fB.c6
      have eB := Own.cellf (by rw [Kq]; exact ho) (Vh (r := fun r => Jk i J r (k + 1)) (z := fun r => Jk i J r k) jF)
      have hs := Jcc i J r k
      rw [HJK.out, HN.out, <- bU.a, <- bU.b] at hs
      obtain ⟨ja, jb, js, jq⟩ := jr
      simp only [] at hs x0 x1 x2 x3 x4 x5
      unfold zi at eB
      obtain ⟨x, hx⟩ : ∃ x, Jk i J r k = x := ⟨_, rfl⟩
      rw [hx] at eB hs
      have gR := At1.mk' eB
      have HX := lh hx
      have HS := lh hs
      have HC := lh ho
      have HBW := lh gK
      clear ho gK fB hx hs bU
      have iO : ∀ we, Below wd.heap.size wd we -> Jk i J r (k + 1) = (N : Int) -> Own (we.setCell ⟨gs, r, none⟩ (.int .i64 (N : Int))) 3 zi (.slice (some ⟨gs, 0, none⟩) i i) (Xl i (fun r => Jk i J r (k + 1)) (fun r => Jk i J r k) (r + 1)) := fun we hb e => by
       have := (HC.out.below hb HC.out.lt).putc r (N : Int)
       rw [Kp (r := fun r => Jk i J r (k + 1)) e] at this
       exact this
      have HPUT := lh iO
      clear iO
      go_upto_region 12 with fail
      by_cases gO : x = ja \/ x = jb
      ·have HS2 := lh (HS.out.trans (if_pos gO))
       go_cut [57] from 36 to 57 (fun v we => v = .bool true /\ Below wd.heap.size wd we)
       case first =>
        by_cases gQ : x = ja
        ·have f1 : (x == ja) = true := by simpa using gQ
         clear gO gQ
         go_region
         all_goals
          go_wp2
          go_meet
          exact ⟨rfl, by first | exact Jf _ | exact Below.refl _ _⟩
        have f1 : (x == ja) = false := by simpa using gQ
        have f2 : (x == jb) = true := by simpa using gO.resolve_left gQ
        clear gO gQ
        go_region
        all_goals
         go_wp2
         go_meet
         exact ⟨rfl, by first | exact Jf _ | exact Below.refl _ _⟩
       case rest =>
        obtain ⟨rfl, gP⟩ := hcut
        rename World => we
        have kB := (HC.out.below gP HC.out.lt).frozenc r
        have gR := (gR.below gP gR.lt)
        obtain ⟨y0, -⟩ := gR.c2
        have HPE := lh (HPUT.out we gP HS2.out)
        have HBE := lh (HBW.out.trans (gP.mono HBW.out.size))
        clear gP x0 x1 x2 x3 x4 x5 eB HC HBW
        go_wp2
        exact ⟨⟨r + 1, by omega, by go_num, HPE.out, HBE.out.setCell iH _⟩, by simp [intOf]; omega⟩
      have HS2 := lh (HS.out.trans (if_neg gO))
      have f1 : (x == ja) = false := by simpa using fun e => gO (.inl e)
      have f2 : (x == jb) = false := by simpa using fun e => gO (.inr e)
      go_cut [57] from 36 to 57 (fun v we => v = .bool false /\ Below wd.heap.size wd we)
      case first =>
       clear gO
       go_region
       all_goals
        go_wp2
        go_meet
        exact ⟨rfl, by first | exact Jf _ | exact Below.refl _ _⟩
      case rest =>
       obtain ⟨rfl, gP⟩ := hcut
       rename World => we
       have HCE := lh (HC.out.below gP HC.out.lt)
       have HBE := lh (HBW.out.trans (gP.mono HBW.out.size))
       clear gP x0 x1 x2 x3 x4 x5 eB HC HBW
       go_wp2
       exact ⟨⟨r + 1, by omega, by go_num, by rw [<- Je2 (r := fun r => Jk i J r (k + 1)) (z := fun r => Jk i J r k) (HS2.out.trans HX.out.symm)]; exact HCE.out, HBE.out⟩, by simp [intOf]; omega⟩
     obtain rfl : r = i := by omega
     have p1 : ¬ (r : Int) < (r : Int) := by omega
     rw [Kz] at ho
     have HC := lh ho
     have HBW := lh gK
     clear ho gK
     go_wp2
     exact ⟨⟨k + 1, by omega, by go_num, HC.out, HBW.out⟩, by simp [intOf]; omega⟩
   obtain rfl : k = K := by omega
   have p0 : ¬ (k : Int) < (k : Int) := by omega
   obtain ⟨g, hg⟩ : ∃ g, (fun r => Jk i J r k) = g := ⟨_, rfl⟩
   have hz : Jem i J k = (List.range i).map g := by unfold Jem; rw [hg]
   rw [hz] at ho
   have HGZ : Hid (Qn i J k = (List.range i).map (Xq g)) := lh (by unfold Qn; rw [hg])
   have HS3 : Hid (S3 w gs (.slice none 0 0) (.slice none 0 0) (Jy g 0) ((List.range 0).map (Xq g)) ((List.range i).map g) i wr) := lh ⟨Own.nil_ _ _ _, Own.nil_ _ _ _, ho, fun b hb => (by cases hb), fun b hb => (by cases hb), fun b hb => (by cases hb), iH, gK⟩
   clear ho gK hz hg
   go_wp2_with fail
   go_loopw [11, 12, 13] (fun vo vs p wr => ∃ r : Nat, r <= i /\ p = .int .i64 ((r : Nat) : Int) /\ S3 w gs vs vo (Jy g r) ((List.range r).map (Xq g)) ((List.range i).map g) i wr) (fun _ _ p _ => i - (intOf p).toNat)
   case atStart => exact ⟨0, by omega, rfl, HS3.out⟩
   case round =>
    obtain ⟨r, hr, rfl, iC⟩ := hrel
    rename World => wd
    clear HS3 p0
    by_cases jF : r < i
    ·have p1 : (r : Int) < (i : Int) := by omega
     have eB := Own.cellf (by rw [List.length_map, List.length_range]; exact iC.own) (show ((List.range i).map g)[r]? = some (g r) by rw [List.getElem?_map, List.getElem?_range jF]; rfl)
     unfold zi at eB
     have gR := At1.mk' eB
     have iP := iC.seen
     obtain ⟨As, cs, jP, -⟩ := Own.form iP
     have kC := Jdg g r
     obtain ⟨sn, jQ⟩ : ∃ sn, Jy g r = sn := ⟨_, rfl⟩
     have h1 := @Jl6 g r
     have h2 := @Jio g r
     have aX : Yo g r = (Jy g r).idxOf (g r) := rfl
     have jR := @Jkf g r
     rw [jQ] at jP iP kC h1 h2 aX iC
     subst jP
     obtain ⟨m, hm⟩ : ∃ m, sn.length = m := ⟨_, rfl⟩
     obtain ⟨x, hx⟩ : ∃ x, g r = x := ⟨_, rfl⟩
     rw [hx] at eB h1 h2 aX gR
     obtain ⟨d, hd⟩ : ∃ d, sn.idxOf x = d := ⟨_, rfl⟩
     rw [hd] at aX
     have kF : d <= m := by rw [<- hd, <- hm]; exact List.idxOf_le_length
     have kD : m <= 64 := by omega
     have fB : ∀ j, j < m -> ∃ y, sn[j]? = some y /\ (j < d -> y ≠ x) /\ (j = d -> y = x) := fun j hj => by
      refine ⟨sn[j]'(by omega), List.getElem?_eq_getElem (by omega), fun iI e => ?_, fun iI => ?_⟩
      ·have : sn.idxOf x <= j := by
        exact Jdr (l := sn) (j := j) (by omega) e
       omega
      subst iI
      subst hd
      exact List.getElem_idxOf (by omega)
     have HAT := lh fB
     have iQ : x ∈ sn ↔ d < m := by rw [<- hd, <- hm]; exact List.idxOf_lt_length_iff.symm
     rw [hm] at iC iP ⊢
     have HSE := lh iP
     have HS3 := lh iC
     have HM := lh hm
     have H1 := lh h1
     have H2 := lh h2
     have HTK := lh (jR aX)
     have HX := lh hx
     have HMEM := lh iQ
     clear iP iC hm jQ hx fB hd aX h1 h2 jR iQ eB
     go_wp2_with fail
     go_loopw [14] (fun p we => ∃ j : Nat, j <= d /\ p = .int .i64 ((j : Nat) : Int) /\ Below wd.heap.size wd we) (fun p _ => d - (intOf p).toNat)
     case atStart => exact ⟨0, by omega, rfl, Below.refl _ _⟩
     case round =>
      obtain ⟨j, hj, rfl, gP⟩ := hrel
      rename World => we
      have gR := gR.below gP gR.lt
      obtain ⟨y0, -⟩ := gR.c2
      have HBE := lh gP
      by_cases iI : j < d
      ·have iL : j < m := by omega
       have p2 : (j : Int) < (m : Int) := by omega
       obtain ⟨y, hy, cP, -⟩ := HAT.out j iL
       have cP := cP iI
       obtain ⟨As', c', h4, h5, h6⟩ := Own.form HSE.out
       obtain ⟨gq, rfl⟩ := Own.addr (by have := HSE.out; exact this) (by have := HM.out; omega)
       have gU := Own.cellf (by rw [HM.out]; exact HSE.out) hy
       unfold zi at gU
       have gU := (At1.mk' gU).below gP (At1.mk' gU).lt
       obtain ⟨y1, -⟩ := gU.c2
       have f1 : (y == x) = false := by simpa using cP
       have f2 : (y != x) = true := by simpa using cP
       clear hy cP h4 h5 h6 gP gR
       go_upto_region 19 with fail
       go_region
       all_goals
        go_wp2
        exact ⟨⟨j + 1, by omega, by go_num, by first | exact HBE.out.trans ((Jf _).mono HBE.out.size) | exact HBE.out⟩, by simp [intOf]; omega⟩
      obtain rfl : j = d := by omega
      clear gP gR
      go_upto_region 19 with fail
      go_cut [83] from 69 to 83 (fun v wf => v = .bool false /\ Below wd.heap.size wd wf)
      case first =>
       by_cases iL : j < m
       ·have p2 : (j : Int) < (m : Int) := by omega
        obtain ⟨y, hy, -, he⟩ := HAT.out j iL
        obtain rfl := he rfl
        obtain ⟨gq, rfl⟩ := Own.addr HSE.out (by have := HM.out; omega)
        have gU := Own.cellf (by rw [HM.out]; exact HSE.out) hy
        unfold zi at gU
        have gU := (At1.mk' gU).below HBE.out (At1.mk' gU).lt
        obtain ⟨y1, -⟩ := gU.c2
        have f1 : (y == y) = true := by simp
        have f2 : (y != y) = false := by simp
        clear hy
        go_region
        all_goals
         go_wp2
         go_meet
         exact ⟨rfl, by first | exact HBE.out.trans ((Jf _).mono HBE.out.size) | exact HBE.out⟩
       have p2 : ¬ (j : Int) < (m : Int) := by omega
       go_region
       all_goals
        go_wp2
        go_meet
        exact ⟨rfl, by first | exact HBE.out.trans ((Jf _).mono HBE.out.size) | exact HBE.out⟩
      case rest =>
      obtain ⟨rfl, jS⟩ := hcut
      rename World => wf
      have jG := HS3.out.next jS
      obtain ⟨Ao, co, iR, -⟩ := Own.form jG.out
      rw [List.length_map, List.length_range] at iR
      subst iR
      clear y0
      have eB := Own.cellf (by rw [List.length_map, List.length_range]; exact jG.own) (show ((List.range i).map g)[r]? = some (g r) by rw [List.getElem?_map, List.getElem?_range jF]; rfl)
      unfold zi at eB
      rw [HX.out] at eB
      have HSF := lh jG
      have HL1 : Hid (((List.range r).map (Xq g)).length <= 64) := lh (by rw [List.length_map, List.length_range]; omega)
      clear jG jS HBE HSE HS3 HAT
      by_cases iL : j < m
      ·have p2 : ((j : Int) == (m : Int)) = false := by simp; omega
       have p3 : ¬ (j : Int) = (m : Int) := by omega
       have HS2 := lh (H1.out (HMEM.out.2 iL))
       clear eB
       go_wp2_with (at_builtin; refine Jds (f := zi) Tryz.eltIntR rfl (.tmp 97) (.tmp 99) rfl wf _ ((List.range r).map (Xq g)) (j : Int) (.int .i64 (j : Int)) rfl rfl HSF.out.out rfl rfl (by have := HL1.out; unfold maxLen; omega) (by have := HL1.out; omega) ?_; intro v7 w7 gV iD; obtain ⟨A7, n7, k7c, iS⟩ := Own.form3 gV; subst iS; have js7 := lh (HSF.out.addO iD gV); clear gV iD)
       exact ⟨⟨r + 1, by omega, by go_num, by rw [HS2.out, HTK.out]; exact js7.out⟩, by simp [intOf]; omega⟩
      obtain rfl : j = m := by omega
      have HS2 := lh (H2.out (fun h => iL (HMEM.out.1 h))).1
      have p2 : ((j : Int) == (j : Int)) = true := by simp
      go_upto_region 22 with fail
      go_cut [12] from 90 to 96 (fun v wg => S3 w gs v (.slice Ao r co) (Jy g (r + 1)) ((List.range r).map (Xq g)) ((List.range i).map g) i wg)
      case first =>
       go_wp2_with (at_builtin; refine Jds (f := zi) Tryz.eltIntR rfl (.tmp 90) (.tmp 95) rfl wf _ sn x (.int .i64 x) rfl rfl HSF.out.seen rfl rfl (by have := HM.out; unfold maxLen; omega) (by have := HM.out; omega) ?_; intro v7 w7 gV iD; obtain ⟨A7, n7, k7c, iS⟩ := Own.form3 gV; subst iS; have js7 := lh (HSF.out.addS iD gV); clear gV iD)
       go_meet
       rw [HS2.out]
       exact js7.out
      case rest =>
      rename World => wg
      have HSG := lh hcut
      clear hcut HSF eB
      go_wp2_with (at_builtin; refine Jds (f := zi) Tryz.eltIntR rfl (.tmp 97) (.tmp 99) rfl wg _ ((List.range r).map (Xq g)) (j : Int) (.int .i64 (j : Int)) rfl rfl HSG.out.out rfl rfl (by have := HL1.out; unfold maxLen; omega) (by have := HL1.out; omega) ?_; intro v7 w7 gV iD; obtain ⟨A7, n7, k7c, iS⟩ := Own.form3 gV; subst iS; have js7 := lh (HSG.out.addO iD gV); clear gV iD)
      exact ⟨⟨r + 1, by omega, by go_num, by rw [HTK.out]; exact js7.out⟩, by simp [intOf]; omega⟩
    obtain rfl : r = i := by omega
    have p1 : ¬ (r : Int) < (r : Int) := by omega
    obtain ⟨Ao, co, iR, -⟩ := Own.form iC.out
    rw [List.length_map, List.length_range] at iR
    subst iR
    have HS3 := lh iC
    clear iC
    go_wp2
    go_ret
    refine ⟨Ao, co, rfl, by rw [HGZ.out]; exact HS3.out.out, fun b hb => ?_, HS3.out.below⟩
    have := HS3.out.fo b hb
    omega
theorem Jm6 (A : Option Addr) (n len c B : Nat) (l : List Jn) (q : Rat) (V : Value) (w : World) (h : ReadsJR w B A len l) (hq : IsQ w B V q) (iA : B <= w.heap.size) (cC : 1 <= n) (hn : n <= 64) (j8 : len <= 64) (hs : QS 1000000000 q) (hb : ∀ j ∈ l, QS 1000000000 j.high) :
  Calls Tryz.prog 50 #[.int .i64 (n : Int), .slice A len c, V] w fun e w' => ∃ A' c' d, e = .returned (.slice A' n c') /\ d <= len /\ (∀ i, i < d -> (l.getD i default).high <= q) /\ (d < len -> ¬ (l.getD d default).high <= q) /\ Own w' 3 zi (.slice A' n c') (Qn n (fun i => l.getD i default) d) /\ Below w.heap.size w w' := by
 obtain ⟨n0, A0, l0, c0c, A0', l0', c0c', rfl⟩ := hq.shape
 have dO : l.length = len := h.len
 have gN := fun d (hd : d <= len) w' (hb : Below w.heap.size w w') => Jal A n len c B l d w' (h.below (hb.mono iA)) (nt iA hb.size) cC hn j8 hd
 have HGR := lh gN
 have H := lh h
 have HLL := lh dO
 have HQ := lh hq
 have HS := lh hs
 have HB := lh hb
 clear gN h dO hq hs hb
 obtain ⟨b0, hB, hZ⟩ := bx1 w 70 #[.bool n0, .slice A0 l0 c0c, .slice A0' l0' c0c']
 go_enter Tryz.func50, Tryz.ntmps50
 go_wp2_with fail
 generalize (w.alloc (.cells #[.bool n0, .slice A0 l0 c0c, .slice A0' l0' c0c'] 70)) = W at *
 have HW := lh hB
 have HB0 := lh b0
 clear hB b0
 go_loopw [7] (fun p wr => ∃ k : Nat, k <= len /\ p = .int .i64 ((k : Nat) : Int) /\ Hid (∀ i, i < k -> (l.getD i default).high <= q) /\ Below W.heap.size W wr) (fun p _ => len - (intOf p).toNat)
 case atStart => exact ⟨0, by omega, rfl, lh (fun i hi => absurd hi (Nat.not_lt_zero _)), Below.refl _ _⟩
 case round =>
  obtain ⟨k, hk, rfl, iJ, gK⟩ := hrel
  rename World => wr
  have gS : Below w.heap.size w wr := HW.out.trans (gK.mono HW.out.size)
  have b0 := HB0.out.below gK HB0.out.lt
  have HBW := lh gS
  have HBV := lh gK
  by_cases iM : k < len
  ·have p0 : (k : Int) < (len : Int) := by omega
   have p1 : decide ((k : Int) < (len : Int)) = true := decide_eq_true p0
   obtain ⟨j, hj⟩ : ∃ j, l[k]? = some j := ⟨_, List.getElem?_eq_getElem (by have := HLL.out; omega)⟩
   have iI : l.getD k default = j := by rw [List.getD_eq_getElem?_getD, hj]; rfl
   obtain ⟨ad, g1, o1, jr, rfl, hP, fD, b1, bU⟩ := (H.out.below (gS.mono iA)).at_ hj
   have dQ := HB.out j (List.mem_of_getElem? hj)
   have dS := bU.q
   obtain ⟨ja, jb, js, ⟨rg, rA, rl, rc, rA', rl', rc'⟩⟩ := jr
   have dR : B <= wr.heap.size := nt iA gS.size
   have gI := fun w' (hb : Below wr.heap.size wr w') => Jcb j.high q B _ _ w' (dS.below (hb.mono dR)) (HQ.out.below ((gS.trans (hb.mono gS.size)).mono iA)) (nt dR hb.size) (dQ.mono (by omega)) (HS.out.mono (by omega))
   unfold RC.v at gI
   (try simp only [] at gI b1)
   have jT := Jh3 q j.high
   generalize Yw j.high q = cv at *
   have HCM := lh gI
   have HGT := lh jT
   have HJD := lh iI
   clear gI jT dQ hj iI gK gS bU dS
   by_cases jK : cv <= 0
   ·have q9 : decide (cv <= 0) = true := decide_eq_true jK
    have jU : j.high <= q := Rat.not_lt.1 fun h => absurd (HGT.out.2 h) (by omega)
    have HALL : Hid (∀ i, i < k + 1 -> (l.getD i default).high <= q) := lh fun i hi => by
     by_cases jJ : i = k
     ·subst jJ
      rw [HJD.out]
      exact jU
     exact iJ.out i (by omega)
    clear jU
    go_upto_region 2 with fail
    go_cut [21] from 8 to 21 (fun v wc => v = .bool true /\ Below wr.heap.size wr wc)
    case first =>
     obtain ⟨dH, dI, dJ⟩ := b0.c3; have c0 := b0.drew; have aU := c0.lt; obtain ⟨fE, fF, fG, fH, fI, fJ⟩ := b1.c6; have c1 := b1.drew; have dT := c1.lt; have hc := Jf wr; go_region_held3 (fun w' => w'.cell? ⟨w.heap.size, 0, none⟩ = some (.bool n0) /\ w'.cell? ⟨w.heap.size, 1, none⟩ = some (.slice A0 l0 c0c) /\ w'.cell? ⟨w.heap.size, 2, none⟩ = some (.slice A0' l0' c0c') /\ w'.cell? ⟨g1, o1, none⟩ = some (.int .i64 ja) /\ w'.cell? ⟨g1, o1 + 1, none⟩ = some (.int .i64 jb) /\ w'.cell? ⟨g1, o1 + 2, none⟩ = some (.int .i64 js) /\ w'.cell? ⟨g1, o1 + 3, none⟩ = some (.bool rg) /\ w'.cell? ⟨g1, o1 + 4, none⟩ = some (.slice rA rl rc) /\ w'.cell? ⟨g1, o1 + 5, none⟩ = some (.slice rA' rl' rc')) (go_keep) (first | (go_at_call 57; (with_reducible refine (HCM.out _ hc).mono ?_); rintro e w1 ⟨rfl, aR⟩; (try clear o5 s9 t7); obtain ⟨c0, o5, s9, t7⟩ := c0.zc3 aR; (try clear aU); have aU := c0.lt; (try clear bB bC bD bE bF bG); obtain ⟨c1, bB, bC, bD, bE, bF, bG⟩ := c1.zc6 aR; (try clear dT); have dT := c1.lt; have hc := Ja hc aR))
     all_goals
      go_wp2
      go_meet
      exact ⟨rfl, hc⟩
    case rest =>
     obtain ⟨rfl, iE⟩ := hcut
     rename World => wd
     have HBD : Hid (Below W.heap.size W wd) := lh (HBV.out.trans (iE.mono HBV.out.size))
     clear iE b1 b0
     go_wp2
     exact ⟨⟨k + 1, by omega, by go_num, HALL, HBD.out⟩, by simp [intOf]; omega⟩
   have q9 : decide (cv <= 0) = false := decide_eq_false jK
   have HN : Hid (¬ (l.getD k default).high <= q) := lh fun h => by
    rw [HJD.out] at h
    exact absurd (HGT.out.1 (by omega)) (Rat.not_lt.2 h)
   go_upto_region 2 with fail
   go_cut [21] from 8 to 21 (fun v wc => v = .bool false /\ Below wr.heap.size wr wc)
   case first =>
    obtain ⟨dH, dI, dJ⟩ := b0.c3; have c0 := b0.drew; have aU := c0.lt; obtain ⟨fE, fF, fG, fH, fI, fJ⟩ := b1.c6; have c1 := b1.drew; have dT := c1.lt; have hc := Jf wr; go_region_held3 (fun w' => w'.cell? ⟨w.heap.size, 0, none⟩ = some (.bool n0) /\ w'.cell? ⟨w.heap.size, 1, none⟩ = some (.slice A0 l0 c0c) /\ w'.cell? ⟨w.heap.size, 2, none⟩ = some (.slice A0' l0' c0c') /\ w'.cell? ⟨g1, o1, none⟩ = some (.int .i64 ja) /\ w'.cell? ⟨g1, o1 + 1, none⟩ = some (.int .i64 jb) /\ w'.cell? ⟨g1, o1 + 2, none⟩ = some (.int .i64 js) /\ w'.cell? ⟨g1, o1 + 3, none⟩ = some (.bool rg) /\ w'.cell? ⟨g1, o1 + 4, none⟩ = some (.slice rA rl rc) /\ w'.cell? ⟨g1, o1 + 5, none⟩ = some (.slice rA' rl' rc')) (go_keep) (first | (go_at_call 57; (with_reducible refine (HCM.out _ hc).mono ?_); rintro e w1 ⟨rfl, aR⟩; (try clear o5 s9 t7); obtain ⟨c0, o5, s9, t7⟩ := c0.zc3 aR; (try clear aU); have aU := c0.lt; (try clear bB bC bD bE bF bG); obtain ⟨c1, bB, bC, bD, bE, bF, bG⟩ := c1.zc6 aR; (try clear dT); have dT := c1.lt; have hc := Ja hc aR))
    all_goals
     go_wp2
     go_meet
     exact ⟨rfl, hc⟩
   case rest =>
    obtain ⟨rfl, iE⟩ := hcut
    rename World => wd
    have iK := HBW.out.trans (iE.mono HBW.out.size)
    have HG := lh (HGR.out k hk wd iK)
    have HBD := lh iK
    clear iE iK b1 b0 q9 jK HGT HCM
    go_wp2_with fail
    refine HG.out.mono ?_
    rintro e w2 ⟨A', c', rfl, ho, -, x9⟩
    have HO2 := lh ho
    have HB2 := lh (HBD.out.trans (x9.mono HBD.out.size))
    clear ho x9
    go_wp2
    go_ret
    exact ⟨A', c', k, rfl, hk, iJ.out, fun _ => HN.out, HO2.out, HB2.out⟩
  obtain rfl : k = len := by omega
  have p0 : ¬ (k : Int) < (k : Int) := by omega
  clear gK gS
  go_upto_region 2 with fail
  go_cut [21] from 8 to 21 (fun v wc => v = .bool false /\ Below wr.heap.size wr wc)
  case first =>
   go_region
   all_goals
    go_wp2
    go_meet
    exact ⟨rfl, Jf _⟩
  case rest =>
   obtain ⟨rfl, iE⟩ := hcut
   rename World => wd
   have iK := HBW.out.trans (iE.mono HBW.out.size)
   have HG := lh (HGR.out k hk wd iK)
   have HBD := lh iK
   clear iE iK b0
   go_wp2_with fail
   refine HG.out.mono ?_
   rintro e w2 ⟨A', c', rfl, ho, -, x9⟩
   have HO2 := lh ho
   have HB2 := lh (HBD.out.trans (x9.mono HBD.out.size))
   clear ho x9
   go_wp2
   go_ret
   exact ⟨A', c', k, rfl, hk, iJ.out, fun h => absurd h (by omega), HO2.out, HB2.out⟩
theorem Jf9 (A : Option Addr) (n len c B a b : Nat) (l : List Jn) (w : World) (h : ReadsJR w B A len l) (iA : B <= w.heap.size) (cC : 1 <= n) (hn : n <= 64) (j8 : len <= 64) (ha : a < n) (hb : b < n) :
  Calls Tryz.prog 52 #[.int .i64 (n : Int), .slice A len c, .int .i64 (a : Int), .int .i64 (b : Int)] w (Vz (Jax n (fun i => l.getD i default) len a b) w) := by
 have dO : l.length = len := h.len
 have gN := fun d (hd : d <= len) w' (hb : Below w.heap.size w w') => Jal A n len c B l d w' (h.below (hb.mono iA)) (nt iA hb.size) cC hn j8 hd
 obtain ⟨J, hJ⟩ : ∃ J, (fun i => l.getD i default) = J := ⟨_, rfl⟩
 rw [hJ] at gN ⊢
 have HJ : Hid (∀ k j, l[k]? = some j -> J k = j) := lh fun k j hj => by
  rw [<- hJ]
  show l.getD k default = j
  rw [List.getD_eq_getElem?_getD, hj]
  rfl
 have HGR := lh gN
 have H := lh h
 have HLL := lh dO
 clear gN h dO hJ
 obtain ⟨b0, hB, hZ⟩ := bx1 w 70 #[.bool false, .slice none 0 0, .slice none 0 0]
 go_enter Tryz.func52, Tryz.ntmps52
 by_cases iF : a = b
 ·subst iF
  have hv : Jax n J len a a = 0 := by unfold Jax; rw [if_pos rfl]
  rw [hv]
  clear HJ HGR H HLL hv
  go_wp2_with fail
  generalize (w.alloc (.cells #[.bool false, .slice none 0 0, .slice none 0 0] 70)) = W at *
  refine (Jcv 0 W (by omega) (by omega)).mono ?_
  rintro e w1 ⟨v1, rfl, aV, aR⟩
  obtain ⟨g1, A1, l1, c1c, A1', l1', c1c', rfl⟩ := aV.shape
  have b0 := b0.below aR b0.lt
  obtain ⟨dH, dI, dJ, iT, iU, iV, gW, gY, gZ⟩ := b0.f3
  have HR1 := lh aV
  go_wp2
  refine bodyPost_ret (v := .agg #[.bool g1, .slice A1 l1 c1c, .slice A1' l1' c1c']) (by simp [results, Tryz.results52, go_sem, gW, gY, gZ]) rfl ?_
  exact Qj hB aR HR1.out b0 zd
 have q0 : ((a : Int) == (b : Int)) = false := by simp; omega
 have q0' : ¬ (a : Int) = (b : Int) := by omega
 have HAB := lh iF
 clear iF
 go_wp2_with fail
 generalize (w.alloc (.cells #[.bool false, .slice none 0 0, .slice none 0 0] 70)) = W at *
 have HW := lh hB
 have HB0 := lh b0
 clear hB b0
 go_loopw [9] (fun p wr => ∃ k : Nat, 1 <= k /\ k <= len + 1 /\ p = .int .i64 ((k : Nat) : Int) /\ Hid (Zl n J a b (k - 1) = none) /\ Below W.heap.size W wr) (fun p _ => len + 1 - (intOf p).toNat)
 case atStart => exact ⟨1, by omega, by omega, rfl, lh rfl, Below.refl _ _⟩
 case round =>
  obtain ⟨k, kG, hk, rfl, jH, gK⟩ := hrel
  rename World => wr
  have gS : Below w.heap.size w wr := HW.out.trans (gK.mono HW.out.size)
  by_cases iM : k <= len
  ·have p0 : (k : Int) <= (len : Int) := by omega
   have gN := HGR.out k iM wr gS
   have HG := lh gN
   have HBW := lh gK
   have HBw := lh gS
   clear gN gK gS
   go_wp2_with fail
   refine HG.out.mono ?_
   rintro e w2 ⟨A', c', rfl, ho, -, x9⟩
   have hl : (Qn n J k).length = n := by unfold Qn; simp
   have jW : (Qn n J k)[a]? = some (Xq (fun r => Jk n J r k) a) := by unfold Qn; rw [List.getElem?_map, List.getElem?_range ha]; rfl
   have dE : (Qn n J k)[b]? = some (Xq (fun r => Jk n J r k) b) := by unfold Qn; rw [List.getElem?_map, List.getElem?_range hb]; rfl
   obtain ⟨g, rfl⟩ := Own.addr ho (by omega)
   have eX := Own.cellf (by rw [hl]; exact ho) jW
   have jL := Own.cellf (by rw [hl]; exact ho) dE
   unfold zi Xq at eX jL
   have iW : Yo (fun r => Jk n J r k) a = Yo (fun r => Jk n J r k) b ↔ Jk n J a k = Jk n J b k := Jo4
   generalize Yo (fun r => Jk n J r k) a = xa at *
   generalize Yo (fun r => Jk n J r k) b = xb at *
   have pa : (a : Int) < (n : Int) := by omega
   have pb : (b : Int) < (n : Int) := by omega
   have HIFF := lh iW
   have HB2 := lh (HBW.out.trans (x9.mono HBW.out.size))
   clear ho hl jW dE iW x9 HBw HG
   obtain ⟨k', kE⟩ : ∃ k', k - 1 = k' := ⟨_, rfl⟩
   have gG : k = k' + 1 := by omega
   have ek : (k : Int) - 1 = (k' : Int) := by omega
   have wk : IntKind.i64.wrap (k' : Int) = (k' : Int) := IntWalk.i64_in _ (by omega)
   rw [kE] at jH
   go_upto_region 7 with fail
   by_cases gO : xa = xb
   ·have f1 : ((xa : Int) == (xb : Int)) = true := by simp [gO]
    have hv : Jax n J len a b = (J k').high := by
     have h1 := Jgn jH.out (by rw [<- gG]; exact HIFF.out.1 gO)
     have h2 := Je4 h1 (len - (k' + 1))
     rw [show k' + 1 + (len - (k' + 1)) = len by omega] at h2
     unfold Jax
     rw [if_neg HAB.out, h2]
     rfl
    have HV := lh hv
    have HXX := lh gO
    clear gO hv
    go_cut [33] from 25 to 33 (fun v wc => v = .bool true /\ Below w2.heap.size w2 wc)
    case first =>
     go_region
     all_goals
      go_wp2
      go_meet
      exact ⟨by first | rfl | (congr 1), Jf _⟩
    case rest =>
     obtain ⟨rfl, cO⟩ := hcut
     rename World => w3
     have bZ := HB2.out.trans (cO.mono HB2.out.size)
     have cD : Below w.heap.size w w3 := HW.out.trans (bZ.mono HW.out.size)
     have b0 := HB0.out.below bZ HB0.out.lt
     obtain ⟨j, hj⟩ : ∃ j, l[k']? = some j := ⟨_, List.getElem?_eq_getElem (by have := HLL.out; omega)⟩
     have iB := HJ.out k' j hj
     rw [iB] at HV
     obtain ⟨ad, g1, o1, jr, rfl, hP, fD, fB, bU⟩ := (H.out.below (cD.mono iA)).at_ hj
     have dS := bU.q.more (nt iA cD.size)
     obtain ⟨ja, jb, js, ⟨rg, rA, rl, rc, rA', rl', rc'⟩⟩ := jr
     replace dS : IsQ w3 w3.heap.size (.agg #[.bool rg, .slice rA rl rc, .slice rA' rl' rc']) j.high := dS
     obtain ⟨x0, x1, x2, x3, x4, x5⟩ := fB.c6
     (try simp only [] at x0 x1 x2 x3 x4 x5)
     have p3 : (k' : Int) < (len : Int) := by omega
     obtain ⟨dH, dI, dJ, iT, iU, iV, gW, gY, gZ⟩ := b0.f3
     have HIQ := lh dS
     have HB4 := lh bZ
     clear dS bZ cD fB bU hj iB eX jL
     go_wp2
     refine bodyPost_ret (v := .agg #[.bool rg, .slice rA rl rc, .slice rA' rl' rc']) (by simp [results, Tryz.results52, go_sem, gW, gY, gZ]) rfl ?_
     exact Qj HW.out HB4.out (by rw [HV.out]; exact HIQ.out) b0 zd
   have f1 : ((xa : Int) == (xb : Int)) = false := by simp; omega
   have f2 : ¬ (xa : Int) = (xb : Int) := by omega
   have HN2 : Hid (Zl n J a b (k + 1 - 1) = none) := lh (by
    have h1 := Jll jH.out (fun e => gO (HIFF.out.2 (by rw [gG]; exact e)))
    rw [gG]
    exact h1)
   clear gO
   go_cut [33] from 25 to 33 (fun v wc => v = .bool false /\ Below w2.heap.size w2 wc)
   case first =>
    go_region
    all_goals
     go_wp2
     go_meet
     exact ⟨by first | rfl | (congr 1), Jf _⟩
   case rest =>
    obtain ⟨rfl, cO⟩ := hcut
    rename World => w3
    have HB4 := lh (HB2.out.trans (cO.mono HB2.out.size))
    clear cO eX jL
    go_wp2
    exact ⟨⟨k + 1, by omega, by omega, by go_num, HN2, HB4.out⟩, by simp [intOf]; omega⟩
  have hv : Jax n J len a b = 0 := by
   have h1 := jH.out
   rw [show k - 1 = len by omega] at h1
   unfold Jax
   rw [if_neg HAB.out, h1]
   rfl
  have p0 : ¬ (k : Int) <= (len : Int) := by omega
  have HV := lh hv
  have HBW := lh gK
  clear hv gK gS
  go_wp2_with fail
  refine (Jcv 0 wr (by omega) (by omega)).mono ?_
  rintro e w1 ⟨v1, rfl, aV, aR⟩
  obtain ⟨g1, A1, l1, c1c, A1', l1', c1c', rfl⟩ := aV.shape
  have bZ := HBW.out.trans (aR.mono HBW.out.size)
  have b0 := HB0.out.below bZ HB0.out.lt
  obtain ⟨dH, dI, dJ, iT, iU, iV, gW, gY, gZ⟩ := b0.f3
  have HR1 := lh aV
  have HB4 := lh bZ
  clear aV bZ aR
  go_wp2
  refine bodyPost_ret (v := .agg #[.bool g1, .slice A1 l1 c1c, .slice A1' l1' c1c']) (by simp [results, Tryz.results52, go_sem, gW, gY, gZ]) rfl ?_
  exact Qj HW.out HB4.out (by rw [HV.out]; exact HR1.out) b0 zd
theorem Jp8 {α : Type} {f : α -> List Value} {k : Nat} (hf : ∀ a, (f a).length = k) (x : Value) {j : Nat} (hj : j < k) : ∀ (l : List α) (i : Nat) (r r' : α), l[i]? = some r -> f r' = (f r).set j x -> (l.flatMap f).set (i * k + j) x = (l.set i r').flatMap f := by
 intro l
 induction l with
 | nil => intro i r r' h; simp at h
 | cons a l ih =>
  intro i r r' h e
  cases i with
  | zero =>
   simp only [List.getElem?_cons_zero, Option.some.injEq] at h
   subst h
   simp only [List.set_cons_zero, List.flatMap_cons, Nat.zero_mul, Nat.zero_add, e]
   rw [List.set_append_left _ _ (by rw [hf]; exact hj)]
  | succ i =>
   simp only [List.getElem?_cons_succ] at h
   simp only [List.set_cons_succ, List.flatMap_cons]
   have hm : (i + 1) * k = i * k + k := Nat.succ_mul i k
   rw [List.set_append_right _ _ (by rw [hf, hm]; omega), hf, <- ih i r r' h e]
   congr 2
   rw [hm]
   omega
theorem OwnW.put1 {α : Type} {w : World} {e : TypeId} {k : Nat} {f : α -> List Value} (hf : ∀ a, (f a).length = k) {g n c : Nat} {l : List α} (h : OwnW w e k f (.slice (some ⟨g, 0, none⟩) n c) l) {i j : Nat} (hj : j < k) {r r' : α} (hr : l[i]? = some r) {x : Value} (hx : f r' = (f r).set j x) :
  OwnW (w.setCell ⟨g, i * k + j, none⟩ x) e k f (.slice (some ⟨g, 0, none⟩) n c) (l.set i r') := by
 have hn : n = l.length := by
  obtain ⟨A, c', h3, _⟩ := h.form
  injection h3
 subst hn
 have s1 := World.ownsRow.stored h (i * k + j) x
 rw [Jp8 hf x hj l i r r' hr hx] at s1
 unfold OwnW
 rw [List.length_set]
 exact s1.1
theorem EachJ.set_ {w : World} {B : Nat} {rl : List JR} {jl : List Jn} (h : EachJ w B rl jl) {r : JR} {j : Jn} (hq : IsJR w B r j) (i : Nat) : EachJ w B (rl.set i r) (jl.set i j) := by
 refine ⟨by simp [h.1], fun m r' j' h1 h2 => ?_⟩
 rw [List.getElem?_set] at h1 h2
 by_cases hi : i = m
 ·rw [if_pos hi] at h1 h2
  split at h1
  ·next h3 =>
   rw [if_pos (by rw [<- h.1]; exact h3)] at h2
   injection h1 with h1
   injection h2 with h2
   subst h1; subst h2
   exact hq
  cases h1
 rw [if_neg hi] at h1 h2
 exact h.2 m r' j' h1 h2
theorem Va {w : World} {rl : List JR} {g n c i : Nat} {x : Value} {V : Value} {q : Rat} (h1 : OwnW w 111 6 JR.cs (.slice (some ⟨g, 0, none⟩) n c) rl) (hq : IsQ w w.heap.size V q) : IsQ (w.setCell ⟨g, i, none⟩ x) (w.setCell ⟨g, i, none⟩ x).heap.size V q :=
 hq.rowW (by decide) h1 (by rw [World.size_setCell]; exact Nat.le_refl _) fun k hk cP => Below.heap_setCell _ _ _ k (fun e => cP (by rw [e]; rfl))
structure PutJ (w : World) (g n c i : Nat) (jl : List Jn) (j : Jn) (r : JR) : Prop where
 at_ : AtJR w g (i * 6) r
 fr : ∀ m, w.frozen? ⟨g, m, none⟩ = false
 pa : ∀ x : Int, OwnJR (w.setCell ⟨g, i * 6, none⟩ (.int .i64 x)) (.slice (some ⟨g, 0, none⟩) n c) (jl.set i ⟨x, j.b, j.size, j.high⟩)
 pb : ∀ x : Int, OwnJR (w.setCell ⟨g, i * 6 + 1, none⟩ (.int .i64 x)) (.slice (some ⟨g, 0, none⟩) n c) (jl.set i ⟨j.a, x, j.size, j.high⟩)
 ps : ∀ x : Int, OwnJR (w.setCell ⟨g, i * 6 + 2, none⟩ (.int .i64 x)) (.slice (some ⟨g, 0, none⟩) n c) (jl.set i ⟨j.a, j.b, x, j.high⟩)
 pq : ∀ (ng : Bool) (A : Option Addr) (l c' : Nat) (A' : Option Addr) (l' c'' : Nat) (q : Rat), IsQ w w.heap.size (.agg #[.bool ng, .slice A l c', .slice A' l' c'']) q -> OwnJR (((w.setCell ⟨g, i * 6 + 3, none⟩ (.bool ng)).setCell ⟨g, i * 6 + 4, none⟩ (.slice A l c')).setCell ⟨g, i * 6 + 5, none⟩ (.slice A' l' c'')) (.slice (some ⟨g, 0, none⟩) n c) (jl.set i ⟨j.a, j.b, j.size, q⟩)
theorem OwnJR.putJ {w : World} {g n c : Nat} {jl : List Jn} (h : OwnJR w (.slice (some ⟨g, 0, none⟩) n c) jl) {i : Nat} {j : Jn} (hj : jl[i]? = some j) : ∃ r, PutJ w g n c i jl j r := by
 obtain ⟨rl, h1, h2⟩ := h
 have cQ : i < rl.length := by rw [h2.1]; exact (List.getElem?_eq_some_iff.1 hj).1
 have hn : n = rl.length := by
  obtain ⟨A, c', h3, _⟩ := h1.form
  injection h3
 obtain ⟨r, hr⟩ : ∃ r, rl[i]? = some r := ⟨_, List.getElem?_eq_getElem cQ⟩
 have aH := h2.2 i r j hr hj
 have fB := OwnJR.reads ⟨rl, h1, h2⟩
 obtain ⟨rl', h3, h4⟩ := id fB
 obtain ⟨ad, x, g1, g2, g3, g4⟩ := h1.reads.at_ JR.len (i := i) (by omega)
 obtain rfl := Option.some.inj g1
 obtain rfl := Option.some.inj (g3.symm.trans hr)
 have hz : ∀ m, (⟨g, 0, none⟩ : Addr).add m = ⟨g, m, none⟩ := fun m => by unfold Addr.add; by_cases hm : m = 0 <;> simp [hm]
 refine ⟨x, ⟨⟨?_⟩, fun m => ?_, fun z => ?_, fun z => ?_, fun z => ?_, fun ng A l c' A' l' c'' q hq => ?_⟩⟩
 ·have e0 := g4 0 _ rfl
  have e1 := g4 1 _ rfl
  have e2 := g4 2 _ rfl
  have e3 := g4 3 _ rfl
  have e4 := g4 4 _ rfl
  have e5 := g4 5 _ rfl
  rw [hz] at e0 e1 e2 e3 e4 e5
  exact ⟨e0, e1, e2, e3, e4, e5⟩
 ·subst hn
  exact World.ownsRow.frozenAt h1 m
 ·refine ⟨_, OwnW.put1 JR.len h1 (j := 0) (by omega) hr (r' := ⟨z, x.b, x.s, x.r⟩) rfl, ?_⟩
  exact (h2.set_ (r := ⟨z, x.b, x.s, x.r⟩) (j := ⟨z, j.b, j.size, j.high⟩) ⟨rfl, aH.b, aH.s, aH.q⟩ i).mono fun V q hq => Va h1 hq
 ·refine ⟨_, OwnW.put1 JR.len h1 (j := 1) (by omega) hr (r' := ⟨x.a, z, x.s, x.r⟩) rfl, ?_⟩
  exact (h2.set_ (r := ⟨x.a, z, x.s, x.r⟩) (j := ⟨j.a, z, j.size, j.high⟩) ⟨aH.a, rfl, aH.s, aH.q⟩ i).mono fun V q hq => Va h1 hq
 ·refine ⟨_, OwnW.put1 JR.len h1 (j := 2) (by omega) hr (r' := ⟨x.a, x.b, z, x.r⟩) rfl, ?_⟩
  exact (h2.set_ (r := ⟨x.a, x.b, z, x.r⟩) (j := ⟨j.a, j.b, z, j.high⟩) ⟨aH.a, aH.b, rfl, aH.q⟩ i).mono fun V q hq => Va h1 hq
 have o1 := OwnW.put1 JR.len h1 (j := 3) (by omega) hr (r' := ⟨x.a, x.b, x.s, ⟨ng, x.r.A, x.r.l, x.r.c, x.r.A', x.r.l', x.r.c'⟩⟩) (x := .bool ng) rfl
 have o2 := OwnW.put1 JR.len o1 (j := 4) (by omega) (i := i) (r := ⟨x.a, x.b, x.s, ⟨ng, x.r.A, x.r.l, x.r.c, x.r.A', x.r.l', x.r.c'⟩⟩) (by rw [List.getElem?_set_self cQ]) (r' := ⟨x.a, x.b, x.s, ⟨ng, A, l, c', x.r.A', x.r.l', x.r.c'⟩⟩) (x := .slice A l c') rfl
 rw [List.set_set] at o2
 have o3 := OwnW.put1 JR.len o2 (j := 5) (by omega) (i := i) (r := ⟨x.a, x.b, x.s, ⟨ng, A, l, c', x.r.A', x.r.l', x.r.c'⟩⟩) (by rw [List.getElem?_set_self cQ]) (r' := ⟨x.a, x.b, x.s, ⟨ng, A, l, c', A', l', c''⟩⟩) (x := .slice A' l' c'') rfl
 rw [List.set_set] at o3
 refine ⟨_, o3, ?_⟩
 exact (h2.set_ (r := ⟨x.a, x.b, x.s, ⟨ng, A, l, c', A', l', c''⟩⟩) (j := ⟨j.a, j.b, j.size, q⟩) ⟨aH.a, aH.b, aH.s, hq⟩ i).mono fun V q hq => Va o2 (Va o1 (Va h1 hq))
theorem OwnJR.addr {w : World} {A : Option Addr} {n c : Nat} {jl : List Jn} (h : OwnJR w (.slice A n c) jl) (hn : 0 < jl.length) : ∃ g, A = some ⟨g, 0, none⟩ := by
 obtain ⟨rl, h1, h2⟩ := h
 rcases h1.2 with ⟨h3, h4⟩ | ⟨g, cap, cur, h3, _⟩
 ·have := h2.1
  omega
 injection h3 with h3 _ _
 exact ⟨g, h3⟩
theorem ReadsJR.cut {w : World} {B n : Nat} {A : Option Addr} {jl : List Jn} (h : ReadsJR w B A n jl) {u c : Nat} (hu : u <= n) (hc : n <= c) : ReadsJR w B (Us A c u 6) (n - u) (jl.drop u) := by
 obtain ⟨rl, h1, h2⟩ := h
 refine ⟨rl.drop u, ⟨by rw [List.length_drop, h1.1], ?_⟩, by rw [List.length_drop, List.length_drop, h2.1], fun i r q hr hq => ?_⟩
 ·have h3 := Reads.cut h1.2 hu hc
  have e : (rl.flatMap JR.cs).drop (u * 6) = (rl.drop u).flatMap JR.cs := by
   have : ∀ (l : List JR) u, (l.flatMap JR.cs).drop (u * 6) = (l.drop u).flatMap JR.cs := by
    intro l
    induction l with
    | nil => intro u; simp
    | cons r l ih =>
     intro u
     cases u with
     | zero => simp
     | succ u =>
      rw [List.flatMap_cons, List.drop_succ_cons, <- ih u, show (u + 1) * 6 = (JR.cs r).length + u * 6 from by rw [JR.len]; omega, List.drop_append]
      simp
   exact this rl u
  rw [e] at h3
  exact h3
 rw [List.getElem?_drop] at hr hq
 exact h2.2 _ r q hr hq
section
variable {ops : Array Oper} {rest : List Oper} {o : Oper} {a : Act} {Q : Exit -> Act -> World -> Prop} {K : Act -> World -> Prop} {Z : Prop}
theorem Js7 (fC : o.guard = none) (s x : Operand)
  (ho : o.op = .call { callee := .builtin .append, args := #[s, x], argTypes := #[40, 40] })
  (wr : World) (v : Value) (l : List Jn) (j : Jn) (hs : a.eval s = v) (j9 : OwnJ wr v l) (hx : a.eval x = .slice (some ⟨wr.heap.size, 0, none⟩) 1 1) (hl : l.length <= 1000000)
  (h : ∀ v' w1, OwnJ w1 v' (l ++ [j]) -> Grew wr w1 v v' -> K (a.put o.dst v') w1) : if Region.wanted o (yielded ops a.tmps) = true then Oper.wp Tryz.prog o a (wr.alloc (.cells #[.int .i64 j.a, .int .i64 j.b, .int .i64 j.size, .bool (decide (j.high.num < 0)), .int .u64 (lo j.high.num.natAbs : Int), .string (mo j.high.num.natAbs), .int .u64 (lo ((qden j.high)) : Int), .string (mo ((qden j.high)))] 58)) K Q else Z := by
 refine Jon Tryz.eltJ (by omega) fC s x ho _ v l (wr.heap.size + 1) (some ⟨wr.heap.size, 0, none⟩) 1 1 [j] hs (j9.alloc _) hx (Jl8 wr j) Jps (by unfold maxLen; omega) (by omega) ?_
 intro v' w1 h1 h2
 refine h v' w1 h1 ?_
 refine ⟨h2.os, h2.tape, h2.output, nt (by simp) h2.size, fun k hk cP => (h2.block k (by simp; omega) cP).trans (Below.heap_alloc wr _ k hk), fun k hk => ?_⟩
 rcases h2.own k hk with h3 | h3
 ·exact .inl h3
 exact .inr (by simp at h3; omega)
end
theorem Jsq (A : Option Addr) (n c B : Nat) (l : List Jn) (w : World) (h : ReadsJR w B A n l) (hB : B <= w.heap.size) (hn : n <= 1000) (hq : ∀ j ∈ l, QS 549755813888 j.high) (hT : Tab w) :
  Calls Tryz.prog 47 #[.slice A n c] w fun e w' => ∃ v, e = .returned v /\ OwnJ w' v l /\ Below w.heap.size w w' := by
 have dO : l.length = n := h.len
 have H := lh h
 have HQ := lh hq
 have HT := lh hT
 have HLN := lh dO
 clear h hq hT dO
 go_enter Tryz.func47, Tryz.ntmps47
 go_wp2_with fail
 go_loopw [3, 4] (fun v i wr => ∃ k : Nat, k <= n /\ i = .int .i64 (k : Int) /\ OwnJ wr v (l.take k) /\ Hid (∀ b, v.ownBlock = some b -> w.heap.size <= b) /\ Below w.heap.size w wr) (fun _ i _ => n - (intOf i).toNat)
 case atStart => exact ⟨0, by omega, rfl, OwnW.nil_ _ _ _ _, lh (fun b h => by cases h), Below.refl _ _⟩
 case round =>
  obtain ⟨k, hk, rfl, j9, bP, o0⟩ := hrel
  rename World => wr
  by_cases gD : k < n
  ·have k1 : (k : Int) < (n : Int) := by omega
   obtain ⟨j, hj⟩ : ∃ j, l[k]? = some j := ⟨_, List.getElem?_eq_getElem (by have := HLN.out; omega)⟩
   have dP : l.take (k + 1) = l.take k ++ [j] := by rw [List.take_add_one, hj]; rfl
   obtain ⟨ad, g1, o1, jr, rfl, hP, fD, b1, bU⟩ := (H.out.below (o0.mono hB)).at_ hj
   have dQ := HQ.out j (List.mem_of_getElem? hj)
   have dR : B <= wr.heap.size := nt hB o0.size
   have dS := bU.q
   have aQ := fun w' (hb : Below wr.heap.size wr w') => Jmh j.high B _ w' (dS.below (hb.mono dR)) (nt dR hb.size) dQ (HT.out.next (o0.trans (hb.mono o0.size)))
   obtain ⟨ja, jb, js, ⟨rg, rA, rl, rc, rA', rl', rc'⟩⟩ := jr
   obtain ⟨xa, xb, xs, xq⟩ := j
   obtain rfl : ja = xa := bU.a
   obtain rfl : jb = xb := bU.b
   obtain rfl : js = xs := bU.s
   unfold qV RC.v at aQ
   (try simp only [] at aQ b1)
   obtain ⟨Ao, no, co, hv⟩ : ∃ A n c, u3 = .slice A n c := by
    obtain ⟨A', c', h3, -⟩ := OwnW.form j9
    exact ⟨_, _, _, h3⟩
   subst hv
   have HIN := lh aQ
   have HSC := lh dP
   have HO := lh j9
   have HBL := lh o0
   have HLK := lh (show (l.take k).length <= 1000000 by rw [List.length_take]; omega)
   clear aQ dP hj j9 o0 dS bU dQ
   go_upto_region 5 with fail
   obtain ⟨fE, fF, fG, fH, fI, fJ⟩ := b1.c6; have c1 := b1.drew; have dT := c1.lt; have hc := Jf wr; go_region_held3 (fun w' => w'.cell? ⟨g1, o1, none⟩ = some (.int .i64 ja) /\ w'.cell? ⟨g1, o1 + 1, none⟩ = some (.int .i64 jb) /\ w'.cell? ⟨g1, o1 + 2, none⟩ = some (.int .i64 js) /\ w'.cell? ⟨g1, o1 + 3, none⟩ = some (.bool rg) /\ w'.cell? ⟨g1, o1 + 4, none⟩ = some (.slice rA rl rc) /\ w'.cell? ⟨g1, o1 + 5, none⟩ = some (.slice rA' rl' rc')) (go_keep) (first | (go_at_call 35; (with_reducible refine (HIN.out _ hc).mono ?_); rintro e w1 ⟨rfl, aR⟩; (try clear bB bC bD bE bF bG); obtain ⟨c1, bB, bC, bD, bE, bF, bG⟩ := c1.zc6 aR; (try clear dT); have dT := c1.lt; have hc := Ja hc aR) | (refine Js7 rfl (.tmp 11) (.tmp 34) rfl w1 _ (l.take k) ⟨ja, jb, js, xq⟩ (by simp [Act.eval, Act.put]) (OwnW.next HO.out hc) (by simp [Act.eval, Act.put]) HLK.out ?_; intro v8 w8 cR cS; obtain ⟨A8, n8, c8, fK⟩ : ∃ A n c, v8 = .slice A n c := (by obtain ⟨A', c', h3, -⟩ := OwnW.form cR; exact ⟨_, _, _, h3⟩); subst fK; have dU := cS.below (nt HBL.out.size hc.size) bP.out; have c1 := c1.below dU (Nat.lt_of_lt_of_le fD hB); (try clear bB bC bD bE bF bG); obtain ⟨bB, bC, bD, bE, bF, bG⟩ := c1.c6; have HO8 := lh cR; have HG8 := lh cS; clear cR cS dU))
   all_goals
    go_wp2
    have j7 := HBL.out.trans (hc.mono HBL.out.size)
    exact ⟨⟨k + 1, by omega, by go_num, by rw [HSC.out]; exact HO8.out, lh (HG8.out.fresh j7.size bP.out), j7.trans (HG8.out.below j7.size bP.out)⟩, by simp [intOf]; omega⟩
  obtain rfl : k = n := by omega
  have k1 : ¬ (k : Int) < (k : Int) := by omega
  rw [List.take_of_length_le (by have := HLN.out; omega)] at j9
  have HO := lh j9
  have HBL := lh o0
  clear j9 o0
  go_wp2
  go_ret
  exact ⟨_, rfl, HO.out, HBL.out⟩
theorem Jhs {jl : List Jn} {M i : Nat} {j : Jn} (h : ∀ x ∈ jl, JB M x) (hj : JB M j) : ∀ x ∈ jl.set i j, JB M x := fun x hx => by
 rcases List.mem_or_eq_of_mem_set hx with h2 | h2
 ·exact h x h2
 exact h2 ▸ hj
theorem Jno (A : Option Addr) (n1 c1 : Nat) (zl : List Int) (zn zw zh zy za zb : Int) (w : World) (h1 : ArgZ w A n1 c1 zl) (hn : I64 zn) (hz : I64 zw) (hh : I64 zh) (hy : I64 zy) (ha : I64 za) (hb : I64 zb) :
  Calls Tryz.prog 45 #[.slice A n1 c1, .int .i64 zn, .int .i64 zw, .int .i64 zh, .int .i64 zy, .int .i64 za, .int .i64 zb] w fun e w' =>
   ∃ m A' len c' jl v, e = .returned (.tuple #[.int .i64 ((m : Nat) : Int), .slice A' len c', v]) /\ 1 <= m /\ m <= 7 /\ len <= 6 /\ ReadsJR w' w'.heap.size A' len jl /\ (∀ j ∈ jl, JB 5528 j) /\ Below w.heap.size w w' := by
 obtain ⟨k0, gE, dV⟩ := Yy zn 7 w hn.1 hn.2 (by omega) (by omega)
 obtain ⟨k2, gG, dW⟩ := Yy zw 2 w hz.1 hz.2 (by omega) (by omega)
 obtain ⟨k3, gH, dX⟩ := Yy zh 3 w hh.1 hh.2 (by omega) (by omega)
 obtain ⟨way, fL, dY⟩ := Yy zy 10 w hy.1 hy.2 (by omega) (by omega)
 obtain ⟨nn, fM⟩ : ∃ nn, k0 + 1 = nn := ⟨_, rfl⟩
 obtain ⟨wd, fN⟩ : ∃ wd, k2 + 1 = wd := ⟨_, rfl⟩
 obtain ⟨how, cT⟩ : ∃ how, k3 + 1 = how := ⟨_, rfl⟩
 obtain ⟨N2, fO⟩ : ∃ N2, 2 * nn = N2 := ⟨_, rfl⟩
 have hF := Jn5 zl (wd := wd) (nn := nn) (by omega) (by omega) (by omega) (by omega)
 have e1 : (k0 : Int) + 1 = (nn : Int) := by omega
 have e2 : (k2 : Int) + 1 = (wd : Int) := by omega
 have aW := Jnx A n1 c1 w.heap.size zl nn wd w ⟨h1.rd.1, h1.rd.2⟩ zd h1.cap h1.most (by omega) (by omega)
 have e3 : (k3 : Int) + 1 = (how : Int) := by omega
 have e4 : (2 : Int) * (nn : Int) = (N2 : Int) := by omega
 have w4 : IntKind.i64.wrap (N2 : Int) = (N2 : Int) := IntWalk.i64_in _ (by omega)
 obtain ⟨b2, x9, bV⟩ := Yy zb N2 w hb.1 hb.2 (by omega) (by omega)
 obtain ⟨b9, aD, bW⟩ := Yy zb 9 w hb.1 hb.2 (by omega) (by omega)
 have aX := fun w' => Jk6 zb w' hb.1 hb.2
 have bX : QS 5528 (rOf zb) := (Jei zb).mono (by omega)
 have aS : ∀ m : Nat, 1 <= m -> m <= 7 -> ∃ i, i < m /\ ∀ w, Calls Tryz.prog 14 #[.int .i64 za, .int .i64 (m : Int)] w fun e w' => e = .returned (.int .i64 (i : Int)) /\ w = w' := fun m h0 h7 => by
  obtain ⟨a, h2, h3⟩ := Yy za m w ha.1 ha.2 h0 (by omega)
  exact ⟨a, h2, h3⟩
 have bY : ∀ l ∈ Zv zl wd nn, l.length = wd /\ ∀ x ∈ l, QS 5 x := fun l hl => by
  obtain ⟨zs', rfl⟩ := Jbt hl
  exact ⟨Ja7 zs' wd, Jed zs' wd⟩
 have j8 := Yr zl wd nn
 have dZ : (Xr (Zv zl wd nn)).length = nn := by rw [Yu, j8]
 generalize Zv zl wd nn = x at *
 generalize rOf zb = qb at *
 have HP0 := lh dV
 have HP2 := lh dW
 have HP3 := lh dX
 have HPW := lh dY
 have HPA := lh aS
 have HPB2 := lh bV
 have HPB9 := lh bW
 have HRK := lh aX
 have HQS := lh bX
 have HR := lh aW
 have HX := lh bY
 have HLEN := lh j8
 have HF := lh hF
 have HFL := lh dZ
 have aY : nn <= 7 := by omega
 have y8 : 1 <= nn := by omega
 have eA : how = 1 \/ how = 2 \/ how = 3 := by omega
 have HH := lh eA
 have fP : wd <= 2 := by omega
 clear dV dW dX dY aS bV bW aX bX aW bY j8 hF dZ eA h1 hn hz hh hy ha hb fO fM fN cT
 go_enter Tryz.func45, Tryz.ntmps45
 go_wp2_with fail
 refine (HP0.out _).mono ?_
 rintro e w1 ⟨rfl, rfl⟩
 go_wp2_with fail
 refine (HP2.out _).mono ?_
 rintro e w1 ⟨rfl, rfl⟩
 go_wp2_with fail
 refine HR.out.mono ?_
 rintro e w1 ⟨v, rfl, ho, -, j7⟩
 obtain ⟨A1, c1', hv⟩ := OwnS.form ho
 rw [HLEN.out] at hv
 subst hv
 have HO := lh (OwnRR.readsRR ho)
 have HB1 := lh j7
 clear ho j7 HR HP0 HP2
 go_wp2_with fail
 refine (Jo1 A1 nn c1' w1.heap.size 5 wd x w1 HO.out zd (by omega) (by omega) (by omega) (by omega) HX.out).mono ?_
 rintro e w2 ⟨v, rfl, ho, fQ, x9⟩
 obtain ⟨A2, c2, hv⟩ := OwnSA.form ho
 rw [HFL.out] at hv
 subst hv
 have HB2 := lh (Ja HB1.out x9)
 have HO2 := lh (OwnRR.readsRR ho.plain)
 clear x9 HO HB1 ho fQ HX
 go_wp2_with fail
 refine (HP3.out _).mono ?_
 rintro e w3 ⟨rfl, rfl⟩
 go_wp2_with fail
 refine (Jm5 A2 nn c2 w2.heap.size how (Xr x) w2 HO2.out zd aY HF.out.qs HF.out.chk HH.out).mono ?_
 rintro e w4 ⟨v, rfl, hj, bP, bZ⟩
 have bQ := (Jtb how HF.out).jb
 have cA := Vy how (Xr x)
 rw [HFL.out] at cA
 obtain ⟨len, j8⟩ : ∃ len, nn - 1 = len := ⟨_, rfl⟩
 rw [j8] at cA
 generalize Zy how (Xr x) = jl at *
 obtain ⟨Aj, cj, hv, eB, gI⟩ := OwnJR.form hj
 rw [cA] at hv eB
 subst hv
 have HB4 := lh (Ja HB2.out bZ)
 have HJ := lh hj
 have HJB := lh bQ
 have HJL := lh cA
 have hL := HB2.out.size
 clear bZ HB2 HO2 HF HH HP3 hj bQ cA
 by_cases h0 : len = 0
 ·subst h0
  have HRD := lh (OwnJR.reads HJ.out)
  clear HJ
  go_wp2
  go_returns
  exact ⟨nn, Aj, 0, cj, jl, _, rfl, y8, aY, by omega, HRD.out, HJB.out, HB4.out⟩
 have p0 : (0 : Int) < (len : Int) := by omega
 obtain ⟨g, rfl⟩ := OwnJR.addr HJ.out (by have := HJL.out; omega)
 obtain ⟨i, hi, eC⟩ := HPA.out len (by omega) (by omega)
 have p1 : (i : Int) < (len : Int) := by omega
 obtain ⟨j, hj⟩ : ∃ j, jl[i]? = some j := ⟨_, List.getElem?_eq_getElem (by have := HJL.out; omega)⟩
 have hg : w.heap.size <= g := nt hL (bP g rfl)
 have HPI := lh eC
 have HJJ := lh hj
 have cB := HJB.out j (List.mem_of_getElem? hj)
 have HJ0 := lh cB
 clear eC hj bP HPA cB
 go_wp2_with fail
 refine (HPI.out _).mono ?_
 rintro e w5 ⟨rfl, rfl⟩
 go_wp2_with fail
 refine (HPW.out _).mono ?_
 rintro e w5 ⟨rfl, rfl⟩
 clear HPI HPW
 by_cases fR : way = 3
 ·subst fR
  go_wp2_with fail
  refine (HRK.out _).mono ?_
  rintro e w6 ⟨V, rfl, hq, aI⟩
  obtain ⟨qg, qA, ql, qc, qA', ql', qc', rfl⟩ := hq.shape
  obtain ⟨r, hp⟩ := OwnJR.putJ (HJ.out.next aI) HJJ.out
  obtain ⟨ra, rb, rs, ⟨rg, rA, rl, rc, rA', rl', rc'⟩⟩ := r
  obtain ⟨x0, x1, x2, x3, x4, x5⟩ := hp.at_.c6
  (try simp only [] at x0 x1 x2 x3 x4 x5)
  have z3 := hp.fr (i * 6 + 3)
  have z4 := hp.fr (i * 6 + 4)
  have z5 := hp.fr (i * 6 + 5)
  have HO := lh (OwnJR.reads (hp.pq qg qA ql qc qA' ql' qc' qb hq))
  have HB6 := lh (Jlt (i := i * 6 + 3) (j := i * 6 + 4) (k := i * 6 + 5) (Ja HB4.out aI) hg (.bool qg) (.slice qA ql qc) (.slice qA' ql' qc'))
  have HJB2 := lh (Jhs (i := i) (j := ⟨j.a, j.b, j.size, qb⟩) HJB.out ⟨HJ0.out.size, HQS.out⟩)
  clear hp hq aI HJ HB4
  go_wp2
  go_returns
  exact ⟨nn, _, len, cj, _, _, rfl, y8, aY, by omega, HO.out, HJB2.out, HB6.out⟩
 have p3 : ((way : Int) == 3) = false := by simp; omega
 have p3' : ¬ (way : Int) = 3 := by omega
 by_cases fS : way = 4
 ·subst fS
  have hs : ∀ w, (Instr.slice 44 (.slice (some ⟨g, 0, none⟩) len cj) (some (.int .i64 1)) none none).run Tryz.prog w = .ok (.slice (Us (some ⟨g, 0, none⟩) cj 1 6) (len - 1) (cj - 1)) w := fun w => by
   have := Jdv (P := Tryz.prog) Tryz.underlying44 (Tryz.eltJR).info (some ⟨g, 0, none⟩) len cj .i64 1 (by omega) (by omega) w
   rw [this]
   rfl
  have HO := lh ((OwnJR.reads HJ.out).cut (u := 1) (c := cj) (by omega) eB)
  have HJB2 : Hid (∀ j ∈ jl.drop 1, JB 5528 j) := lh fun y hy => HJB.out y (List.mem_of_mem_drop hy)
  clear HJ
  go_wp2
  go_returns
  exact ⟨nn, _, len - 1, cj - 1, _, _, rfl, y8, aY, by omega, HO.out, HJB2.out, HB4.out⟩
 have p4 : ((way : Int) == 4) = false := by simp; omega
 have p4' : ¬ (way : Int) = 4 := by omega
 obtain ⟨r, hp⟩ := OwnJR.putJ HJ.out HJJ.out
 obtain ⟨ra, rb, rs, ⟨rg, rA, rl, rc, rA', rl', rc'⟩⟩ := r
 obtain ⟨x0, x1, x2, x3, x4, x5⟩ := hp.at_.c6
 (try simp only [] at x0 x1 x2 x3 x4 x5)
 have z0 := hp.fr (i * 6)
 have z1 := hp.fr (i * 6 + 1)
 have z2 := hp.fr (i * 6 + 2)
 by_cases fT : way = 0
 ·subst fT
  have HO := lh (OwnJR.reads (hp.pa ((b2 : Int) - 1)))
  have HB6 := lh (HB4.out.setCell (p := ⟨g, i * 6, none⟩) hg (.int .i64 ((b2 : Int) - 1)))
  have HJB2 := lh (Jhs (i := i) (j := ⟨(b2 : Int) - 1, j.b, j.size, j.high⟩) HJB.out ⟨HJ0.out.size, HJ0.out.high⟩)
  clear hp HJ HB4
  go_wp2_with fail
  refine (HPB2.out _).mono ?_
  rintro e w5 ⟨rfl, rfl⟩
  go_wp2
  go_returns
  exact ⟨nn, _, len, cj, _, _, rfl, y8, aY, by omega, HO.out, HJB2.out, HB6.out⟩
 have p5 : ((way : Int) == 0) = false := by simp; omega
 have p5' : ¬ (way : Int) = 0 := by omega
 by_cases aR : way = 1
 ·subst aR
  have HO := lh (OwnJR.reads (hp.pb ((b2 : Int) - 1)))
  have HB6 := lh (HB4.out.setCell (p := ⟨g, i * 6 + 1, none⟩) hg (.int .i64 ((b2 : Int) - 1)))
  have HJB2 := lh (Jhs (i := i) (j := ⟨j.a, (b2 : Int) - 1, j.size, j.high⟩) HJB.out ⟨HJ0.out.size, HJ0.out.high⟩)
  clear hp HJ HB4
  go_wp2_with fail
  refine (HPB2.out _).mono ?_
  rintro e w5 ⟨rfl, rfl⟩
  go_wp2
  go_returns
  exact ⟨nn, _, len, cj, _, _, rfl, y8, aY, by omega, HO.out, HJB2.out, HB6.out⟩
 have p6 : ((way : Int) == 1) = false := by simp; omega
 have p6' : ¬ (way : Int) = 1 := by omega
 by_cases aJ : way = 2
 ·subst aJ
  have HO := lh (OwnJR.reads (hp.ps (b9 : Int)))
  have HB6 := lh (HB4.out.setCell (p := ⟨g, i * 6 + 2, none⟩) hg (.int .i64 (b9 : Int)))
  have HJB2 := lh (Jhs (i := i) (j := ⟨j.a, j.b, (b9 : Int), j.high⟩) HJB.out ⟨by constructor <;> simp only [] <;> omega, HJ0.out.high⟩)
  clear hp HJ HB4
  go_wp2_with fail
  refine (HPB9.out _).mono ?_
  rintro e w5 ⟨rfl, rfl⟩
  go_wp2
  go_returns
  exact ⟨nn, _, len, cj, _, _, rfl, y8, aY, by omega, HO.out, HJB2.out, HB6.out⟩
 have p7 : ((way : Int) == 2) = false := by simp; omega
 have p7' : ¬ (way : Int) = 2 := by omega
 have HO := lh (OwnJR.reads HJ.out)
 clear hp HJ x0 x1 x2 x3 x4 x5 z0 z1 z2
 go_wp2
 go_returns
 exact ⟨nn, _, len, cj, jl, _, rfl, y8, aY, by omega, HO.out, HJB.out, HB4.out⟩
theorem Jhq (A : Option Addr) (n len c M : Nat) (l : List Jn) (hq : Rat) (w : World) (h : OwnJ w (.slice A len c) l) (cC : 1 <= n) (hn : n <= 64) (hM : M <= 100000000) (hb : ∀ j ∈ l, JB M j) (hT : Tab w) (hf : Zk n l = false) :
  Calls Tryz.prog 39 #[.int .i64 (n : Int), .slice A len c, qV hq] w (Ret (.tuple #[.slice none 0 0, .int .i64 1]) w) := by
 have j6 := fun w' (j7 : Below w.heap.size w w') => Yc A n len c M l w' (OwnW.next h j7) cC hn hM hb (hT.next j7)
 rw [hf] at j6
 have HFI := lh j6
 clear h hb hT hf j6
 have bH := Jb w (.cells #[.bool (decide (hq.num < 0)), .int .u64 (lo hq.num.natAbs : Int), .string (mo hq.num.natAbs), .int .u64 (lo ((qden hq)) : Int), .string (mo ((qden hq)))] 56)
 unfold qV
 go_enter Tryz.func39, Tryz.ntmps39
 go_wp2_with fail
 refine (HFI.out _ (bH.mono zd)).mono ?_
 rintro e w1 ⟨rfl, j7⟩
 have HB1 := lh (Ja bH j7)
 clear j7 bH HFI
 go_wp2
 go_returns
 exact ⟨rfl, HB1.out⟩
theorem Jbp (A : Option Addr) (n len c M : Nat) (l : List Jn) (k : Int) (w : World) (h : OwnJ w (.slice A len c) l) (cC : 1 <= n) (hn : n <= 64) (hM : M <= 100000000) (hb : ∀ j ∈ l, JB M j) (hT : Tab w) (hf : Zk n l = false \/ k < 1 \/ (n : Int) < k) :
  Calls Tryz.prog 40 #[.int .i64 (n : Int), .slice A len c, .int .i64 k] w (Ret (.tuple #[.slice none 0 0, .int .i64 1]) w) := by
 have j6 := Yc A n len c M l w h cC hn hM hb hT
 generalize Zk n l = fb at *
 have HFI := lh j6
 clear h hb hT j6
 go_enter Tryz.func40, Tryz.ntmps40
 go_wp2_with fail
 refine HFI.out.mono ?_
 rintro e w1 ⟨rfl, j7⟩
 have HB1 := lh j7
 clear j7 HFI
 cases fb with
 | false =>
  clear hf
  go_wp2
  go_returns
  exact ⟨rfl, HB1.out⟩
 | true =>
  by_cases h1 : k < 1
  ·clear hf
   go_wp2
   go_returns
   exact ⟨rfl, HB1.out⟩
  have h2 : (n : Int) < k := by
   rcases hf with h | h | h
   ·cases h
   ·exact absurd h h1
   exact h
  clear hf
  go_wp2
  go_returns
  exact ⟨rfl, HB1.out⟩
theorem Jce (A : Option Addr) (n len c M : Nat) (l : List Jn) (a b : Int) (w : World) (h : OwnJ w (.slice A len c) l) (cC : 1 <= n) (hn : n <= 64) (hM : M <= 100000000) (hb : ∀ j ∈ l, JB M j) (hT : Tab w) (hf : Zk n l = false \/ a < 0 \/ (n : Int) <= a \/ b < 0 \/ (n : Int) <= b) :
  Calls Tryz.prog 30 #[.int .i64 (n : Int), .slice A len c, .int .i64 a, .int .i64 b] w (Ret (.tuple #[qV 0, .int .i64 1]) w) := by
 have j6 := fun w' (j7 : Below w.heap.size w w') => Yc A n len c M l w' (OwnW.next h j7) cC hn hM hb (hT.next j7)
 generalize Zk n l = fb at *
 have HFI := lh j6
 clear h j6 hb hT
 have b0 := Blk.new w 56 #[.bool false, .int .u64 0, .string ⟨#[]⟩, .int .u64 0, .string ⟨#[]⟩]
 have bH := Jb w (.cells #[.bool false, .int .u64 0, .string ⟨#[]⟩, .int .u64 0, .string ⟨#[]⟩] 56)
 go_enter Tryz.func30, Tryz.ntmps30
 go_wp2_with fail
 refine (HFI.out _ (bH.mono zd)).mono ?_
 rintro e w1 ⟨rfl, j7⟩
 have c0 := b0.below j7 b0.lt
 have HB1 := lh (Ja bH j7)
 obtain ⟨o5, s9, t7, t8, x8, fU, fV, fW, fX, fY, aK, aL, aM, aN, aO⟩ := c0.f5
 clear j7 bH HFI b0
 cases fb with
 | false =>
  clear hf
  go_wp2
  refine bodyPost_ret (v := .tuple #[.agg #[.bool false, .int .u64 0, .string ⟨#[]⟩, .int .u64 0, .string ⟨#[]⟩], .int .i64 1]) (by simp [results, Tryz.results30, go_sem, aK, aL, aM, aN, aO]) rfl ?_
  exact ⟨rfl, Qy HB1.out zd _ _ _ _ _⟩
 | true =>
  by_cases h1 : a < 0
  ·clear hf
   go_wp2
   refine bodyPost_ret (v := .tuple #[.agg #[.bool false, .int .u64 0, .string ⟨#[]⟩, .int .u64 0, .string ⟨#[]⟩], .int .i64 1]) (by simp [results, Tryz.results30, go_sem, aK, aL, aM, aN, aO]) rfl ?_
   exact ⟨rfl, Qy HB1.out zd _ _ _ _ _⟩
  by_cases h2 : (n : Int) <= a
  ·clear hf
   go_wp2
   refine bodyPost_ret (v := .tuple #[.agg #[.bool false, .int .u64 0, .string ⟨#[]⟩, .int .u64 0, .string ⟨#[]⟩], .int .i64 1]) (by simp [results, Tryz.results30, go_sem, aK, aL, aM, aN, aO]) rfl ?_
   exact ⟨rfl, Qy HB1.out zd _ _ _ _ _⟩
  by_cases h3 : b < 0
  ·clear hf
   go_wp2
   refine bodyPost_ret (v := .tuple #[.agg #[.bool false, .int .u64 0, .string ⟨#[]⟩, .int .u64 0, .string ⟨#[]⟩], .int .i64 1]) (by simp [results, Tryz.results30, go_sem, aK, aL, aM, aN, aO]) rfl ?_
   exact ⟨rfl, Qy HB1.out zd _ _ _ _ _⟩
  have h4 : (n : Int) <= b := by
   rcases hf with h | h | h | h | h
   ·cases h
   ·exact absurd h h1
   ·exact absurd h h2
   ·exact absurd h h3
   exact h
  clear hf
  go_wp2
  refine bodyPost_ret (v := .tuple #[.agg #[.bool false, .int .u64 0, .string ⟨#[]⟩, .int .u64 0, .string ⟨#[]⟩], .int .i64 1]) (by simp [results, Tryz.results30, go_sem, aK, aL, aM, aN, aO]) rfl ?_
  exact ⟨rfl, Qy HB1.out zd _ _ _ _ _⟩
theorem Jrj {l : List Jn} {q : Rat} {len d e : Nat} (hd : d <= len) (h1 : ∀ i, i < d -> (l.getD i default).high <= q) (h2 : d < len -> ¬ (l.getD d default).high <= q) (he : e <= len) (h3 : ∀ i, i < e -> (l.getD i default).high <= q) (h4 : e < len -> ¬ (l.getD e default).high <= q) : d = e := by
 rcases Nat.lt_trichotomy d e with h | h | h
 ·exact absurd (h3 d h) (h2 (by omega))
 ·exact h
 exact absurd (h1 e h) (h4 (by omega))
theorem Jk9 (n : Nat) (J : Nat -> Jn) (k : Nat) : (Qn n J k).map zi = (Vt n J k).map iv := by
 unfold Qn Vt
 rw [List.map_map, List.map_map]
 rfl
theorem Jr0 (n : Nat) (J : Nat -> Jn) (k : Nat) : (Vt n J k).length = n := by simp [Vt]
theorem Jjs (n : Nat) (J : Nat -> Jn) (k : Nat) : (Qn n J k).length = n := by simp [Qn]
theorem Kl {w : World} {A : Option Addr} {n c : Nat} {J : Nat -> Jn} {k : Nat} (h : Own w 3 zi (.slice A n c) (Qn n J k)) : Reads w w.heap.size 1 A n ((Vt n J k).map iv) := by
 have h2 := Own.reads h
 rw [Jjs, Jk9] at h2
 exact h2
theorem Jhy {n : Nat} {l : List Jn} (h : Zk n l = true) : l.length + 1 = n := by
 by_cases hl : l.length + 1 = n
 ·exact hl
 rw [Jc7 hl] at h
 cases h
theorem Jri {n len a b M : Nat} {l : List Jn} (hb : ∀ j ∈ l, JB M j) (j8 : len <= l.length) : QS (M + 1) (Jax n (fun i => l.getD i default) len a b) := by
 have h0 : QS (M + 1) (0 : Rat) := ⟨Nat.zero_le _, Nat.le_add_left 1 M⟩
 unfold Jax
 split
 ·exact h0
 cases h : Zl n (fun i => l.getD i default) a b len with
 | none => exact h0
 | some q =>
  obtain ⟨i, hi, hq⟩ := Jqc len h
  have e : l[i]? = some l[i] := List.getElem?_eq_getElem (by omega)
  have hd : l.getD i default = l[i] := by rw [List.getD_eq_getElem?_getD, e]; rfl
  show QS (M + 1) q
  rw [hq]
  show QS (M + 1) (l.getD i default).high
  rw [hd]
  exact (hb _ (List.mem_of_getElem? e)).high.mono (by omega)
theorem Jdq (A : Option Addr) (n1 c1 : Nat) (zl : List Int) (zn zw zh zy za zb zg zk z1 z2 : Int) (w : World) (h1 : ArgZ w A n1 c1 zl) (hn : I64 zn) (hz : I64 zw) (h4 : I64 zh) (h5 : I64 zy) (h6 : I64 za) (h7 : I64 zb) (h8 : I64 zg) (h9 : I64 zk) (cU : I64 z1) (cV : I64 z2) (hT : Tab w) :
  Calls Tryz.prog 12 #[.slice A n1 c1, .int .i64 zn, .int .i64 zw, .int .i64 zh, .int .i64 zy, .int .i64 za, .int .i64 zb, .int .i64 zg, .int .i64 zk, .int .i64 z1, .int .i64 z2] w (Ret (.bool true) w) := by
 have eD := Jno A n1 c1 zl zn zw zh zy za zb w h1 hn hz h4 h5 h6 h7
 have aX := fun w' => Jk6 zg w' h8.1 h8.2
 have bX : QS 5 (rOf zg) := Jei zg
 generalize rOf zg = hq at *
 have bR := fun (m : Nat) (_ : m <= 7) => Yy zk (m + 3) w h9.1 h9.2 (by omega) (by omega)
 have aS := fun (m : Nat) (_ : m <= 7) => Yy z1 (m + 2) w cU.1 cU.2 (by omega) (by omega)
 have bS := fun (m : Nat) (_ : m <= 7) => Yy z2 (m + 2) w cV.1 cV.2 (by omega) (by omega)
 have HJN := lh eD
 have HRK := lh aX
 have HQS := lh bX
 have HPK := lh bR
 have HPA := lh aS
 have HPB := lh bS
 have HT := lh hT
 clear eD aX bX bR aS bS hT h1 hn hz h4 h5 h6 h7 h8 h9 cU cV
 go_enter Tryz.func12, Tryz.ntmps12
 go_wp2_with fail
 refine HJN.out.mono ?_
 rintro e w1 ⟨m, A1, len, c1', jl, v, rfl, y9, cZ, gJ, dA, bQ, j7⟩
 obtain ⟨k9, eE, bR⟩ := HPK.out m cZ
 obtain ⟨a9, eF, aS⟩ := HPA.out m cZ
 obtain ⟨b9, aD, bS⟩ := HPB.out m cZ
 have eG : ∀ j ∈ jl, QS 1000000000 j.high := fun j hj => (bQ j hj).high.mono (by omega)
 have HJQ := lh eG
 have HJB := lh bQ
 have HRD := lh dA
 have HB1 := lh j7
 have HLN := lh dA.len
 obtain ⟨m3, eH⟩ : ∃ m3, m + 3 = m3 := ⟨_, rfl⟩
 obtain ⟨m2, eI⟩ : ∃ m2, m + 2 = m2 := ⟨_, rfl⟩
 rw [eH] at bR eE
 rw [eI] at aS eF bS aD
 have e3 : (m : Int) + 3 = (m3 : Int) := by omega
 have e2 : (m : Int) + 2 = (m2 : Int) := by omega
 obtain ⟨kz, fZ⟩ : ∃ kz : Int, (k9 : Int) - 1 = kz := ⟨_, rfl⟩
 obtain ⟨az, gA⟩ : ∃ az : Int, (a9 : Int) - 1 = az := ⟨_, rfl⟩
 obtain ⟨bz, gB⟩ : ∃ bz : Int, (b9 : Int) - 1 = bz := ⟨_, rfl⟩
 have wk : IntKind.i64.wrap kz = kz := IntWalk.i64_in _ (by omega)
 have wa : IntKind.i64.wrap az = az := IntWalk.i64_in _ (by omega)
 have wb : IntKind.i64.wrap bz = bz := IntWalk.i64_in _ (by omega)
 have HPK := lh bR
 have HPA := lh aS
 have HPB := lh bS
 clear eG bQ dA j7 bR aS bS HJN
 have hf := Jo0 A1 m len c1' w1.heap.size 5528 jl w1 HRD.out zd y9 (by omega) (by omega) (by omega) HJB.out
 obtain ⟨fb, dB⟩ : ∃ fb, Zk m jl = fb := ⟨_, rfl⟩
 rw [dB] at hf
 have HF := lh hf
 have HFB := lh dB
 clear hf dB
 go_wp2_with fail
 refine HF.out.mono ?_
 rintro e w2 ⟨rfl, x9⟩
 have HB2 := lh (HB1.out.trans (x9.mono HB1.out.size))
 have HRD := lh ((HRD.out.below x9).more x9.size)
 clear x9 HF HB1
 have aQ := Jsq A1 len c1' w2.heap.size jl w2 HRD.out zd (by omega) (fun j hj => (HJB.out j hj).high.mono (by omega)) (HT.out.next HB2.out)
 have HIN := lh aQ
 clear aQ
 go_wp2_with fail
 refine HIN.out.mono ?_
 rintro e w3 ⟨v3, rfl, dC, cO⟩
 obtain ⟨A3, c3, eJ, -⟩ := OwnW.form dC
 rw [HLN.out] at eJ
 subst eJ
 have HB3 := lh (HB2.out.trans (cO.mono HB2.out.size))
 have HRD := lh ((HRD.out.below cO).more cO.size)
 have HJ := lh dC
 clear cO dC HIN HB2
 go_wp2_with fail
 refine (HRK.out _).mono ?_
 rintro e w4 ⟨V, rfl, dD, bZ⟩
 obtain ⟨qg, qA, ql, qc, qA', ql', qc', rfl⟩ := dD.shape
 have dE := Blk.new w4 70 #[.bool qg, .slice qA ql qc, .slice qA' ql' qc']
 have cD := Ja bZ (Jb w4 (.cells #[.bool qg, .slice qA ql qc, .slice qA' ql' qc'] 70))
 have eK := (dD.next zd (Jb w4 (.cells #[.bool qg, .slice qA ql qc, .slice qA' ql' qc'] 70))).more (Jb w4 (.cells #[.bool qg, .slice qA ql qc, .slice qA' ql' qc'] 70)).size
 obtain ⟨g28, bI⟩ : ∃ g, w4.heap.size = g := ⟨_, rfl⟩
 rw [bI] at dE
 go_upto_region 5 with fail
 (try rw [bI])
 generalize w4.alloc (.cells #[.bool qg, .slice qA ql qc, .slice qA' ql' qc'] 70) = W5 at *
 have HB5 := lh (HB3.out.trans (cD.mono HB3.out.size))
 have HRD := lh ((HRD.out.below cD).more cD.size)
 have HJ := lh (OwnW.next HJ.out cD)
 have HQ := lh eK
 have HBX := lh dE
 clear bZ dD cD eK dE bI HB3 HRK
 go_wp2_with fail
 refine (HPK.out _).mono ?_
 rintro e w5 ⟨rfl, rfl⟩
 go_wp2_with fail
 refine (HPA.out _).mono ?_
 rintro e w5 ⟨rfl, rfl⟩
 go_wp2_with fail
 refine (HPB.out _).mono ?_
 rintro e w5 ⟨rfl, rfl⟩
 clear HPK HPA HPB
 have b28 := HBX.out
 obtain ⟨x0, x1, x2⟩ := b28.c3
 have aQ := Jmh hq _ _ W5 HQ.out zd (HQS.out.mono (by omega)) (HT.out.next HB5.out)
 have HIN := lh aQ
 clear aQ b28
 go_wp2_with fail
 refine HIN.out.mono ?_
 rintro e w6 ⟨rfl, aI⟩
 have HB6 := lh (HB5.out.trans (aI.mono HB5.out.size))
 have HRD := lh ((HRD.out.below aI).more aI.size)
 have HJ := lh (OwnW.next HJ.out aI)
 have HQ := lh ((HQ.out.next zd aI).more aI.size)
 have HBX := lh (HBX.out.below aI HBX.out.lt)
 clear aI HIN HB5 x0 x1 x2
 clear fZ gA gB wk wa wb eE eF aD e2 e3 eI eH
 have HTB : Hid (∀ w', Below w6.heap.size w6 w' -> Tab w') := lh fun w' hb => HT.out.next (HB6.out.trans (hb.mono HB6.out.size))
 cases fb with
 | false =>
  have eL := Jhq A3 m len c3 5528 jl hq w6 HJ.out y9 (by omega) (by omega) HJB.out (HTB.out _ (Below.refl _ _)) HFB.out
  have HC1 := lh eL
  clear eL
  go_wp2_with fail
  refine HC1.out.mono ?_
  rintro e w7 ⟨rfl, cE⟩
  have H7 := lh cE
  clear cE HC1
  have eM := Jbp A3 m len c3 5528 jl kz w7 (OwnW.next HJ.out H7.out) y9 (by omega) (by omega) HJB.out (HTB.out _ H7.out) (.inl HFB.out)
  have HC2 := lh eM
  clear eM
  go_wp2_with fail
  refine HC2.out.mono ?_
  rintro e w8 ⟨rfl, bJ⟩
  have H8 := lh (Ja H7.out bJ)
  clear bJ HC2 H7
  have dF := Jce A3 m len c3 5528 jl az bz w8 (OwnW.next HJ.out H8.out) y9 (by omega) (by omega) HJB.out (HTB.out _ H8.out) (.inl HFB.out)
  obtain ⟨x, hx⟩ : ∃ x : Rat, x = 0 := ⟨0, rfl⟩
  rw [<- hx] at dF
  have aZ : x.num.sign = 0 := by rw [hx]; rfl
  have eO : QS 1099511627776 x := by rw [hx]; exact ⟨Nat.zero_le _, Nat.le_of_ble_eq_true (by kernel_rfl)⟩
  have HC3 := lh dF
  clear dF hx
  go_wp2_with fail
  refine HC3.out.mono ?_
  rintro e w9 ⟨rfl, aD⟩
  have aA := Blk.new w9 56 #[.bool (decide (x.num < 0)), .int .u64 (lo x.num.natAbs : Int), .string (mo x.num.natAbs), .int .u64 (lo ((qden x)) : Int), .string (mo ((qden x)))]
  have h9 := Ja (Ja H8.out aD) (Jb w9 (.cells #[.bool (decide (x.num < 0)), .int .u64 (lo x.num.natAbs : Int), .string (mo x.num.natAbs), .int .u64 (lo ((qden x)) : Int), .string (mo ((qden x)))] 56))
  obtain ⟨g33, aB⟩ : ∃ g, w9.heap.size = g := ⟨_, rfl⟩
  rw [aB] at aA
  unfold qV
  go_upto_region 10 with fail
  (try rw [aB])
  generalize w9.alloc (.cells #[.bool (decide (x.num < 0)), .int .u64 (lo x.num.natAbs : Int), .string (mo x.num.natAbs), .int .u64 (lo ((qden x)) : Int), .string (mo ((qden x)))] 56) = W9 at *
  have H9 := lh h9
  have HBY := lh aA
  clear aD h9 aA H8 HC3 aB
  go_wp2_with fail
  refine (Jgc W9 (HTB.out _ H9.out)).mono ?_
  rintro e w10 ⟨rfl, aE⟩
  have H10 := lh (Ja H9.out aE)
  have HBY := lh (HBY.out.below aE HBY.out.lt)
  clear aE H9
  have hf := Yc A3 m len c3 5528 jl w10 (OwnW.next HJ.out H10.out) y9 (by omega) (by omega) HJB.out (HTB.out _ H10.out)
  rw [HFB.out] at hf
  have HF := lh hf
  clear hf
  go_wp2_with fail
  refine HF.out.mono ?_
  rintro e w11 ⟨rfl, aF⟩
  have H11 := lh (Ja H10.out aF)
  have b33 := HBY.out.below aF HBY.out.lt
  obtain ⟨y0, y1, y2, y3, y4⟩ := b33.c5
  clear aF H10 HBY HF b33
  have aC := fun w => Ye x w eO
  rw [aZ] at aC
  unfold qV at aC
  have HSG := lh aC
  clear aC aZ eO
  go_wp2_with fail
  refine (HSG.out _).mono ?_
  rintro e w12 ⟨rfl, aG⟩
  have H12 := lh (HB6.out.trans ((Ja H11.out aG).mono HB6.out.size))
  clear aG H11
  go_wp2
  go_ret
  exact ⟨rfl, H12.out⟩
 | true =>
  have j8 : len + 1 = m := by have := Jhy HFB.out; rw [HLN.out] at this; exact this
  have bA : ∀ w', Below w6.heap.size w6 w' -> Calls Tryz.prog 40 #[.int .i64 (m : Int), .slice A3 len c3, .int .i64 kz] w' fun e w'' => ∃ Ad nd cd f, e = .returned (.tuple #[.slice Ad nd cd, .int .i64 f]) /\ Hid ((∃ kn : Nat, kz = (kn : Int) /\ 1 <= kn /\ kn <= m /\ f = 0 /\ nd = m /\ Own w'' 3 zi (.slice Ad m cd) (Qn m (fun i => jl.getD i default) (m - kn))) \/ ((kz < 1 \/ (m : Int) < kz) /\ f = 1 /\ nd = 0)) /\ Below w'.heap.size w' w'' := fun w' hb => by
   by_cases hK : 1 <= kz /\ kz <= (m : Int)
   ·obtain ⟨kn, rfl⟩ : ∃ kn : Nat, kz = (kn : Int) := ⟨kz.toNat, by omega⟩
    refine (Jnk A3 m len c3 5528 jl kn w' (OwnW.next HJ.out hb) y9 (by omega) (by omega) HJB.out (HTB.out _ hb) HFB.out j8 (by omega) (by omega)).mono ?_
    rintro e w'' ⟨g, rfl, -, ho, x9⟩
    exact ⟨_, _, _, _, rfl, lh (.inl ⟨kn, rfl, by omega, by omega, rfl, rfl, ho⟩), x9⟩
   refine (Jbp A3 m len c3 5528 jl kz w' (OwnW.next HJ.out hb) y9 (by omega) (by omega) HJB.out (HTB.out _ hb) (.inr (by omega))).mono ?_
   rintro e w'' ⟨rfl, x9⟩
   exact ⟨_, _, _, _, rfl, lh (.inr ⟨by omega, rfl, rfl⟩), x9⟩
  have cF : ∀ w', Below w6.heap.size w6 w' -> Calls Tryz.prog 30 #[.int .i64 (m : Int), .slice A3 len c3, .int .i64 az, .int .i64 bz] w' fun e w'' => ∃ x f, e = .returned (.tuple #[qV x, .int .i64 f]) /\ Hid (QS 5529 x /\ ((∃ an bn : Nat, az = (an : Int) /\ bz = (bn : Int) /\ an < m /\ bn < m /\ f = 0 /\ x = Jax m (fun i => jl.getD i default) len an bn) \/ ((az < 0 \/ (m : Int) <= az \/ bz < 0 \/ (m : Int) <= bz) /\ f = 1 /\ x = 0))) /\ Below w'.heap.size w' w'' := fun w' hb => by
   by_cases hK : 0 <= az /\ az < (m : Int) /\ 0 <= bz /\ bz < (m : Int)
   ·obtain ⟨an, rfl⟩ : ∃ n : Nat, az = (n : Int) := ⟨az.toNat, by omega⟩
    obtain ⟨bn, rfl⟩ : ∃ n : Nat, bz = (n : Int) := ⟨bz.toNat, by omega⟩
    refine (Jpn A3 m len c3 5528 jl an bn w' (OwnW.next HJ.out hb) y9 (by omega) (by omega) HJB.out (HTB.out _ hb) HFB.out (by omega) (by omega) (by omega)).mono ?_
    rintro e w'' ⟨rfl, x9⟩
    exact ⟨_, _, rfl, lh ⟨Jri HJB.out (by have := HLN.out; omega), .inl ⟨an, bn, rfl, rfl, by omega, by omega, rfl, rfl⟩⟩, x9⟩
   refine (Jce A3 m len c3 5528 jl az bz w' (OwnW.next HJ.out hb) y9 (by omega) (by omega) HJB.out (HTB.out _ hb) (.inr (by omega))).mono ?_
   rintro e w'' ⟨rfl, x9⟩
   exact ⟨_, _, rfl, lh ⟨⟨Nat.zero_le _, Nat.le_of_ble_eq_true (by kernel_rfl)⟩, .inr ⟨by omega, rfl, rfl⟩⟩, x9⟩
  have HINT := lh bA
  have HFAR := lh cF
  have HLE := lh j8
  have aT : len <= 64 := by omega
  have eP := Jpo A3 m len c3 5528 jl hq w6 HJ.out y9 (by omega) (by omega) HJB.out (HTB.out _ (Below.refl _ _)) HFB.out j8 (HQS.out.mono (by omega))
  have HCU := lh eP
  clear bA cF j8 eP
  go_wp2_with fail
  refine HCU.out.mono ?_
  rintro e w7 ⟨gc, dc, rfl, eQ, cG, cH, -, eR, cE⟩
  have HGC := lh (Kl eR)
  have HD := lh (And.intro eQ (And.intro cG cH))
  have H7 := lh cE
  clear eR eQ cG cH cE HCU
  go_wp2_with fail
  refine (HINT.out w7 H7.out).mono ?_
  rintro e w8 ⟨Ad, nd, cd, f, rfl, hK, bJ⟩
  have HGC := lh ((HGC.out.below bJ).more bJ.size)
  have H8 := lh (Ja H7.out bJ)
  clear bJ H7 HINT
  go_wp2_with fail
  refine (HFAR.out w8 H8.out).mono ?_
  rintro e w9 ⟨x, fz, rfl, eT, aD⟩
  have eU : Hid ((∃ kn : Nat, kz = (kn : Int) /\ 1 <= kn /\ kn <= m /\ f = 0 /\ nd = m /\ Reads w9 w9.heap.size 1 Ad m ((Vt m (fun i => jl.getD i default) (m - kn)).map iv)) \/ ((kz < 1 \/ (m : Int) < kz) /\ f = 1 /\ nd = 0)) := lh (by
   rcases hK.out with ⟨kn, e1, e2, e3, e4, e5, ho⟩ | h
   ·exact .inl ⟨kn, e1, e2, e3, e4, e5, ((Kl ho).below aD).more aD.size⟩
   exact .inr h)
  have aA := Blk.new w9 56 #[.bool (decide (x.num < 0)), .int .u64 (lo x.num.natAbs : Int), .string (mo x.num.natAbs), .int .u64 (lo ((qden x)) : Int), .string (mo ((qden x)))]
  have bT := Jb w9 (.cells #[.bool (decide (x.num < 0)), .int .u64 (lo x.num.natAbs : Int), .string (mo x.num.natAbs), .int .u64 (lo ((qden x)) : Int), .string (mo ((qden x)))] 56)
  have h9 := Ja (Ja H8.out aD) bT
  have eV := ((HGC.out.below aD).more aD.size).below bT
  obtain ⟨g33, aB⟩ : ∃ g, w9.heap.size = g := ⟨_, rfl⟩
  rw [aB] at aA
  unfold qV
  go_upto_region 10 with fail
  (try rw [aB])
  generalize w9.alloc (.cells #[.bool (decide (x.num < 0)), .int .u64 (lo x.num.natAbs : Int), .string (mo x.num.natAbs), .int .u64 (lo ((qden x)) : Int), .string (mo ((qden x)))] 56) = W9 at *
  have H9 := lh h9
  have HBY := lh aA
  have HGC := lh (eV.more bT.size)
  have HKK : Hid ((∃ kn : Nat, kz = (kn : Int) /\ 1 <= kn /\ kn <= m /\ f = 0 /\ nd = m /\ Reads W9 W9.heap.size 1 Ad m ((Vt m (fun i => jl.getD i default) (m - kn)).map iv)) \/ ((kz < 1 \/ (m : Int) < kz) /\ f = 1 /\ nd = 0)) := lh (by
   rcases eU.out with ⟨kn, e1, e2, e3, e4, e5, ho⟩ | h
   ·exact .inl ⟨kn, e1, e2, e3, e4, e5, (ho.below bT).more bT.size⟩
   exact .inr h)
  clear aD h9 bT aA H8 aB eV hK eU HFAR
  go_wp2_with fail
  refine (Jgc W9 (HTB.out _ H9.out)).mono ?_
  rintro e w10 ⟨rfl, aE⟩
  have H10 := lh aE
  clear aE
  have hf := Yc A3 m len c3 5528 jl w10 (OwnW.next HJ.out (Ja H9.out H10.out)) y9 (by omega) (by omega) HJB.out (HTB.out _ (Ja H9.out H10.out))
  rw [HFB.out] at hf
  have HF := lh hf
  clear hf
  go_wp2_with fail
  refine HF.out.mono ?_
  rintro e w11 ⟨rfl, aF⟩
  have H11 := lh (Ja H10.out aF)
  clear aF H10 HF
  have aP : Hid (Below w6.heap.size w6 w11) := lh (Ja H9.out H11.out)
  have b28 := HBX.out.below aP.out HBX.out.lt
  obtain ⟨x0, x1, x2⟩ := b28.c3
  have eX := Jm6 A1 m len c1' w6.heap.size jl hq _ w11 (HRD.out.below aP.out) (HQ.out.below aP.out) aP.out.size y9 (by omega) aT (HQS.out.mono (by omega)) HJQ.out
  have HCA := lh eX
  clear eX b28
  go_wp2_with fail
  refine HCA.out.mono ?_
  rintro e w12 ⟨A12, c12, d12, rfl, eY, cG, cH, cI, aG⟩
  obtain rfl : dc = d12 := Jrj HD.out.1 HD.out.2.1 HD.out.2.2 eY cG cH
  have cJ := Jf5 (some ⟨gc, 0, none⟩) A12 m m c12 _ _ _ w12 ((HGC.out.below H11.out).below (aG.mono H11.out.size)) (Kl cI) (by omega)
  have HSI := lh cJ
  have H12 := lh (Ja H11.out aG)
  clear cJ eY cG cH cI aG HCA x0 x1 x2 H11 aP HGC HD
  go_wp2_with fail
  refine HSI.out.mono ?_
  rintro e w13 ⟨rfl, n13, rfl⟩
  have H13 := lh (Jz H12.out n13)
  clear HSI H12
  generalize w12.drewN n13 = w13 at *
  rcases HKK.out with ⟨kn, rfl, k1, k2, rfl, gC, aX⟩ | ⟨hk, rfl, rfl⟩
  ·have dG := gC.symm
   subst dG
   have q1 : ¬ (kn : Int) < 1 := by omega
   have q2 : ¬ (m : Int) < (kn : Int) := by omega
   obtain ⟨mk, eZ⟩ : ∃ mk, m - kn = mk := ⟨_, rfl⟩
   have emk : (m : Int) - (kn : Int) = (mk : Int) := by omega
   have wmk : IntKind.i64.wrap (mk : Int) = (mk : Int) := IntWalk.i64_in _ (by omega)
   have fA := Jal A1 m len c1' w6.heap.size jl mk w13 (HRD.out.below (Ja H9.out H13.out)) (Ja H9.out H13.out).size y9 (by omega) aT (by have := HLE.out; omega)
   have HGP := lh fA
   have HRK := lh aX
   rw [eZ] at HRK
   clear fA aX eZ
   go_wp2_with fail
   refine HGP.out.mono ?_
   rintro e w14 ⟨A14, c14, rfl, cK, -, bK⟩
   have cJ := Jf5 Ad A14 m cd c14 _ _ _ w14 ((HRK.out.below H13.out).below (bK.mono H13.out.size)) (Kl cK) (by omega)
   have HSI := lh cJ
   have H14 := lh (Ja H13.out bK)
   clear cJ cK bK HGP H13 HRK
   go_wp2_with fail
   refine HSI.out.mono ?_
   rintro e w15 ⟨rfl, n15, rfl⟩
   have H15 := lh (Jz H14.out n15)
   clear HSI H14
   generalize w14.drewN n15 = w15 at *
   have bL := Ja H9.out H15.out
   have HBT := lh (HB6.out.trans (bL.mono HB6.out.size))
   have b33 := HBY.out.below H15.out HBY.out.lt
   have H6T := lh bL
   clear bL
   rcases eT.out with ⟨bM, ⟨an, bn, rfl, rfl, ha, hb, rfl, hx⟩ | ⟨hz, rfl, hx⟩⟩
   ·have r1 : ¬ (an : Int) < 0 := by omega
    have r2 : ¬ (m : Int) <= (an : Int) := by omega
    have r3 : ¬ (bn : Int) < 0 := by omega
    have r4 : ¬ (m : Int) <= (bn : Int) := by omega
    have bN := fun w' (cL : Below w15.heap.size w15 w') => Jf9 A1 m len c1' w6.heap.size an bn jl w' (HRD.out.below (Ja H6T.out cL)) (Ja H6T.out cL).size y9 (by omega) aT ha hb
    rw [<- hx] at bN
    have bO := fun V w' (h : IsQ w' w'.heap.size V x) => Jc4 x _ V w' h zd (bM.mono (by omega))
    unfold qV at bO
    have HFI := lh bN
    have HSM := lh bO
    have b0 := b33
    clear bN bO hx bM b33
    go_upto_region 23 with fail
    obtain ⟨dH, dI, dJ, dK, dL⟩ := b0.c5; have c0 := b0.drew; have aU := c0.lt; have hc := Jf w15; go_region_held3 (fun w' => w'.cell? ⟨g33, 0, none⟩ = some (.bool (decide (x.num < 0))) /\ w'.cell? ⟨g33, 1, none⟩ = some (.int .u64 (lo x.num.natAbs : Int)) /\ w'.cell? ⟨g33, 2, none⟩ = some (.string (mo x.num.natAbs)) /\ w'.cell? ⟨g33, 3, none⟩ = some (.int .u64 (lo ((qden x)) : Int)) /\ w'.cell? ⟨g33, 4, none⟩ = some (.string (mo ((qden x))))) (go_keep) (first | (go_at_call 52; (with_reducible refine (HFI.out _ hc).mono ?_); rintro e w1 ⟨v1, rfl, aV, aR⟩; obtain ⟨g1, A1, l1, c1c, A1', l1', c1c', dM⟩ := aV.shape; subst dM; (try clear o5 s9 t7 t8 x8); obtain ⟨c0, o5, s9, t7, t8, x8⟩ := c0.zc5 aR; (try clear aU); have aU := c0.lt; have hc := Ja hc aR) | (go_at_call 32; (with_reducible refine (HSM.out _ _ aV).mono ?_); rintro e w2 ⟨rfl, aJ⟩; (try clear o5 s9 t7 t8 x8); obtain ⟨c0, o5, s9, t7, t8, x8⟩ := c0.zc5 aJ; (try clear aU); have aU := c0.lt; have aV := (aV.next zd aJ).more aJ.size; have hc := Ja hc aJ))
    all_goals
     go_wp2
     go_ret
     exact ⟨rfl, HBT.out.trans (hc.mono HBT.out.size)⟩
   obtain ⟨y0, y1, y2, y3, y4⟩ := b33.c5
   have aZ : x.num.sign = 0 := by rw [hx]; rfl
   have aC := fun w => Ye x w (bM.mono (by omega))
   rw [aZ] at aC
   unfold qV at aC
   have HSG := lh aC
   have dN : az < 0 \/ (¬ az < 0 /\ (m : Int) <= az) \/ (¬ az < 0 /\ ¬ (m : Int) <= az /\ bz < 0) \/ (¬ az < 0 /\ ¬ (m : Int) <= az /\ ¬ bz < 0 /\ (m : Int) <= bz) := by omega
   clear aC b33 hz hx aZ
   rcases dN with u1 | ⟨u1, u2⟩ | ⟨u1, u2, u3⟩ | ⟨u1, u2, u3, u4⟩
   all_goals
    go_wp2_with fail
    refine (HSG.out _).mono ?_
    rintro e wq ⟨rfl, cM⟩
    have HBQ := lh (Ja HBT.out cM)
    clear cM
    go_wp2
    go_ret
    exact ⟨rfl, HBQ.out⟩
  go_upto_region 16 with fail
  go_cut [145] from 139 to 145 (fun v wc => v = .bool true /\ Below w13.heap.size w13 wc)
  case first =>
   by_cases u1 : kz < 1
   ·go_wp2
    go_meet
    exact ⟨rfl, Below.refl _ _⟩
   have u2 : (m : Int) < kz := by omega
   go_wp2
   go_meet
   exact ⟨rfl, Below.refl _ _⟩
  case rest =>
  obtain ⟨rfl, cN⟩ := hcut
  rename World => w15
  have H15 := lh (Ja H13.out cN)
  clear cN H13 hk
  have bL := Ja H9.out H15.out
  have HBT := lh (HB6.out.trans (bL.mono HB6.out.size))
  have b33 := HBY.out.below H15.out HBY.out.lt
  have H6T := lh bL
  clear bL
  rcases eT.out with ⟨bM, ⟨an, bn, rfl, rfl, ha, hb, rfl, hx⟩ | ⟨hz, rfl, hx⟩⟩
  ·have r1 : ¬ (an : Int) < 0 := by omega
   have r2 : ¬ (m : Int) <= (an : Int) := by omega
   have r3 : ¬ (bn : Int) < 0 := by omega
   have r4 : ¬ (m : Int) <= (bn : Int) := by omega
   have bN := fun w' (cL : Below w15.heap.size w15 w') => Jf9 A1 m len c1' w6.heap.size an bn jl w' (HRD.out.below (Ja H6T.out cL)) (Ja H6T.out cL).size y9 (by omega) aT ha hb
   rw [<- hx] at bN
   have bO := fun V w' (h : IsQ w' w'.heap.size V x) => Jc4 x _ V w' h zd (bM.mono (by omega))
   unfold qV at bO
   have HFI := lh bN
   have HSM := lh bO
   have b0 := b33
   clear bN bO hx bM b33
   go_upto_region 23 with fail
   obtain ⟨dH, dI, dJ, dK, dL⟩ := b0.c5; have c0 := b0.drew; have aU := c0.lt; have hc := Jf w15; go_region_held3 (fun w' => w'.cell? ⟨g33, 0, none⟩ = some (.bool (decide (x.num < 0))) /\ w'.cell? ⟨g33, 1, none⟩ = some (.int .u64 (lo x.num.natAbs : Int)) /\ w'.cell? ⟨g33, 2, none⟩ = some (.string (mo x.num.natAbs)) /\ w'.cell? ⟨g33, 3, none⟩ = some (.int .u64 (lo ((qden x)) : Int)) /\ w'.cell? ⟨g33, 4, none⟩ = some (.string (mo ((qden x))))) (go_keep) (first | (go_at_call 52; (with_reducible refine (HFI.out _ hc).mono ?_); rintro e w1 ⟨v1, rfl, aV, aR⟩; obtain ⟨g1, A1, l1, c1c, A1', l1', c1c', dM⟩ := aV.shape; subst dM; (try clear o5 s9 t7 t8 x8); obtain ⟨c0, o5, s9, t7, t8, x8⟩ := c0.zc5 aR; (try clear aU); have aU := c0.lt; have hc := Ja hc aR) | (go_at_call 32; (with_reducible refine (HSM.out _ _ aV).mono ?_); rintro e w2 ⟨rfl, aJ⟩; (try clear o5 s9 t7 t8 x8); obtain ⟨c0, o5, s9, t7, t8, x8⟩ := c0.zc5 aJ; (try clear aU); have aU := c0.lt; have aV := (aV.next zd aJ).more aJ.size; have hc := Ja hc aJ))
   all_goals
    go_wp2
    go_ret
    exact ⟨rfl, HBT.out.trans (hc.mono HBT.out.size)⟩
  obtain ⟨y0, y1, y2, y3, y4⟩ := b33.c5
  have aZ : x.num.sign = 0 := by rw [hx]; rfl
  have aC := fun w => Ye x w (bM.mono (by omega))
  rw [aZ] at aC
  unfold qV at aC
  have HSG := lh aC
  have dN : az < 0 \/ (¬ az < 0 /\ (m : Int) <= az) \/ (¬ az < 0 /\ ¬ (m : Int) <= az /\ bz < 0) \/ (¬ az < 0 /\ ¬ (m : Int) <= az /\ ¬ bz < 0 /\ (m : Int) <= bz) := by omega
  clear aC b33 hz hx aZ
  rcases dN with u1 | ⟨u1, u2⟩ | ⟨u1, u2, u3⟩ | ⟨u1, u2, u3, u4⟩
  all_goals
   go_wp2_with fail
   refine (HSG.out _).mono ?_
   rintro e wq ⟨rfl, cM⟩
   have HBQ := lh (Ja HBT.out cM)
   clear cM
   go_wp2
   go_ret
   exact ⟨rfl, HBQ.out⟩
