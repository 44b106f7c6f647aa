/-
  share.Mixed, the document's Mixed.
  share.Worth, share.Turns.
-/
import Derived.Test.YtbjemjopcoajcaaGreatDoorShareP
import Derived.Test.YtbjemjopcoajcaaGreatDoorHandMore
import Derived.Test.YtbjemjopcoajcaaGreatDoorShareMath
/-! share.Mixed, the document's Mixed. -/
namespace Go.Proofs.YtbjemjopcoajcaaGreatDoor
open Go.RowKit
set_option linter.unusedSimpArgs false
set_option linter.unusedVariables false

def bv (b : Bool) : Value := .bool b
/-- a row filled from the front -/
def partF (f : Nat → Rat) (n c : Nat) : List Rat := (List.range c).map f ++ List.replicate (n - c) 0
theorem partF_len (f : Nat → Rat) {n c : Nat} (hc : c ≤ n) : (partF f n c).length = n := by simp [partF]; omega
theorem partF_all (f : Nat → Rat) (n : Nat) : partF f n n = (List.range n).map f := by simp [partF]
theorem partF_none (f : Nat → Rat) (n : Nat) : partF f n 0 = List.replicate n 0 := by simp [partF]
theorem partF_succ (f : Nat → Rat) {n c : Nat} (hc : c < n) : (partF f n c).set c (f c) = partF f n (c + 1) := by
  have hl : ((List.range c).map f).length = c := by simp
  unfold partF
  rw [List.set_append_right _ _ (by omega), hl, Nat.sub_self, List.range_succ, List.map_append, show n - c = (n - (c + 1)) + 1 from by omega, List.replicate_succ, List.set_cons_zero]
  simp
theorem partF_at (f : Nat → Rat) {n c : Nat} (hc : c < n) : (partF f n c)[c]? = some 0 := by
  have hl : ((List.range c).map f).length = c := by simp
  unfold partF
  rw [List.getElem?_append_right (by omega), hl, Nat.sub_self, List.getElem?_replicate, if_pos (by omega)]
def mixAt (x y : List Rat) (h : List Bool) (i : Nat) : Rat := if h.getD i false then x.getD i 0 else y.getD i 0
def mixS (x y : List Rat) (s i : Nat) : Rat := if bitOn s i then x.getD i 0 else y.getD i 0
theorem getD_of {α : Type} {l : List α} {i : Nat} {x d : α} (h : l[i]? = some x) : l.getD i d = x := by rw [List.getD_eq_getElem?_getD, h]; rfl

set_option maxRecDepth 100000 in
set_option maxHeartbeats 2000000 in
theorem share_mixed (A1 A2 A3 : Option Addr) (n c1 c2 c3 B : Nat) (x y : List Rat) (hv : List Bool) (w : World) (h1 : ReadsQ w B A1 n x) (h2 : ReadsQ w B A2 n y) (h3 : Reads w B 1 A3 n (hv.map bv)) (hB : B ≤ w.heap.size) (hn1 : 1 ≤ n) (hn : n ≤ 20) :
    Calls Tryz.prog 11 #[.slice A1 n c1, .slice A2 n c2, .slice A3 n c3] w fun e w' => ∃ v, e = .returned (.tuple #[v, .int .i64 0]) ∧ OwnQ w' v ((List.range n).map (mixAt x y hv)) ∧ (∀ b, v.ownBlock = some b → w.heap.size ≤ b) ∧ Below w.heap.size w w' := by
  have H1 := Lib.hid h1
  have H2 := Lib.hid h2
  have H3 := Lib.hid h3
  have L1 := Lib.hid h1.len
  have L2 := Lib.hid h2.len
  clear h1 h2 h3
  have n1 : ¬ (n : Int) < 1 := by omega
  have n2 : ¬ (n : Int) > 20 := by omega
  have n3 : ¬ 20 < (n : Int) := by omega
  go_enter Tryz.func11, Tryz.ntmps11
  obtain ⟨w1, hmk, ho1, hb1⟩ := make_q n (by omega) w
  have hg6 : w.heap.size < w1.heap.size := (OwnW.lt ho1 _ rfl)
  go_wp2_with fail
  clear hmk
  obtain ⟨g6, hg6e⟩ : ∃ g6, w.heap.size = g6 := ⟨_, rfl⟩
  rw [hg6e] at ho1 hg6 ⊢
  have hg6w : w.heap.size ≤ g6 := by omega
  have HB1 := Lib.hid hb1
  have HO1 := Lib.hid ho1
  clear hg6e hb1 ho1
  go_loopw [38] (fun p wr => ∃ k : Nat, k ≤ n ∧ p = .int .i64 (k : Int) ∧ OwnQ wr (.slice (some ⟨g6, 0, none⟩) n n) (partF (mixAt x y hv) n k) ∧ Below w.heap.size w wr) (fun p _ => n - (intOf p).toNat)
  case atStart => exact ⟨0, by omega, rfl, by rw [partF_none]; exact HO1.out, HB1.out⟩
  case round =>
    obtain ⟨k, hk, rfl, ho6, hbw⟩ := hrel
    rename World => wr
    clear HB1 HO1
    by_cases hkn : k < n
    · have k1 : (k : Int) < (n : Int) := by omega
      obtain ⟨xq, hx⟩ : ∃ xq, x[k]? = some xq := ⟨_, List.getElem?_eq_getElem (by have := L1.out; omega)⟩
      obtain ⟨yq, hy⟩ : ∃ yq, y[k]? = some yq := ⟨_, List.getElem?_eq_getElem (by have := L2.out; omega)⟩
      obtain ⟨ad3, bo, rfl, hbB, hbo, hbc⟩ := (H3.out.below (hbw.mono hB)).atf hkn
      have hstep := partF_succ (mixAt x y hv) hkn
      have hmix : mixAt x y hv k = if bo then xq else yq := by unfold mixAt; rw [getD_of hbo, getD_of hx, getD_of hy]
      rw [hmix] at hstep
      have z := OwnQ.cell5 ho6 (partF_at (mixAt x y hv) hkn)
      obtain ⟨z0, z1, z2, z3, z4⟩ := z
      have f0 := OwnQ.frozen ho6 (k * 5)
      have f1 := OwnQ.frozen ho6 (k * 5 + 1)
      have f2 := OwnQ.frozen ho6 (k * 5 + 2)
      have f3 := OwnQ.frozen ho6 (k * 5 + 3)
      have f4 := OwnQ.frozen ho6 (k * 5 + 4)
      have HST := Lib.hid hstep
      have HO := Lib.hid ho6
      have HBW := Lib.hid hbw
      unfold bv at hbc
      clear hstep hmix hbo
      cases bo with
      | true =>
        obtain ⟨ad, gv, ov, rfl, hP, hgB, hat⟩ := ReadsQ.at_ (H1.out.below (hbw.mono hB)) hx
        obtain ⟨y0, y1, y2, y3, y4⟩ := hat.c5
        clear hx hy hat ho6 hbw
        go_wp2
        exact ⟨⟨k + 1, by omega, by go_num, by rw [← HST.out]; exact OwnQ.store HO.out k xq, bset5' HBW.out (by omega) _ _ _ _ _⟩, by simp [intOf]; omega⟩
      | false =>
        obtain ⟨ad, gv, ov, rfl, hP, hgB, hat⟩ := ReadsQ.at_ (H2.out.below (hbw.mono hB)) hy
        obtain ⟨y0, y1, y2, y3, y4⟩ := hat.c5
        clear hx hy hat ho6 hbw
        go_wp2
        exact ⟨⟨k + 1, by omega, by go_num, by rw [← HST.out]; exact OwnQ.store HO.out k yq, bset5' HBW.out (by omega) _ _ _ _ _⟩, by simp [intOf]; omega⟩
    · obtain rfl : k = n := by omega
      have c1 : ¬ (k : Int) < (k : Int) := by omega
      rw [partF_all] at ho6
      have HF6 := Lib.hid ho6
      have HBW := Lib.hid hbw
      clear ho6 hbw
      go_wp2
      go_returns
      exact ⟨_, rfl, HF6.out, fun b hb => by have e : g6 = b := by simpa [Value.ownBlock] using hb
                                             omega, HBW.out⟩
theorem share_mixed_no (A1 A2 A3 : Option Addr) (n m c1 c2 c3 : Nat) (w : World) (h : n < 1 ∨ n ≠ m) (hn : n ≤ 1000) (hm : m ≤ 1000) :
    Calls Tryz.prog 11 #[.slice A1 n c1, .slice A2 n c2, .slice A3 m c3] w fun e w' => e = .returned (.tuple #[.slice none 0 0, .int .i64 5]) ∧ w = w' := by
  by_cases hnm : n = m
  · subst hnm
    obtain rfl : n = 0 := by omega
    go_enter Tryz.func11, Tryz.ntmps11
    go_wp2
    go_returns
    exact ⟨rfl, rfl⟩
  · have h2 : ¬ (n : Int) = (m : Int) := by omega
    have h3 : ((n : Int) == (m : Int)) = false := by simp; omega
    have h4 : ((n : Int) != (m : Int)) = true := by simp; omega
    clear h
    go_enter Tryz.func11, Tryz.ntmps11
    go_wp2
    go_returns
    exact ⟨rfl, rfl⟩
set_option maxRecDepth 100000 in
set_option maxHeartbeats 2000000 in
theorem ref_mixed (A1 A2 : Option Addr) (n c1 c2 B s : Nat) (x y : List Rat) (w : World) (h1 : ReadsR w B A1 n x) (h2 : ReadsR w B A2 n y) (hB : B ≤ w.heap.size) (hn : n ≤ 20) (hs : s < 4611686018427387904) :
    Calls Tryz.prog 15 #[.slice A1 n c1, .slice A2 n c2, .int .i64 (s : Int)] w fun e w' => ∃ v, e = .returned v ∧ OwnR w' v ((List.range n).map (mixS x y s)) ∧ (∀ b, v.ownBlock = some b → w.heap.size ≤ b) ∧ Below w.heap.size w w' := by
  have H1 := Lib.hid h1
  have H2 := Lib.hid h2
  have L1 := Lib.hid h1.len
  have L2 := Lib.hid h2.len
  clear h1 h2
  go_enter Tryz.func15, Tryz.ntmps15
  go_wp2_with fail
  go_loopw [7, 8] (fun v i wr => ∃ k : Nat, k ≤ n ∧ i = .int .i64 (k : Int) ∧ OwnR wr v ((List.range k).map (mixS x y s)) ∧ (∀ b, v.ownBlock = some b → w.heap.size ≤ b) ∧ Below w.heap.size w wr) (fun _ i _ => n - (intOf i).toNat)
  case atStart => exact ⟨0, by omega, rfl, OwnR.nil w, (fun b h => by cases h), Below.refl _ _⟩
  case round =>
    obtain ⟨k, hk, rfl, hown, hfr, hbel⟩ := hrel
    rename World => wr
    by_cases hkn : k < n
    · have k1 : (k : Int) < (n : Int) := by omega
      have k2 : (k : Int) < 64 := by omega
      obtain ⟨xq, hx⟩ : ∃ xq, x[k]? = some xq := ⟨_, List.getElem?_eq_getElem (by have := L1.out; omega)⟩
      obtain ⟨yq, hy⟩ : ∃ yq, y[k]? = some yq := ⟨_, List.getElem?_eq_getElem (by have := L2.out; omega)⟩
      have hsc : (List.range (k + 1)).map (mixS x y s) = (List.range k).map (mixS x y s) ++ [if bitOn s k then xq else yq] := by
        rw [List.range_succ, List.map_append, ← getD_of (d := 0) hx, ← getD_of (d := 0) hy]
        rfl
      have HLK := Lib.hid (show ((List.range k).map (mixS x y s)).length ≤ 1000000 from by simp; omega)
      have hb1 := bit_eq1 (k := s) (c := k) hs
      have HO := Lib.hid hown
      have HFR := Lib.hid hfr
      have HBL := Lib.hid hbel
      cases hbit : bitOn s k with
      | true =>
        obtain ⟨ad, gg, o, r, rfl, hP, hgB, ha, hiq⟩ := (H1.out.below (hbel.mono hB)).at_ hx hkn
        obtain ⟨x0, x1, x2⟩ := ha.c3
        obtain ⟨rg, rA, rl, rc, rA', rl', rc'⟩ := r
        rw [hbit] at hb1 hsc
        have HSC := Lib.hid hsc
        have HIQ := Lib.hid (hiq.more (Nat.le_trans hB hbel.size))
        simp only [] at x0 x1 x2
        unfold RC.v at HIQ
        clear hsc hx hy hown hfr hbel hiq ha hbit
        go_wp2_with (at_builtin; refine appR rfl (.tmp 21) (.tmp 26) rfl wr _ _ xq rg rA rl rc rA' rl' rc' rfl HO.out HIQ.out rfl HLK.out ?_; intro v' w2 hown2 hgr)
        have hbel2 := hgr.below HBL.out.size HFR.out
        have hfr2 := hgr.fresh HBL.out.size HFR.out
        exact ⟨⟨k + 1, by omega, by go_num, by rw [HSC.out]; exact hown2, hfr2, HBL.out.trans hbel2⟩, by simp [intOf]; omega⟩
      | false =>
        obtain ⟨ad, gg, o, r, rfl, hP, hgB, ha, hiq⟩ := (H2.out.below (hbel.mono hB)).at_ hy hkn
        obtain ⟨x0, x1, x2⟩ := ha.c3
        obtain ⟨rg, rA, rl, rc, rA', rl', rc'⟩ := r
        rw [hbit] at hb1 hsc
        have HSC := Lib.hid hsc
        have HIQ := Lib.hid (hiq.more (Nat.le_trans hB hbel.size))
        simp only [] at x0 x1 x2
        unfold RC.v at HIQ
        clear hsc hx hy hown hfr hbel hiq ha hbit
        go_wp2_with (at_builtin; refine appR rfl (.tmp 28) (.tmp 33) rfl wr _ _ yq rg rA rl rc rA' rl' rc' rfl HO.out HIQ.out rfl HLK.out ?_; intro v' w2 hown2 hgr)
        have hbel2 := hgr.below HBL.out.size HFR.out
        have hfr2 := hgr.fresh HBL.out.size HFR.out
        exact ⟨⟨k + 1, by omega, by go_num, by rw [HSC.out]; exact hown2, hfr2, HBL.out.trans hbel2⟩, by simp [intOf]; omega⟩
    · obtain rfl : k = n := by omega
      have k1 : ¬ (k : Int) < (k : Int) := by omega
      have HF := Lib.hid hown
      have HFR := Lib.hid hfr
      have HBL := Lib.hid hbel
      clear hown hfr hbel
      go_wp2
      go_ret
      exact ⟨_, rfl, HF.out, HFR.out, HBL.out⟩
end Go.Proofs.YtbjemjopcoajcaaGreatDoor

/-! share.Worth, share.Turns. -/
namespace Go.Proofs.YtbjemjopcoajcaaGreatDoor
open Go.RowKit
set_option linter.unusedSimpArgs false
set_option linter.unusedVariables false

/-- the set of those that are there -/
def setTo (h : List Bool) : Nat → Nat
  | 0 => 0
  | k + 1 => if h.getD k false then setTo h k ||| 2 ^ k else setTo h k
theorem setTo_lt (h : List Bool) : ∀ k, setTo h k < 2 ^ k := by
  intro k
  induction k with
  | zero => exact Nat.one_pos
  | succ k ih =>
    unfold setTo
    have h2 : 2 ^ k < 2 ^ (k + 1) := Nat.pow_lt_pow_right (by omega) (by omega)
    split
    · exact Nat.or_lt_two_pow (by omega) h2
    · omega
/-- the set of those that have come -/
def setOf (o : List Nat) (s : Nat) : Nat := o.foldl (fun s c => s ||| 2 ^ c) s
theorem setOf_snoc (o : List Nat) (c s : Nat) : setOf (o ++ [c]) s = setOf o s ||| 2 ^ c := by simp [setOf]
theorem turnsGo_snoc (v : List Rat) (o : List Nat) (c : Nat) : ∀ s l, turnsGo v (o ++ [c]) s l = (turnsGo v o s l).set c (v.getD (setOf o s ||| 2 ^ c) 0 - v.getD (setOf o s) 0) := by
  induction o with
  | nil => intro s l; rfl
  | cons x o ih => intro s l; exact ih _ _
theorem setOf_lt {n : Nat} (o : List Nat) (ho : ∀ c ∈ o, c < n) : ∀ s, s < 2 ^ n → setOf o s < 2 ^ n := by
  induction o with
  | nil => intro s hs; exact hs
  | cons x o ih => intro s hs; exact ih (fun c hc => ho c (by simp [hc])) _ (or_lt hs (ho x (by simp)))
theorem bitOn_test (k c : Nat) : bitOn k c = k.testBit c := by
  rw [Nat.testBit_eq_decide_div_mod_eq]
  unfold bitOn
  rfl
theorem setOf_bit (o : List Nat) (c : Nat) : ∀ s, bitOn (setOf o s) c = (bitOn s c || decide (c ∈ o)) := by
  induction o with
  | nil => intro s; simp [setOf]
  | cons x o ih =>
    intro s
    show bitOn (setOf o (s ||| 2 ^ x)) c = _
    rw [ih, bitOn_test, bitOn_test, Nat.testBit_or, Nat.testBit_two_pow]
    by_cases h : x = c
    · subst h; simp
    · have h2 : ¬ c = x := fun e => h e.symm
      simp [h, h2]
theorem bitOn_zero (c : Nat) : bitOn 0 c = false := by simp [bitOn]
theorem setOf_bit0 (o : List Nat) (c : Nat) : bitOn (setOf o 0) c = decide (c ∈ o) := by rw [setOf_bit, bitOn_zero, Bool.false_or]

set_option maxRecDepth 100000 in
set_option maxHeartbeats 2000000 in
theorem share_worth (A1 A2 : Option Addr) (m c1 n c2 B : Nat) (lv : List Rat) (hv : List Bool) (w : World) (h : ReadsQ w B A1 m lv) (h2 : Reads w B 1 A2 n (hv.map bv)) (hB : B ≤ w.heap.size) (hm : m = 2 ^ n) (hn1 : 1 ≤ n) (hn : n ≤ 10) :
    Calls Tryz.prog 19 #[.slice A1 m c1, .slice A2 n c2] w (Ret (.tuple #[qV (lv.getD (setTo hv n) 0), .int .i64 0]) w) := by
  have hcol := share_columns A1 m c1 n
  have HCOL := Lib.hid (fun w => hcol w hm hn1 hn)
  have HLN := Lib.hid h.len
  have H := Lib.hid h
  have H2 := Lib.hid h2
  have hlt := setTo_lt hv n
  rw [← hm] at hlt
  have hm10 : m ≤ 1024 := by rw [hm]; exact pow10 hn
  have HLT := Lib.hid hlt
  obtain ⟨x, hxd⟩ : ∃ x, lv.getD (setTo hv n) 0 = x := ⟨_, rfl⟩
  rw [hxd]
  have HXD := Lib.hid hxd
  unfold qV
  clear hcol hm h h2 hlt hxd
  have b0 := Blk.new w  52 #[.bool false, .int .u64 0, .string ⟨#[]⟩, .int .u64 0, .string ⟨#[]⟩]; have hB := balloc1 w (.cells #[.bool false, .int .u64 0, .string ⟨#[]⟩, .int .u64 0, .string ⟨#[]⟩] 52); have hZ := Lib.hid (show (w.alloc (.cells #[.bool false, .int .u64 0, .string ⟨#[]⟩, .int .u64 0, .string ⟨#[]⟩] 52)).heap.size = w.heap.size + 1 from by simp)
  go_enter Tryz.func19, Tryz.ntmps19
  go_wp2_with fail
  generalize (w.alloc (.cells #[.bool false, .int .u64 0, .string ⟨#[]⟩, .int .u64 0, .string ⟨#[]⟩] 52)) = W at *
  refine (HCOL.out W).mono ?_
  rintro e w' ⟨rfl, rfl⟩
  clear HCOL
  go_wp2_with fail
  go_loopw [8, 27] (fun s i wr => ∃ k : Nat, k ≤ n ∧ i = .int .i64 (k : Int) ∧ s = .int .i64 (setTo hv k : Int) ∧ wr = W) (fun _ i _ => n - (intOf i).toNat)
  case atStart => exact ⟨0, by omega, rfl, rfl, rfl⟩
  case round =>
    obtain ⟨k, hk, rfl, rfl, rfl⟩ := hrel
    by_cases hkn : k < n
    · have k1 : (k : Int) < (n : Int) := by omega
      have k2 : (k : Int) < 64 := by omega
      have k3 : ¬ (k : Int) < 0 := by omega
      obtain ⟨ad3, bo, rfl, hbB, hbo, hbc⟩ := (H2.out.below (hB.mono ‹_›)).atf hkn
      have hs1 : setTo hv (k + 1) = if bo then setTo hv k ||| 2 ^ k else setTo hv k := by rw [setTo, getD_of hbo]
      have hlk := setTo_lt hv k
      have hpk : 2 ^ k ≤ 1024 := pow10 (by omega)
      have hor := or_walk (k := setTo hv k) (c := k) (by omega) (by omega)
      have hpw := pow_wrap (k := k) (by omega)
      have HS1 := Lib.hid hs1
      generalize setTo hv k = sv at *
      unfold bv at hbc
      clear hbo hs1 hlk
      cases bo with
      | true =>
        go_wp2
        exact ⟨⟨k + 1, by omega, by go_num, by rw [HS1.out, if_pos rfl], trivial⟩, by simp [intOf]; omega⟩
      | false =>
        go_wp2
        exact ⟨⟨k + 1, by omega, by go_num, by rw [HS1.out, if_neg (by simp)], trivial⟩, by simp [intOf]; omega⟩
    · obtain rfl : k = n := by omega
      have k1 : ¬ (k : Int) < (k : Int) := by omega
      have hlt := HLT.out
      have hxd := HXD.out
      generalize setTo hv k = sv at *
      have s1 : (sv : Int) < (m : Int) := by omega
      have hx : lv[sv]? = some x := by
        rw [← hxd, List.getD_eq_getElem?_getD, List.getElem?_eq_getElem (by have := HLN.out; omega)]
        rfl
      obtain ⟨ad, gv, ov, rfl, hP, hgB, hat⟩ := ReadsQ.at_ (H.out.below (hB.mono ‹_›)) hx
      obtain ⟨y0, y1, y2, y3, y4⟩ := hat.c5
      clear hx hat hlt hxd HXD
      obtain ⟨b0q0, b0q1, b0q2, b0q3, b0q4, b0f0, b0f1, b0f2, b0f3, b0f4, b0s0, b0s1, b0s2, b0s3, b0s4⟩ := b0.f5
      go_wp2
      refine bodyPost_ret (v := .tuple #[.agg #[.bool (decide (x.num < 0)), .int .u64 (lo x.num.natAbs : Int), .string (mo x.num.natAbs), .int .u64 (lo ((qden x)) : Int), .string (mo ((qden x)))], .int .i64 0]) (by simp [results, Tryz.results19, go_sem, b0s0, b0s1, b0s2, b0s3, b0s4]) rfl ?_
      exact ⟨rfl, bset5 hB (by omega) _ _ _ _ _⟩
/-- behind k of the order -/
def TurnRel (w : World) (lv : List Rat) (o : List Nat) (n g6 k : Nat) (wr : World) : Prop :=
  OwnQ wr (.slice (some ⟨g6, 0, none⟩) n n) (turnsGo lv (o.take k) 0 (List.replicate n 0)) ∧ Below w.heap.size w wr
set_option maxRecDepth 100000 in
set_option maxHeartbeats 8000000 in
theorem share_turns (A1 A2 : Option Addr) (m c1 n c2 B M : Nat) (lv : List Rat) (o : List Nat) (w : World) (h : ReadsQ w B A1 m lv) (h2 : Reads w B 1 A2 n (o.map iv)) (hB : B ≤ w.heap.size) (hm : m = 2 ^ n) (hn1 : 1 ≤ n) (hn : n ≤ 10) (ho : ∀ c ∈ o, c < n)
    (hM : M ≤ 1000000) (hl : ∀ x ∈ lv, QS M x) (hT : Tab w) :
    Calls Tryz.prog 20 #[.slice A1 m c1, .slice A2 n c2] w fun e w' => Below w.heap.size w w' ∧
      ((o.Nodup ∧ ∃ v, e = .returned (.tuple #[v, .int .i64 0]) ∧ OwnQ w' v (turnsGo lv o 0 (List.replicate n 0)) ∧ (∀ b, v.ownBlock = some b → w.heap.size ≤ b)) ∨ (¬ o.Nodup ∧ e = .returned (.tuple #[.slice none 0 0, .int .i64 1]))) := by
  have hcol := share_columns A1 m c1 n
  have HCOL := Lib.hid (fun w => hcol w hm hn1 hn)
  have HM := Lib.hid hm
  have HLN := Lib.hid h.len
  have HOL := Lib.hid h2.lenf
  have HR := Lib.hid h
  have H2 := Lib.hid h2
  have HT := Lib.hid hT
  have HL := Lib.hid hl
  have HO := Lib.hid ho
  have hm10 : m ≤ 1024 := by rw [hm]; exact pow10 hn
  clear hcol hm h h2 hT hl ho
  go_enter Tryz.func20, Tryz.ntmps20
  go_wp2_with fail
  refine (HCOL.out w).mono ?_
  rintro e w' ⟨rfl, rfl⟩
  clear HCOL
  obtain ⟨w1, hmk, ho1, hb1⟩ := make_q n (by omega) w
  have hg6 : w.heap.size < w1.heap.size := (OwnW.lt ho1 _ rfl)
  have hnn : ((n : Int) == (n : Int)) = true := by simp
  go_wp2_with fail
  clear hmk
  obtain ⟨g6, hg6e⟩ : ∃ g6, w.heap.size = g6 := ⟨_, rfl⟩
  rw [hg6e] at ho1 hg6 ⊢
  have hg6w : w.heap.size ≤ g6 := by omega
  have HB1 := Lib.hid hb1
  have HO1 := Lib.hid ho1
  clear hg6e hb1 ho1
  go_loopw [9, 30] (fun s i wr => ∃ k : Nat, k ≤ n ∧ i = .int .i64 (k : Int) ∧ s = .int .i64 (setOf (o.take k) 0 : Int) ∧ (o.take k).Nodup ∧ TurnRel w lv o n g6 k wr) (fun _ i _ => n - (intOf i).toNat)
  case atStart => exact ⟨0, by omega, rfl, rfl, List.nodup_nil, HO1.out, HB1.out⟩
  case round =>
    obtain ⟨k, hk, rfl, rfl, hnd, hrel⟩ := hrel
    rename World => wr
    obtain ⟨ho6, hbw⟩ := hrel
    clear HB1 HO1
    by_cases hkn : k < n
    · have k1 : (k : Int) < (n : Int) := by omega
      obtain ⟨ad2, c, rfl, hbB, hoc, hcc⟩ := (H2.out.below (hbw.mono hB)).atf hkn
      have hcn : c < n := HO.out c (List.mem_of_getElem? hoc)
      have hts : o.take (k + 1) = o.take k ++ [c] := by rw [List.take_add_one, hoc]; rfl
      have hbit := setOf_bit0 (o.take k) c
      have hsl := setOf_lt (o.take k) (fun c hc => HO.out c (List.mem_of_mem_take hc)) 0 (Nat.two_pow_pos n)
      have hsn := setOf_snoc (o.take k) c 0
      have htg := turnsGo_snoc lv (o.take k) c 0 (List.replicate n 0)
      rw [← hts] at hsn htg
      rw [← HM.out] at hsl
      have c1 : ¬ (c : Int) < 0 := by omega
      have c2 : (c : Int) < (n : Int) := by omega
      have c3 : ¬ (n : Int) ≤ (c : Int) := by omega
      have hb1 := bit_eq1 (k := setOf (o.take k) 0) (c := c) (by omega)
      have hor := or_walk (k := setOf (o.take k) 0) (c := c) (by omega) (by omega)
      have hpw := pow_wrap (k := c) (by omega)
      have hnx : setOf (o.take k) 0 ||| 2 ^ c < m := by rw [HM.out]; exact or_lt (by rw [← HM.out]; exact hsl) hcn
      generalize setOf (o.take k) 0 = s at *
      unfold iv at hcc
      by_cases hmem : c ∈ o.take k
      · rw [decide_eq_true hmem] at hbit
        rw [hbit] at hb1
        have hnot : ¬ o.Nodup := fun h => by
          have h2 := h.sublist (List.take_sublist (k + 1) o)
          rw [hts] at h2
          exact (List.nodup_append.1 h2).2.2 c hmem c (by simp) rfl
        have HN := Lib.hid hnot
        have HBW := Lib.hid hbw
        clear hbit hts hsn htg hnot hbw ho6 hmem hnd hoc
        go_wp2
        go_returns
        exact ⟨HBW.out, .inr ⟨HN.out, rfl⟩⟩
      · rw [decide_eq_false hmem] at hbit
        rw [hbit] at hb1
        have hnd' : (o.take (k + 1)).Nodup := by
          rw [hts]
          exact List.nodup_append.2 ⟨hnd, by simp, fun a ha b hb => by
            simp at hb
            rw [hb]
            exact fun e => hmem (e ▸ ha)⟩
        obtain ⟨sn, hsne⟩ : ∃ sn, s ||| 2 ^ c = sn := ⟨_, rfl⟩
        rw [hsne] at hsn htg hor hnx
        have s1 : (s : Int) < (m : Int) := by omega
        have s2 : (sn : Int) < (m : Int) := by omega
        obtain ⟨x, hx⟩ : ∃ x, lv[sn]? = some x := ⟨_, List.getElem?_eq_getElem (by have := HLN.out; omega)⟩
        obtain ⟨y, hy⟩ : ∃ y, lv[s]? = some y := ⟨_, List.getElem?_eq_getElem (by have := HLN.out; omega)⟩
        obtain ⟨z, hz⟩ : ∃ z, (turnsGo lv (o.take k) 0 (List.replicate n 0))[c]? = some z := ⟨_, List.getElem?_eq_getElem (by rw [turnsGo_len]; simpa using hcn)⟩
        rw [getD_of hx, getD_of hy] at htg
        obtain ⟨adx, gx, ox, rfl, hPx, hgBx, b2⟩ := ReadsQ.at_ (HR.out.below (hbw.mono hB)) hx
        obtain ⟨ady, gy, oy, hAy, hPy, hgBy, b3⟩ := ReadsQ.at_ (HR.out.below (hbw.mono hB)) hy
        obtain rfl := Option.some.inj hAy
        have b1 := OwnQ.at_ ho6 hz
        have hxs : QS 1000000 x := (HL.out x (List.mem_of_getElem? hx)).mono hM
        have hys : QS 1000000 y := (HL.out y (List.mem_of_getElem? hy)).mono hM
        have hsub := fun w (hT : Tab w) => frac_sub x y w (hxs.mono (by omega)) (hys.mono (by omega)) hT
        generalize x - y = dd at *
        unfold qV at hsub
        have HSUB := Lib.hid hsub
        have HTG := Lib.hid htg
        have HSN := Lib.hid hsn
        have HND := Lib.hid hnd'
        have tT := HT.out.next hbw
        have ne1 : ¬ g6 = gx := by have := hb1; omega
        have ne2 : ¬ gx = g6 := by omega
        have ne3 : ¬ g6 = gy := by omega
        have ne4 : ¬ gy = g6 := by omega
        clear hsub htg hsn hnd' hnd hmem hbit hts hoc hxs hys hx hy hz hAy hsne
        go_upto_region 12 with fail
        obtain ⟨b1q0, b1q1, b1q2, b1q3, b1q4⟩ := b1.c5; have c1 := b1.drew; have c1l := c1.lt; obtain ⟨b2q0, b2q1, b2q2, b2q3, b2q4⟩ := b2.c5; have c2 := b2.drew; have c2l := c2.lt; obtain ⟨b3q0, b3q1, b3q2, b3q3, b3q4⟩ := b3.c5; have c3 := b3.drew; have c3l := c3.lt; have hc := bdrew0 wr; go_region_with (first | (go_at_call 31; (with_reducible refine (HSUB.out _ (tT.next hc)).mono ?_); rintro e w1 ⟨rfl, hw1⟩; have c1 := c1.below hw1 c1.lt; (try clear c1q0 c1q1 c1q2 c1q3 c1q4); obtain ⟨c1q0, c1q1, c1q2, c1q3, c1q4⟩ := c1.c5; (try clear c1l); have c1l := c1.lt; have c2 := c2.below hw1 c2.lt; (try clear c2q0 c2q1 c2q2 c2q3 c2q4); obtain ⟨c2q0, c2q1, c2q2, c2q3, c2q4⟩ := c2.c5; (try clear c2l); have c2l := c2.lt; have c3 := c3.below hw1 c3.lt; (try clear c3q0 c3q1 c3q2 c3q3 c3q4); obtain ⟨c3q0, c3q1, c3q2, c3q3, c3q4⟩ := c3.c5; (try clear c3l); have c3l := c3.lt; have hc := bthen hc hw1; have o6 := OwnW.next ho6 hc; have f0 := OwnQ.frozen o6 (c * 5); have f1 := OwnQ.frozen o6 (c * 5 + 1); have f2 := OwnQ.frozen o6 (c * 5 + 2); have f3 := OwnQ.frozen o6 (c * 5 + 3); have f4 := OwnQ.frozen o6 (c * 5 + 4)))
        all_goals
          go_wp2
          exact ⟨⟨k + 1, by omega, by go_num, by rw [HSN.out], HND.out, by rw [HTG.out]; exact OwnQ.store o6 c dd, bset5' (hbw.trans (hc.mono hbw.size)) (by omega) _ _ _ _ _⟩, by simp [intOf]; omega⟩
    · obtain rfl : k = n := by omega
      have k1 : ¬ (k : Int) < (k : Int) := by omega
      have hta : o.take k = o := List.take_of_length_le (by have := HOL.out; omega)
      rw [hta] at hnd ho6 ⊢
      have HND := Lib.hid hnd
      have HF6 := Lib.hid ho6
      have HBW := Lib.hid hbw
      clear hnd ho6 hbw
      generalize setOf o 0 = s at *
      go_wp2
      go_returns
      exact ⟨HBW.out, .inl ⟨HND.out, _, rfl, HF6.out, fun b hb => by have e : g6 = b := by simpa [Value.ownBlock] using hb
                                                                     omega⟩⟩
/-! ### what is refused -/
theorem share_shares_no (A1 : Option Addr) (m c1 : Nat) (w : World) (hm : ∀ n, 1 ≤ n → n ≤ 10 → m ≠ 2 ^ n) :
    Calls Tryz.prog 17 #[.slice A1 m c1] w fun e w' => e = .returned (.tuple #[.slice none 0 0, .int .i64 5]) ∧ w = w' := by
  have HCOL := Lib.hid (share_columns_none A1 m c1 w hm)
  clear hm
  go_enter Tryz.func17, Tryz.ntmps17
  go_wp2_with fail
  refine HCOL.out.mono ?_
  rintro e w' ⟨rfl, rfl⟩
  go_wp2
  go_returns
  exact ⟨rfl, rfl⟩
set_option maxHeartbeats 1000000 in
theorem share_worth_no (A1 A2 : Option Addr) (m c1 k c2 n : Nat) (b : Bool) (w : World) (hcol : ∀ w, Calls Tryz.prog 37 #[.slice A1 m c1] w fun e w' => e = .returned (.tuple #[.int .i64 (n : Int), .bool b]) ∧ w = w') (h : b = false ∨ k ≠ n) (hk : k ≤ 1000) (hn : n ≤ 1000) :
    Calls Tryz.prog 19 #[.slice A1 m c1, .slice A2 k c2] w (Ret (.tuple #[qV 0, .int .i64 5]) w) := by
  have HCOL := Lib.hid hcol
  have e0 : qV 0 = .agg #[.bool false, .int .u64 0, .string ⟨#[]⟩, .int .u64 0, .string ⟨#[]⟩] := rfl
  rw [e0]
  clear hcol e0
  have b0 := Blk.new w  52 #[.bool false, .int .u64 0, .string ⟨#[]⟩, .int .u64 0, .string ⟨#[]⟩]; have hB := balloc1 w (.cells #[.bool false, .int .u64 0, .string ⟨#[]⟩, .int .u64 0, .string ⟨#[]⟩] 52); have hZ := Lib.hid (show (w.alloc (.cells #[.bool false, .int .u64 0, .string ⟨#[]⟩, .int .u64 0, .string ⟨#[]⟩] 52)).heap.size = w.heap.size + 1 from by simp)
  go_enter Tryz.func19, Tryz.ntmps19
  go_wp2_with fail
  generalize (w.alloc (.cells #[.bool false, .int .u64 0, .string ⟨#[]⟩, .int .u64 0, .string ⟨#[]⟩] 52)) = W at *
  refine (HCOL.out W).mono ?_
  rintro e w' ⟨rfl, rfl⟩
  clear HCOL
  obtain ⟨b0q0, b0q1, b0q2, b0q3, b0q4, b0f0, b0f1, b0f2, b0f3, b0f4, b0s0, b0s1, b0s2, b0s3, b0s4⟩ := b0.f5
  cases b with
  | false =>
    clear h
    go_wp2
    refine bodyPost_ret (v := .tuple #[.agg #[.bool false, .int .u64 0, .string ⟨#[]⟩, .int .u64 0, .string ⟨#[]⟩], .int .i64 5]) (by simp [results, Tryz.results19, go_sem, b0s0, b0s1, b0s2, b0s3, b0s4]) rfl ?_
    exact ⟨rfl, bset5 hB (by omega) _ _ _ _ _⟩
  | true =>
    have h1 : k ≠ n := by simpa using h
    have h2 : ¬ (k : Int) = (n : Int) := by omega
    have h3 : ((k : Int) == (n : Int)) = false := by simp; omega
    have h4 : ((k : Int) != (n : Int)) = true := by simp; omega
    have h5 : ¬ k = n := h1
    clear h h1
    go_wp2
    refine bodyPost_ret (v := .tuple #[.agg #[.bool false, .int .u64 0, .string ⟨#[]⟩, .int .u64 0, .string ⟨#[]⟩], .int .i64 5]) (by simp [results, Tryz.results19, go_sem, b0s0, b0s1, b0s2, b0s3, b0s4]) rfl ?_
    exact ⟨rfl, bset5 hB (by omega) _ _ _ _ _⟩
set_option maxHeartbeats 1000000 in
theorem share_turns_no (A1 A2 : Option Addr) (m c1 k c2 n : Nat) (w : World) (hcol : ∀ w, Calls Tryz.prog 37 #[.slice A1 m c1] w fun e w' => e = .returned (.tuple #[.int .i64 (n : Int), .bool false]) ∧ w = w') :
    Calls Tryz.prog 20 #[.slice A1 m c1, .slice A2 k c2] w fun e w' => e = .returned (.tuple #[.slice none 0 0, .int .i64 5]) ∧ w = w' := by
  have HCOL := Lib.hid hcol
  clear hcol
  go_enter Tryz.func20, Tryz.ntmps20
  go_wp2_with fail
  refine (HCOL.out w).mono ?_
  rintro e w' ⟨rfl, rfl⟩
  go_wp2
  go_returns
  exact ⟨rfl, rfl⟩
end Go.Proofs.YtbjemjopcoajcaaGreatDoor
