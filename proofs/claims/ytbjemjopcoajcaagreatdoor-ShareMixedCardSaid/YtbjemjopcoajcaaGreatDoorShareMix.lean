/-
  share.Mixed, the document's Mixed.
-/
import Derived.Test.YtbjemjopcoajcaaGreatDoorShareP
import Derived.Test.YtbjemjopcoajcaaGreatDoorHandMore
namespace Go.Proofs.YtbjemjopcoajcaaGreatDoor
open Go.RowKit
set_option linter.unusedSimpArgs false
set_option linter.unusedVariables false

def bv (b : Bool) : Value := .bool b
/-- a row filled from the front -/
def partF (f : Nat → Rat) (n c : Nat) : List Rat := (List.range c).map f ++ List.replicate (n - c) 0
theorem partF_len (f : Nat → Rat) {n c : Nat} (hc : c ≤ n) : (partF f n c).length = n := by simp [partF]; omega
theorem partF_all (f : Nat → Rat) (n : Nat) : partF f n n = (List.range n).map f := by simp [partF]
theorem partF_none (f : Nat → Rat) (n : Nat) : partF f n 0 = List.replicate n 0 := by simp [partF]
theorem partF_succ (f : Nat → Rat) {n c : Nat} (hc : c < n) : (partF f n c).set c (f c) = partF f n (c + 1) := by
  have hl : ((List.range c).map f).length = c := by simp
  unfold partF
  rw [List.set_append_right _ _ (by omega), hl, Nat.sub_self, List.range_succ, List.map_append, show n - c = (n - (c + 1)) + 1 from by omega, List.replicate_succ, List.set_cons_zero]
  simp
theorem partF_at (f : Nat → Rat) {n c : Nat} (hc : c < n) : (partF f n c)[c]? = some 0 := by
  have hl : ((List.range c).map f).length = c := by simp
  unfold partF
  rw [List.getElem?_append_right (by omega), hl, Nat.sub_self, List.getElem?_replicate, if_pos (by omega)]
def mixAt (x y : List Rat) (h : List Bool) (i : Nat) : Rat := if h.getD i false then x.getD i 0 else y.getD i 0
def mixS (x y : List Rat) (s i : Nat) : Rat := if bitOn s i then x.getD i 0 else y.getD i 0
theorem getD_of {α : Type} {l : List α} {i : Nat} {x d : α} (h : l[i]? = some x) : l.getD i d = x := by rw [List.getD_eq_getElem?_getD, h]; rfl

set_option maxRecDepth 100000 in
set_option maxHeartbeats 2000000 in
theorem share_mixed (A1 A2 A3 : Option Addr) (n c1 c2 c3 B : Nat) (x y : List Rat) (hv : List Bool) (w : World) (h1 : ReadsQ w B A1 n x) (h2 : ReadsQ w B A2 n y) (h3 : Reads w B 1 A3 n (hv.map bv)) (hB : B ≤ w.heap.size) (hn1 : 1 ≤ n) (hn : n ≤ 20) :
    Calls Tryz.prog 11 #[.slice A1 n c1, .slice A2 n c2, .slice A3 n c3] w fun e w' => ∃ v, e = .returned (.tuple #[v, .int .i64 0]) ∧ OwnQ w' v ((List.range n).map (mixAt x y hv)) ∧ (∀ b, v.ownBlock = some b → w.heap.size ≤ b) ∧ Below w.heap.size w w' := by
  have H1 := Lib.hid h1
  have H2 := Lib.hid h2
  have H3 := Lib.hid h3
  have L1 := Lib.hid h1.len
  have L2 := Lib.hid h2.len
  clear h1 h2 h3
  have n1 : ¬ (n : Int) < 1 := by omega
  have n2 : ¬ (n : Int) > 20 := by omega
  have n3 : ¬ 20 < (n : Int) := by omega
  go_enter Tryz.func11, Tryz.ntmps11
  obtain ⟨w1, hmk, ho1, hb1⟩ := make_q n (by omega) w
  have hg6 : w.heap.size < w1.heap.size := (OwnW.lt ho1 _ rfl)
  go_wp2_with fail
  clear hmk
  obtain ⟨g6, hg6e⟩ : ∃ g6, w.heap.size = g6 := ⟨_, rfl⟩
  rw [hg6e] at ho1 hg6 ⊢
  have hg6w : w.heap.size ≤ g6 := by omega
  have HB1 := Lib.hid hb1
  have HO1 := Lib.hid ho1
  clear hg6e hb1 ho1
  go_loopw [38] (fun p wr => ∃ k : Nat, k ≤ n ∧ p = .int .i64 (k : Int) ∧ OwnQ wr (.slice (some ⟨g6, 0, none⟩) n n) (partF (mixAt x y hv) n k) ∧ Below w.heap.size w wr) (fun p _ => n - (intOf p).toNat)
  case atStart => exact ⟨0, by omega, rfl, by rw [partF_none]; exact HO1.out, HB1.out⟩
  case round =>
    obtain ⟨k, hk, rfl, ho6, hbw⟩ := hrel
    rename World => wr
    clear HB1 HO1
    by_cases hkn : k < n
    · have k1 : (k : Int) < (n : Int) := by omega
      obtain ⟨xq, hx⟩ : ∃ xq, x[k]? = some xq := ⟨_, List.getElem?_eq_getElem (by have := L1.out; omega)⟩
      obtain ⟨yq, hy⟩ : ∃ yq, y[k]? = some yq := ⟨_, List.getElem?_eq_getElem (by have := L2.out; omega)⟩
      obtain ⟨ad3, bo, rfl, hbB, hbo, hbc⟩ := (H3.out.below (hbw.mono hB)).atf hkn
      have hstep := partF_succ (mixAt x y hv) hkn
      have hmix : mixAt x y hv k = if bo then xq else yq := by unfold mixAt; rw [getD_of hbo, getD_of hx, getD_of hy]
      rw [hmix] at hstep
      have z := OwnQ.cell5 ho6 (partF_at (mixAt x y hv) hkn)
      obtain ⟨z0, z1, z2, z3, z4⟩ := z
      have f0 := OwnQ.frozen ho6 (k * 5)
      have f1 := OwnQ.frozen ho6 (k * 5 + 1)
      have f2 := OwnQ.frozen ho6 (k * 5 + 2)
      have f3 := OwnQ.frozen ho6 (k * 5 + 3)
      have f4 := OwnQ.frozen ho6 (k * 5 + 4)
      have HST := Lib.hid hstep
      have HO := Lib.hid ho6
      have HBW := Lib.hid hbw
      unfold bv at hbc
      clear hstep hmix hbo
      cases bo with
      | true =>
        obtain ⟨ad, gv, ov, rfl, hP, hgB, hat⟩ := ReadsQ.at_ (H1.out.below (hbw.mono hB)) hx
        obtain ⟨y0, y1, y2, y3, y4⟩ := hat.c5
        clear hx hy hat ho6 hbw
        go_wp2
        exact ⟨⟨k + 1, by omega, by go_num, by rw [← HST.out]; exact OwnQ.store HO.out k xq, bset5' HBW.out (by omega) _ _ _ _ _⟩, by simp [intOf]; omega⟩
      | false =>
        obtain ⟨ad, gv, ov, rfl, hP, hgB, hat⟩ := ReadsQ.at_ (H2.out.below (hbw.mono hB)) hy
        obtain ⟨y0, y1, y2, y3, y4⟩ := hat.c5
        clear hx hy hat ho6 hbw
        go_wp2
        exact ⟨⟨k + 1, by omega, by go_num, by rw [← HST.out]; exact OwnQ.store HO.out k yq, bset5' HBW.out (by omega) _ _ _ _ _⟩, by simp [intOf]; omega⟩
    · obtain rfl : k = n := by omega
      have c1 : ¬ (k : Int) < (k : Int) := by omega
      rw [partF_all] at ho6
      have HF6 := Lib.hid ho6
      have HBW := Lib.hid hbw
      clear ho6 hbw
      go_wp2
      go_returns
      exact ⟨_, rfl, HF6.out, fun b hb => by have e : g6 = b := by simpa [Value.ownBlock] using hb
                                             omega, HBW.out⟩
theorem share_mixed_no (A1 A2 A3 : Option Addr) (n m c1 c2 c3 : Nat) (w : World) (h : n < 1 ∨ n ≠ m) (hn : n ≤ 1000) (hm : m ≤ 1000) :
    Calls Tryz.prog 11 #[.slice A1 n c1, .slice A2 n c2, .slice A3 m c3] w fun e w' => e = .returned (.tuple #[.slice none 0 0, .int .i64 5]) ∧ w = w' := by
  by_cases hnm : n = m
  · subst hnm
    obtain rfl : n = 0 := by omega
    go_enter Tryz.func11, Tryz.ntmps11
    go_wp2
    go_returns
    exact ⟨rfl, rfl⟩
  · have h2 : ¬ (n : Int) = (m : Int) := by omega
    have h3 : ((n : Int) == (m : Int)) = false := by simp; omega
    have h4 : ((n : Int) != (m : Int)) = true := by simp; omega
    clear h
    go_enter Tryz.func11, Tryz.ntmps11
    go_wp2
    go_returns
    exact ⟨rfl, rfl⟩
set_option maxRecDepth 100000 in
set_option maxHeartbeats 2000000 in
theorem ref_mixed (A1 A2 : Option Addr) (n c1 c2 B s : Nat) (x y : List Rat) (w : World) (h1 : ReadsR w B A1 n x) (h2 : ReadsR w B A2 n y) (hB : B ≤ w.heap.size) (hn : n ≤ 20) (hs : s < 4611686018427387904) :
    Calls Tryz.prog 15 #[.slice A1 n c1, .slice A2 n c2, .int .i64 (s : Int)] w fun e w' => ∃ v, e = .returned v ∧ OwnR w' v ((List.range n).map (mixS x y s)) ∧ (∀ b, v.ownBlock = some b → w.heap.size ≤ b) ∧ Below w.heap.size w w' := by
  have H1 := Lib.hid h1
  have H2 := Lib.hid h2
  have L1 := Lib.hid h1.len
  have L2 := Lib.hid h2.len
  clear h1 h2
  go_enter Tryz.func15, Tryz.ntmps15
  go_wp2_with fail
  go_loopw [7, 8] (fun v i wr => ∃ k : Nat, k ≤ n ∧ i = .int .i64 (k : Int) ∧ OwnR wr v ((List.range k).map (mixS x y s)) ∧ (∀ b, v.ownBlock = some b → w.heap.size ≤ b) ∧ Below w.heap.size w wr) (fun _ i _ => n - (intOf i).toNat)
  case atStart => exact ⟨0, by omega, rfl, OwnR.nil w, (fun b h => by cases h), Below.refl _ _⟩
  case round =>
    obtain ⟨k, hk, rfl, hown, hfr, hbel⟩ := hrel
    rename World => wr
    by_cases hkn : k < n
    · have k1 : (k : Int) < (n : Int) := by omega
      have k2 : (k : Int) < 64 := by omega
      obtain ⟨xq, hx⟩ : ∃ xq, x[k]? = some xq := ⟨_, List.getElem?_eq_getElem (by have := L1.out; omega)⟩
      obtain ⟨yq, hy⟩ : ∃ yq, y[k]? = some yq := ⟨_, List.getElem?_eq_getElem (by have := L2.out; omega)⟩
      have hsc : (List.range (k + 1)).map (mixS x y s) = (List.range k).map (mixS x y s) ++ [if bitOn s k then xq else yq] := by
        rw [List.range_succ, List.map_append, ← getD_of (d := 0) hx, ← getD_of (d := 0) hy]
        rfl
      have HLK := Lib.hid (show ((List.range k).map (mixS x y s)).length ≤ 1000000 from by simp; omega)
      have hb1 := bit_eq1 (k := s) (c := k) hs
      have HO := Lib.hid hown
      have HFR := Lib.hid hfr
      have HBL := Lib.hid hbel
      cases hbit : bitOn s k with
      | true =>
        obtain ⟨ad, gg, o, r, rfl, hP, hgB, ha, hiq⟩ := (H1.out.below (hbel.mono hB)).at_ hx hkn
        obtain ⟨x0, x1, x2⟩ := ha.c3
        obtain ⟨rg, rA, rl, rc, rA', rl', rc'⟩ := r
        rw [hbit] at hb1 hsc
        have HSC := Lib.hid hsc
        have HIQ := Lib.hid (hiq.more (Nat.le_trans hB hbel.size))
        simp only [] at x0 x1 x2
        unfold RC.v at HIQ
        clear hsc hx hy hown hfr hbel hiq ha hbit
        go_wp2_with (at_builtin; refine appR rfl (.tmp 21) (.tmp 26) rfl wr _ _ xq rg rA rl rc rA' rl' rc' rfl HO.out HIQ.out rfl HLK.out ?_; intro v' w2 hown2 hgr)
        have hbel2 := hgr.below HBL.out.size HFR.out
        have hfr2 := hgr.fresh HBL.out.size HFR.out
        exact ⟨⟨k + 1, by omega, by go_num, by rw [HSC.out]; exact hown2, hfr2, HBL.out.trans hbel2⟩, by simp [intOf]; omega⟩
      | false =>
        obtain ⟨ad, gg, o, r, rfl, hP, hgB, ha, hiq⟩ := (H2.out.below (hbel.mono hB)).at_ hy hkn
        obtain ⟨x0, x1, x2⟩ := ha.c3
        obtain ⟨rg, rA, rl, rc, rA', rl', rc'⟩ := r
        rw [hbit] at hb1 hsc
        have HSC := Lib.hid hsc
        have HIQ := Lib.hid (hiq.more (Nat.le_trans hB hbel.size))
        simp only [] at x0 x1 x2
        unfold RC.v at HIQ
        clear hsc hx hy hown hfr hbel hiq ha hbit
        go_wp2_with (at_builtin; refine appR rfl (.tmp 28) (.tmp 33) rfl wr _ _ yq rg rA rl rc rA' rl' rc' rfl HO.out HIQ.out rfl HLK.out ?_; intro v' w2 hown2 hgr)
        have hbel2 := hgr.below HBL.out.size HFR.out
        have hfr2 := hgr.fresh HBL.out.size HFR.out
        exact ⟨⟨k + 1, by omega, by go_num, by rw [HSC.out]; exact hown2, hfr2, HBL.out.trans hbel2⟩, by simp [intOf]; omega⟩
    · obtain rfl : k = n := by omega
      have k1 : ¬ (k : Int) < (k : Int) := by omega
      have HF := Lib.hid hown
      have HFR := Lib.hid hfr
      have HBL := Lib.hid hbel
      clear hown hfr hbel
      go_wp2
      go_ret
      exact ⟨_, rfl, HF.out, HFR.out, HBL.out⟩
end Go.Proofs.YtbjemjopcoajcaaGreatDoor
