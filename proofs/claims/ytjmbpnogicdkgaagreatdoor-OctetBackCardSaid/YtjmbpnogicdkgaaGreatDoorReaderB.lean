/-
  octet.Reader: natural, Whole, Text, Bool.
-/
import Derived.Test.YtjmbpnogicdkgaaGreatDoorReader
namespace Go.Proofs.YtjmbpnogicdkgaaGreatDoor
open Go.RowKit
set_option linter.unusedSimpArgs false
set_option linter.unusedVariables false

/-- a value that was read of the Reader in block b, and its state -/
def Got (b B : Nat) (v : Value) (s : St) (w : World) (e : Ending) (w' : World) : Prop := e = .returned v ∧ IsR w' b B s ∧ Exc b w w'



theorem Exc.far {b g : Nat} {w w' : World} (h : Exc b w w') (hg : w.heap.size ≤ g) (i : Nat) (u : Value) : Exc b w (w'.setCell ⟨g, i, none⟩ u) :=
  ⟨h.os, h.tape, h.output, by rw [World.size_setCell]; exact h.size, fun k hk hb => (Below.heap_setCell w' _ _ k (by simp; omega)).trans (h.block k hk hb)⟩

set_option maxRecDepth 100000 in
set_option maxHeartbeats 400000 in
theorem reader_natural (b B n : Nat) (s : St) (w : World) (h : IsR w b B s) (hs : s.1.length ≤ 1099511627776) (hn : n ≤ 9223372036854775807) :
    Calls Tryz.prog 97 #[.pointer (some ⟨b, 0, none⟩), .int .i64 (n : Int)] w (Got b B (natV (stNat n s).1) (stNat n s).2 w) := by
  have hle := (stTake_le n s).1
  have e0 : stNat n s = if (stTake n s).1.head? = some 0 then (0, stFail) else (beVal (stTake n s).1, (stTake n s).2) := rfl
  have h1 := h.below (balloc1 w (.cells #[.int .u64 0, .string ⟨#[]⟩] 66))
  have bx := Blk.new w 66 #[.int .u64 0, .string ⟨#[]⟩]
  have htk := reader_take b B n s _ h1 hn
  have hblt := h.lt
  have hlow := h.low
  generalize stNat n s = res at *
  generalize stTake n s = tk at *
  obtain ⟨l, s'⟩ := tk
  simp only [] at hle e0 htk
  have HTK := Lib.hid htk
  have E0 := Lib.hid e0
  clear htk e0 h1
  have hE0 : Exc b w (w.alloc (.cells #[.int .u64 0, .string ⟨#[]⟩] 66)) := Exc.of (balloc1 w _)
  go_enter Tryz.func97, Tryz.ntmps97
  go_wp2_with fail
  refine HTK.out.mono ?_
  rintro e w1 ⟨A, c, rfl, hr, hA, hR, hx⟩
  have bx := bx.exc hx (by omega)
  have hx := hE0.trans hx
  have hz := bx.lt
  clear hE0 HTK
  cases l with
  | nil =>
    have e1 := E0.out
    rw [if_neg (by simp)] at e1
    have E1 := Lib.hid e1
    clear e1
    go_wp2_with fail
    refine (nat_fromBytes A 0 c B [] w1 hr hR.low (by omega)).mono ?_
    rintro e w2 ⟨rfl, hb2⟩
    have e2 : beVal [] = 0 := rfl
    rw [e2]
    (try clear bxq0 bxq1 bxf0 bxf1 bxs0 bxs1); have bx := bx.below hb2 bx.lt; obtain ⟨bxq0, bxq1, bxf0, bxf1, bxs0, bxs1⟩ := bx.f2
    rw [natV_zero]
    have hfin := ((hR.below hb2).set_ (i := 0) hlow (by omega) (.int .u64 0)).set_ (i := 1) (g := w.heap.size) hlow (by omega) (.string ⟨#[]⟩)
    have hfin2 := ((hx.trans (Exc.of hb2)).far (Nat.le_refl _) 0 (.int .u64 0)).far (Nat.le_refl _) 1 (.string ⟨#[]⟩)
    have HFN := Lib.hid (And.intro hfin hfin2)
    clear hfin hfin2
    go_wp2
    refine bodyPost_ret (v := .agg #[.int .u64 0, .string ⟨#[]⟩]) (by simp [results, Tryz.results97, go_sem, bxs0, bxs1]) rfl ?_
    rw [E1.out]
    exact ⟨by rw [e2, natV_zero], HFN.out.1, HFN.out.2⟩
  | cons x r =>
    obtain ⟨ad, y, hA2, hb2, hy, hcell⟩ := hr.at_ (k := 0) (by simp)
    simp at hy
    subst hy
    subst hA2
    rw [show ad.add 0 = ad from rfl] at hcell
    simp only [List.length_cons] at hle hr ⊢
    obtain ⟨m, hm⟩ : ∃ m, r.length + 1 = m := ⟨_, rfl⟩
    have hm1 : (0 : Int) < (m : Int) := by omega
    have hm2 : 0 < m := by omega
    rw [hm] at hr hle ⊢
    clear hm
    by_cases hx0 : x = 0
    · subst hx0
      have e1 := E0.out
      rw [if_pos (by simp)] at e1
      have E1 := Lib.hid e1
      clear e1
      go_wp2_with fail
      refine (reader_fail b B _ w1 hR).mono ?_
      rintro e w2 ⟨rfl, hR2, hx2⟩
      have bx := bx.exc hx2 (by omega)
      obtain ⟨bxq0, bxq1, bxf0, bxf1, bxs0, bxs1⟩ := bx.f2
      have hfin := ((hR2).set_ (i := 0) hlow (by omega) (.int .u64 0)).set_ (i := 1) (g := w.heap.size) hlow (by omega) (.string ⟨#[]⟩)
      have hfin2 := ((hx.trans hx2).far (Nat.le_refl _) 0 (.int .u64 0)).far (Nat.le_refl _) 1 (.string ⟨#[]⟩)
      have HFN := Lib.hid (And.intro hfin hfin2)
      clear hfin hfin2
      go_wp2
      refine bodyPost_ret (v := .agg #[.int .u64 0, .string ⟨#[]⟩]) (by simp [results, Tryz.results97, go_sem, bxs0, bxs1]) rfl ?_
      rw [E1.out]
      exact ⟨by rw [natV_zero], HFN.out.1, HFN.out.2⟩
    · have hx1 : ((x.toNat : Int) == 0) = false := by
        simp
        intro h0
        exact hx0 (UInt8.toNat_inj.1 h0)
      have e1 := E0.out
      rw [if_neg (by simpa using hx0)] at e1
      have E1 := Lib.hid e1
      clear e1
      go_wp2_with fail
      refine (nat_fromBytes (some ad) m c B (x :: r) w1 hr hR.low (by omega)).mono ?_
      rintro e w2 ⟨rfl, hb3⟩
      (try clear bxq0 bxq1 bxf0 bxf1 bxs0 bxs1); have bx := bx.below hb3 bx.lt; obtain ⟨bxq0, bxq1, bxf0, bxf1, bxs0, bxs1⟩ := bx.f2
      generalize beVal (x :: r) = N at *
      unfold natV
      have hfin := ((hR.below hb3).set_ (i := 0) hlow (by omega) (.int .u64 (lo N : Int))).set_ (i := 1) (g := w.heap.size) hlow (by omega) (.string (mo N))
      have hfin2 := ((hx.trans (Exc.of hb3)).far (Nat.le_refl _) 0 (.int .u64 (lo N : Int))).far (Nat.le_refl _) 1 (.string (mo N))
      have HFN := Lib.hid (And.intro hfin hfin2)
      clear hfin hfin2
      go_wp2
      refine bodyPost_ret (v := .agg #[.int .u64 (lo N : Int), .string (mo N)]) (by simp [results, Tryz.results97, go_sem, bxs0, bxs1]) rfl ?_
      rw [E1.out]
      exact ⟨rfl, HFN.out.1, HFN.out.2⟩

set_option maxHeartbeats 400000 in
theorem reader_bool (b B : Nat) (s : St) (w : World) (h : IsR w b B s) :
    Calls Tryz.prog 43 #[.pointer (some ⟨b, 0, none⟩)] w (Got b B (.bool (stBool s).1) (stBool s).2 w) := by
  have e0 : stBool s = match (stTake 1 s).1 with | [] => (false, (stTake 1 s).2) | x :: _ => if 1 < x.toNat then (false, stFail) else (decide (x.toNat = 1), (stTake 1 s).2) := rfl
  have htk := reader_take b B 1 s _ h (by omega)
  generalize stBool s = res at *
  generalize stTake 1 s = tk at *
  obtain ⟨l, s'⟩ := tk
  simp only [] at e0 htk
  have HTK := Lib.hid htk
  have E0 := Lib.hid e0
  clear htk e0
  go_enter Tryz.func43, Tryz.ntmps43
  go_wp2_with fail
  refine HTK.out.mono ?_
  rintro e w1 ⟨A, c, rfl, hr, hA, hR, hx⟩
  cases l with
  | nil =>
    go_wp2
    go_ret
    have e1 := E0.out
    rw [e1]
    exact ⟨rfl, hR, hx⟩
  | cons x r =>
    obtain ⟨ad, y, hA2, hb2, hy, hcell⟩ := hr.at_ (k := 0) (by simp)
    simp at hy
    subst hy
    subst hA2
    rw [show ad.add 0 = ad from rfl] at hcell
    simp only [List.length_cons] at hr ⊢
    obtain ⟨m, hm⟩ : ∃ m, r.length + 1 = m := ⟨_, rfl⟩
    have hm1 : (0 : Int) < (m : Int) := by omega
    have hm2 : ((m : Int) == 0) = false := by simp; omega
    rw [hm] at hr ⊢
    clear hm
    by_cases hx1 : 1 < x.toNat
    · have hx2 : (1 : Int) < (x.toNat : Int) := by omega
      go_wp2_with fail
      refine (reader_fail b B _ w1 hR).mono ?_
      rintro e w2 ⟨rfl, hR2, hx3⟩
      go_wp2
      go_ret
      have e1 := E0.out
      rw [if_pos hx1] at e1
      rw [e1]
      exact ⟨rfl, hR2, hx.trans hx3⟩
    · have hx2 : ¬ (1 : Int) < (x.toNat : Int) := by omega
      go_wp2
      go_ret
      have e1 := E0.out
      rw [if_neg hx1] at e1
      rw [e1]
      refine ⟨?_, hR, hx⟩
      show Ending.returned (.bool ((x.toNat : Int) == 1)) = _
      have : ((x.toNat : Int) == 1) = decide (x.toNat = 1) := by
        rw [Bool.eq_iff_iff]
        simp
        omega
      rw [this]

set_option maxHeartbeats 400000 in
theorem reader_text (b B : Nat) (most : Int) (s : St) (w : World) (h : IsR w b B s) (hs : s.1.length ≤ 1099511627776) :
    Calls Tryz.prog 42 #[.pointer (some ⟨b, 0, none⟩), .int .i64 most] w (Got b B (.string ⟨(stText most s).1.toArray⟩) (stText most s).2 w) := by
  have hle := stCount_le most s hs
  have hcn := reader_count b B most s w h hs
  have e0 : stText most s = stTake (stCount most s).1 (stCount most s).2 := rfl
  rw [e0]
  clear e0
  generalize stCount most s = cn at *
  obtain ⟨n, s1⟩ := cn
  simp only [] at hle hcn ⊢
  have HCN := Lib.hid hcn
  clear hcn
  go_enter Tryz.func42, Tryz.ntmps42
  go_wp2_with fail
  refine HCN.out.mono ?_
  rintro e w1 ⟨rfl, hR1, hx1⟩
  go_wp2_with fail
  refine (reader_take b B n s1 w1 hR1 (by omega)).mono ?_
  rintro e w2 ⟨A, c, rfl, hr, hA, hR2, hx2⟩
  have hstr := run_string (P := Tryz.prog) w2 22 9 5 A _ c _ _ Tryz.underlying22 Tryz.underlying5 Tryz.underlying9 hr
  generalize stTake n s1 = tk at *
  obtain ⟨l, s2⟩ := tk
  simp only [] at hstr hr hR2 ⊢
  generalize l.length = m at *
  go_wp2
  go_ret
  exact ⟨rfl, hR2, hx1.trans hx2⟩
end Go.Proofs.YtjmbpnogicdkgaaGreatDoor
