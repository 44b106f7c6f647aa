/-
  octet.Reader: Whole.
-/
import Derived.Test.YtjmbpnogicdkgaaGreatDoorReaderB
import Derived.Test.YtjmbpnogicdkgaaGreatDoorMathA
namespace Go.Proofs.YtjmbpnogicdkgaaGreatDoor
open Go.RowKit
set_option linter.unusedSimpArgs false
set_option linter.unusedVariables false

theorem stNat_blen (n : Nat) (s : St) (h : s.1.length ≤ 1099511627776) : blen (stNat n s).1 ≤ 8796093022208 := by
  have h1 := (stTake_le n s).1
  unfold stNat
  split
  · exact Nat.zero_le _
  · have h2 := beVal_lt (stTake n s).1
    have h3 : (256 : Nat) ^ (stTake n s).1.length = 2 ^ (8 * (stTake n s).1.length) := by rw [Nat.pow_mul]
    rw [h3] at h2
    have := blen_le _ _ h2
    simp only []
    omega

set_option maxRecDepth 100000 in
set_option maxHeartbeats 400000 in
theorem reader_whole (b B : Nat) (s : St) (w : World) (h : IsR w b B s) (hs : s.1.length ≤ 1099511627776) :
    Calls Tryz.prog 36 #[.pointer (some ⟨b, 0, none⟩)] w (Got b B (intV (stWhole s).1) (stWhole s).2 w) := by
  have hle := stCount_le 4611686018427387904 s hs
  have h1 := h.below (balloc1 w (.cells #[.bool false, .int .u64 0, .string ⟨#[]⟩] 68))
  have bx := Blk.new w 68 #[.bool false, .int .u64 0, .string ⟨#[]⟩]
  have hcn := reader_count b B 4611686018427387904 s _ h1 hs
  have hblt := h.lt
  have hlow := h.low
  have e0 : stWhole s = (signed (decide ((stCount 4611686018427387904 s).1 % 2 = 1)) (stNat ((stCount 4611686018427387904 s).1 / 2) (stCount 4611686018427387904 s).2).1,
    if (stCount 4611686018427387904 s).1 = 1 then stFail else (stNat ((stCount 4611686018427387904 s).1 / 2) (stCount 4611686018427387904 s).2).2) := rfl
  generalize stWhole s = res at *
  generalize stCount 4611686018427387904 s = cn at *
  obtain ⟨n, s1⟩ := cn
  simp only [] at hle hcn e0
  have hbl := stNat_blen (n / 2) s1 (by omega)
  have hnt := fun w h => reader_natural b B (n / 2) s1 w h (by omega) (by omega)
  generalize stNat (n / 2) s1 = nt at *
  obtain ⟨a, s2⟩ := nt
  simp only [] at hbl hnt e0
  have HCN := Lib.hid hcn
  have HNT := Lib.hid hnt
  have E0 := Lib.hid e0
  clear hcn e0 h1 hnt
  have hE0 : Exc b w (w.alloc (.cells #[.bool false, .int .u64 0, .string ⟨#[]⟩] 68)) := Exc.of (balloc1 w _)
  go_enter Tryz.func36, Tryz.ntmps36
  go_wp2_with fail
  refine HCN.out.mono ?_
  rintro e w1 ⟨rfl, hR1, hx1⟩
  have bx := bx.exc hx1 (by omega)
  have hx1 := hE0.trans hx1
  clear HCN hE0
  obtain ⟨m, hm⟩ : ∃ m, n / 2 = m := ⟨_, rfl⟩
  have k1 : (n : Int) / 2 = (m : Int) := by omega
  rw [hm] at HNT
  clear hm
  go_wp2_with fail
  refine (HNT.out w1 hR1).mono ?_
  rintro e w2 ⟨rfl, hR2, hx2⟩
  have bx := bx.exc hx2 (by omega)
  have hx2 := hx1.trans hx2
  have hz2 := bx.lt
  have hzz := hx2.size
  clear HNT k1
  unfold natV
  have by_ := Blk.new w2 66 #[.int .u64 (lo a : Int), .string (mo a)]
  have bx := bx.alloc (.cells #[.int .u64 (lo a : Int), .string (mo a)] 66)
  have hR3 := hR2.below (balloc1 w2 (.cells #[.int .u64 (lo a : Int), .string (mo a)] 66))
  have hx3 := hx2.alloc (.cells #[.int .u64 (lo a : Int), .string (mo a)] 66)
  have hneg : ((n : Int) % 2 == 1) = decide (n % 2 = 1) := by
    rw [Bool.eq_iff_iff]
    simp
    omega
  have hzz1 : w.heap.size ≤ w2.heap.size := hzz
  by_cases hn1 : n = 1
  · subst hn1
    go_wp2_with fail
    refine (reader_fail b B _ _ hR3).mono ?_
    rintro e w3 ⟨rfl, hR4, hx4⟩
    have bx := bx.exc hx4 (by omega)
    have by_ := by_.exc hx4 (by omega)
    have hx4 := hx3.trans hx4
    obtain ⟨by_q0, by_q1, by_f0, by_f1, by_s0, by_s1⟩ := by_.f2
    clear hneg
    go_wp2_with fail
    refine (whole_from true a w3 (by omega)).mono ?_
    rintro e w4 ⟨rfl, hb4⟩
    rw [intV_signed]
    (try clear bxq0 bxq1 bxq2 bxf0 bxf1 bxf2 bxs0 bxs1 bxs2); have bx := bx.below hb4 bx.lt; obtain ⟨bxq0, bxq1, bxq2, bxf0, bxf1, bxf2, bxs0, bxs1, bxs2⟩ := bx.f3
    obtain ⟨q, hq⟩ : ∃ q, (true && decide (0 < a)) = q := ⟨_, rfl⟩
    rw [hq]
    have hfin := (((hR4.below hb4).set_ (i := 0) hlow (by omega) (.bool q)).set_ (i := 1) (g := w.heap.size) hlow (by omega) (.int .u64 (lo a : Int))).set_ (i := 2) (g := w.heap.size) hlow (by omega) (.string (mo a))
    have hfin2 := (((hx4.trans (Exc.of hb4)).far (Nat.le_refl _) 0 (.bool q)).far (Nat.le_refl _) 1 (.int .u64 (lo a : Int))).far (Nat.le_refl _) 2 (.string (mo a))
    have HFN := Lib.hid (And.intro hfin hfin2)
    have HQ := Lib.hid hq
    clear hfin hfin2 hq
    go_wp2
    refine bodyPost_ret (v := .agg #[.bool q, .int .u64 (lo a : Int), .string (mo a)]) (by simp [results, Tryz.results36, go_sem, bxs0, bxs1, bxs2]) rfl ?_
    rw [E0.out]
    refine ⟨?_, ?_, HFN.out.2⟩
    · show _ = Ending.returned (intV (signed (decide (1 % 2 = 1)) a))
      rw [show decide (1 % 2 = 1) = true from rfl, intV_signed, HQ.out]
    · simp only [if_true]
      exact HFN.out.1
  · have hn2 : ((n : Int) == 1) = false := by simp; omega
    obtain ⟨by_q0, by_q1, by_f0, by_f1, by_s0, by_s1⟩ := by_.f2
    generalize hng : decide (n % 2 = 1) = ng at *
    have HNG := Lib.hid hng
    clear hng
    go_wp2_with fail
    refine (whole_from ng a _ (by omega)).mono ?_
    rintro e w4 ⟨rfl, hb4⟩
    rw [intV_signed]
    (try clear bxq0 bxq1 bxq2 bxf0 bxf1 bxf2 bxs0 bxs1 bxs2); have bx := bx.below hb4 bx.lt; obtain ⟨bxq0, bxq1, bxq2, bxf0, bxf1, bxf2, bxs0, bxs1, bxs2⟩ := bx.f3
    obtain ⟨q, hq⟩ : ∃ q, (ng && decide (0 < a)) = q := ⟨_, rfl⟩
    rw [hq]
    have hfin := (((hR3.below hb4).set_ (i := 0) hlow (by omega) (.bool q)).set_ (i := 1) (g := w.heap.size) hlow (by omega) (.int .u64 (lo a : Int))).set_ (i := 2) (g := w.heap.size) hlow (by omega) (.string (mo a))
    have hfin2 := (((hx3.trans (Exc.of hb4)).far (Nat.le_refl _) 0 (.bool q)).far (Nat.le_refl _) 1 (.int .u64 (lo a : Int))).far (Nat.le_refl _) 2 (.string (mo a))
    have HFN := Lib.hid (And.intro hfin hfin2)
    have HQ := Lib.hid hq
    clear hfin hfin2 hq
    go_wp2
    refine bodyPost_ret (v := .agg #[.bool q, .int .u64 (lo a : Int), .string (mo a)]) (by simp [results, Tryz.results36, go_sem, bxs0, bxs1, bxs2]) rfl ?_
    rw [E0.out]
    refine ⟨?_, ?_, HFN.out.2⟩
    · show _ = Ending.returned (intV (signed ng a))
      rw [intV_signed, HQ.out]
    · simp only []
      rw [if_neg hn1]
      exact HFN.out.1
end Go.Proofs.YtjmbpnogicdkgaaGreatDoor
