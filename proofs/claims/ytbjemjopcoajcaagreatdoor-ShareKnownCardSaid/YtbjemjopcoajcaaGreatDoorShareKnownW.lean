/-
  The walk of abaculuslaw37.ShareKnown.
-/
import Derived.Test.YtbjemjopcoajcaaGreatDoorShareKn
import Derived.Test.YtbjemjopcoajcaaGreatDoorShareMix
namespace Go.Proofs.YtbjemjopcoajcaaGreatDoor
open Go.RowKit
set_option linter.unusedSimpArgs false
set_option linter.unusedVariables false

theorem pow_ne3 : ∀ n, 1 ≤ n → n ≤ 10 → 3 ≠ 2 ^ n := fun n h1 h2 => (show ∀ n, n < 11 → 3 ≠ 2 ^ n from by decide) n (by omega)
theorem pow_ne0 : ∀ n, 1 ≤ n → n ≤ 10 → 0 ≠ 2 ^ n := fun n h1 h2 => (show ∀ n, n < 11 → 0 ≠ 2 ^ n from by decide) n (by omega)
set_option maxRecDepth 100000 in
set_option maxHeartbeats 4000000 in
theorem shareKnown_walk (w : World) (hT : Tab w) (hF : TabF w) : Calls Tryz.prog 8 #[] w (Ret (.bool true) w) := by
  have hof : ∀ z : Int, -100 ≤ z → z ≤ 100 → ∀ w, Calls Tryz.prog 33 #[.int .i64 z] w (Ret (qV (z : Rat)) w) := fun z h0 h1 w => frac_of z w (by omega) (by omega)
  obtain ⟨q1, hq1⟩ : ∃ q : Rat, q = ((1 : Int) : Rat) := ⟨_, rfl⟩
  obtain ⟨q2, hq2⟩ : ∃ q : Rat, q = ((2 : Int) : Rat) := ⟨_, rfl⟩
  obtain ⟨q3, hq3⟩ : ∃ q : Rat, q = ((3 : Int) : Rat) := ⟨_, rfl⟩
  obtain ⟨q5, hq5⟩ : ∃ q : Rat, q = ((5 : Int) : Rat) := ⟨_, rfl⟩
  obtain ⟨q6, hq6⟩ : ∃ q : Rat, q = ((6 : Int) : Rat) := ⟨_, rfl⟩
  obtain ⟨q7, hq7⟩ : ∃ q : Rat, q = ((7 : Int) : Rat) := ⟨_, rfl⟩
  obtain ⟨q8, hq8⟩ : ∃ q : Rat, q = ((8 : Int) : Rat) := ⟨_, rfl⟩
  obtain ⟨q9, hq9⟩ : ∃ q : Rat, q = ((9 : Int) : Rat) := ⟨_, rfl⟩
  have h1 := hof 1 (by omega) (by omega)
  have h2 := hof 2 (by omega) (by omega)
  have h3 := hof 3 (by omega) (by omega)
  have h5 := hof 5 (by omega) (by omega)
  have h6 := hof 6 (by omega) (by omega)
  have h7 := hof 7 (by omega) (by omega)
  have h8 := hof 8 (by omega) (by omega)
  have h9 := hof 9 (by omega) (by omega)
  rw [← hq1] at h1; rw [← hq2] at h2; rw [← hq3] at h3; rw [← hq5] at h5; rw [← hq6] at h6; rw [← hq7] at h7; rw [← hq8] at h8; rw [← hq9] at h9
  have htu : turnsGo [q1, q3, q2, q9] [1, 0] 0 (List.replicate 2 0) = [q7, q1] := by rw [hq1, hq3, hq2, hq9, hq7]; decide +kernel
  have hsz : ∀ x ∈ [q1, q3, q2, q9], QS 8 x := by
    intro x hx
    simp only [List.mem_cons, List.not_mem_nil, or_false] at hx
    rcases hx with rfl | rfl | rfl | rfl
    · rw [hq1]; exact ⟨by decide +kernel, by decide +kernel⟩
    · rw [hq3]; exact ⟨by decide +kernel, by decide +kernel⟩
    · rw [hq2]; exact ⟨by decide +kernel, by decide +kernel⟩
    · rw [hq9]; exact ⟨by decide +kernel, by decide +kernel⟩
  have his : ∀ (q : Rat) (z : Int), -100 ≤ z → z ≤ 100 → q = Rat.divInt z 1 → QS 8 q → ∀ w, Calls Tryz.prog 34 #[qV q, .int .i64 z, .int .i64 1] w (Ret (.bool true) w) := fun q z h0 h1 e hs w => hand_is q z 1 w (by omega) (by omega) (by omega) (by omega) (by omega) e (hs.mono (by omega))
  have i2 := his q2 2 (by omega) (by omega) (by rw [hq2]; decide +kernel) (by rw [hq2]; exact ⟨by decide +kernel, by decide +kernel⟩)
  have i7 := his q7 7 (by omega) (by omega) (by rw [hq7]; decide +kernel) (by rw [hq7]; exact ⟨by decide +kernel, by decide +kernel⟩)
  have i1 := his q1 1 (by omega) (by omega) (by rw [hq1]; decide +kernel) (by rw [hq1]; exact ⟨by decide +kernel, by decide +kernel⟩)
  have i5 := his q5 5 (by omega) (by omega) (by rw [hq5]; decide +kernel) (by rw [hq5]; exact ⟨by decide +kernel, by decide +kernel⟩)
  have i8 := his q8 8 (by omega) (by omega) (by rw [hq8]; decide +kernel) (by rw [hq8]; exact ⟨by decide +kernel, by decide +kernel⟩)
  have hmx : (List.range 2).map (mixAt [q5, q6] [q7, q8] [true, false]) = [q5, q8] := rfl
  have hwo : [q1, q3, q2, q9].getD (setTo [false, true] 2) 0 = q2 := rfl
  unfold qV at h1 h2 h3 h5 h6 h7 h8 h9 i1 i2 i5 i7 i8
  have H1 := Lib.hid h1
  have H2 := Lib.hid h2
  have H3 := Lib.hid h3
  have H5 := Lib.hid h5
  have H6 := Lib.hid h6
  have H7 := Lib.hid h7
  have H8 := Lib.hid h8
  have H9 := Lib.hid h9
  have I1 := Lib.hid i1
  have I2 := Lib.hid i2
  have I5 := Lib.hid i5
  have I7 := Lib.hid i7
  have I8 := Lib.hid i8
  have HTU := Lib.hid htu
  have HSZ := Lib.hid hsz
  have HMX := Lib.hid hmx
  have HWO := Lib.hid hwo
  have HT := Lib.hid hT
  have HF := Lib.hid hF
  clear h1 h2 h3 h5 h6 h7 h8 h9 i1 i2 i5 i7 i8 htu hsz hmx hwo hof his hq1 hq2 hq3 hq5 hq6 hq7 hq8 hq9 hT hF
  go_enter Tryz.func8, Tryz.ntmps8
  go_wp2_with fail
  refine (H1.out w).mono ?_
  rintro e x1 ⟨rfl, hw1⟩
  go_wp2_with fail
  refine (H3.out x1).mono ?_
  rintro e x2 ⟨rfl, hw2⟩
  go_wp2_with fail
  refine (H2.out x2).mono ?_
  rintro e x3 ⟨rfl, hw3⟩
  go_wp2_with fail
  refine (H9.out x3).mono ?_
  rintro e x4 ⟨rfl, hw4⟩
  have hB := bthen (bthen (bthen (bthen hw1 hw2) hw3) hw4) (balloc1 x4 (.cells #[.bool (decide (q1.num < 0)), .int .u64 (lo q1.num.natAbs : Int), .string (mo q1.num.natAbs), .int .u64 (lo ((qden q1)) : Int), .string (mo ((qden q1))), .bool (decide (q3.num < 0)), .int .u64 (lo q3.num.natAbs : Int), .string (mo q3.num.natAbs), .int .u64 (lo ((qden q3)) : Int), .string (mo ((qden q3))), .bool (decide (q2.num < 0)), .int .u64 (lo q2.num.natAbs : Int), .string (mo q2.num.natAbs), .int .u64 (lo ((qden q2)) : Int), .string (mo ((qden q2))), .bool (decide (q9.num < 0)), .int .u64 (lo q9.num.natAbs : Int), .string (mo q9.num.natAbs), .int .u64 (lo ((qden q9)) : Int), .string (mo ((qden q9)))] 52))
  have hr := readsQB [q1, q3, q2, q9] (Blk.new x4 52 #[.bool (decide (q1.num < 0)), .int .u64 (lo q1.num.natAbs : Int), .string (mo q1.num.natAbs), .int .u64 (lo ((qden q1)) : Int), .string (mo ((qden q1))), .bool (decide (q3.num < 0)), .int .u64 (lo q3.num.natAbs : Int), .string (mo q3.num.natAbs), .int .u64 (lo ((qden q3)) : Int), .string (mo ((qden q3))), .bool (decide (q2.num < 0)), .int .u64 (lo q2.num.natAbs : Int), .string (mo q2.num.natAbs), .int .u64 (lo ((qden q2)) : Int), .string (mo ((qden q2))), .bool (decide (q9.num < 0)), .int .u64 (lo q9.num.natAbs : Int), .string (mo q9.num.natAbs), .int .u64 (lo ((qden q9)) : Int), .string (mo ((qden q9)))])
  have hz : (x4.alloc (.cells #[.bool (decide (q1.num < 0)), .int .u64 (lo q1.num.natAbs : Int), .string (mo q1.num.natAbs), .int .u64 (lo ((qden q1)) : Int), .string (mo ((qden q1))), .bool (decide (q3.num < 0)), .int .u64 (lo q3.num.natAbs : Int), .string (mo q3.num.natAbs), .int .u64 (lo ((qden q3)) : Int), .string (mo ((qden q3))), .bool (decide (q2.num < 0)), .int .u64 (lo q2.num.natAbs : Int), .string (mo q2.num.natAbs), .int .u64 (lo ((qden q2)) : Int), .string (mo ((qden q2))), .bool (decide (q9.num < 0)), .int .u64 (lo q9.num.natAbs : Int), .string (mo q9.num.natAbs), .int .u64 (lo ((qden q9)) : Int), .string (mo ((qden q9)))] 52)).heap.size = x4.heap.size + 1 := World.size_alloc _ _
  rw [← hz] at hr
  have HR := Lib.hid hr
  have HB := Lib.hid hB
  have row1 : Row ((x4.alloc (.cells #[.bool (decide (q1.num < 0)), .int .u64 (lo q1.num.natAbs : Int), .string (mo q1.num.natAbs), .int .u64 (lo ((qden q1)) : Int), .string (mo ((qden q1))), .bool (decide (q3.num < 0)), .int .u64 (lo q3.num.natAbs : Int), .string (mo q3.num.natAbs), .int .u64 (lo ((qden q3)) : Int), .string (mo ((qden q3))), .bool (decide (q2.num < 0)), .int .u64 (lo q2.num.natAbs : Int), .string (mo q2.num.natAbs), .int .u64 (lo ((qden q2)) : Int), .string (mo ((qden q2))), .bool (decide (q9.num < 0)), .int .u64 (lo q9.num.natAbs : Int), .string (mo q9.num.natAbs), .int .u64 (lo ((qden q9)) : Int), .string (mo ((qden q9)))] 52)).alloc (.cells #[.bool false, .bool true] 4)) (x4.heap.size + 1) 4 bv [false, true] := hz ▸ Row.new (x4.alloc (.cells #[.bool (decide (q1.num < 0)), .int .u64 (lo q1.num.natAbs : Int), .string (mo q1.num.natAbs), .int .u64 (lo ((qden q1)) : Int), .string (mo ((qden q1))), .bool (decide (q3.num < 0)), .int .u64 (lo q3.num.natAbs : Int), .string (mo q3.num.natAbs), .int .u64 (lo ((qden q3)) : Int), .string (mo ((qden q3))), .bool (decide (q2.num < 0)), .int .u64 (lo q2.num.natAbs : Int), .string (mo q2.num.natAbs), .int .u64 (lo ((qden q2)) : Int), .string (mo ((qden q2))), .bool (decide (q9.num < 0)), .int .u64 (lo q9.num.natAbs : Int), .string (mo q9.num.natAbs), .int .u64 (lo ((qden q9)) : Int), .string (mo ((qden q9)))] 52)) 4 bv [false, true]
  have R1 := Lib.hid row1.reads
  have ha1 := Lib.hid (balloc1 (x4.alloc (.cells #[.bool (decide (q1.num < 0)), .int .u64 (lo q1.num.natAbs : Int), .string (mo q1.num.natAbs), .int .u64 (lo ((qden q1)) : Int), .string (mo ((qden q1))), .bool (decide (q3.num < 0)), .int .u64 (lo q3.num.natAbs : Int), .string (mo q3.num.natAbs), .int .u64 (lo ((qden q3)) : Int), .string (mo ((qden q3))), .bool (decide (q2.num < 0)), .int .u64 (lo q2.num.natAbs : Int), .string (mo q2.num.natAbs), .int .u64 (lo ((qden q2)) : Int), .string (mo ((qden q2))), .bool (decide (q9.num < 0)), .int .u64 (lo q9.num.natAbs : Int), .string (mo q9.num.natAbs), .int .u64 (lo ((qden q9)) : Int), .string (mo ((qden q9)))] 52)) (.cells #[.bool false, .bool true] 4))
  have HZ := Lib.hid hz
  clear hw1 hw2 hw3 hw4 hB hr hz row1 H1 H2 H3 H9
  go_wp2_with fail
  have hs1 : ((x4.alloc (.cells #[.bool (decide (q1.num < 0)), .int .u64 (lo q1.num.natAbs : Int), .string (mo q1.num.natAbs), .int .u64 (lo ((qden q1)) : Int), .string (mo ((qden q1))), .bool (decide (q3.num < 0)), .int .u64 (lo q3.num.natAbs : Int), .string (mo q3.num.natAbs), .int .u64 (lo ((qden q3)) : Int), .string (mo ((qden q3))), .bool (decide (q2.num < 0)), .int .u64 (lo q2.num.natAbs : Int), .string (mo q2.num.natAbs), .int .u64 (lo ((qden q2)) : Int), .string (mo ((qden q2))), .bool (decide (q9.num < 0)), .int .u64 (lo q9.num.natAbs : Int), .string (mo q9.num.natAbs), .int .u64 (lo ((qden q9)) : Int), .string (mo ((qden q9)))] 52)).alloc (.cells #[.bool false, .bool true] 4)).heap.size = x4.heap.size + 1 + 1 := by rw [World.size_alloc, HZ.out]
  have HS1 := Lib.hid hs1
  clear hs1
  generalize x4.alloc (.cells #[.bool (decide (q1.num < 0)), .int .u64 (lo q1.num.natAbs : Int), .string (mo q1.num.natAbs), .int .u64 (lo ((qden q1)) : Int), .string (mo ((qden q1))), .bool (decide (q3.num < 0)), .int .u64 (lo q3.num.natAbs : Int), .string (mo q3.num.natAbs), .int .u64 (lo ((qden q3)) : Int), .string (mo ((qden q3))), .bool (decide (q2.num < 0)), .int .u64 (lo q2.num.natAbs : Int), .string (mo q2.num.natAbs), .int .u64 (lo ((qden q2)) : Int), .string (mo ((qden q2))), .bool (decide (q9.num < 0)), .int .u64 (lo q9.num.natAbs : Int), .string (mo q9.num.natAbs), .int .u64 (lo ((qden q9)) : Int), .string (mo ((qden q9)))] 52) = y0 at *
  generalize y0.alloc (.cells #[.bool false, .bool true] 4) = y1 at *
  refine (share_worth _ _ 4 4 2 2 y1.heap.size [q1, q3, q2, q9] [false, true] y1 ((HR.out.below ha1.out).more ha1.out.size) (R1.out.more (by have := HS1.out; omega)) (Nat.le_refl _) rfl (by omega) (by omega)).mono ?_
  rintro e y2 ⟨rfl, hb2⟩
  rw [HWO.out]
  have HY2 := Lib.hid (ha1.out.trans (hb2.mono ha1.out.size))
  clear hb2 R1 ha1 HS1 HZ HWO
  have b2 := (Blk.new y2 52 #[.bool (decide (q2.num < 0)), .int .u64 (lo q2.num.natAbs : Int), .string (mo q2.num.natAbs), .int .u64 (lo ((qden q2)) : Int), .string (mo ((qden q2)))]).alloc (.cells #[.int .i64 1, .int .i64 0] 3)
  have row2 : Row ((y2.alloc (.cells #[.bool (decide (q2.num < 0)), .int .u64 (lo q2.num.natAbs : Int), .string (mo q2.num.natAbs), .int .u64 (lo ((qden q2)) : Int), .string (mo ((qden q2)))] 52)).alloc (.cells #[.int .i64 1, .int .i64 0] 3)) (y2.heap.size + 1) 3 iv [1, 0] := (World.size_alloc y2 (.cells #[.bool (decide (q2.num < 0)), .int .u64 (lo q2.num.natAbs : Int), .string (mo q2.num.natAbs), .int .u64 (lo ((qden q2)) : Int), .string (mo ((qden q2)))] 52)) ▸ Row.new (y2.alloc (.cells #[.bool (decide (q2.num < 0)), .int .u64 (lo q2.num.natAbs : Int), .string (mo q2.num.natAbs), .int .u64 (lo ((qden q2)) : Int), .string (mo ((qden q2)))] 52)) 3 iv [1, 0]
  have R2 := Lib.hid row2.reads
  have hal := balloc2 y2 (.cells #[.bool (decide (q2.num < 0)), .int .u64 (lo q2.num.natAbs : Int), .string (mo q2.num.natAbs), .int .u64 (lo ((qden q2)) : Int), .string (mo ((qden q2)))] 52) (.cells #[.int .i64 1, .int .i64 0] 3)
  have HY3 := Lib.hid (HY2.out.trans (hal.mono HY2.out.size))
  have HS3 := Lib.hid (show ((y2.alloc (.cells #[.bool (decide (q2.num < 0)), .int .u64 (lo q2.num.natAbs : Int), .string (mo q2.num.natAbs), .int .u64 (lo ((qden q2)) : Int), .string (mo ((qden q2)))] 52)).alloc (.cells #[.int .i64 1, .int .i64 0] 3)).heap.size = y2.heap.size + 1 + 1 from by rw [World.size_alloc, World.size_alloc])
  clear row2 hal
  unfold qV
  go_wp2_with fail
  generalize (y2.alloc (.cells #[.bool (decide (q2.num < 0)), .int .u64 (lo q2.num.natAbs : Int), .string (mo q2.num.natAbs), .int .u64 (lo ((qden q2)) : Int), .string (mo ((qden q2)))] 52)).alloc (.cells #[.int .i64 1, .int .i64 0] 3) = y3 at *
  refine (share_turns _ _ 4 4 2 2 y3.heap.size 8 [q1, q3, q2, q9] [1, 0] y3 ((HR.out.below HY3.out).more HY3.out.size) (R2.out.more (by have := HS3.out; omega)) (Nat.le_refl _) rfl (by omega) (by omega) (by decide) (by omega) HSZ.out (HT.out.next (HB.out.trans (HY3.out.mono HB.out.size)))).mono ?_
  rintro e y4 ⟨hb4, hres⟩
  have hres2 : ∃ v, e = .returned (.tuple #[v, .int .i64 0]) ∧ OwnQ y4 v [q7, q1] := by
    rcases hres with ⟨_, v, he, ho, hf⟩ | ⟨hn, _⟩
    · rw [HTU.out] at ho
      exact ⟨v, he, ho⟩
    · exact absurd (by decide) hn
  obtain ⟨v, rfl, ho4⟩ := hres2
  obtain ⟨A, c4, rfl, _, _⟩ := OwnW.form ho4
  obtain ⟨g4, rfl⟩ := OwnQ.addr ho4 (by simp)
  simp only [List.length_cons, List.length_nil]
  have a0 : AtQ y4 g4 0 q7 := OwnQ.at_ (k := 0) ho4 rfl
  have a1 : AtQ y4 g4 5 q1 := OwnQ.at_ (k := 1) ho4 rfl
  have b2 := b2.below hb4 b2.lt
  have HY4 := Lib.hid (HY3.out.trans (hb4.mono HY3.out.size))
  clear hb4 hres ho4 R2 HS3 HY2 HY3 HTU
  have row3 : Row (y4.alloc (.cells #[.int .i64 1, .int .i64 1] 3)) y4.heap.size 3 iv [1, 1] := Row.new y4 3 iv [1, 1]
  have R3 := Lib.hid row3.reads
  have hal := balloc1 y4 (.cells #[.int .i64 1, .int .i64 1] 3)
  have HY5 := Lib.hid (HY4.out.trans (hal.mono HY4.out.size))
  have HS5 := Lib.hid (show (y4.alloc (.cells #[.int .i64 1, .int .i64 1] 3)).heap.size = y4.heap.size + 1 from by rw [World.size_alloc])
  have a0 := a0.alloc (.cells #[.int .i64 1, .int .i64 1] 3)
  have a1 := a1.alloc (.cells #[.int .i64 1, .int .i64 1] 3)
  have b2 := b2.alloc (.cells #[.int .i64 1, .int .i64 1] 3)
  clear row3 hal
  go_wp2_with fail
  generalize y4.alloc (.cells #[.int .i64 1, .int .i64 1] 3) = y5 at *
  refine (share_turns _ _ 4 4 2 2 y5.heap.size 8 [q1, q3, q2, q9] [1, 1] y5 ((HR.out.below HY5.out).more HY5.out.size) (R3.out.more (by have := HS5.out; omega)) (Nat.le_refl _) rfl (by omega) (by omega) (by decide) (by omega) HSZ.out (HT.out.next (HB.out.trans (HY5.out.mono HB.out.size)))).mono ?_
  rintro e y6 ⟨hb6, hres⟩
  have hres2 : e = .returned (.tuple #[.slice none 0 0, .int .i64 1]) := by
    rcases hres with ⟨hn, _⟩ | ⟨_, he⟩
    · exact absurd hn (by decide)
    · exact he
  subst hres2
  have a0 := a0.below hb6 a0.lt
  have a1 := a1.below hb6 a1.lt
  have b2 := b2.below hb6 b2.lt
  have HY6 := Lib.hid (HY5.out.trans (hb6.mono HY5.out.size))
  clear hb6 hres R3 HS5 HY4 HY5 HSZ
  go_wp2_with fail
  refine (share_shares_no _ 3 _ y6 pow_ne3).mono ?_
  rintro e w' ⟨rfl, rfl⟩
  go_wp2_with fail
  refine (share_shares_no none 0 0 y6 pow_ne0).mono ?_
  rintro e w' ⟨rfl, rfl⟩
  go_wp2_with fail
  refine (share_worth_no _ none 4 4 0 0 2 true y6 (fun w => share_columns _ 4 4 2 w rfl (by omega) (by omega)) (.inr (by omega)) (by omega) (by omega)).mono ?_
  rintro e y7 ⟨rfl, hb7⟩
  have e0 : qV 0 = .agg #[.bool false, .int .u64 0, .string ⟨#[]⟩, .int .u64 0, .string ⟨#[]⟩] := rfl
  rw [e0]
  have hc8 := bthen hb7 (balloc1 y7 (.cells #[.bool false, .int .u64 0, .string ⟨#[]⟩, .int .u64 0, .string ⟨#[]⟩] 52))
  clear e0 hb7
  go_wp2_with fail
  generalize y7.alloc (.cells #[.bool false, .int .u64 0, .string ⟨#[]⟩, .int .u64 0, .string ⟨#[]⟩] 52) = y8 at *
  refine (H5.out y8).mono ?_
  rintro e y9 ⟨rfl, hb9⟩
  go_wp2_with fail
  refine (H6.out y9).mono ?_
  rintro e y10 ⟨rfl, hb10⟩
  have hc10 := bthen (bthen hc8 hb9) hb10
  have hr5 := readsQB [q5, q6] (Blk.new y10 52 #[.bool (decide (q5.num < 0)), .int .u64 (lo q5.num.natAbs : Int), .string (mo q5.num.natAbs), .int .u64 (lo ((qden q5)) : Int), .string (mo ((qden q5))), .bool (decide (q6.num < 0)), .int .u64 (lo q6.num.natAbs : Int), .string (mo q6.num.natAbs), .int .u64 (lo ((qden q6)) : Int), .string (mo ((qden q6)))])
  have hz := World.size_alloc y10 (.cells #[.bool (decide (q5.num < 0)), .int .u64 (lo q5.num.natAbs : Int), .string (mo q5.num.natAbs), .int .u64 (lo ((qden q5)) : Int), .string (mo ((qden q5))), .bool (decide (q6.num < 0)), .int .u64 (lo q6.num.natAbs : Int), .string (mo q6.num.natAbs), .int .u64 (lo ((qden q6)) : Int), .string (mo ((qden q6)))] 52)
  rw [← hz] at hr5
  have R5 := Lib.hid hr5
  have hc11 := bthen hc10 (balloc1 y10 (.cells #[.bool (decide (q5.num < 0)), .int .u64 (lo q5.num.natAbs : Int), .string (mo q5.num.natAbs), .int .u64 (lo ((qden q5)) : Int), .string (mo ((qden q5))), .bool (decide (q6.num < 0)), .int .u64 (lo q6.num.natAbs : Int), .string (mo q6.num.natAbs), .int .u64 (lo ((qden q6)) : Int), .string (mo ((qden q6)))] 52))
  clear hr5 hz hc10 hc8 hb9 hb10 H5 H6
  go_wp2_with fail
  generalize y10.alloc (.cells #[.bool (decide (q5.num < 0)), .int .u64 (lo q5.num.natAbs : Int), .string (mo q5.num.natAbs), .int .u64 (lo ((qden q5)) : Int), .string (mo ((qden q5))), .bool (decide (q6.num < 0)), .int .u64 (lo q6.num.natAbs : Int), .string (mo q6.num.natAbs), .int .u64 (lo ((qden q6)) : Int), .string (mo ((qden q6)))] 52) = y11 at *
  refine (H7.out y11).mono ?_
  rintro e y12 ⟨rfl, hb12⟩
  go_wp2_with fail
  refine (H8.out y12).mono ?_
  rintro e y13 ⟨rfl, hb13⟩
  have hd13 := bthen hb12 hb13
  have hr7 := readsQB [q7, q8] (Blk.new y13 52 #[.bool (decide (q7.num < 0)), .int .u64 (lo q7.num.natAbs : Int), .string (mo q7.num.natAbs), .int .u64 (lo ((qden q7)) : Int), .string (mo ((qden q7))), .bool (decide (q8.num < 0)), .int .u64 (lo q8.num.natAbs : Int), .string (mo q8.num.natAbs), .int .u64 (lo ((qden q8)) : Int), .string (mo ((qden q8)))])
  have hz := World.size_alloc y13 (.cells #[.bool (decide (q7.num < 0)), .int .u64 (lo q7.num.natAbs : Int), .string (mo q7.num.natAbs), .int .u64 (lo ((qden q7)) : Int), .string (mo ((qden q7))), .bool (decide (q8.num < 0)), .int .u64 (lo q8.num.natAbs : Int), .string (mo q8.num.natAbs), .int .u64 (lo ((qden q8)) : Int), .string (mo ((qden q8)))] 52)
  rw [← hz] at hr7
  have hz2 := World.size_alloc (y13.alloc (.cells #[.bool (decide (q7.num < 0)), .int .u64 (lo q7.num.natAbs : Int), .string (mo q7.num.natAbs), .int .u64 (lo ((qden q7)) : Int), .string (mo ((qden q7))), .bool (decide (q8.num < 0)), .int .u64 (lo q8.num.natAbs : Int), .string (mo q8.num.natAbs), .int .u64 (lo ((qden q8)) : Int), .string (mo ((qden q8)))] 52)) (.cells #[.bool true, .bool false] 4)
  have row4 : Row ((y13.alloc (.cells #[.bool (decide (q7.num < 0)), .int .u64 (lo q7.num.natAbs : Int), .string (mo q7.num.natAbs), .int .u64 (lo ((qden q7)) : Int), .string (mo ((qden q7))), .bool (decide (q8.num < 0)), .int .u64 (lo q8.num.natAbs : Int), .string (mo q8.num.natAbs), .int .u64 (lo ((qden q8)) : Int), .string (mo ((qden q8)))] 52)).alloc (.cells #[.bool true, .bool false] 4)) (y13.heap.size + 1) 4 bv [true, false] := hz ▸ Row.new (y13.alloc (.cells #[.bool (decide (q7.num < 0)), .int .u64 (lo q7.num.natAbs : Int), .string (mo q7.num.natAbs), .int .u64 (lo ((qden q7)) : Int), .string (mo ((qden q7))), .bool (decide (q8.num < 0)), .int .u64 (lo q8.num.natAbs : Int), .string (mo q8.num.natAbs), .int .u64 (lo ((qden q8)) : Int), .string (mo ((qden q8)))] 52)) 4 bv [true, false]
  have hal := balloc1 (y13.alloc (.cells #[.bool (decide (q7.num < 0)), .int .u64 (lo q7.num.natAbs : Int), .string (mo q7.num.natAbs), .int .u64 (lo ((qden q7)) : Int), .string (mo ((qden q7))), .bool (decide (q8.num < 0)), .int .u64 (lo q8.num.natAbs : Int), .string (mo q8.num.natAbs), .int .u64 (lo ((qden q8)) : Int), .string (mo ((qden q8)))] 52)) (.cells #[.bool true, .bool false] 4)
  have R7 := Lib.hid ((hr7.below hal).more hal.size)
  have hd14 := bthen hd13 (balloc2 y13 (.cells #[.bool (decide (q7.num < 0)), .int .u64 (lo q7.num.natAbs : Int), .string (mo q7.num.natAbs), .int .u64 (lo ((qden q7)) : Int), .string (mo ((qden q7))), .bool (decide (q8.num < 0)), .int .u64 (lo q8.num.natAbs : Int), .string (mo q8.num.natAbs), .int .u64 (lo ((qden q8)) : Int), .string (mo ((qden q8)))] 52) (.cells #[.bool true, .bool false] 4))
  have R5 := Lib.hid ((R5.out.below hd14).more hd14.size)
  have R4 := Lib.hid (row4.reads.more (show y13.heap.size + 1 + 1 ≤ ((y13.alloc (.cells #[.bool (decide (q7.num < 0)), .int .u64 (lo q7.num.natAbs : Int), .string (mo q7.num.natAbs), .int .u64 (lo ((qden q7)) : Int), .string (mo ((qden q7))), .bool (decide (q8.num < 0)), .int .u64 (lo q8.num.natAbs : Int), .string (mo q8.num.natAbs), .int .u64 (lo ((qden q8)) : Int), .string (mo ((qden q8)))] 52)).alloc (.cells #[.bool true, .bool false] 4)).heap.size from by rw [World.size_alloc, World.size_alloc]; exact Nat.le_refl _))
  have hc14 := bthen hc11 hd14
  clear hr7 hz hz2 row4 hal hd13 hd14 hb12 hb13 H7 H8 hc11
  go_wp2_with fail
  generalize (y13.alloc (.cells #[.bool (decide (q7.num < 0)), .int .u64 (lo q7.num.natAbs : Int), .string (mo q7.num.natAbs), .int .u64 (lo ((qden q7)) : Int), .string (mo ((qden q7))), .bool (decide (q8.num < 0)), .int .u64 (lo q8.num.natAbs : Int), .string (mo q8.num.natAbs), .int .u64 (lo ((qden q8)) : Int), .string (mo ((qden q8)))] 52)).alloc (.cells #[.bool true, .bool false] 4) = y14 at *
  refine (share_mixed _ _ _ 2 2 2 2 y14.heap.size [q5, q6] [q7, q8] [true, false] y14 R5.out R7.out R4.out (Nat.le_refl _) (by omega) (by omega)).mono ?_
  rintro e y15 ⟨v, rfl, ho15, hf15, hb15⟩
  rw [HMX.out] at ho15
  obtain ⟨A, c15, rfl, _, _⟩ := OwnW.form ho15
  obtain ⟨g15, rfl⟩ := OwnQ.addr ho15 (by simp)
  simp only [List.length_cons, List.length_nil]
  have m0 : AtQ y15 g15 0 q5 := OwnQ.at_ (k := 0) ho15 rfl
  have m1 : AtQ y15 g15 5 q8 := OwnQ.at_ (k := 1) ho15 rfl
  have hc15 := bthen hc14 hb15
  have a0 := a0.below hc15 a0.lt
  have a1 := a1.below hc15 a1.lt
  have b2 := b2.below hc15 b2.lt
  have HB := Lib.hid (HB.out.trans ((HY6.out.trans (hc15.mono HY6.out.size)).mono HB.out.size))
  clear hc14 hc15 hf15 hb15 ho15 R4 R5 R7 HR HY6 HMX
  go_wp2_with fail
  refine (share_mixed_no none none none 0 0 0 0 0 y15 (by omega) (by omega) (by omega)).mono ?_
  rintro e w' ⟨rfl, rfl⟩
  go_wp2_with fail
  refine (share_known y15 (HT.out.next HB.out) (HF.out.next HB.out)).mono ?_
  rintro e z0 ⟨rfl, hb0⟩
  have a0 := a0.below hb0 a0.lt
  have a1 := a1.below hb0 a1.lt
  have b2 := b2.below hb0 b2.lt
  have m0 := m0.below hb0 m0.lt
  have m1 := m1.below hb0 m1.lt
  have HB := Lib.hid (bthen HB.out hb0)
  clear hb0 HT HF
  obtain ⟨y0, y1, y2, y3, y4⟩ := b2.c5
  go_wp2_with fail
  refine (I2.out z0).mono ?_
  rintro e z1 ⟨rfl, hb⟩
  have a0 := a0.below hb a0.lt
  have a1 := a1.below hb a1.lt
  have m0 := m0.below hb m0.lt
  have m1 := m1.below hb m1.lt
  have HB := Lib.hid (bthen HB.out hb)
  clear hb y0 y1 y2 y3 y4 b2 I2
  obtain ⟨y0, y1, y2, y3, y4⟩ := a0.c5
  go_wp2_with fail
  refine (I7.out z1).mono ?_
  rintro e z2 ⟨rfl, hb⟩
  have a1 := a1.below hb a1.lt
  have m0 := m0.below hb m0.lt
  have m1 := m1.below hb m1.lt
  have HB := Lib.hid (bthen HB.out hb)
  clear hb y0 y1 y2 y3 y4 a0 I7
  obtain ⟨y0, y1, y2, y3, y4⟩ := a1.c5
  go_wp2_with fail
  refine (I1.out z2).mono ?_
  rintro e z3 ⟨rfl, hb⟩
  have m0 := m0.below hb m0.lt
  have m1 := m1.below hb m1.lt
  have HB := Lib.hid (bthen HB.out hb)
  clear hb y0 y1 y2 y3 y4 a1 I1
  obtain ⟨y0, y1, y2, y3, y4⟩ := m0.c5
  go_wp2_with fail
  refine (I5.out z3).mono ?_
  rintro e z4 ⟨rfl, hb⟩
  have m1 := m1.below hb m1.lt
  have HB := Lib.hid (bthen HB.out hb)
  clear hb y0 y1 y2 y3 y4 m0 I5
  obtain ⟨y0, y1, y2, y3, y4⟩ := m1.c5
  go_wp2_with fail
  refine (I8.out z4).mono ?_
  rintro e z5 ⟨rfl, hb⟩
  have HB := Lib.hid (bthen HB.out hb)
  clear hb y0 y1 y2 y3 y4 m1 I8
  go_wp2
  go_ret
  exact ⟨rfl, HB.out⟩
end Go.Proofs.YtbjemjopcoajcaaGreatDoor
