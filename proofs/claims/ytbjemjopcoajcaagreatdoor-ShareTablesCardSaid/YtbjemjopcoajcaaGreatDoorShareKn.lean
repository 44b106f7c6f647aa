/-
  The factorials that the row lists lie in memory; chapter 37's example.
-/
import Derived.Test.YtbjemjopcoajcaaGreatDoorTab
import Derived.Test.YtbjemjopcoajcaaGreatDoorShareP
import Derived.Test.YtbjemjopcoajcaaGreatDoorHandMore
namespace Go.Proofs.YtbjemjopcoajcaaGreatDoor
open Go.RowKit
set_option linter.unusedSimpArgs false
set_option linter.unusedVariables false

theorem laid_tail {P : Program} {n : String} {d : DataW Unit} {rest : List (String × DataW Unit)} {W : World} (h : laidMet P ((n, d) :: rest) W) : laidMet P rest W := by
  obtain ⟨ps, ⟨g, t, cs, fuel, p, q, _, _, _, _, hq, rfl⟩, hn, hc⟩ := h
  exact ⟨q, hq, (List.nodup_append.1 hn).2.1, fun b off hm => hc b off (List.mem_append_right _ hm)⟩
theorem gTabF : Tryz.prog.globalNamed "abaculus/share.factorials" = some 0 := by kernel_rfl
theorem gTabFType : (Tryz.prog.globals[0]?).map (·.type) = some 80 := by kernel_rfl
theorem cellsTabF : Tryz.prog.cellsOf 80 = 11 := by kernel_rfl
theorem cellsI64 : Tryz.prog.cellsOf 2 = 1 := by kernel_rfl
theorem tabF_of {W : World} {n : String} {d : DataW Unit} {rest : List (String × DataW Unit)} (h : laidMet Tryz.prog ((n, d) :: ("abaculus/share.factorials", Rows.laid_abaculus_share_factorials) :: rest) W) : TabF W := by
  have h := laid_tail h
  have e : (Rows.laid_abaculus_share_factorials : DataW Unit) = Lib.tabData .i64 (facts.map (fun n : Nat => (n : Int))) := by kernel_rfl
  rw [e] at h
  have h1 : Lib.TabIs Tryz.prog W "abaculus/share.factorials" .i64 (facts.map (fun n : Nat => (n : Int))) :=
    Lib.tabIs_of_head (rest := rest) gTabF gTabFType Tryz.underlying80 Tryz.underlying2 cellsI64 cellsTabF h
  intro j hj
  have h2 := h1.cell gTabF j (by simpa [facts] using hj)
  rw [h2]
  have hj' : j < facts.length := by simpa [facts] using hj
  unfold fact
  simp [List.getD_eq_getElem?_getD, hj']
theorem readsQB {w : World} {g : Nat} {t : TypeId} (l : List Rat) (h : Blk w g t (l.flatMap qC).toArray) : ReadsQ w (g + 1) (some ⟨g, 0, none⟩) l.length l := by
  refine ⟨rfl, by rw [flatW_len qC_len], fun _ => ⟨_, rfl, by simp, fun j u hu => ?_⟩⟩
  rw [add_zero_off, h.cell]
  simpa using hu
set_option maxRecDepth 100000 in
set_option maxHeartbeats 2000000 in
theorem share_known (w : World) (hT : Tab w) (hF : TabF w) : Calls Tryz.prog 13 #[] w (Ret (.bool true) w) := by
  have h0 := fun w => frac_of 0 w (by omega) (by omega)
  have h1 := fun w => frac_of 1 w (by omega) (by omega)
  have h4 := fun w => frac_of 4 w (by omega) (by omega)
  obtain ⟨q0, hq0⟩ : ∃ q : Rat, q = ((0 : Int) : Rat) := ⟨_, rfl⟩
  obtain ⟨q1, hq1⟩ : ∃ q : Rat, q = ((1 : Int) : Rat) := ⟨_, rfl⟩
  obtain ⟨q4, hq4⟩ : ∃ q : Rat, q = ((4 : Int) : Rat) := ⟨_, rfl⟩
  obtain ⟨q2, hq2⟩ : ∃ q : Rat, q = ((2 : Int) : Rat) := ⟨_, rfl⟩
  have hsh : sharesQ [q0, q1, q1, q4] 2 = [q2, q2] := by rw [hq0, hq1, hq4, hq2]; decide +kernel
  have hsz : ∀ x ∈ [q0, q1, q1, q4], QS 8 x := by
    intro x hx
    simp only [List.mem_cons, List.not_mem_nil, or_false] at hx
    rcases hx with rfl | rfl | rfl | rfl
    · rw [hq0]; exact ⟨by decide +kernel, by decide +kernel⟩
    · rw [hq1]; exact ⟨by decide +kernel, by decide +kernel⟩
    · rw [hq1]; exact ⟨by decide +kernel, by decide +kernel⟩
    · rw [hq4]; exact ⟨by decide +kernel, by decide +kernel⟩
  have h2 : QS 1099511627776 q2 := by
    have : QS 8 q2 := by rw [hq2]; exact ⟨by decide +kernel, by decide +kernel⟩
    exact this.mono (by omega)
  have h2d : q2 = Rat.divInt 2 1 := by rw [hq2]; decide +kernel
  have his := fun w => hand_is q2 2 1 w (by omega) (by omega) (by omega) (by omega) (by omega) h2d h2
  rw [← hq0] at h0
  rw [← hq1] at h1
  rw [← hq4] at h4
  unfold qV at h0 h1 h4 his
  have H0 := Lib.hid h0
  have H1 := Lib.hid h1
  have H4 := Lib.hid h4
  have HIS := Lib.hid his
  have HSH := Lib.hid hsh
  have HSZ := Lib.hid hsz
  have HT := Lib.hid hT
  have HF := Lib.hid hF
  clear h0 h1 h4 his hsh hsz h2 h2d hq0 hq1 hq4 hq2 hT hF
  go_enter Tryz.func13, Tryz.ntmps13
  go_wp2_with fail
  refine (H0.out w).mono ?_
  rintro e x1 ⟨rfl, hw1⟩
  go_wp2_with fail
  refine (H1.out x1).mono ?_
  rintro e x2 ⟨rfl, hw2⟩
  go_wp2_with fail
  refine (H1.out x2).mono ?_
  rintro e x3 ⟨rfl, hw3⟩
  go_wp2_with fail
  refine (H4.out x3).mono ?_
  rintro e x4 ⟨rfl, hw4⟩
  have hB5 := bthen (bthen (bthen (bthen hw1 hw2) hw3) hw4) (balloc1 x4 (.cells #[.bool (decide (q0.num < 0)), .int .u64 (lo q0.num.natAbs : Int), .string (mo q0.num.natAbs), .int .u64 (lo ((qden q0)) : Int), .string (mo ((qden q0))), .bool (decide (q1.num < 0)), .int .u64 (lo q1.num.natAbs : Int), .string (mo q1.num.natAbs), .int .u64 (lo ((qden q1)) : Int), .string (mo ((qden q1))), .bool (decide (q1.num < 0)), .int .u64 (lo q1.num.natAbs : Int), .string (mo q1.num.natAbs), .int .u64 (lo ((qden q1)) : Int), .string (mo ((qden q1))), .bool (decide (q4.num < 0)), .int .u64 (lo q4.num.natAbs : Int), .string (mo q4.num.natAbs), .int .u64 (lo ((qden q4)) : Int), .string (mo ((qden q4)))] 52))
  have r5 := readsQB [q0, q1, q1, q4] (Blk.new x4 52 #[.bool (decide (q0.num < 0)), .int .u64 (lo q0.num.natAbs : Int), .string (mo q0.num.natAbs), .int .u64 (lo ((qden q0)) : Int), .string (mo ((qden q0))), .bool (decide (q1.num < 0)), .int .u64 (lo q1.num.natAbs : Int), .string (mo q1.num.natAbs), .int .u64 (lo ((qden q1)) : Int), .string (mo ((qden q1))), .bool (decide (q1.num < 0)), .int .u64 (lo q1.num.natAbs : Int), .string (mo q1.num.natAbs), .int .u64 (lo ((qden q1)) : Int), .string (mo ((qden q1))), .bool (decide (q4.num < 0)), .int .u64 (lo q4.num.natAbs : Int), .string (mo q4.num.natAbs), .int .u64 (lo ((qden q4)) : Int), .string (mo ((qden q4)))])
  clear hw1 hw2 hw3 hw4 H0 H1 H4
  have hz5 : (x4.alloc (.cells #[.bool (decide (q0.num < 0)), .int .u64 (lo q0.num.natAbs : Int), .string (mo q0.num.natAbs), .int .u64 (lo ((qden q0)) : Int), .string (mo ((qden q0))), .bool (decide (q1.num < 0)), .int .u64 (lo q1.num.natAbs : Int), .string (mo q1.num.natAbs), .int .u64 (lo ((qden q1)) : Int), .string (mo ((qden q1))), .bool (decide (q1.num < 0)), .int .u64 (lo q1.num.natAbs : Int), .string (mo q1.num.natAbs), .int .u64 (lo ((qden q1)) : Int), .string (mo ((qden q1))), .bool (decide (q4.num < 0)), .int .u64 (lo q4.num.natAbs : Int), .string (mo q4.num.natAbs), .int .u64 (lo ((qden q4)) : Int), .string (mo ((qden q4)))] 52)).heap.size = x4.heap.size + 1 := World.size_alloc _ _
  have HZ5 := Lib.hid hz5
  clear hz5
  go_wp2_with fail
  generalize x4.alloc (.cells #[.bool (decide (q0.num < 0)), .int .u64 (lo q0.num.natAbs : Int), .string (mo q0.num.natAbs), .int .u64 (lo ((qden q0)) : Int), .string (mo ((qden q0))), .bool (decide (q1.num < 0)), .int .u64 (lo q1.num.natAbs : Int), .string (mo q1.num.natAbs), .int .u64 (lo ((qden q1)) : Int), .string (mo ((qden q1))), .bool (decide (q1.num < 0)), .int .u64 (lo q1.num.natAbs : Int), .string (mo q1.num.natAbs), .int .u64 (lo ((qden q1)) : Int), .string (mo ((qden q1))), .bool (decide (q4.num < 0)), .int .u64 (lo q4.num.natAbs : Int), .string (mo q4.num.natAbs), .int .u64 (lo ((qden q4)) : Int), .string (mo ((qden q4)))] 52) = x5 at *
  refine (share_shares _ 4 4 2 _ 8 [q0, q1, q1, q4] x5 r5 (by have := HZ5.out; omega) rfl (by omega) (by omega) (by omega) (by omega) HSZ.out (HT.out.next hB5) (HF.out.next hB5)).mono ?_
  rintro e x6 ⟨v, rfl, ho, hfr, hb6⟩
  rw [HSH.out] at ho
  obtain ⟨A, c, rfl, _, _⟩ := OwnW.form ho
  obtain ⟨g, rfl⟩ := OwnQ.addr ho (by simp)
  have hB6 := bthen hB5 hb6
  have a1 : AtQ x6 g 0 q2 := OwnQ.at_ (k := 0) ho rfl
  have a2 : AtQ x6 g 5 q2 := OwnQ.at_ (k := 1) ho rfl
  clear HSZ r5 HZ5 hB5 hb6 hfr ho HSH
  obtain ⟨y0, y1, y2, y3, y4⟩ := a1.c5
  simp only [List.length_cons, List.length_nil]
  go_wp2_with fail
  refine (HIS.out x6).mono ?_
  rintro e x7 ⟨rfl, hw7⟩
  have a2 := a2.below hw7 a2.lt
  have hB7 := bthen hB6 hw7
  clear a1 y0 y1 y2 y3 y4 hw7 hB6
  obtain ⟨y0, y1, y2, y3, y4⟩ := a2.c5
  go_wp2_with fail
  refine (HIS.out x7).mono ?_
  rintro e x8 ⟨rfl, hw8⟩
  have HB8 := Lib.hid (bthen hB7 hw8)
  clear a2 y0 y1 y2 y3 y4 hw8 hB7
  go_wp2
  go_ret
  exact ⟨rfl, HB8.out⟩
end Go.Proofs.YtbjemjopcoajcaaGreatDoor
