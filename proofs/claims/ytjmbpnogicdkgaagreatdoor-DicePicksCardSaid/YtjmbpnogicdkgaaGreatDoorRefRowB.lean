/-
  hand.Row, hand.InRow, the document's Total.
-/
import Derived.Test.YtjmbpnogicdkgaaGreatDoorRefRow
namespace Go.Proofs.YtjmbpnogicdkgaaGreatDoor
open Go.RowKit
set_option linter.unusedSimpArgs false
set_option linter.unusedVariables false

/-- hand.Row -/
def rowAt (zs : List Int) (i : Nat) : Rat := match zs[i]? with | some z => rOf z | none => 0
def rowOf (zs : List Int) (m : Nat) : List Rat := (List.range m).map (rowAt zs)
theorem rowOf_succ (zs : List Int) (k : Nat) : rowOf zs (k + 1) = rowOf zs k ++ [rowAt zs k] := by
  unfold rowOf
  rw [List.range_succ, List.map_append]
  rfl
theorem rowOf_len (zs : List Int) (m : Nat) : (rowOf zs m).length = m := by simp [rowOf]
theorem rowAt_size (zs : List Int) (i : Nat) : QS 5 (rowAt zs i) := by
  unfold rowAt
  split
  · exact rOf_size _
  · exact QS.zero _ (by omega)
theorem rowOf_size (zs : List Int) (m : Nat) : ∀ x ∈ rowOf zs m, QS 5 x := by
  intro x hx
  obtain ⟨i, _, rfl⟩ := List.mem_map.1 hx
  exact rowAt_size zs i
def RowRel (w : World) (zs : List Int) (k : Nat) (v : Value) (wr : World) : Prop := OwnR wr v (rowOf zs k) ∧ (∀ b, v.ownBlock = some b → w.heap.size ≤ b) ∧ Below w.heap.size w wr
set_option maxRecDepth 100000 in
set_option maxHeartbeats 1000000 in
theorem hand_row (A : Option Addr) (n c B : Nat) (zs : List Int) (m : Nat) (w : World) (h : ReadsZ w B A n zs) (hB : B ≤ w.heap.size) (hn : n ≤ 9223372036854775807) (hm : m ≤ 1000000) :
    Calls Tryz.prog 23 #[.slice A n c, .int .i64 (m : Int)] w fun e w' => ∃ v, e = .returned v ∧ RowRel w zs m v w' := by
  have H := Lib.hid h
  have hln := h.len
  have HLN := Lib.hid hln
  clear h hln
  go_enter Tryz.func23, Tryz.ntmps23
  go_wp2_with fail
  go_loopw [5, 6] (fun v i wr => ∃ k : Nat, k ≤ m ∧ i = .int .i64 (k : Int) ∧ RowRel w zs k v wr) (fun _ i _ => m - (intOf i).toNat)
  case atStart => exact ⟨0, by omega, rfl, OwnR.nil w, (fun b h => by cases h), Below.refl _ _⟩
  case round =>
    obtain ⟨k, hk, rfl, hown, hfr, hbel⟩ := hrel
    rename World => wr
    by_cases hkm : k < m
    · have k1 : (k : Int) < (m : Int) := by omega
      have hsc := rowOf_succ zs k
      by_cases hkn : k < n
      · have k2 : (k : Int) < (n : Int) := by omega
        obtain ⟨ad, z, rfl, hz, hcell, hz0, hz1⟩ := (H.out.below (hbel.mono hB)).cell hkn
        have hrow : rowAt zs k = rOf z := by unfold rowAt; rw [hz]
        rw [hrow] at hsc
        have HRR := Lib.hid (hand_r z wr hz0 hz1)
        have HSC := Lib.hid hsc
        have HO := Lib.hid hown
        have HFR := Lib.hid hfr
        have HBL := Lib.hid hbel
        clear hsc hz hrow hown hfr hbel
        go_wp2_with fail
        refine HRR.out.mono ?_
        rintro e w1 ⟨v1, rfl, hR1, hw1⟩
        obtain ⟨g1, A1, l1, c1c, A1', l1', c1c', rfl⟩ := hR1.shape
        have hown1 := HO.out.next hw1
        have hbel1 := HBL.out.trans (hw1.mono HBL.out.size)
        clear HRR
        go_wp2_with (at_builtin; refine appR rfl (.tmp 16) (.tmp 22) rfl w1 _ (rowOf zs k) (rOf z) g1 A1 l1 c1c A1' l1' c1c' rfl hown1 hR1 rfl (by rw [rowOf_len]; omega) ?_; intro v' w2 hown2 hgr)
        have hbel2 := hbel1.trans (hgr.below hbel1.size HFR.out)
        have hfr2 := hgr.fresh hbel1.size HFR.out
        rw [← HSC.out] at hown2
        exact ⟨⟨k + 1, by omega, by go_num, hown2, hfr2, hbel2⟩, by simp [intOf]; omega⟩
      · have k2 : ¬ (k : Int) < (n : Int) := by omega
        have hrow : rowAt zs k = ((0 : Int) : Rat) := by
          unfold rowAt
          rw [List.getElem?_eq_none (by rw [HLN.out]; omega)]
          rfl
        rw [hrow] at hsc
        have HRR := Lib.hid (ref_of 0 wr (by omega) (by omega))
        have HSC := Lib.hid hsc
        have HO := Lib.hid hown
        have HFR := Lib.hid hfr
        have HBL := Lib.hid hbel
        clear hsc hrow hown hfr hbel
        go_wp2_with fail
        refine HRR.out.mono ?_
        rintro e w1 ⟨v1, rfl, hR1, hw1⟩
        obtain ⟨g1, A1, l1, c1c, A1', l1', c1c', rfl⟩ := hR1.shape
        have hown1 := HO.out.next hw1
        have hbel1 := HBL.out.trans (hw1.mono HBL.out.size)
        clear HRR
        go_wp2_with (at_builtin; refine appR rfl (.tmp 24) (.tmp 26) rfl w1 _ (rowOf zs k) ((0 : Int) : Rat) g1 A1 l1 c1c A1' l1' c1c' rfl hown1 hR1 rfl (by rw [rowOf_len]; omega) ?_; intro v' w2 hown2 hgr)
        have hbel2 := hbel1.trans (hgr.below hbel1.size HFR.out)
        have hfr2 := hgr.fresh hbel1.size HFR.out
        rw [← HSC.out] at hown2
        exact ⟨⟨k + 1, by omega, by go_num, hown2, hfr2, hbel2⟩, by simp [intOf]; omega⟩
    · obtain rfl : k = m := by omega
      have k1 : ¬ (k : Int) < (k : Int) := by omega
      have HF := Lib.hid (show RowRel w zs k u5 wr from ⟨hown, hfr, hbel⟩)
      clear hown hfr hbel
      go_wp2
      go_ret
      exact ⟨_, rfl, HF.out⟩
def InRel (w : World) (ql : List Rat) (k : Nat) (v : Value) (wr : World) : Prop := OwnQ wr v (ql.take k) ∧ (∀ b, v.ownBlock = some b → w.heap.size ≤ b) ∧ Below w.heap.size w wr
set_option maxRecDepth 100000 in
set_option maxHeartbeats 1000000 in
theorem hand_inRow (A : Option Addr) (n c B : Nat) (ql : List Rat) (w : World) (h : ReadsR w B A n ql) (hB : B ≤ w.heap.size) (hn : n ≤ 1000000) (hq : ∀ x ∈ ql, QS 549755813888 x) (hT : Tab w) :
    Calls Tryz.prog 30 #[.slice A n c] w fun e w' => ∃ v, e = .returned v ∧ InRel w ql n v w' := by
  have H := Lib.hid h
  have HQ := Lib.hid hq
  have HT := Lib.hid hT
  have HLN := Lib.hid h.len
  clear h hq hT
  go_enter Tryz.func30, Tryz.ntmps30
  go_wp2_with fail
  go_loopw [3, 4] (fun v i wr => ∃ k : Nat, k ≤ n ∧ i = .int .i64 (k : Int) ∧ InRel w ql k v wr) (fun _ i _ => n - (intOf i).toNat)
  case atStart => exact ⟨0, by omega, rfl, OwnW.nil_ _ _ _ _, (fun b h => by cases h), Below.refl _ _⟩
  case round =>
    obtain ⟨k, hk, rfl, hown, hfr, hbel⟩ := hrel
    rename World => wr
    by_cases hkm : k < n
    · have k1 : (k : Int) < (n : Int) := by omega
      obtain ⟨ad, gg, o, r, q, rfl, hP, hgB, hx, x0, x1, x2, hiq⟩ := (H.out.below (hbel.mono hB)).cells hkm
      have hsc : ql.take (k + 1) = ql.take k ++ [q] := by rw [List.take_add_one, hx]; rfl
      have hin := hand_in q _ _ wr (hiq.more (Nat.le_trans hB hbel.size)) (Nat.le_refl _) (HQ.out q (List.mem_of_getElem? hx)) (HT.out.next hbel)
      unfold qV at hin
      have HIN := Lib.hid hin
      have HSC := Lib.hid hsc
      have HO := Lib.hid hown
      have HFR := Lib.hid hfr
      have HBL := Lib.hid hbel
      have hlk : (ql.take k).length ≤ 1000000 := by rw [List.length_take]; omega
      have HLK := Lib.hid hlk
      obtain ⟨rg, rA, rl, rc, rA', rl', rc'⟩ := r
      unfold RC.v at HIN
      simp only [] at x0 x1 x2 HIN
      clear hin hsc hx hown hfr hbel hiq hlk
      go_wp2_with fail
      refine HIN.out.mono ?_
      rintro e w1 ⟨rfl, hw1⟩
      have hown1 := OwnW.next HO.out hw1
      have hbel1 := HBL.out.trans (hw1.mono HBL.out.size)
      clear HIN x0 x1 x2
      go_wp2_with (at_builtin; refine appQ rfl (.tmp 11) (.tmp 17) rfl w1 _ (ql.take k) q rfl hown1 rfl HLK.out ?_; intro v' w2 hown2 hgr)
      have hbel2 := hbel1.trans (hgr.below hbel1.size HFR.out)
      have hfr2 := hgr.fresh hbel1.size HFR.out
      rw [← HSC.out] at hown2
      exact ⟨⟨k + 1, by omega, by go_num, hown2, hfr2, hbel2⟩, by simp [intOf]; omega⟩
    · obtain rfl : k = n := by omega
      have k1 : ¬ (k : Int) < (k : Int) := by omega
      have HF := Lib.hid (show InRel w ql k u3 wr from ⟨hown, hfr, hbel⟩)
      clear hown hfr hbel
      go_wp2
      go_ret
      exact ⟨_, rfl, HF.out⟩
end Go.Proofs.YtjmbpnogicdkgaaGreatDoor
