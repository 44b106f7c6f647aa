/-
  octet.Writer: Frac, Text, Bool.
-/
import Derived.Test.YtjmbpnogicdkgaaGreatDoorLayRef
import Derived.Test.YtjmbpnogicdkgaaGreatDoorFracBase
namespace Go.Proofs.YtjmbpnogicdkgaaGreatDoor
open Go.RowKit
set_option linter.unusedSimpArgs false
set_option linter.unusedVariables false

/-- the call has written the bytes m behind l -/
def Wrote (b : Nat) (v : Value) (l m : List UInt8) (w : World) (e : Ending) (w' : World) : Prop := ∃ v', e = .returned (.tuple #[]) ∧ IsW w' b v' (l ++ m) ∧ WGrew w w' b v v'
set_option maxRecDepth 100000 in
set_option maxHeartbeats 400000 in
theorem writer_text (b : Nat) (v : Value) (l : List UInt8) (s : ByteArray) (w : World) (h : IsW w b v l) (hs : s.size ≤ 1099511627776) (hl : l.length ≤ 1099511627000) :
    Calls Tryz.prog 63 #[.pointer (some ⟨b, 0, none⟩), .string s] w (Wrote b v l (textB s) w) := by
  have hcl : (countB s.size).length ≤ 10 := countF_len 9 s.size
  have HI := Lib.hid h
  clear h
  go_enter Tryz.func63, Tryz.ntmps63
  go_wp2_with fail
  refine (writer_count b v l (s.size : Int) w HI.out (by omega) (by omega)).mono ?_
  rintro e w4 ⟨v4, rfl, hw4, hg4⟩
  rw [Int.toNat_natCast] at hw4
  have hll : (l ++ countB s.size).length + s.size ≤ 140737488355328 := by rw [List.length_append]; omega
  generalize hL4 : l ++ countB s.size = l4 at hw4 hll
  have HL4 := Lib.hid hL4
  clear hL4 HI
  obtain ⟨A4, c4', hv4, _, _⟩ := hw4.2.form
  rw [hv4] at hw4 hg4
  clear hv4
  have q4 := hw4.1.cell 0
  simp at q4
  go_wp2_with (at_builtin; refine appS Tryz.eltU8 Tryz.underlying9 rfl (.tmp 12) (.tmp 13) rfl w4 _ l4 s rfl hw4.2 rfl hll ?_)
  intro v5 w5 ho5 hg5
  have hst := hw4.stored ho5 hg5
  have hb5 : Blk w5 b 99 #[.slice A4 l4.length c4'] := (hg5.block b hw4.1.lt (fun e => hw4.ne e.symm)).trans hw4.1
  have q5 := hb5.cell 0
  have f5 := hb5.frozen 0
  simp at q5
  have hw5 := hg4.trans (WGrew.of (b := b) hg5 v5)
  obtain ⟨A5, c5', hv5, _, _⟩ := ho5.form
  have hfin : l4 ++ s.data.toList = l ++ textB s := by
    unfold textB
    rw [← HL4.out, List.append_assoc]
  rw [hfin] at hst
  rw [hv5] at hst hw5 ⊢
  clear hv5 ho5 hg5 q4 hfin hg4
  generalize (l4 ++ s.data.toList).length = L5 at *
  go_wp2
  go_end0
  exact ⟨_, rfl, hst, hw5⟩
set_option maxRecDepth 100000 in
set_option maxHeartbeats 400000 in
theorem writer_bool (b : Nat) (v : Value) (l : List UInt8) (x : Bool) (w : World) (h : IsW w b v l) (hl : l.length ≤ 1099511627000) :
    Calls Tryz.prog 65 #[.pointer (some ⟨b, 0, none⟩), .bool x] w (Wrote b v l (boolB x) w) := by
  obtain ⟨A4, c4', hv4, _, _⟩ := h.2.form
  subst hv4
  have q4 := h.1.cell 0
  simp at q4
  have e1 : l.length + 1 ≤ maxLen := by unfold maxLen; omega
  have e2 : (l.length + 1) * 1 ≤ 140737488355328 := by omega
  have q4' : ∀ u, (w.alloc (.cells #[u] 5)).cell? ⟨b, 0, none⟩ = some (.slice A4 l.length c4') := fun u => by rw [World.cell?_alloc_lt _ _ _ h.1.lt]; exact q4
  cases x
  · go_enter Tryz.func65, Tryz.ntmps65
    go_wp2_with (at_builtin; refine app1 Tryz.eltU8 rfl (.tmp 18) (.tmp 19) rfl w _ l 0 _ rfl rfl h.2 rfl rfl e1 e2 ?_)
    intro v5 w5 ho5 hg5
    have hst := h.stored ho5 hg5
    have hb5 : Blk w5 b 99 #[.slice A4 l.length c4'] := (hg5.block b h.1.lt (fun e => h.ne e.symm)).trans h.1
    have q5 := hb5.cell 0
    have f5 := hb5.frozen 0
    simp at q5
    have hw5 := WGrew.of (b := b) hg5 v5
    obtain ⟨A5, c5', hv5, _, _⟩ := ho5.form
    rw [hv5] at hst hw5 ⊢
    have HST := Lib.hid (And.intro hst hw5)
    clear hv5 ho5 hg5 q4 hst hw5
    generalize (l ++ [0]).length = L5 at *
    go_wp2
    go_end0
    exact ⟨_, rfl, HST.out.1, HST.out.2⟩
  · go_enter Tryz.func65, Tryz.ntmps65
    go_wp2_with (at_builtin; refine app1 Tryz.eltU8 rfl (.tmp 9) (.tmp 10) rfl w _ l 1 _ rfl rfl h.2 rfl rfl e1 e2 ?_)
    intro v5 w5 ho5 hg5
    have hst := h.stored ho5 hg5
    have hb5 : Blk w5 b 99 #[.slice A4 l.length c4'] := (hg5.block b h.1.lt (fun e => h.ne e.symm)).trans h.1
    have q5 := hb5.cell 0
    have f5 := hb5.frozen 0
    simp at q5
    have hw5 := WGrew.of (b := b) hg5 v5
    obtain ⟨A5, c5', hv5, _, _⟩ := ho5.form
    rw [hv5] at hst hw5 ⊢
    have HST := Lib.hid (And.intro hst hw5)
    clear hv5 ho5 hg5 q4 hst hw5
    generalize (l ++ [1]).length = L5 at *
    go_wp2
    go_end0
    exact ⟨_, rfl, HST.out.1, HST.out.2⟩
set_option maxRecDepth 100000 in
set_option maxHeartbeats 1000000 in
theorem writer_frac (b : Nat) (v : Value) (l : List UInt8) (q : Rat) (w : World) (h : IsW w b v l) (hq : QS 1099511627776 q) (hl : l.length ≤ 549755813888) :
    Calls Tryz.prog 61 #[.pointer (some ⟨b, 0, none⟩), qV q] w (Wrote b v l (fracB q) w) := by
  have hvlt := h.2.lt
  have hblt := h.1.lt
  have hnb : nbytes q.den ≤ 137438953472 := by unfold nbytes; have := hq.2; omega
  have hnb2 : nbytes q.num.natAbs ≤ 137438953472 := by unfold nbytes; have := hq.1; omega
  have hwl : (wholeB q.num).length ≤ 137438953482 := by
    unfold wholeB
    rw [List.length_append, natB_len]
    have := countF_len 9 (2 * nbytes q.num.natAbs + (if q.num < 0 then 1 else 0))
    unfold countB
    omega
  obtain ⟨N, hN⟩ : ∃ N, nbytes q.den = N := ⟨_, rfl⟩
  have hcl : (countB N).length ≤ 10 := countF_len 9 N
  have hF : fracB q = wholeB q.num ++ (countB N ++ natB q.den) := by unfold fracB; rw [hN]
  have hnl := natB_len q.den
  rw [hN] at hnl hnb
  have HNL := Lib.hid hnl
  have HF := Lib.hid hF
  have HI := Lib.hid h
  have HQ := Lib.hid hq
  have hnum := fun w => frac_num q w
  have hden := fun w => frac_den q w hq
  have hby := fun w => nat_bytes q.den w (by have := hq.2; omega)
  have hwh := fun w h' => writer_whole b v l q.num w h' hq.1 (by omega)
  unfold qV at hnum hden ⊢
  unfold natV at hden hby
  unfold intV at hnum hwh
  have H1 := Lib.hid hnum
  have H2 := Lib.hid hden
  have H3 := Lib.hid hby
  have H4 := Lib.hid hwh
  clear h hq hN hF hnl hnum hden hby hwh
  have b0 := Blk.new w  70 #[.bool (decide (q.num < 0)), .int .u64 (lo q.num.natAbs : Int), .string (mo q.num.natAbs), .int .u64 (lo ((qden q)) : Int), .string (mo ((qden q)))]; have hB := balloc1 w (.cells #[.bool (decide (q.num < 0)), .int .u64 (lo q.num.natAbs : Int), .string (mo q.num.natAbs), .int .u64 (lo ((qden q)) : Int), .string (mo ((qden q)))] 70); have hZ := Lib.hid (show (w.alloc (.cells #[.bool (decide (q.num < 0)), .int .u64 (lo q.num.natAbs : Int), .string (mo q.num.natAbs), .int .u64 (lo ((qden q)) : Int), .string (mo ((qden q)))] 70)).heap.size = w.heap.size + 1 from by simp)
  go_enter Tryz.func61, Tryz.ntmps61
  go_wp2_with fail
  generalize (w.alloc (.cells #[.bool (decide (q.num < 0)), .int .u64 (lo q.num.natAbs : Int), .string (mo q.num.natAbs), .int .u64 (lo ((qden q)) : Int), .string (mo ((qden q)))] 70)) = W at *
  refine (H1.out W).mono ?_
  rintro e w1 ⟨rfl, hw1⟩
  have hB1 := bthen hB hw1
  (try clear b0q0 b0q1 b0q2 b0q3 b0q4); have b0 := b0.below hw1 b0.lt; obtain ⟨b0q0, b0q1, b0q2, b0q3, b0q4⟩ := b0.c5
  go_wp2_with fail
  refine (H4.out w1 (HI.out.below hB1)).mono ?_
  rintro e w2 ⟨v2, rfl, hi2, hg2⟩
  have hg2' := WGrew.pre hB1 hg2 hvlt
  have b0 := b0.wkept hg2 (by omega) (fun e => by have := hvlt _ e; omega)
  clear b0q0 b0q1 b0q2 b0q3 b0q4
  obtain ⟨b0q0, b0q1, b0q2, b0q3, b0q4⟩ := b0.c5
  have hl1 : (l ++ wholeB q.num).length ≤ 1099511627000 := by rw [List.length_append]; omega
  generalize hL1 : l ++ wholeB q.num = m1 at hi2 hl1
  have HL1 := Lib.hid hL1
  have hlt2 := hi2.2.lt
  clear hL1 H1 H4 hg2 hw1
  go_wp2_with fail
  refine (H2.out w2).mono ?_
  rintro e w3 ⟨rfl, hw3⟩
  go_wp2_with fail
  refine (H3.out w3).mono ?_
  rintro e w4 ⟨v4, rfl, ho4, hw4, hf4⟩
  obtain ⟨A3, c3, hv4, hc3, hc4⟩ := ho4.form
  rw [HNL.out] at hv4 hc3
  rw [hv4] at ho4 hf4
  rw [hv4]
  have hB4 := bthen hw3 hw4
  have hz3 := hw3.size
  have hi4 := hi2.below hB4
  have hg4' := hg2'.trans (WGrew.pre hB4 (WGrew.refl w4 b v2) hlt2)
  clear hv4 b0q0 b0q1 b0q2 b0q3 b0q4 b0 H2 H3
  go_wp2_with fail
  refine (writer_count b v2 m1 (N : Int) w4 hi4 (by omega) (by omega)).mono ?_
  rintro e w5 ⟨v5, rfl, hi5, hg5⟩
  rw [Int.toNat_natCast] at hi5
  have ho5 := ho4.wkept hg5 (fun k hk => ⟨by have := hf4 k hk; have := hi2.1.lt; omega, fun e => by have := hlt2 k e; have := hf4 k hk; omega⟩)
  have hrd := Own.reads ho5
  rw [HNL.out] at hrd
  have hll : (m1 ++ countB N).length ≤ 1099511627010 := by rw [List.length_append]; omega
  generalize hL4 : m1 ++ countB N = l4 at hi5 hll
  have HL4 := Lib.hid hL4
  clear hL4
  obtain ⟨A5, c5', hv5, _, _⟩ := hi5.2.form
  rw [hv5] at hi5 hg5
  clear hv5
  have q5 := hi5.1.cell 0
  simp at q5
  go_wp2_with (at_builtin; refine appN Tryz.eltU8 rfl (.tmp 20) (.tmp 21) rfl w5 _ l4 _ A3 N c3 (natB q.den) rfl hi5.2 rfl hrd u8v_one ?_ ?_ ?_)
  · unfold maxLen; omega
  · omega
  intro v6 w6 ho6 hg6
  have hst := hi5.stored ho6 hg6
  have hb6 : Blk w6 b 99 #[.slice A5 l4.length c5'] := (hg6.block b hi5.1.lt (fun e => hi5.ne e.symm)).trans hi5.1
  have q6 := hb6.cell 0
  have f6 := hb6.frozen 0
  simp at q6
  have hw6 := (hg4'.trans hg5).trans (WGrew.of (b := b) hg6 v6)
  obtain ⟨A6, c6', hv6, _, _⟩ := ho6.form
  have hfin : l4 ++ natB q.den = l ++ fracB q := by
    rw [HF.out, ← HL4.out, ← HL1.out, List.append_assoc, List.append_assoc]
  rw [hfin] at hst
  rw [hv6] at hst hw6 ⊢
  clear hv6 ho6 hg6 q5 hfin hg5
  generalize (l4 ++ natB q.den).length = L6 at *
  go_wp2
  go_end0
  exact ⟨_, rfl, hst, hw6⟩
end Go.Proofs.YtjmbpnogicdkgaaGreatDoor
