/-
  The walk of abaculuslaw4.OctetOne.
-/
import Derived.Test.YtjmbpnogicdkgaaGreatDoorTab
import Derived.Test.YtjmbpnogicdkgaaGreatDoorLays
import Derived.Test.YtjmbpnogicdkgaaGreatDoorOneMath
import Derived.Test.YtjmbpnogicdkgaaGreatDoorRefQ
import Derived.Test.YtjmbpnogicdkgaaGreatDoorKnown4
import Derived.WalkKit
import Derived.Deep.DeepCutAuto
import Derived.Deep.CutBlock
namespace Go.Proofs.YtjmbpnogicdkgaaGreatDoor
open Go.RowKit
set_option linter.unusedVariables false
set_option linter.unusedSimpArgs false

/-- what the switch leaves: are the steps one? -/
def SameX (W : World) (p : Prop) (v : Value) (wc : World) : Prop := ∃ sm : Bool, v = .bool sm ∧ (sm = true ↔ p) ∧ Below W.heap.size W wc

theorem one_count {n m : Int} (hn : n ≤ 9223372036854775807) (hm : m ≤ 9223372036854775807) : max 0 n = max 0 m ↔ countB n.toNat = countB m.toNat := by
  constructor
  · intro h
    have : n.toNat = m.toNat := by omega
    rw [this]
  · intro h
    have := countB_inj (a := n.toNat) (b := m.toNat) (by omega) (by omega) h
    omega
theorem one_whole (n m : Bool) (a b c d : List UInt8) : ((qOf n a b).num - (qOf m c d).num).sign = 0 ↔ wholeB (qOf n a b).num = wholeB (qOf m c d).num := by
  obtain ⟨h1, _⟩ := qOf_size n a b
  obtain ⟨h2, _⟩ := qOf_size m c d
  have h3 := nbytes73 h1
  have h4 := nbytes73 h2
  rw [Int.sign_eq_zero_iff_zero]
  constructor
  · intro h
    have : (qOf n a b).num = (qOf m c d).num := by omega
    rw [this]
  · intro h
    have := (wholeB_split (z := (qOf n a b).num) (t := (qOf m c d).num) (x := []) (y := []) (by omega) (by omega) (by rw [h])).1
    omega
theorem cmpQ_zero (a b : Rat) : cmpQ a b = 0 ↔ a = b := by
  unfold cmpQ
  by_cases h1 : a < b
  · rw [if_pos h1]
    constructor
    · intro h; omega
    · rintro rfl; exact absurd h1 Rat.lt_irrefl
  · rw [if_neg h1]
    by_cases h2 : b < a
    · rw [if_pos h2]
      constructor
      · intro h; omega
      · rintro rfl; exact absurd h2 Rat.lt_irrefl
    · rw [if_neg h2]
      exact ⟨fun _ => Rat.le_antisymm (Rat.not_lt.1 h2) (Rat.not_lt.1 h1), fun _ => rfl⟩
theorem one_frac (n m : Bool) (a b c d : List UInt8) : cmpQ (qOf n a b) (qOf m c d) = 0 ↔ fracB (qOf n a b) = fracB (qOf m c d) := by
  obtain ⟨h1, h1'⟩ := qOf_size n a b
  obtain ⟨h2, h2'⟩ := qOf_size m c d
  have h3 := nbytes73 h1
  have h4 := nbytes73 h2
  have h5 := nbytes73 h1'
  have h6 := nbytes73 h2'
  rw [cmpQ_zero]
  constructor
  · intro h
    rw [h]
  · intro h
    exact fracB_inj (by omega) (by omega) (by omega) (by omega) h

/-- what Few leaves of a string's bytes -/
def FewP (l : List UInt8) (w : World) (e : Ending) (w' : World) : Prop := ∃ A K c, e = .returned (.slice A K c) ∧ Bytes w' w'.heap.size A K l ∧ Below w.heap.size w w'
theorem few_in (s : ByteArray) (Y : World) (g c : Nat) (h : Bytes Y (g + 1) (some ⟨g, 0, none⟩) s.size s.data.toList) (hB : g + 1 ≤ Y.heap.size) (hs : s.size ≤ 9223372036854775807) (hc : s.size ≤ c) :
    Calls Tryz.prog 15 #[.slice (some ⟨g, 0, none⟩) s.size c, .int .i64 200] Y (FewP (s.data.toList.take 200) Y) :=
  (few_reads _ _ _ _ _ 200 Y h hB hs hc (by omega)).mono fun e w' ⟨A, K, c', h1, _, _, _, h2, h3⟩ => ⟨A, K, c', h1, h2, h3⟩
theorem few_now (s : ByteArray) (V : World) (c : Nat) (hs : s.size ≤ 9223372036854775807) (hc : s.size ≤ c) :
    Calls Tryz.prog 15 #[.slice (some ⟨V.heap.size, 0, none⟩) s.size c, .int .i64 200] (Lib.bytesWorld V 5 s) (FewP (s.data.toList.take 200) (Lib.bytesWorld V 5 s)) :=
  few_in s _ _ c (bytes_bytesWorld V 5 s) (by rw [Lib.bytesWorld_size]; omega) hs hc
/-- behind one more string's bytes -/
theorem few_then (s t : ByteArray) (V : World) (c : Nat) (hs : s.size ≤ 9223372036854775807) (hc : s.size ≤ c) (w' : World) (hb : Below (Lib.bytesWorld V 5 s).heap.size (Lib.bytesWorld V 5 s) w') :
    Calls Tryz.prog 15 #[.slice (some ⟨V.heap.size, 0, none⟩) s.size c, .int .i64 200] w' (FewP (s.data.toList.take 200) w') :=
  few_in s _ _ c (Reads.below (bytes_bytesWorld V 5 s) (hb.mono (by rw [Lib.bytesWorld_size]; omega))) (by have := hb.size; rw [Lib.bytesWorld_size] at this; omega) hs hc
theorem text_one (sa sb : ByteArray) : sa.data.toList.take 200 = sb.data.toList.take 200 ↔ textB ⟨(sa.data.toList.take 200).toArray⟩ = textB ⟨(sb.data.toList.take 200).toArray⟩ := by
  have h : ∀ s : ByteArray, ByteArray.size ⟨(s.data.toList.take 200).toArray⟩ ≤ 200 := fun s => by
    show (s.data.toList.take 200).toArray.size ≤ 200
    simp
    omega
  have h1 := h sa
  have h2 := h sb
  exact ⟨fun e => by rw [e], fun e => by simpa using textB_inj (by omega) (by omega) e⟩
set_option maxRecDepth 100000 in
set_option maxHeartbeats 8000000 in
theorem octetOne_walk (aw an : Int) (aA aA2 : Option Addr) (ana aca anb acb : Nat) (ang : Bool) (sa : ByteArray) (aal abl : List UInt8) (bw bn : Int) (bA bA2 : Option Addr) (bna bca bnb bcb : Nat) (bng : Bool) (sb : ByteArray) (bal bbl : List UInt8) (w : World)
    (oa : StepOK w w.heap.size ⟨aw, an, aA, ana, aca, aA2, anb, acb, ang, sa, aal, abl⟩) (ob : StepOK w w.heap.size ⟨bw, bn, bA, bna, bca, bA2, bnb, bcb, bng, sb, bal, bbl⟩) (hT : Tab w) :
    Calls Tryz.prog 3 #[.agg #[.int .i64 aw, .int .i64 an, .slice aA ana aca, .slice aA2 anb acb, .bool ang, .string sa], .agg #[.int .i64 bw, .int .i64 bn, .slice bA bna bca, .slice bA2 bnb bcb, .bool bng, .string sb]] w (Ret (.bool true) w) := by
  have OA := Lib.hid oa
  have OB := Lib.hid ob
  have HT := Lib.hid hT
  clear oa ob hT
  have b0 := (Blk.new w  24 #[.int .i64 aw, .int .i64 an, .slice aA ana aca, .slice aA2 anb acb, .bool ang, .string sa]).alloc (.cells #[.int .i64 bw, .int .i64 bn, .slice bA bna bca, .slice bA2 bnb bcb, .bool bng, .string sb] 24); have b1 := Blk.new2 w (.cells #[.int .i64 aw, .int .i64 an, .slice aA ana aca, .slice aA2 anb acb, .bool ang, .string sa] 24) 24 #[.int .i64 bw, .int .i64 bn, .slice bA bna bca, .slice bA2 bnb bcb, .bool bng, .string sb]; have hB := balloc2 w (.cells #[.int .i64 aw, .int .i64 an, .slice aA ana aca, .slice aA2 anb acb, .bool ang, .string sa] 24) (.cells #[.int .i64 bw, .int .i64 bn, .slice bA bna bca, .slice bA2 bnb bcb, .bool bng, .string sb] 24); have hZ := Lib.hid (show ((w.alloc (.cells #[.int .i64 aw, .int .i64 an, .slice aA ana aca, .slice aA2 anb acb, .bool ang, .string sa] 24)).alloc (.cells #[.int .i64 bw, .int .i64 bn, .slice bA bna bca, .slice bA2 bnb bcb, .bool bng, .string sb] 24)).heap.size = w.heap.size + 1 + 1 from by simp)
  go_enter Tryz.func3, Tryz.ntmps3
  go_wp2_with fail
  generalize ((w.alloc (.cells #[.int .i64 aw, .int .i64 an, .slice aA ana aca, .slice aA2 anb acb, .bool ang, .string sa] 24)).alloc (.cells #[.int .i64 bw, .int .i64 bn, .slice bA bna bca, .slice bA2 bnb bcb, .bool bng, .string sb] 24)) = W at *
  refine (new_writer W).mono ?_
  rintro e w1 ⟨rfl, rfl⟩
  have iA := IsW.new W
  have b0 := b0.alloc (.cells #[.slice none 0 0] 99)
  have b1 := b1.alloc (.cells #[.slice none 0 0] 99)
  have hB1 := bthen hB (balloc1 W (.cells #[.slice none 0 0] 99))
  obtain ⟨gA, hgA⟩ : ∃ g, W.heap.size = g := ⟨_, rfl⟩
  have hgA2 : gA = w.heap.size + 1 + 1 := by rw [← hgA]; exact hZ.out
  have hz1 : (W.alloc (.cells #[.slice none 0 0] 99)).heap.size = gA + 1 := by rw [World.size_alloc, hgA]
  rw [hgA] at iA
  rw [hgA]
  generalize W.alloc (.cells #[.slice none 0 0] 99) = x1 at *
  have HGA := Lib.hid hgA2
  have HZ1 := Lib.hid hz1
  clear hgA hgA2 hz1 hB hZ
  go_wp2_with fail
  refine (new_writer x1).mono ?_
  rintro e w1 ⟨rfl, rfl⟩
  have iB := IsW.new x1
  have iA := iA.below (balloc1 x1 (.cells #[.slice none 0 0] 99))
  have b0 := b0.alloc (.cells #[.slice none 0 0] 99)
  have b1 := b1.alloc (.cells #[.slice none 0 0] 99)
  have hB2 := bthen hB1 (balloc1 x1 (.cells #[.slice none 0 0] 99))
  obtain ⟨gB, hgB⟩ : ∃ g, x1.heap.size = g := ⟨_, rfl⟩
  have hgB2 : gB = gA + 1 := by rw [← hgB]; exact HZ1.out
  rw [hgB] at iB
  rw [hgB]
  generalize x1.alloc (.cells #[.slice none 0 0] 99) = x2 at *
  have HGB := Lib.hid hgB2
  clear hgB hgB2 hB1 HZ1
  go_wp2_with fail
  refine (octet_known x2).mono ?_
  rintro e x3 ⟨rfl, hw3⟩
  have iA := iA.below hw3
  have iB := iB.below hw3
  have b0 := b0.below hw3 b0.lt
  have b1 := b1.below hw3 b1.lt
  have hB3 := bthen hB2 hw3
  clear hB2 hw3
  have hAB : gA ≠ gB := by have := HGB.out; omega
  have hA0 : w.heap.size ≠ gA ∧ w.heap.size + 1 ≠ gA := by have := HGA.out; omega
  have hB0 : w.heap.size ≠ gB ∧ w.heap.size + 1 ≠ gB := by have := HGA.out; have := HGB.out; omega
  have hlA : w.heap.size ≤ gA ∧ w.heap.size ≤ gB := by have := HGA.out; have := HGB.out; omega
  have q0 : x3.cell? ⟨w.heap.size, 0, none⟩ = some (.int .i64 aw) := b0.cell 0
  have q1 : x3.cell? ⟨w.heap.size + 1, 0, none⟩ = some (.int .i64 bw) := b1.cell 0
  have f1 := b1.frozen 0
  have b0 := b0.far (p := ⟨w.heap.size + 1, 0, none⟩) (by simp) (.int .i64 aw)
  have b1 := b1.set_ 0 (.int .i64 aw)
  have iA : IsW (x3.setCell ⟨w.heap.size + 1, 0, none⟩ (.int .i64 aw)) gA (.slice none 0 0) [] := ⟨iA.1.far (fun e => hA0.2 e.symm) _, Own.nil_ _ _ _⟩
  have iB : IsW (x3.setCell ⟨w.heap.size + 1, 0, none⟩ (.int .i64 aw)) gB (.slice none 0 0) [] := ⟨iB.1.far (fun e => hB0.2 e.symm) _, Own.nil_ _ _ _⟩
  have hB4 := hB3.setCell (p := ⟨w.heap.size + 1, 0, none⟩) (by simp) (.int .i64 aw)
  have HI := Lib.hid (And.intro iA (And.intro iB hB4))
  simp only [Array.set!_eq_setIfInBounds, List.setIfInBounds_toArray, List.set_cons_zero] at b1
  have HBX := Lib.hid (And.intro b0 b1)
  clear iA iB hB4 b0 b1 hB3 hAB hA0 hB0 hlA
  go_upto_region 6 with fail
  obtain ⟨iA, iB, hB4⟩ := HI.out
  obtain ⟨b0, b1⟩ := HBX.out
  clear HI HBX q0 q1 f1
  generalize x3.setCell ⟨w.heap.size + 1, 0, none⟩ (.int .i64 aw) = x4 at *
  have hAB : gA ≠ gB := by have := HGB.out; omega
  have hA0 : w.heap.size ≠ gA ∧ w.heap.size + 1 ≠ gA := by have := HGA.out; omega
  have hB0 : w.heap.size ≠ gB ∧ w.heap.size + 1 ≠ gB := by have := HGA.out; have := HGB.out; omega
  have hlA : w.heap.size ≤ gA ∧ w.heap.size ≤ gB := by have := HGA.out; have := HGB.out; omega
  have HNE := Lib.hid (And.intro hAB (And.intro hA0 (And.intro hB0 hlA)))
  have oa := OA.out.below hB4
  have hl1 := law_lay aw an aA aA2 ana aca anb acb w.heap.size gA ang sa (.slice none 0 0) (.slice none 0 0) [] [] x4 (Pair.start (w' := w) iA hB4.size hlA.1) aal abl oa.ha oa.hb (Nat.le_trans oa.ca oa.ca2) (Nat.le_trans oa.cb oa.cb2) oa.ca oa.cb oa.hs (HT.out.next hB4) oa.w0 oa.w1 oa.n1 (by simp) (by simp)
  have HL1 := Lib.hid hl1
  clear hl1 oa hAB hA0 hB0 hlA
  obtain ⟨q0, q1, q2, q3, q4, q5⟩ := b0.c6
  go_wp2_with fail
  refine HL1.out.mono ?_
  rintro e x5 ⟨vA, uA, rfl, hpA, hb5, hf5⟩
  have iA := hpA.isw
  have iB : IsW x5 gB (.slice none 0 0) [] := ⟨iB.1.lframe hf5 (fun e => HNE.out.1 e.symm), Own.nil_ _ _ _⟩
  have b0 := b0.lframe hf5 HNE.out.2.1.1
  have b1 := b1.lframe hf5 HNE.out.2.1.2
  have hB5 := hB4.trans hb5
  rw [List.nil_append] at iA
  have ob := OB.out.below hB5
  have hl2 := law_lay aw bn bA bA2 bna bca bnb bcb w.heap.size gB bng sb (.slice none 0 0) (.slice none 0 0) [] [] x5 (Pair.start (w' := w) iB hB5.size HNE.out.2.2.2.2) bal bbl ob.ha ob.hb (Nat.le_trans ob.ca ob.ca2) (Nat.le_trans ob.cb ob.cb2) ob.ca ob.cb ob.hs (HT.out.next hB5) (OA.out.w0) (OA.out.w1) ob.n1 (by simp) (by simp)
  have HL2 := Lib.hid hl2
  clear hl2 ob HL1 hpA hb5 hf5 q0 q1 q2 q3 q4 q5 hB4
  obtain ⟨q0, q1, q2, q3, q4, q5⟩ := b1.c6
  go_wp2_with fail
  refine HL2.out.mono ?_
  rintro e x6 ⟨vB, uB, rfl, hpB, hb6, hf6⟩
  have iA := iA.lframe hf6 HNE.out.1 iB.1
  have iB := hpB.isw
  have b0 := b0.lframe hf6 HNE.out.2.2.1.1
  have b1 := b1.lframe hf6 HNE.out.2.2.1.2
  have hB6 := hB5.trans hb6
  rw [List.nil_append] at iB
  have HIA := Lib.hid (And.intro iA iB)
  clear HL2 hpB hb6 hf6 q0 q1 q2 q3 q4 q5 hB5 iA iB
  have hpk := hand_pick aw 5 x6 OA.out.w0 OA.out.w1 (by omega) (by omega)
  obtain ⟨r, hr⟩ : ∃ r, aw % ((5 : Nat) : Int) = r := ⟨_, rfl⟩
  have hr2 : aw % 5 = r := hr
  have hr5 : r = 0 ∨ r = 1 ∨ r = 2 ∨ r = 3 ∨ r = 4 := by omega
  rw [hr] at hpk
  rw [hr2] at HIA
  have HPK := Lib.hid hpk
  clear hpk hr hr2
  obtain ⟨q0, q1, q2, q3, q4, q5⟩ := b0.c6
  go_wp2_with fail
  refine HPK.out.mono ?_
  rintro e w7 ⟨rfl, rfl⟩
  clear HPK
  go_upto_block 0 with fail
  clear q0 q1 q2 q3 q4 q5
  have HBXY := Lib.hid (And.intro b0 b1)
  go_cut [7] (fun v wc => SameX x6 (stepB r.toNat an aal abl ang sa = stepB r.toNat bn bal bbl bng sb) v wc)
  case first =>
    rcases hr5 with rfl | rfl | rfl | rfl | rfl
    · have hq := one_count (n := an) (m := bn) OA.out.n1 OB.out.n1
      have HQ : Hid (max 0 an = max 0 bn ↔ stepB (0 : Int).toNat an aal abl ang sa = stepB (0 : Int).toNat bn bal bbl bng sb) := hq
      clear hq
      have q1 : x6.cell? ⟨w.heap.size, 1, none⟩ = some (.int .i64 an) := b0.cell 1
      have p1 : x6.cell? ⟨w.heap.size + 1, 1, none⟩ = some (.int .i64 bn) := b1.cell 1
      go_wp2
      go_meet
      exact ⟨_, rfl, by rw [beq_iff_eq]; exact HQ.out, Below.refl _ _⟩
    · have HQ : Hid (((qOf ang aal abl).num - (qOf bng bal bbl).num).sign = 0 ↔ stepB (1 : Int).toNat an aal abl ang sa = stepB (1 : Int).toNat bn bal bbl bng sb) := one_whole ang bng aal abl bal bbl
      have hfl : ∀ (x y z : Value) w, (Instr.field 36 (.agg #[x, y, z]) 0).run Tryz.prog w = .ok (.agg #[x, y]) w := fun x y z w => by kernel_rfl
      have hqa : ∀ w', Below x6.heap.size x6 w' → Calls Tryz.prog 13 #[.agg #[.int .i64 aw, .int .i64 an, .slice aA ana aca, .slice aA2 anb acb, .bool ang, .string sa]] w' (RetQ (qOf ang aal abl) w') := fun w' hb => by
        have o := (OA.out.below hB6).below (hb.mono hB6.size)
        exact law_q aw an aA aA2 ana aca anb acb w.heap.size ang sa aal abl w' o.ha o.hb (Nat.le_trans hB6.size hb.size) (Nat.le_trans o.ca o.ca2) (Nat.le_trans o.cb o.cb2) o.ca o.cb
      have hqb : ∀ w', Below x6.heap.size x6 w' → Calls Tryz.prog 13 #[.agg #[.int .i64 aw, .int .i64 bn, .slice bA bna bca, .slice bA2 bnb bcb, .bool bng, .string sb]] w' (RetQ (qOf bng bal bbl) w') := fun w' hb => by
        have o := (OB.out.below hB6).below (hb.mono hB6.size)
        exact law_q aw bn bA bA2 bna bca bnb bcb w.heap.size bng sb bal bbl w' o.ha o.hb (Nat.le_trans hB6.size hb.size) (Nat.le_trans o.ca o.ca2) (Nat.le_trans o.cb o.cb2) o.ca o.cb
      have sA := qOf_size ang aal abl
      have sB := qOf_size bng bal bbl
      have HQA := Lib.hid hqa
      have HQB := Lib.hid hqb
      have SA := Lib.hid sA
      have SB := Lib.hid sB
      clear hqa hqb sA sB
      generalize qOf ang aal abl = qa at *
      generalize qOf bng bal bbl = qb at *
      have t1 : blen qa.num.natAbs ≤ 274877906944 := Nat.le_trans SA.out.1 (by omega)
      have t2 : blen qb.num.natAbs ≤ 274877906944 := Nat.le_trans SB.out.1 (by omega)
      obtain ⟨d, hd⟩ : ∃ d, (qa.num - qb.num).sign = d := ⟨_, rfl⟩
      have hcm : ∀ w' V V', IsI w' w'.heap.size V qa.num → IsI w' w'.heap.size V' qb.num → Calls Tryz.prog 12 #[V, V'] w' (Ret (.int .i64 d) w') := fun w' V V' g1 g2 => by
        have := ref_intCmp _ _ _ V V' w' g1 g2 (Nat.le_refl _) t1 t2
        rw [hd] at this
        exact this
      rw [hd] at HQ
      have HCM := Lib.hid hcm
      clear hcm hd t1 t2
      go_wp2_with fail
      obtain ⟨b0q0, b0q1, b0q2, b0q3, b0q4, b0q5⟩ := b0.c6; have c0 := b0.drew; have c0l := c0.lt; obtain ⟨b1q0, b1q1, b1q2, b1q3, b1q4, b1q5⟩ := b1.c6; have c1 := b1.drew; have c1l := c1.lt; have hc := bdrew0 x6; go_region_held3 (fun w' => w'.cell? ⟨w.heap.size, 0, none⟩ = some (.int .i64 aw) ∧ w'.cell? ⟨w.heap.size, 1, none⟩ = some (.int .i64 an) ∧ w'.cell? ⟨w.heap.size, 2, none⟩ = some (.slice aA ana aca) ∧ w'.cell? ⟨w.heap.size, 3, none⟩ = some (.slice aA2 anb acb) ∧ w'.cell? ⟨w.heap.size, 4, none⟩ = some (.bool ang) ∧ w'.cell? ⟨w.heap.size, 5, none⟩ = some (.string sa) ∧ w'.cell? ⟨w.heap.size + 1, 0, none⟩ = some (.int .i64 aw) ∧ w'.cell? ⟨w.heap.size + 1, 1, none⟩ = some (.int .i64 bn) ∧ w'.cell? ⟨w.heap.size + 1, 2, none⟩ = some (.slice bA bna bca) ∧ w'.cell? ⟨w.heap.size + 1, 3, none⟩ = some (.slice bA2 bnb bcb) ∧ w'.cell? ⟨w.heap.size + 1, 4, none⟩ = some (.bool bng) ∧ w'.cell? ⟨w.heap.size + 1, 5, none⟩ = some (.string sb)) (go_keep) (first | (go_at_call 13; (with_reducible refine (HQA.out _ hc).mono ?_); rintro e w1 ⟨v1, rfl, hR1, hw1⟩; obtain ⟨g1, A1, l1, c1c, A1', l1', c1c', hv1⟩ := hR1.shape; subst hv1; have c0 := c0.below hw1 c0.lt; (try clear c0q0 c0q1 c0q2 c0q3 c0q4 c0q5); obtain ⟨c0q0, c0q1, c0q2, c0q3, c0q4, c0q5⟩ := c0.c6; (try clear c0l); have c0l := c0.lt; have c1 := c1.below hw1 c1.lt; (try clear c1q0 c1q1 c1q2 c1q3 c1q4 c1q5); obtain ⟨c1q0, c1q1, c1q2, c1q3, c1q4, c1q5⟩ := c1.c6; (try clear c1l); have c1l := c1.lt; have hc := bthen hc hw1) | (go_at_call 13; (with_reducible refine (HQB.out _ hc).mono ?_); rintro e w2 ⟨v2, rfl, hR2, hw2⟩; obtain ⟨g2, A2, l2, c2c, A2', l2', c2c', hv2⟩ := hR2.shape; subst hv2; have c0 := c0.below hw2 c0.lt; (try clear c0q0 c0q1 c0q2 c0q3 c0q4 c0q5); obtain ⟨c0q0, c0q1, c0q2, c0q3, c0q4, c0q5⟩ := c0.c6; (try clear c0l); have c0l := c0.lt; have c1 := c1.below hw2 c1.lt; (try clear c1q0 c1q1 c1q2 c1q3 c1q4 c1q5); obtain ⟨c1q0, c1q1, c1q2, c1q3, c1q4, c1q5⟩ := c1.c6; (try clear c1l); have c1l := c1.lt; have hR1 := (hR1.next (Nat.le_refl _) hw2).more hw2.size; have hc := bthen hc hw2) | (go_at_call 12; (with_reducible refine (HCM.out _ _ _ hR1.num hR2.num).mono ?_); rintro e w3 ⟨rfl, hw3⟩; have c0 := c0.below hw3 c0.lt; (try clear c0q0 c0q1 c0q2 c0q3 c0q4 c0q5); obtain ⟨c0q0, c0q1, c0q2, c0q3, c0q4, c0q5⟩ := c0.c6; (try clear c0l); have c0l := c0.lt; have c1 := c1.below hw3 c1.lt; (try clear c1q0 c1q1 c1q2 c1q3 c1q4 c1q5); obtain ⟨c1q0, c1q1, c1q2, c1q3, c1q4, c1q5⟩ := c1.c6; (try clear c1l); have c1l := c1.lt; have hR1 := (hR1.next (Nat.le_refl _) hw3).more hw3.size; have hR2 := (hR2.next (Nat.le_refl _) hw3).more hw3.size; have hc := bthen hc hw3))
      all_goals
        go_wp2
        go_meet
        exact ⟨_, rfl, by rw [beq_iff_eq]; exact HQ.out, hc⟩
    · have HQ : Hid (cmpQ (qOf ang aal abl) (qOf bng bal bbl) = 0 ↔ stepB (2 : Int).toNat an aal abl ang sa = stepB (2 : Int).toNat bn bal bbl bng sb) := one_frac ang bng aal abl bal bbl
      have hfl : ∀ (x y z : Value) w, (Instr.field 36 (.agg #[x, y, z]) 0).run Tryz.prog w = .ok (.agg #[x, y]) w := fun x y z w => by kernel_rfl
      have hqa : ∀ w', Below x6.heap.size x6 w' → Calls Tryz.prog 13 #[.agg #[.int .i64 aw, .int .i64 an, .slice aA ana aca, .slice aA2 anb acb, .bool ang, .string sa]] w' (RetQ (qOf ang aal abl) w') := fun w' hb => by
        have o := (OA.out.below hB6).below (hb.mono hB6.size)
        exact law_q aw an aA aA2 ana aca anb acb w.heap.size ang sa aal abl w' o.ha o.hb (Nat.le_trans hB6.size hb.size) (Nat.le_trans o.ca o.ca2) (Nat.le_trans o.cb o.cb2) o.ca o.cb
      have hqb : ∀ w', Below x6.heap.size x6 w' → Calls Tryz.prog 13 #[.agg #[.int .i64 aw, .int .i64 bn, .slice bA bna bca, .slice bA2 bnb bcb, .bool bng, .string sb]] w' (RetQ (qOf bng bal bbl) w') := fun w' hb => by
        have o := (OB.out.below hB6).below (hb.mono hB6.size)
        exact law_q aw bn bA bA2 bna bca bnb bcb w.heap.size bng sb bal bbl w' o.ha o.hb (Nat.le_trans hB6.size hb.size) (Nat.le_trans o.ca o.ca2) (Nat.le_trans o.cb o.cb2) o.ca o.cb
      have sA := qOf_size ang aal abl
      have sB := qOf_size bng bal bbl
      have HQA := Lib.hid hqa
      have HQB := Lib.hid hqb
      have SA := Lib.hid sA
      have SB := Lib.hid sB
      clear hqa hqb sA sB
      generalize qOf ang aal abl = qa at *
      generalize qOf bng bal bbl = qb at *
      have t1 : QS 68719476736 qa := SA.out.mono (by omega)
      have t2 : QS 68719476736 qb := SB.out.mono (by omega)
      obtain ⟨d, hd⟩ : ∃ d, cmpQ qa qb = d := ⟨_, rfl⟩
      have hcm : ∀ w' V V', IsQ w' w'.heap.size V qa → IsQ w' w'.heap.size V' qb → Calls Tryz.prog 14 #[V, V'] w' (Ret (.int .i64 d) w') := fun w' V V' g1 g2 => by
        have := ref_cmpQ _ _ _ V V' w' g1 g2 (Nat.le_refl _) t1 t2
        rw [hd] at this
        exact this
      rw [hd] at HQ
      have HCM := Lib.hid hcm
      clear hcm hd t1 t2
      go_wp2_with fail
      obtain ⟨b0q0, b0q1, b0q2, b0q3, b0q4, b0q5⟩ := b0.c6; have c0 := b0.drew; have c0l := c0.lt; obtain ⟨b1q0, b1q1, b1q2, b1q3, b1q4, b1q5⟩ := b1.c6; have c1 := b1.drew; have c1l := c1.lt; have hc := bdrew0 x6; go_region_held3 (fun w' => w'.cell? ⟨w.heap.size, 0, none⟩ = some (.int .i64 aw) ∧ w'.cell? ⟨w.heap.size, 1, none⟩ = some (.int .i64 an) ∧ w'.cell? ⟨w.heap.size, 2, none⟩ = some (.slice aA ana aca) ∧ w'.cell? ⟨w.heap.size, 3, none⟩ = some (.slice aA2 anb acb) ∧ w'.cell? ⟨w.heap.size, 4, none⟩ = some (.bool ang) ∧ w'.cell? ⟨w.heap.size, 5, none⟩ = some (.string sa) ∧ w'.cell? ⟨w.heap.size + 1, 0, none⟩ = some (.int .i64 aw) ∧ w'.cell? ⟨w.heap.size + 1, 1, none⟩ = some (.int .i64 bn) ∧ w'.cell? ⟨w.heap.size + 1, 2, none⟩ = some (.slice bA bna bca) ∧ w'.cell? ⟨w.heap.size + 1, 3, none⟩ = some (.slice bA2 bnb bcb) ∧ w'.cell? ⟨w.heap.size + 1, 4, none⟩ = some (.bool bng) ∧ w'.cell? ⟨w.heap.size + 1, 5, none⟩ = some (.string sb)) (go_keep) (first | (go_at_call 13; (with_reducible refine (HQA.out _ hc).mono ?_); rintro e w1 ⟨v1, rfl, hR1, hw1⟩; obtain ⟨g1, A1, l1, c1c, A1', l1', c1c', hv1⟩ := hR1.shape; subst hv1; have c0 := c0.below hw1 c0.lt; (try clear c0q0 c0q1 c0q2 c0q3 c0q4 c0q5); obtain ⟨c0q0, c0q1, c0q2, c0q3, c0q4, c0q5⟩ := c0.c6; (try clear c0l); have c0l := c0.lt; have c1 := c1.below hw1 c1.lt; (try clear c1q0 c1q1 c1q2 c1q3 c1q4 c1q5); obtain ⟨c1q0, c1q1, c1q2, c1q3, c1q4, c1q5⟩ := c1.c6; (try clear c1l); have c1l := c1.lt; have hc := bthen hc hw1) | (go_at_call 13; (with_reducible refine (HQB.out _ hc).mono ?_); rintro e w2 ⟨v2, rfl, hR2, hw2⟩; obtain ⟨g2, A2, l2, c2c, A2', l2', c2c', hv2⟩ := hR2.shape; subst hv2; have c0 := c0.below hw2 c0.lt; (try clear c0q0 c0q1 c0q2 c0q3 c0q4 c0q5); obtain ⟨c0q0, c0q1, c0q2, c0q3, c0q4, c0q5⟩ := c0.c6; (try clear c0l); have c0l := c0.lt; have c1 := c1.below hw2 c1.lt; (try clear c1q0 c1q1 c1q2 c1q3 c1q4 c1q5); obtain ⟨c1q0, c1q1, c1q2, c1q3, c1q4, c1q5⟩ := c1.c6; (try clear c1l); have c1l := c1.lt; have hR1 := (hR1.next (Nat.le_refl _) hw2).more hw2.size; have hc := bthen hc hw2) | (go_at_call 14; (with_reducible refine (HCM.out _ _ _ hR1 hR2).mono ?_); rintro e w3 ⟨rfl, hw3⟩; have c0 := c0.below hw3 c0.lt; (try clear c0q0 c0q1 c0q2 c0q3 c0q4 c0q5); obtain ⟨c0q0, c0q1, c0q2, c0q3, c0q4, c0q5⟩ := c0.c6; (try clear c0l); have c0l := c0.lt; have c1 := c1.below hw3 c1.lt; (try clear c1q0 c1q1 c1q2 c1q3 c1q4 c1q5); obtain ⟨c1q0, c1q1, c1q2, c1q3, c1q4, c1q5⟩ := c1.c6; (try clear c1l); have c1l := c1.lt; have hR1 := (hR1.next (Nat.le_refl _) hw3).more hw3.size; have hR2 := (hR2.next (Nat.le_refl _) hw3).more hw3.size; have hc := bthen hc hw3))
      all_goals
        go_wp2
        go_meet
        exact ⟨_, rfl, by rw [beq_iff_eq]; exact HQ.out, hc⟩
    · have HQ : Hid (sa.data.toList.take 200 = sb.data.toList.take 200 ↔ stepB (3 : Int).toNat an aal abl ang sa = stepB (3 : Int).toNat bn bal bbl bng sb) := Lib.hid (text_one sa sb)
      have q1 : x6.cell? ⟨w.heap.size, 5, none⟩ = some (.string sa) := b0.cell 5
      have p1 : x6.cell? ⟨w.heap.size + 1, 5, none⟩ = some (.string sb) := b1.cell 5
      have kc1 := fun W => Lib.run_convert_string_bytes (P := Tryz.prog) W 9 22 5 sa Tryz.underlying9 Tryz.underlying22 Tryz.underlying5
      have kc2 := fun W => Lib.run_convert_string_bytes (P := Tryz.prog) W 9 22 5 sb Tryz.underlying9 Tryz.underlying22 Tryz.underlying5
      have hsa := OA.out.hs
      have hsb := OB.out.hs
      obtain ⟨X, hX⟩ : ∃ X, x6.drew = X := ⟨_, rfl⟩
      have c0 := b0.drew
      have c1 := b1.drew
      rw [hX] at c0 c1
      have hXs : X.heap.size = x6.heap.size := by rw [← hX]; rfl
      have hXB : Below x6.heap.size x6 X := by rw [← hX]; exact bdrew0 x6
      have HY1 : Hid (∀ c, sa.size ≤ c → Calls Tryz.prog 15 #[.slice (some ⟨x6.heap.size, 0, none⟩) sa.size c, .int .i64 200] (Lib.bytesWorld X 5 sa) (FewP (sa.data.toList.take 200) (Lib.bytesWorld X 5 sa))) := Lib.hid fun c hc => by rw [← hXs]; exact few_now sa X c hsa hc
      have HY2 : Hid (∀ c, sa.size ≤ c → Calls Tryz.prog 15 #[.slice (some ⟨x6.heap.size, 0, none⟩) sa.size c, .int .i64 200] (Lib.bytesWorld (Lib.bytesWorld X 5 sa) 5 sb) (FewP (sa.data.toList.take 200) (Lib.bytesWorld (Lib.bytesWorld X 5 sa) 5 sb))) := Lib.hid fun c hc => by rw [← hXs]; exact few_then sa sb X c hsa hc _ (below_bytesWorld _ _ _)
      have HY3 : Hid (∀ c, sa.size ≤ c → Calls Tryz.prog 15 #[.slice (some ⟨(Lib.bytesWorld X 5 sb).heap.size, 0, none⟩) sa.size c, .int .i64 200] (Lib.bytesWorld (Lib.bytesWorld X 5 sb) 5 sa) (FewP (sa.data.toList.take 200) (Lib.bytesWorld (Lib.bytesWorld X 5 sb) 5 sa))) := Lib.hid fun c hc => by
        have := few_now sa (Lib.bytesWorld X 5 sb) c hsa hc
        exact this
      have HZ2 : Hid (∀ c, sb.size ≤ c → ∀ w', Below (Lib.bytesWorld (Lib.bytesWorld X 5 sa) 5 sb).heap.size (Lib.bytesWorld (Lib.bytesWorld X 5 sa) 5 sb) w' → Calls Tryz.prog 15 #[.slice (some ⟨(Lib.bytesWorld X 5 sa).heap.size, 0, none⟩) sb.size c, .int .i64 200] w' (FewP (sb.data.toList.take 200) w')) := Lib.hid fun c hc w' hb => by
        have := few_then sb sb (Lib.bytesWorld X 5 sa) c hsb hc w' hb
        exact this
      have HZ3 : Hid (∀ c, sb.size ≤ c → ∀ w', Below (Lib.bytesWorld (Lib.bytesWorld X 5 sb) 5 sa).heap.size (Lib.bytesWorld (Lib.bytesWorld X 5 sb) 5 sa) w' → Calls Tryz.prog 15 #[.slice (some ⟨x6.heap.size, 0, none⟩) sb.size c, .int .i64 200] w' (FewP (sb.data.toList.take 200) w')) := Lib.hid fun c hc w' hb => by
        have := few_then sb sa X c hsb hc w' (bthen (below_bytesWorld _ _ _) hb)
        rw [hXs] at this
        exact this
      have HG2 : Hid (∀ V c, sb.size ≤ c → Calls Tryz.prog 15 #[.slice (some ⟨V.heap.size, 0, none⟩) sb.size c, .int .i64 200] (Lib.bytesWorld V 5 sb) (FewP (sb.data.toList.take 200) (Lib.bytesWorld V 5 sb))) := Lib.hid fun V c hc => few_now sb V c hsb hc
      have r1 := (c1.below (below_bytesWorld X 5 sa) c1.lt).cell 5
      have r0 := (c0.below (below_bytesWorld X 5 sb) c0.lt).cell 5
      have cY1 := c1.below (below_bytesWorld X 5 sa) c1.lt
      rw [← hX] at r0 r1 HY1 HY2 HY3 HZ2 HZ3 hXB cY1
      simp only [List.getElem?_toArray, List.getElem?_cons_succ, List.getElem?_cons_zero] at r0 r1
      have HXB := Lib.hid hXB
      clear hX c0 c1 hXs hsa hsb hXB
      go_wp2_with fail
      go_region_with (first | (go_at_call 15; (with_reducible refine (HY1.out _ (grownCap_ge _ _ _ _)).mono ?_); rintro e w1 ⟨A1, K1, d1, rfl, hr1, hw1⟩; have hs1 := run_string (P := Tryz.prog) w1 22 9 5 A1 K1 d1 _ _ Tryz.underlying22 Tryz.underlying5 Tryz.underlying9 hr1; have r1' := (cY1.below hw1 cY1.lt).cell 5; simp only [List.getElem?_toArray, List.getElem?_cons_succ, List.getElem?_cons_zero] at r1'; have hs1' := run_string (P := Tryz.prog) (Lib.bytesWorld w1 5 sb) 22 9 5 A1 K1 d1 _ _ Tryz.underlying22 Tryz.underlying5 Tryz.underlying9 (Reads.below hr1 (below_bytesWorld w1 5 sb)); have hc := bthen (below_bytesWorld x6.drew 5 sa) hw1) | (go_at_call 15; (with_reducible refine (HY2.out _ (grownCap_ge _ _ _ _)).mono ?_); rintro e w1 ⟨A1, K1, d1, rfl, hr1, hw1⟩; have hs1 := run_string (P := Tryz.prog) w1 22 9 5 A1 K1 d1 _ _ Tryz.underlying22 Tryz.underlying5 Tryz.underlying9 hr1; have HZ := Lib.hid (fun c hc => HZ2.out c hc w1 hw1); have hc := bthen (bthen (below_bytesWorld x6.drew 5 sa) (below_bytesWorld _ 5 sb)) hw1) | (go_at_call 15; (with_reducible refine (HY3.out _ (grownCap_ge _ _ _ _)).mono ?_); rintro e w1 ⟨A1, K1, d1, rfl, hr1, hw1⟩; have hs1 := run_string (P := Tryz.prog) w1 22 9 5 A1 K1 d1 _ _ Tryz.underlying22 Tryz.underlying5 Tryz.underlying9 hr1; have HZ := Lib.hid (fun c hc => HZ3.out c hc w1 hw1); have hc := bthen (bthen (below_bytesWorld x6.drew 5 sb) (below_bytesWorld _ 5 sa)) hw1) | (go_at_call 15; (with_reducible refine (HG2.out w1 _ (grownCap_ge _ _ _ _)).mono ?_); rintro e w2 ⟨A2, K2, d2, rfl, hr2, hw2⟩; have hs2 := run_string (P := Tryz.prog) w2 22 9 5 A2 K2 d2 _ _ Tryz.underlying22 Tryz.underlying5 Tryz.underlying9 hr2; have hs1'' := run_string (P := Tryz.prog) w2 22 9 5 A1 K1 d1 _ _ Tryz.underlying22 Tryz.underlying5 Tryz.underlying9 (Reads.below (Reads.below hr1 (below_bytesWorld w1 5 sb)) (hw2.mono (below_bytesWorld w1 5 sb).size)); have hc := bthen hc (bthen (below_bytesWorld w1 5 sb) hw2)) | (go_at_call 15; (with_reducible refine (HZ.out _ (grownCap_ge _ _ _ _)).mono ?_); rintro e w2 ⟨A2, K2, d2, rfl, hr2, hw2⟩; have hs2 := run_string (P := Tryz.prog) w2 22 9 5 A2 K2 d2 _ _ Tryz.underlying22 Tryz.underlying5 Tryz.underlying9 hr2; have hs1'' := run_string (P := Tryz.prog) w2 22 9 5 A1 K1 d1 _ _ Tryz.underlying22 Tryz.underlying5 Tryz.underlying9 (Reads.below hr1 hw2); have hc := bthen hc hw2))
      all_goals
        go_wp2
        go_meet
        exact ⟨_, rfl, by rw [beq_iff_eq]; exact HQ.out, bthen HXB.out hc⟩
    · have q1 : x6.cell? ⟨w.heap.size, 4, none⟩ = some (.bool ang) := b0.cell 4
      have p1 : x6.cell? ⟨w.heap.size + 1, 4, none⟩ = some (.bool bng) := b1.cell 4
      have HQ : Hid (ang = bng ↔ stepB (4 : Int).toNat an aal abl ang sa = stepB (4 : Int).toNat bn bal bbl bng sb) := Lib.hid ⟨(fun h => by show boolB ang = boolB bng; rw [h]), fun h => boolB_inj h⟩
      go_wp2
      go_meet
      exact ⟨_, rfl, by rw [beq_iff_eq]; exact HQ.out, Below.refl _ _⟩
  case rest =>
    obtain ⟨sm, rfl, hsm, hbx⟩ := hcut
    have hjA := HIA.out.1.below hbx
    have hjB := HIA.out.2.below hbx
    have hB7 := bthen hB6 hbx
    have lA := stepB_len r.toNat an aal abl ang sa
    have lB := stepB_len r.toNat bn bal bbl bng sb
    generalize stepB r.toNat an aal abl ang sa = LA at *
    generalize stepB r.toNat bn bal bbl bng sb = LB at *
    have HA : Hid (∀ w', Below wc.heap.size wc w' → Calls Tryz.prog 16 #[.pointer (some ⟨gA, 0, none⟩)] w' fun e w'' => ∃ v', e = .returned v' ∧ NewB w' w'' v' LA) := Lib.hid fun w' hb => writer_bytes gA vA LA w' (hjA.below hb) (by omega)
    have HB : Hid (∀ w', Below wc.heap.size wc w' → Calls Tryz.prog 16 #[.pointer (some ⟨gB, 0, none⟩)] w' fun e w'' => ∃ v', e = .returned v' ∧ NewB w' w'' v' LB) := Lib.hid fun w' hb => writer_bytes gB vB LB w' (hjB.below hb) (by omega)
    clear hjA hjB HIA HBXY b0 b1 hB6 hbx
    have hcase : (LA = LB ∧ sm = true) ∨ (¬ LA = LB ∧ sm = false) := by
      by_cases h : LA = LB
      · exact .inl ⟨h, hsm.2 h⟩
      · exact .inr ⟨h, by cases sm with | true => exact absurd (hsm.1 rfl) h | false => rfl⟩
    clear hsm
    rcases hcase with ⟨h, rfl⟩ | ⟨h, rfl⟩
    · subst h
      go_wp2_with fail
      go_region_with (first | (go_at_call 16; (with_reducible refine (HA.out _ (bdrew0 wc)).mono ?_); rintro e w1 ⟨v1, rfl, ho1, hw1, _⟩; obtain ⟨A1, d1, hv1, _, _⟩ := ho1.form; rw [hv1] at ho1 ⊢; have hs1 := run_string (P := Tryz.prog) w1 22 9 5 A1 LA.length d1 _ _ Tryz.underlying22 Tryz.underlying5 Tryz.underlying9 (Own.reads ho1); have hc := bthen (bdrew0 wc) hw1; clear hv1) | (go_at_call 16; (with_reducible refine (HB.out _ hc).mono ?_); rintro e w2 ⟨v2, rfl, ho2, hw2, _⟩; obtain ⟨A2, d2, hv2, _, _⟩ := ho2.form; rw [hv2] at ho2 ⊢; have hs2 := run_string (P := Tryz.prog) w2 22 9 5 A2 LA.length d2 _ _ Tryz.underlying22 Tryz.underlying5 Tryz.underlying9 (Own.reads ho2); have hs1' := run_string (P := Tryz.prog) w2 22 9 5 A1 LA.length d1 _ _ Tryz.underlying22 Tryz.underlying5 Tryz.underlying9 (Own.reads (ho1.below hw2 ho1.lt)); have hc := bthen hc hw2; clear hv2))
      all_goals
        go_wp2
        go_ret
        exact ⟨rfl, bthen hB7 hc⟩
    · go_wp2_with fail
      go_region_with (first | (go_at_call 16; (with_reducible refine (HA.out _ (bdrew0 wc)).mono ?_); rintro e w1 ⟨v1, rfl, ho1, hw1, _⟩; obtain ⟨A1, d1, hv1, _, _⟩ := ho1.form; rw [hv1] at ho1 ⊢; have hs1 := run_string (P := Tryz.prog) w1 22 9 5 A1 LA.length d1 _ _ Tryz.underlying22 Tryz.underlying5 Tryz.underlying9 (Own.reads ho1); have hc := bthen (bdrew0 wc) hw1; clear hv1) | (go_at_call 16; (with_reducible refine (HB.out _ hc).mono ?_); rintro e w2 ⟨v2, rfl, ho2, hw2, _⟩; obtain ⟨A2, d2, hv2, _, _⟩ := ho2.form; rw [hv2] at ho2 ⊢; have hs2 := run_string (P := Tryz.prog) w2 22 9 5 A2 LB.length d2 _ _ Tryz.underlying22 Tryz.underlying5 Tryz.underlying9 (Own.reads ho2); have hs1' := run_string (P := Tryz.prog) w2 22 9 5 A1 LA.length d1 _ _ Tryz.underlying22 Tryz.underlying5 Tryz.underlying9 (Own.reads (ho1.below hw2 ho1.lt)); have hc := bthen hc hw2; clear hv2))
      all_goals
        go_wp2
        go_ret
        refine ⟨ret_bool ?_, bthen hB7 hc⟩
        simp [h]

end Go.Proofs.YtjmbpnogicdkgaaGreatDoor
