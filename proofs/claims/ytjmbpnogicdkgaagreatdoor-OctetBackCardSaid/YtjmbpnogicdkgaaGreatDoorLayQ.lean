/-
  abaculuslaw4.q: a fraction of raw bytes.
-/
import Derived.Test.YtjmbpnogicdkgaaGreatDoorHand
import Derived.Test.YtjmbpnogicdkgaaGreatDoorRefA
namespace Go.Proofs.YtjmbpnogicdkgaaGreatDoor
open Go.RowKit
set_option linter.unusedSimpArgs false
set_option linter.unusedVariables false

def qDen (bs : List UInt8) : Nat := if beVal (bs.take 9) = 0 then 1 else beVal (bs.take 9)
/-- the fraction of raw bytes -/
def qOf (neg : Bool) (al bl : List UInt8) : Rat := Rat.divInt (signed neg (beVal (al.take 9))) (qDen bl)
theorem beVal9 (bs : List UInt8) : beVal (bs.take 9) < 4722366482869645213696 := by
  have h := beVal_lt (bs.take 9)
  refine Nat.lt_of_lt_of_le h ?_
  have e : (4722366482869645213696 : Nat) = 256 ^ 9 := by decide
  rw [e]
  exact Nat.pow_le_pow_right (by omega) (by rw [List.length_take]; omega)
theorem qDen_lt (bs : List UInt8) : qDen bs < 4722366482869645213696 := by
  have := beVal9 bs
  unfold qDen
  split <;> omega
theorem qDen_ne (bs : List UInt8) : qDen bs ≠ 0 := by
  unfold qDen
  split <;> omega
theorem limbs9 (n : Nat) (h : n < 4722366482869645213696) : (limbs n).length ≤ 3 := by
  apply limbs_le
  have e : (4294967296 : Nat) ^ 3 = 79228162514264337593543950336 := by decide
  rw [e]
  omega
theorem few_reads (A : Option Addr) (n c B : Nat) (bs : List UInt8) (m : Nat) (w : World) (h : Bytes w B A n bs) (hB : B ≤ w.heap.size) (hn : n ≤ 9223372036854775807) (hc : n ≤ c) (hm : m ≤ 140737488355328) :
    Calls Tryz.prog 15 #[.slice A n c, .int .i64 (m : Int)] w fun e w' => ∃ A' K c', e = .returned (.slice A' K c') ∧ K ≤ m ∧ K ≤ c' ∧ c' ≤ 9223372036854775807 ∧ Bytes w' w'.heap.size A' K (bs.take m) ∧ Below w.heap.size w w' := by
  refine (hand_few A n c B bs m w h hB hn hc hm).mono ?_
  rintro e w1 ⟨v1, rfl, ho1, hw1, _⟩
  obtain ⟨A3, c3, hv1, h1, h2⟩ := ho1.form
  rw [hv1] at ho1
  rw [hv1]
  unfold maxLen at h2
  exact ⟨A3, _, c3, rfl, by rw [List.length_take]; omega, h1, h2, ho1.reads, hw1⟩
theorem Blk.step {w : World} {g : Nat} {t : TypeId} {a b c d e f : Value} (h : Blk w g t #[a, b, c, d, e, f]) : w.cell? ⟨g, 2, none⟩ = some c ∧ w.cell? ⟨g, 4, none⟩ = some e := ⟨h.cell 2, h.cell 4⟩
set_option maxRecDepth 100000 in
set_option maxHeartbeats 1000000 in
theorem law_q (what n : Int) (A1 A2 : Option Addr) (na ca nb cb B : Nat) (neg : Bool) (s : ByteArray) (al bl : List UInt8) (w : World) (ha : Bytes w B A1 na al) (hb : Bytes w B A2 nb bl) (hBB : B ≤ w.heap.size) (hna : na ≤ 9223372036854775807) (hnb : nb ≤ 9223372036854775807) (hca : na ≤ ca) (hcb : nb ≤ cb) :
    Calls Tryz.prog 13 #[.agg #[.int .i64 what, .int .i64 n, .slice A1 na ca, .slice A2 nb cb, .bool neg, .string s]] w (RetQ (qOf neg al bl) w) := by
  have HA := Lib.hid ha
  have HB := Lib.hid hb
  clear ha hb
  obtain ⟨N, hN⟩ : ∃ N, beVal (al.take 9) = N := ⟨_, rfl⟩
  obtain ⟨D0, hD0⟩ : ∃ D0, beVal (bl.take 9) = D0 := ⟨_, rfl⟩
  obtain ⟨D, hD⟩ : ∃ D, qDen bl = D := ⟨_, rfl⟩
  have hNl : N < 4722366482869645213696 := by rw [← hN]; exact beVal9 al
  have hD0l : D0 < 4722366482869645213696 := by rw [← hD0]; exact beVal9 bl
  have hDl : D < 4722366482869645213696 := by rw [← hD]; exact qDen_lt bl
  have hDne : D ≠ 0 := by rw [← hD]; exact qDen_ne bl
  have hDD : D = if D0 = 0 then 1 else D0 := by rw [← hD, ← hD0]; rfl
  have HQ : Hid (qOf neg al bl = Rat.divInt (signed neg N) D) := Lib.hid (by unfold qOf; rw [hN, hD])
  have HN := Lib.hid hN
  have HD0 := Lib.hid hD0
  have HDD := Lib.hid hDD
  clear hN hD0 hD hDD
  have b0 := (Blk.new w 24 #[.int .i64 what, .int .i64 n, .slice A1 na ca, .slice A2 nb cb, .bool neg, .string s]).alloc (.cells #[.bool false, .slice none 0 0, .slice none 0 0] 36)
  have b1 := Blk.new2 w (.cells #[.int .i64 what, .int .i64 n, .slice A1 na ca, .slice A2 nb cb, .bool neg, .string s] 24) 36 #[.bool false, .slice none 0 0, .slice none 0 0]
  have hB := balloc2 w (.cells #[.int .i64 what, .int .i64 n, .slice A1 na ca, .slice A2 nb cb, .bool neg, .string s] 24) (.cells #[.bool false, .slice none 0 0, .slice none 0 0] 36)
  go_enter Tryz.func13, Tryz.ntmps13
  go_wp2_with fail
  generalize (w.alloc (.cells #[.int .i64 what, .int .i64 n, .slice A1 na ca, .slice A2 nb cb, .bool neg, .string s] 24)).alloc (.cells #[.bool false, .slice none 0 0, .slice none 0 0] 36) = W at *
  have hBW : B ≤ W.heap.size := Nat.le_trans hBB hB.size
  have hf9 : Calls Tryz.prog 15 #[.slice A2 nb cb, .int .i64 9] W _ := hand_few A2 nb cb B bl 9 W (HB.out.below (hB.mono hBB)) hBW (by omega) hcb (by omega)
  refine hf9.mono ?_
  clear hf9
  rintro e w1 ⟨v1, rfl, ho1, hw1, _⟩
  obtain ⟨A3, c3, hv1, _, _⟩ := ho1.form
  rw [hv1] at ho1
  rw [hv1]
  have hl9 : (bl.take 9).length ≤ 9 := by rw [List.length_take]; omega
  have hr1 := ho1.reads
  obtain ⟨K, hK⟩ : ∃ K, (bl.take 9).length = K := ⟨_, rfl⟩
  rw [hK] at hr1 hl9
  rw [hK]
  clear hK
  have b0 := b0.below hw1 b0.lt
  have b1 := b1.below hw1 b1.lt
  have hB1 := bthen hB hw1
  have hfrom := ref_from A3 K c3 w1.heap.size (bl.take 9) w1 hr1 (Nat.le_refl _) (by omega)
  rw [HD0.out] at hfrom
  have HFR := Lib.hid hfrom
  clear hfrom hr1 ho1 hv1 hw1 hB HB hBW
  go_wp2_with fail
  refine HFR.out.mono ?_
  rintro e w2 ⟨v2, rfl, hn2, hw2⟩
  have b0 := b0.below hw2 b0.lt
  have b1 := b1.below hw2 b1.lt
  have hB2 := bthen hB1 hw2
  obtain ⟨A4, c4, rfl, h4a, h4b, h4c, h4d⟩ := hn2
  have hn2 : IsN w2 w2.heap.size (.slice A4 (limbs D0).length c4) D0 := ⟨A4, c4, rfl, h4a, h4b, h4c, h4d⟩
  have hz0 := limbs_nil D0
  have hl3 := limbs9 D0 hD0l
  clear HFR hw2 hB1 h4a h4b h4c h4d hl9
  generalize hLL : (limbs D0).length = L at *
  clear hLL
  go_upto_if 10 with fail
  go_cut [3] (fun v wc => ∃ A l c, v = .slice A l c ∧ Hid (IsN wc wc.heap.size (.slice A l c) D) ∧ Below w2.heap.size w2 wc)
  case first =>
    by_cases hD00 : D0 = 0
    · have hL0 : L = 0 := hz0.2 hD00
      subst hL0
      have hd1 : D = 1 := by have := HDD.out; rw [if_pos hD00] at this; exact this
      subst hd1
      have hof : ∀ w, Calls Tryz.prog 70 #[.int .u64 1] w (RetN 1 w) := fun w => ref_natOf 1 w (by omega)
      have HOF := Lib.hid hof
      clear hof hn2 hD00 hz0 HDD HD0
      go_wp2_with fail
      refine (HOF.out _).mono ?_
      rintro e w3 ⟨v3, rfl, hn3, hw3⟩
      obtain ⟨A5, l5, c5, rfl⟩ := hn3.form
      go_wp2
      go_meet
      exact ⟨_, _, _, rfl, Lib.hid hn3, hw3⟩
    · have hL0 : ((L : Int) == 0) = false := by
        simp
        exact fun h => hD00 (hz0.1 h)
      have hL1 : (L == 0) = false := by
        simp
        exact fun h => hD00 (hz0.1 h)
      have hd1 : D = D0 := by have := HDD.out; rw [if_neg hD00] at this; exact this
      subst hd1
      have HN2 := Lib.hid hn2
      clear hn2 hD00 hz0 HDD
      go_wp2
      go_meet
      exact ⟨_, _, _, rfl, HN2, Below.refl _ _⟩
  case rest =>
    obtain ⟨A6, l6, c6, rfl, HDI, hbc⟩ := hcut
    have b0 := b0.below hbc b0.lt
    have b1 := b1.below hbc b1.lt
    have hBc := bthen hB2 hbc
    have hbya := HA.out.below (hBc.mono hBB)
    have hBcz : B ≤ wc.heap.size := Nat.le_trans hBB hBc.size
    have hf9 : ∀ w', Below wc.heap.size wc w' → Calls Tryz.prog 15 #[.slice A1 na ca, .int .i64 9] w' _ := fun w' h => few_reads A1 na ca B al 9 w' (Reads.below hbya (h.mono hBcz)) (Nat.le_trans hBcz h.size) (by omega) hca (by omega)
    have hi2 := fun w' (h : Below wc.heap.size wc w') => ref_I false D wc.heap.size (.slice A6 l6 c6) w' (HDI.out.next (Nat.le_refl _) h) h.size
    have hmk : ∀ w' A8 l8 c8, Below wc.heap.size wc w' → IsN w' w'.heap.size (.slice A8 l8 c8) N → Calls Tryz.prog 71 #[.agg #[.bool (decide (signed neg N < 0)), .slice A8 l8 c8], .agg #[.bool (decide (signed false D < 0)), .slice A6 l6 c6]] w' (RetQ (Rat.divInt (signed neg N) D) w') := fun w' A8 l8 c8 h hN =>
      ref_make (signed neg N) D w'.heap.size _ _ w' ⟨_, rfl, by rw [signed_abs]; exact hN⟩ ⟨_, rfl, by rw [Int.natAbs_natCast]; exact (HDI.out.next (Nat.le_refl _) h).more h.size⟩ (Nat.le_refl _)
        (by rw [signed_abs]; have := limbs9 N hNl; omega) (by rw [Int.natAbs_natCast]; have := limbs9 D hDl; omega) (by omega)
    obtain ⟨nd, hnd⟩ : ∃ nd, decide (signed false D < 0) = nd := ⟨_, rfl⟩
    rw [hnd] at hi2 hmk
    clear hnd
    obtain ⟨Q, hQ⟩ : ∃ Q, Rat.divInt (signed neg N) D = Q := ⟨_, rfl⟩
    have HQ2 : Hid (qOf neg al bl = Q) := Lib.hid (by rw [HQ.out, hQ])
    rw [hQ] at hmk
    have HF9 := Lib.hid hf9
    have HI2 := Lib.hid hi2
    have HMK := Lib.hid hmk
    clear hf9 hi2 hmk hQ HQ hbya HDI hBcz hB2 hbc hn2 HA HDD HD0 hz0 hl3
    obtain ⟨q2, q4⟩ := b0.step
    have c0 := b0.drew
    have c1 := b1.drew
    have hc := bdrew0 wc
    clear b0 b1
    go_wp2_with fail
    go_region_held3 (fun w' => w'.cell? ⟨w.heap.size, 2, none⟩ = some (.slice A1 na ca) ∧ w'.cell? ⟨w.heap.size, 4, none⟩ = some (.bool neg)) (go_keep) (first | (go_at_call 15; refine (HF9.out _ hc).mono ?_; rintro e w5 ⟨A7, K7, c7, rfl, hK7, _, _, hby, hw5⟩; have c0 := c0.below hw5 c0.lt; (try clear q2 q4); obtain ⟨q2, q4⟩ := c0.step; have c1 := c1.below hw5 c1.lt; have hc := bthen hc hw5; (try have hnn := (hnn.next (Nat.le_refl _) hw5).more hw5.size)) | (go_at_call 69; refine (ref_from _ _ _ _ _ _ hby (Nat.le_refl _) (by omega)).mono ?_; rintro e w6 ⟨v6, rfl, hnn, hw6⟩; obtain ⟨A8, l8, c8, hv6⟩ := hnn.form; subst hv6; rw [HN.out] at hnn; clear hby; have c0 := c0.below hw6 c0.lt; (try clear q2 q4); obtain ⟨q2, q4⟩ := c0.step; have c1 := c1.below hw6 c1.lt; have hc := bthen hc hw6; (try have hby := Reads.more (Reads.below hby hw6) hw6.size)) | (go_at_call 72; (first | with_reducible refine (ref_I neg N _ _ _ hnn (Nat.le_refl _)).mono ?_ | with_reducible refine (HI2.out _ hc).mono ?_); rintro e w7 ⟨rfl, hw7⟩; have c0 := c0.below hw7 c0.lt; (try clear q2 q4); obtain ⟨q2, q4⟩ := c0.step; have c1 := c1.below hw7 c1.lt; have hc := bthen hc hw7; (try have hby := Reads.more (Reads.below hby hw7) hw7.size); (try have hnn := (hnn.next (Nat.le_refl _) hw7).more hw7.size)) | (go_at_call 71; refine (HMK.out _ _ _ _ hc hnn).mono ?_; rintro e w8 ⟨v8, rfl, hq8, hw8⟩; obtain ⟨vn8, vd8, hv8, hn8, hd8⟩ := hq8; subst hv8; obtain ⟨An, ln, cn, hvn⟩ := hn8.form; obtain ⟨Ad, ld, cd, hvd⟩ := hd8.form; subst hvn; subst hvd; have c0 := c0.below hw8 c0.lt; (try clear q2 q4); obtain ⟨q2, q4⟩ := c0.step; have c1 := c1.below hw8 c1.lt; have hc := bthen hc hw8; (try have hby := Reads.more (Reads.below hby hw8) hw8.size); (try have hnn := (hnn.next (Nat.le_refl _) hw8).more hw8.size); obtain ⟨c1q0, c1q1, c1q2, c1f0, c1f1, c1f2, c1s0, c1s1, c1s2⟩ := c1.f3))
    all_goals
      go_wp2
      refine bodyPost_ret (v := .agg #[.bool (decide (Q.num < 0)), .slice An ln cn, .slice Ad ld cd]) (by simp [results, Tryz.results13, go_sem, c1s0, c1s1, c1s2]) rfl ?_
      rw [HQ2.out]
      refine ⟨_, rfl, ⟨_, _, rfl, ?_, ?_⟩, bset3 (bthen hBc hc) (by omega) _ _ _⟩
      · rw [World.size_setCell, World.size_setCell, World.size_setCell]
        exact hn8.set3 c1 (bool_ne _) (slice_ne _ _ _) (slice_ne _ _ _) _ _ _ (bool_ne _) (slice_ne _ _ _)
      · rw [World.size_setCell, World.size_setCell, World.size_setCell]
        exact hd8.set3 c1 (bool_ne _) (slice_ne _ _ _) (slice_ne _ _ _) _ _ _ (bool_ne _) (slice_ne _ _ _)
end Go.Proofs.YtjmbpnogicdkgaaGreatDoor
