/-
  abaculuslaw4.q: a fraction of raw bytes.
  The document's LayWhole, LayFrac, LayText, LayBool.
-/
import Derived.Test.YtjmbpnogicdkgaaGreatDoorHand
import Derived.Test.YtjmbpnogicdkgaaGreatDoorRefA
import Derived.Test.YtjmbpnogicdkgaaGreatDoorRefOctet
import Derived.Test.YtjmbpnogicdkgaaGreatDoorWriter
import Derived.Test.YtjmbpnogicdkgaaGreatDoorAppStr
/-! abaculuslaw4.q: a fraction of raw bytes. -/
namespace Go.Proofs.YtjmbpnogicdkgaaGreatDoor
open Go.RowKit
set_option linter.unusedSimpArgs false
set_option linter.unusedVariables false

def qDen (bs : List UInt8) : Nat := if beVal (bs.take 9) = 0 then 1 else beVal (bs.take 9)
/-- the fraction of raw bytes -/
def qOf (neg : Bool) (al bl : List UInt8) : Rat := Rat.divInt (signed neg (beVal (al.take 9))) (qDen bl)
theorem beVal9 (bs : List UInt8) : beVal (bs.take 9) < 4722366482869645213696 := by
  have h := beVal_lt (bs.take 9)
  refine Nat.lt_of_lt_of_le h ?_
  have e : (4722366482869645213696 : Nat) = 256 ^ 9 := by decide
  rw [e]
  exact Nat.pow_le_pow_right (by omega) (by rw [List.length_take]; omega)
theorem qDen_lt (bs : List UInt8) : qDen bs < 4722366482869645213696 := by
  have := beVal9 bs
  unfold qDen
  split <;> omega
theorem qDen_ne (bs : List UInt8) : qDen bs ≠ 0 := by
  unfold qDen
  split <;> omega
theorem limbs9 (n : Nat) (h : n < 4722366482869645213696) : (limbs n).length ≤ 3 := by
  apply limbs_le
  have e : (4294967296 : Nat) ^ 3 = 79228162514264337593543950336 := by decide
  rw [e]
  omega
theorem few_reads (A : Option Addr) (n c B : Nat) (bs : List UInt8) (m : Nat) (w : World) (h : Bytes w B A n bs) (hB : B ≤ w.heap.size) (hn : n ≤ 9223372036854775807) (hc : n ≤ c) (hm : m ≤ 140737488355328) :
    Calls Tryz.prog 15 #[.slice A n c, .int .i64 (m : Int)] w fun e w' => ∃ A' K c', e = .returned (.slice A' K c') ∧ K ≤ m ∧ K ≤ c' ∧ c' ≤ 9223372036854775807 ∧ Bytes w' w'.heap.size A' K (bs.take m) ∧ Below w.heap.size w w' := by
  refine (hand_few A n c B bs m w h hB hn hc hm).mono ?_
  rintro e w1 ⟨v1, rfl, ho1, hw1, _⟩
  obtain ⟨A3, c3, hv1, h1, h2⟩ := ho1.form
  rw [hv1] at ho1
  rw [hv1]
  unfold maxLen at h2
  exact ⟨A3, _, c3, rfl, by rw [List.length_take]; omega, h1, h2, ho1.reads, hw1⟩
theorem Blk.step {w : World} {g : Nat} {t : TypeId} {a b c d e f : Value} (h : Blk w g t #[a, b, c, d, e, f]) : w.cell? ⟨g, 2, none⟩ = some c ∧ w.cell? ⟨g, 4, none⟩ = some e := ⟨h.cell 2, h.cell 4⟩
set_option maxRecDepth 100000 in
set_option maxHeartbeats 1000000 in
theorem law_q (what n : Int) (A1 A2 : Option Addr) (na ca nb cb B : Nat) (neg : Bool) (s : ByteArray) (al bl : List UInt8) (w : World) (ha : Bytes w B A1 na al) (hb : Bytes w B A2 nb bl) (hBB : B ≤ w.heap.size) (hna : na ≤ 9223372036854775807) (hnb : nb ≤ 9223372036854775807) (hca : na ≤ ca) (hcb : nb ≤ cb) :
    Calls Tryz.prog 13 #[.agg #[.int .i64 what, .int .i64 n, .slice A1 na ca, .slice A2 nb cb, .bool neg, .string s]] w (RetQ (qOf neg al bl) w) := by
  have HA := Lib.hid ha
  have HB := Lib.hid hb
  clear ha hb
  obtain ⟨N, hN⟩ : ∃ N, beVal (al.take 9) = N := ⟨_, rfl⟩
  obtain ⟨D0, hD0⟩ : ∃ D0, beVal (bl.take 9) = D0 := ⟨_, rfl⟩
  obtain ⟨D, hD⟩ : ∃ D, qDen bl = D := ⟨_, rfl⟩
  have hNl : N < 4722366482869645213696 := by rw [← hN]; exact beVal9 al
  have hD0l : D0 < 4722366482869645213696 := by rw [← hD0]; exact beVal9 bl
  have hDl : D < 4722366482869645213696 := by rw [← hD]; exact qDen_lt bl
  have hDne : D ≠ 0 := by rw [← hD]; exact qDen_ne bl
  have hDD : D = if D0 = 0 then 1 else D0 := by rw [← hD, ← hD0]; rfl
  have HQ : Hid (qOf neg al bl = Rat.divInt (signed neg N) D) := Lib.hid (by unfold qOf; rw [hN, hD])
  have HN := Lib.hid hN
  have HD0 := Lib.hid hD0
  have HDD := Lib.hid hDD
  clear hN hD0 hD hDD
  have b0 := (Blk.new w 24 #[.int .i64 what, .int .i64 n, .slice A1 na ca, .slice A2 nb cb, .bool neg, .string s]).alloc (.cells #[.bool false, .slice none 0 0, .slice none 0 0] 36)
  have b1 := Blk.new2 w (.cells #[.int .i64 what, .int .i64 n, .slice A1 na ca, .slice A2 nb cb, .bool neg, .string s] 24) 36 #[.bool false, .slice none 0 0, .slice none 0 0]
  have hB := balloc2 w (.cells #[.int .i64 what, .int .i64 n, .slice A1 na ca, .slice A2 nb cb, .bool neg, .string s] 24) (.cells #[.bool false, .slice none 0 0, .slice none 0 0] 36)
  go_enter Tryz.func13, Tryz.ntmps13
  go_wp2_with fail
  generalize (w.alloc (.cells #[.int .i64 what, .int .i64 n, .slice A1 na ca, .slice A2 nb cb, .bool neg, .string s] 24)).alloc (.cells #[.bool false, .slice none 0 0, .slice none 0 0] 36) = W at *
  have hBW : B ≤ W.heap.size := Nat.le_trans hBB hB.size
  have hf9 : Calls Tryz.prog 15 #[.slice A2 nb cb, .int .i64 9] W _ := hand_few A2 nb cb B bl 9 W (HB.out.below (hB.mono hBB)) hBW (by omega) hcb (by omega)
  refine hf9.mono ?_
  clear hf9
  rintro e w1 ⟨v1, rfl, ho1, hw1, _⟩
  obtain ⟨A3, c3, hv1, _, _⟩ := ho1.form
  rw [hv1] at ho1
  rw [hv1]
  have hl9 : (bl.take 9).length ≤ 9 := by rw [List.length_take]; omega
  have hr1 := ho1.reads
  obtain ⟨K, hK⟩ : ∃ K, (bl.take 9).length = K := ⟨_, rfl⟩
  rw [hK] at hr1 hl9
  rw [hK]
  clear hK
  have b0 := b0.below hw1 b0.lt
  have b1 := b1.below hw1 b1.lt
  have hB1 := bthen hB hw1
  have hfrom := ref_from A3 K c3 w1.heap.size (bl.take 9) w1 hr1 (Nat.le_refl _) (by omega)
  rw [HD0.out] at hfrom
  have HFR := Lib.hid hfrom
  clear hfrom hr1 ho1 hv1 hw1 hB HB hBW
  go_wp2_with fail
  refine HFR.out.mono ?_
  rintro e w2 ⟨v2, rfl, hn2, hw2⟩
  have b0 := b0.below hw2 b0.lt
  have b1 := b1.below hw2 b1.lt
  have hB2 := bthen hB1 hw2
  obtain ⟨A4, c4, rfl, h4a, h4b, h4c, h4d⟩ := hn2
  have hn2 : IsN w2 w2.heap.size (.slice A4 (limbs D0).length c4) D0 := ⟨A4, c4, rfl, h4a, h4b, h4c, h4d⟩
  have hz0 := limbs_nil D0
  have hl3 := limbs9 D0 hD0l
  clear HFR hw2 hB1 h4a h4b h4c h4d hl9
  generalize hLL : (limbs D0).length = L at *
  clear hLL
  go_upto_if 10 with fail
  go_cut [3] (fun v wc => ∃ A l c, v = .slice A l c ∧ Hid (IsN wc wc.heap.size (.slice A l c) D) ∧ Below w2.heap.size w2 wc)
  case first =>
    by_cases hD00 : D0 = 0
    · have hL0 : L = 0 := hz0.2 hD00
      subst hL0
      have hd1 : D = 1 := by have := HDD.out; rw [if_pos hD00] at this; exact this
      subst hd1
      have hof : ∀ w, Calls Tryz.prog 70 #[.int .u64 1] w (RetN 1 w) := fun w => ref_natOf 1 w (by omega)
      have HOF := Lib.hid hof
      clear hof hn2 hD00 hz0 HDD HD0
      go_wp2_with fail
      refine (HOF.out _).mono ?_
      rintro e w3 ⟨v3, rfl, hn3, hw3⟩
      obtain ⟨A5, l5, c5, rfl⟩ := hn3.form
      go_wp2
      go_meet
      exact ⟨_, _, _, rfl, Lib.hid hn3, hw3⟩
    · have hL0 : ((L : Int) == 0) = false := by
        simp
        exact fun h => hD00 (hz0.1 h)
      have hL1 : (L == 0) = false := by
        simp
        exact fun h => hD00 (hz0.1 h)
      have hd1 : D = D0 := by have := HDD.out; rw [if_neg hD00] at this; exact this
      subst hd1
      have HN2 := Lib.hid hn2
      clear hn2 hD00 hz0 HDD
      go_wp2
      go_meet
      exact ⟨_, _, _, rfl, HN2, Below.refl _ _⟩
  case rest =>
    obtain ⟨A6, l6, c6, rfl, HDI, hbc⟩ := hcut
    have b0 := b0.below hbc b0.lt
    have b1 := b1.below hbc b1.lt
    have hBc := bthen hB2 hbc
    have hbya := HA.out.below (hBc.mono hBB)
    have hBcz : B ≤ wc.heap.size := Nat.le_trans hBB hBc.size
    have hf9 : ∀ w', Below wc.heap.size wc w' → Calls Tryz.prog 15 #[.slice A1 na ca, .int .i64 9] w' _ := fun w' h => few_reads A1 na ca B al 9 w' (Reads.below hbya (h.mono hBcz)) (Nat.le_trans hBcz h.size) (by omega) hca (by omega)
    have hi2 := fun w' (h : Below wc.heap.size wc w') => ref_I false D wc.heap.size (.slice A6 l6 c6) w' (HDI.out.next (Nat.le_refl _) h) h.size
    have hmk : ∀ w' A8 l8 c8, Below wc.heap.size wc w' → IsN w' w'.heap.size (.slice A8 l8 c8) N → Calls Tryz.prog 71 #[.agg #[.bool (decide (signed neg N < 0)), .slice A8 l8 c8], .agg #[.bool (decide (signed false D < 0)), .slice A6 l6 c6]] w' (RetQ (Rat.divInt (signed neg N) D) w') := fun w' A8 l8 c8 h hN =>
      ref_make (signed neg N) D w'.heap.size _ _ w' ⟨_, rfl, by rw [signed_abs]; exact hN⟩ ⟨_, rfl, by rw [Int.natAbs_natCast]; exact (HDI.out.next (Nat.le_refl _) h).more h.size⟩ (Nat.le_refl _)
        (by rw [signed_abs]; have := limbs9 N hNl; omega) (by rw [Int.natAbs_natCast]; have := limbs9 D hDl; omega) (by omega)
    obtain ⟨nd, hnd⟩ : ∃ nd, decide (signed false D < 0) = nd := ⟨_, rfl⟩
    rw [hnd] at hi2 hmk
    clear hnd
    obtain ⟨Q, hQ⟩ : ∃ Q, Rat.divInt (signed neg N) D = Q := ⟨_, rfl⟩
    have HQ2 : Hid (qOf neg al bl = Q) := Lib.hid (by rw [HQ.out, hQ])
    rw [hQ] at hmk
    have HF9 := Lib.hid hf9
    have HI2 := Lib.hid hi2
    have HMK := Lib.hid hmk
    clear hf9 hi2 hmk hQ HQ hbya HDI hBcz hB2 hbc hn2 HA HDD HD0 hz0 hl3
    obtain ⟨q2, q4⟩ := b0.step
    have c0 := b0.drew
    have c1 := b1.drew
    have hc := bdrew0 wc
    clear b0 b1
    go_wp2_with fail
    go_region_held3 (fun w' => w'.cell? ⟨w.heap.size, 2, none⟩ = some (.slice A1 na ca) ∧ w'.cell? ⟨w.heap.size, 4, none⟩ = some (.bool neg)) (go_keep) (first | (go_at_call 15; refine (HF9.out _ hc).mono ?_; rintro e w5 ⟨A7, K7, c7, rfl, hK7, _, _, hby, hw5⟩; have c0 := c0.below hw5 c0.lt; (try clear q2 q4); obtain ⟨q2, q4⟩ := c0.step; have c1 := c1.below hw5 c1.lt; have hc := bthen hc hw5; (try have hnn := (hnn.next (Nat.le_refl _) hw5).more hw5.size)) | (go_at_call 69; refine (ref_from _ _ _ _ _ _ hby (Nat.le_refl _) (by omega)).mono ?_; rintro e w6 ⟨v6, rfl, hnn, hw6⟩; obtain ⟨A8, l8, c8, hv6⟩ := hnn.form; subst hv6; rw [HN.out] at hnn; clear hby; have c0 := c0.below hw6 c0.lt; (try clear q2 q4); obtain ⟨q2, q4⟩ := c0.step; have c1 := c1.below hw6 c1.lt; have hc := bthen hc hw6; (try have hby := Reads.more (Reads.below hby hw6) hw6.size)) | (go_at_call 72; (first | with_reducible refine (ref_I neg N _ _ _ hnn (Nat.le_refl _)).mono ?_ | with_reducible refine (HI2.out _ hc).mono ?_); rintro e w7 ⟨rfl, hw7⟩; have c0 := c0.below hw7 c0.lt; (try clear q2 q4); obtain ⟨q2, q4⟩ := c0.step; have c1 := c1.below hw7 c1.lt; have hc := bthen hc hw7; (try have hby := Reads.more (Reads.below hby hw7) hw7.size); (try have hnn := (hnn.next (Nat.le_refl _) hw7).more hw7.size)) | (go_at_call 71; refine (HMK.out _ _ _ _ hc hnn).mono ?_; rintro e w8 ⟨v8, rfl, hq8, hw8⟩; obtain ⟨vn8, vd8, hv8, hn8, hd8⟩ := hq8; subst hv8; obtain ⟨An, ln, cn, hvn⟩ := hn8.form; obtain ⟨Ad, ld, cd, hvd⟩ := hd8.form; subst hvn; subst hvd; have c0 := c0.below hw8 c0.lt; (try clear q2 q4); obtain ⟨q2, q4⟩ := c0.step; have c1 := c1.below hw8 c1.lt; have hc := bthen hc hw8; (try have hby := Reads.more (Reads.below hby hw8) hw8.size); (try have hnn := (hnn.next (Nat.le_refl _) hw8).more hw8.size); obtain ⟨c1q0, c1q1, c1q2, c1f0, c1f1, c1f2, c1s0, c1s1, c1s2⟩ := c1.f3))
    all_goals
      go_wp2
      refine bodyPost_ret (v := .agg #[.bool (decide (Q.num < 0)), .slice An ln cn, .slice Ad ld cd]) (by simp [results, Tryz.results13, go_sem, c1s0, c1s1, c1s2]) rfl ?_
      rw [HQ2.out]
      refine ⟨_, rfl, ⟨_, _, rfl, ?_, ?_⟩, bset3 (bthen hBc hc) (by omega) _ _ _⟩
      · rw [World.size_setCell, World.size_setCell, World.size_setCell]
        exact hn8.set3 c1 (bool_ne _) (slice_ne _ _ _) (slice_ne _ _ _) _ _ _ (bool_ne _) (slice_ne _ _ _)
      · rw [World.size_setCell, World.size_setCell, World.size_setCell]
        exact hd8.set3 c1 (bool_ne _) (slice_ne _ _ _) (slice_ne _ _ _) _ _ _ (bool_ne _) (slice_ne _ _ _)
end Go.Proofs.YtjmbpnogicdkgaaGreatDoor

/-! The document's LayWhole, LayFrac, LayText, LayBool. -/
namespace Go.Proofs.YtjmbpnogicdkgaaGreatDoor
open Go.RowKit
set_option linter.unusedSimpArgs false
set_option linter.unusedVariables false

theorem Grew.pre {w w0 w1 : World} {v v' : Value} (hb : Below w.heap.size w w0) (h : Grew w0 w1 v v') : Grew w w1 v v' :=
  ⟨h.os.trans hb.os, h.tape.trans hb.tape, h.output.trans hb.output, Nat.le_trans hb.size h.size, fun k hk hne => (h.block k (Nat.lt_of_lt_of_le hk hb.size) hne).trans (hb.block k hk), fun k hk => by
    rcases h.own k hk with h1 | h1
    · exact .inl h1
    · exact .inr (Nat.le_trans hb.size h1)⟩
/-- the call returns the bytes l and then m; nothing else that was there has changed -/
def Laid (v : Value) (l m : List UInt8) (w : World) (e : Ending) (w' : World) : Prop := ∃ v', e = .returned v' ∧ Own w' 5 u8v v' (l ++ m) ∧ Grew w w' v v'
/-- a number's limbs are not among the bytes -/
theorem IsN.bytes {w w' : World} {B n : Nat} {v u u' : Value} {l : List UInt8} (h : IsN w B v n) (hB : B ≤ w.heap.size) (ho : Own w 5 u8v u l) (hg : Grew w w' u u') : IsN w' B v n := by
  obtain ⟨A, c, h1, h2, h3, h4, h5⟩ := h
  rcases Nat.eq_zero_or_pos (limbs n).length with h0 | h0
  · exact ⟨A, c, h1, h2, h3, ⟨h4.1, fun hn => absurd hn (by omega)⟩, fun hn => absurd hn (by omega)⟩
  · obtain ⟨ad, hA, hlt, hc⟩ := h4.2 h0
    obtain ⟨cs, fr, hty⟩ := h5 h0 ad hA
    have hne : some ad.block ≠ u.ownBlock := by
      intro e
      rcases ho.2 with ⟨h6, _⟩ | ⟨g, cap, cur, h6, _, h7, _⟩
      · rw [h6] at e
        cases e
      · rw [h6] at e
        have e2 : ad.block = g := by simpa [Value.ownBlock] using e
        rw [e2, h7] at hty
        injection hty with hty
        injection hty with _ ht
        exact absurd ht (by decide)
    have hbk := hg.block ad.block (by omega) hne
    refine ⟨A, c, h1, h2, h3, ⟨h4.1, fun _ => ⟨ad, hA, hlt, fun j x hx => ?_⟩⟩, fun _ ad' hA' => ?_⟩
    · rw [World.cell?_of_block (w := w) (by rw [block_of_add]; exact hbk)]
      exact hc j x hx
    · rw [hA] at hA'
      obtain rfl := Option.some.inj hA'
      exact ⟨cs, fr, hbk.trans hty⟩
set_option maxRecDepth 100000 in
set_option maxHeartbeats 1000000 in
theorem ref_layWhole (v : Value) (l : List UInt8) (z : Int) (B : Nat) (V : Value) (w : World) (ho : Own w 5 u8v v l) (h : IsI w B V z) (hBB : B ≤ w.heap.size) (hz : blen z.natAbs ≤ 1099511627776) (hl : l.length ≤ 1099511627000) :
    Calls Tryz.prog 60 #[v, V] w (Laid v l (wholeB z) w) := by
  obtain ⟨vn, rfl, hn⟩ := h
  obtain ⟨A1, l1, c1, hA1⟩ := hn.form
  subst hA1
  have hnb : nbytes z.natAbs ≤ 137438953472 := by unfold nbytes; omega
  have HV := Lib.hid hn
  have HO := Lib.hid ho
  have hvlt := ho.lt
  obtain ⟨ng, hng⟩ : ∃ ng, decide (z < 0) = ng := ⟨_, rfl⟩
  obtain ⟨N, hN⟩ : ∃ N, nbytes z.natAbs = N := ⟨_, rfl⟩
  obtain ⟨M, hM⟩ : ∃ M, 2 * N + (if z < 0 then 1 else 0) = M := ⟨_, rfl⟩
  have hM2 : (ng = true ∧ 2 * (N : Int) + 1 = (M : Int)) ∨ (ng = false ∧ 2 * (N : Int) = (M : Int)) := by
    rw [← hng]
    by_cases hneg : z < 0
    · rw [if_pos hneg] at hM
      exact .inl ⟨decide_eq_true hneg, by omega⟩
    · rw [if_neg hneg] at hM
      exact .inr ⟨decide_eq_false hneg, by omega⟩
  have hW : wholeB z = countB M ++ natB z.natAbs := by unfold wholeB; rw [hN, hM]
  rw [hN] at hnb
  have hMle : M ≤ 274877906945 := by rcases hM2 with h | h <;> omega
  have hcl : (countB M).length ≤ 10 := countF_len 9 M
  have hnl := natB_len z.natAbs
  rw [hN] at hnl
  have HNL := Lib.hid hnl
  have HW := Lib.hid hW
  rw [hng]
  clear hn ho hng hN hM hW hnl
  have b0 := Blk.new w  34 #[.bool ng, .slice A1 l1 c1]; have hB := balloc1 w (.cells #[.bool ng, .slice A1 l1 c1] 34); have hZ := Lib.hid (show (w.alloc (.cells #[.bool ng, .slice A1 l1 c1] 34)).heap.size = w.heap.size + 1 from by simp)
  have b0f : Blk _ _ _ _ := b0
  go_enter Tryz.func60, Tryz.ntmps60
  go_wp2_with fail
  generalize (w.alloc (.cells #[.bool ng, .slice A1 l1 c1] 34)) = W at *
  refine (ref_bytes z.natAbs B (.slice A1 l1 c1) W (HV.out.next hBB hB) (Nat.le_trans hBB hB.size) hz).mono ?_
  rintro e w2 ⟨v2, rfl, ho2, hw2, hf2⟩
  obtain ⟨A2, c2, hv2, hc3, hc4⟩ := ho2.form
  rw [HNL.out] at hv2 hc3
  rw [hv2] at ho2 hf2
  rw [hv2]
  have hB2 := bthen hB hw2
  have ho3 := HO.out.below hB2 hvlt
  (try clear b0q0 b0q1); have b0 := b0.below hw2 b0.lt; obtain ⟨b0q0, b0q1⟩ := b0.c2
  have hz2 := hB.size
  clear hv2 hw2 hB b0f HV HO
  rcases hM2 with ⟨rfl, hM2⟩ | ⟨rfl, hM2⟩
  all_goals
    go_wp2_with fail
    refine (ref_count v l (M : Int) M (by simp) w2 ho3 (by omega) (by omega)).mono ?_
    rintro e w4 ⟨v4, rfl, ho4, hg4⟩
    have hm4 := ho2.kept hg4 (fun k hk e => by have := hvlt k e; have := hf2 k hk; omega)
    have hrd := Own.reads hm4
    rw [HNL.out] at hrd
    have hll : (l ++ countB M).length ≤ 1099511627010 := by rw [List.length_append]; omega
    generalize hL4 : l ++ countB M = l4 at ho4 hll
    have HL4 := Lib.hid hL4
    clear hL4
    obtain ⟨A4, c4', hv4, _, _⟩ := ho4.form
    rw [hv4] at ho4 hg4
    rw [hv4]
    clear hv4 hM2 ho3
    go_wp2_with (at_builtin; refine appN Tryz.eltU8 rfl (.tmp 19) (.tmp 20) rfl w4 _ l4 _ A2 N c2 (natB z.natAbs) rfl ho4 rfl hrd u8v_one ?_ ?_ ?_)
    · unfold maxLen; omega
    · omega
    intro v5 w5 ho5 hg5
    go_wp2
    go_ret
    refine ⟨_, rfl, ?_, Grew.pre hB2 (hg4.trans hg5)⟩
    rw [HW.out, ← List.append_assoc, HL4.out]
    exact ho5
/-- a fraction's bytes, a text's, a bool's -/
def fracB (q : Rat) : List UInt8 := wholeB q.num ++ (countB (nbytes q.den) ++ natB q.den)
def textB (s : ByteArray) : List UInt8 := countB s.size ++ s.data.toList
def boolB (b : Bool) : List UInt8 := [if b then 1 else 0]
set_option maxRecDepth 100000 in
set_option maxHeartbeats 400000 in
theorem ref_layText (v : Value) (l : List UInt8) (s : ByteArray) (w : World) (ho : Own w 5 u8v v l) (hs : s.size ≤ 1099511627776) (hl : l.length ≤ 1099511627000) : Calls Tryz.prog 64 #[v, .string s] w (Laid v l (textB s) w) := by
  have hcl : (countB s.size).length ≤ 10 := countF_len 9 s.size
  go_enter Tryz.func64, Tryz.ntmps64
  go_wp2_with fail
  refine (ref_count v l (s.size : Int) s.size (by simp) w ho (by omega) (by omega)).mono ?_
  rintro e w1 ⟨v1, rfl, ho1, hg1⟩
  have hll : (l ++ countB s.size).length + s.size ≤ 140737488355328 := by rw [List.length_append]; omega
  generalize hL4 : l ++ countB s.size = l4 at ho1 hll
  have HL4 := Lib.hid hL4
  clear hL4
  go_wp2_with (at_builtin; refine appS Tryz.eltU8 Tryz.underlying9 rfl (.tmp 8) (.tmp 9) rfl w1 _ l4 s rfl ho1 rfl hll ?_)
  intro v5 w5 ho5 hg5
  go_wp2
  go_ret
  refine ⟨_, rfl, ?_, hg1.trans hg5⟩
  unfold textB
  rw [← List.append_assoc, HL4.out]
  exact ho5
set_option maxRecDepth 100000 in
theorem ref_layBool (v : Value) (l : List UInt8) (b : Bool) (w : World) (ho : Own w 5 u8v v l) (hl : l.length ≤ 1099511627000) : Calls Tryz.prog 66 #[v, .bool b] w (Laid v l (boolB b) w) := by
  have e1 : l.length + 1 ≤ maxLen := by unfold maxLen; omega
  have e2 : (l.length + 1) * 1 ≤ 140737488355328 := by omega
  cases b
  · go_enter Tryz.func66, Tryz.ntmps66
    go_wp2_with (at_builtin; refine app1 Tryz.eltU8 rfl (.tmp 9) (.tmp 10) rfl w _ l 0 _ rfl rfl ho rfl rfl e1 e2 ?_)
    intro v5 w5 ho5 hg5
    go_wp2
    go_ret
    exact ⟨_, rfl, ho5, hg5⟩
  · go_enter Tryz.func66, Tryz.ntmps66
    go_wp2_with (at_builtin; refine app1 Tryz.eltU8 rfl (.tmp 6) (.tmp 7) rfl w _ l 1 _ rfl rfl ho rfl rfl e1 e2 ?_)
    intro v5 w5 ho5 hg5
    go_wp2
    go_ret
    exact ⟨_, rfl, ho5, hg5⟩
set_option maxRecDepth 100000 in
set_option maxHeartbeats 1000000 in
theorem ref_layFrac (v : Value) (l : List UInt8) (q : Rat) (B : Nat) (V : Value) (w : World) (ho : Own w 5 u8v v l) (h : IsQ w B V q) (hBB : B ≤ w.heap.size) (hq : QS 1099511627776 q) (hl : l.length ≤ 549755813888) :
    Calls Tryz.prog 62 #[v, V] w (Laid v l (fracB q) w) := by
  obtain ⟨vn, vd, rfl, hn, hd⟩ := h
  obtain ⟨A1, l1, c1, hA1⟩ := hn.form
  obtain ⟨A2, l2, c2, hA2⟩ := hd.form
  subst hA1
  subst hA2
  have hvlt := ho.lt
  have hnb : nbytes q.den ≤ 137438953472 := by unfold nbytes; have := hq.2; omega
  have hnb2 : nbytes q.num.natAbs ≤ 137438953472 := by unfold nbytes; have := hq.1; omega
  have hwl : (wholeB q.num).length ≤ 137438953482 := by
    unfold wholeB
    rw [List.length_append, natB_len]
    have := countF_len 9 (2 * nbytes q.num.natAbs + (if q.num < 0 then 1 else 0))
    unfold countB
    omega
  obtain ⟨N, hN⟩ : ∃ N, nbytes q.den = N := ⟨_, rfl⟩
  have hcl : (countB N).length ≤ 10 := countF_len 9 N
  have hF : fracB q = wholeB q.num ++ (countB N ++ natB q.den) := by unfold fracB; rw [hN]
  have hnl := natB_len q.den
  rw [hN] at hnl hnb
  have HNL := Lib.hid hnl
  have HF := Lib.hid hF
  have HN := Lib.hid hn
  have HD := Lib.hid hd
  have HO := Lib.hid ho
  have HQ := Lib.hid hq
  clear hn hd ho hq hN hF hnl
  have b0 := Blk.new w  36 #[.bool (decide (q.num < 0)), .slice A1 l1 c1, .slice A2 l2 c2]; have hB := balloc1 w (.cells #[.bool (decide (q.num < 0)), .slice A1 l1 c1, .slice A2 l2 c2] 36); have hZ := Lib.hid (show (w.alloc (.cells #[.bool (decide (q.num < 0)), .slice A1 l1 c1, .slice A2 l2 c2] 36)).heap.size = w.heap.size + 1 from by simp)
  go_enter Tryz.func62, Tryz.ntmps62
  go_wp2_with fail
  generalize (w.alloc (.cells #[.bool (decide (q.num < 0)), .slice A1 l1 c1, .slice A2 l2 c2] 36)) = W at *
  have hBW : B ≤ W.heap.size := Nat.le_trans hBB hB.size
  have hoW := HO.out.below hB hvlt
  refine (ref_layWhole v l q.num B _ W hoW ⟨_, rfl, HN.out.next hBB hB⟩ hBW HQ.out.1 (by omega)).mono ?_
  rintro e w1 ⟨v1, rfl, ho1, hg1⟩
  have b0 := (hg1.block w.heap.size b0.lt (fun e => by have := hvlt _ e.symm; omega)).trans b0
  have b0 : Blk w1 w.heap.size 36 #[.bool (decide (q.num < 0)), .slice A1 l1 c1, .slice A2 l2 c2] := b0
  have hd1 := (HD.out.next hBB hB).bytes hBW hoW hg1
  have hB1z : B ≤ w1.heap.size := Nat.le_trans hBW hg1.size
  have hl1 : (l ++ wholeB q.num).length ≤ 1099511627000 := by rw [List.length_append]; omega
  generalize hL1 : l ++ wholeB q.num = m1 at ho1 hl1
  have HL1 := Lib.hid hL1
  clear hL1 HN HD HO hoW hBW
  obtain ⟨b0q0, b0q1, b0q2⟩ := b0.c3
  go_wp2_with fail
  refine (ref_bytes q.den B (.slice A2 l2 c2) w1 hd1 hB1z HQ.out.2).mono ?_
  rintro e w2 ⟨v2, rfl, ho2, hw2, hf2⟩
  obtain ⟨A3, c3, hv2, hc3, hc4⟩ := ho2.form
  rw [HNL.out] at hv2 hc3
  rw [hv2] at ho2 hf2
  rw [hv2]
  have hlt1 := ho1.lt
  have ho1 := ho1.below hw2 hlt1
  clear hv2 b0q0 b0q1 b0q2 b0 hd1
  go_wp2_with fail
  refine (ref_count v1 m1 (N : Int) N (by simp) w2 ho1 (by omega) (by omega)).mono ?_
  rintro e w4 ⟨v4, rfl, ho4, hg4⟩
  have hm4 := ho2.kept hg4 (fun k hk e => by have := hlt1 k e; have := hf2 k hk; omega)
  have hrd := Own.reads hm4
  rw [HNL.out] at hrd
  have hll : (m1 ++ countB N).length ≤ 1099511627010 := by rw [List.length_append]; omega
  generalize hL4 : m1 ++ countB N = l4 at ho4 hll
  have HL4 := Lib.hid hL4
  clear hL4
  go_wp2_with (at_builtin; refine appN Tryz.eltU8 rfl (.tmp 16) (.tmp 17) rfl w4 _ l4 _ A3 N c3 (natB q.den) rfl ho4 rfl hrd u8v_one ?_ ?_ ?_)
  · unfold maxLen; omega
  · omega
  intro v5 w5 ho5 hg5
  go_wp2
  go_ret
  refine ⟨_, rfl, ?_, Grew.pre hB (((hg1.thenBelow hw2).trans hg4).trans hg5)⟩
  rw [HF.out, ← List.append_assoc, HL1.out, ← List.append_assoc, HL4.out]
  exact ho5
end Go.Proofs.YtjmbpnogicdkgaaGreatDoor
