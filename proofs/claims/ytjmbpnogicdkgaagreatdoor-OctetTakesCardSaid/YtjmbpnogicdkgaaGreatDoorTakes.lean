/-
  abaculuslaw4.take: one read by the program and by the document.
-/
import Derived.Test.YtjmbpnogicdkgaaGreatDoorHandOut
import Derived.Test.YtjmbpnogicdkgaaGreatDoorLays
namespace Go.Proofs.YtjmbpnogicdkgaaGreatDoor
open Go.RowKit
set_option linter.unusedSimpArgs false
set_option linter.unusedVariables false

theorem u8_slice (A : Option Addr) (n c : Nat) : ∀ x : UInt8, Value.slice A n c ≠ u8v x := fun x e => by cases e
theorem u8_bool (b : Bool) : ∀ x : UInt8, Value.bool b ≠ u8v x := fun x e => by cases e
/-- bytes do not lie in a block without bytes -/
theorem bytes_apart {w : World} {B n g : Nat} {A : Option Addr} {l : List UInt8} {t : TypeId} {cs : Array Value} (h : Bytes w B A n l) (hn : 0 < n) (hb : Blk w g t cs) (hcs : ∀ (i : Nat) (x : UInt8), cs[i]? ≠ some (u8v x)) : ∀ ad, A = some ad → ad.block ≠ g := by
  intro ad hA e
  obtain ⟨ad', x, hA', _, _, hc⟩ := Bytes.at_ h (k := 0) hn
  rw [hA] at hA'
  obtain rfl := Option.some.inj hA'
  have h0 : ad.add 0 = ad := rfl
  rw [h0] at hc
  have hs : ad.spot = none := by
    unfold World.cell? at hc
    split at hc
    · split at hc
      · cases hc
      · rename_i h1
        simpa using h1
    · cases hc
  have h2 := hb.cell ad.off
  have h3 : (⟨g, ad.off, none⟩ : Addr) = ad := by
    cases ad with
    | mk b o sp =>
      simp at hs e
      subst hs
      subst e
      rfl
  rw [h3, hc] at h2
  exact hcs ad.off x h2.symm
theorem two_nou8 (A : Option Addr) (n c : Nat) (b : Bool) : ∀ (i : Nat) (x : UInt8), (#[.slice A n c, .bool b] : Array Value)[i]? ≠ some (u8v x) := by
  intro i x e
  rcases i with _ | _ | i
  · simp at e; exact u8_slice _ _ _ x e
  · simp at e; exact u8_bool _ x e
  · simp at e
theorem IsR.excP {w w' : World} {b B g B' : Nat} {s s' : St} (h : IsR w b B s) (hb : IsP w g B' s') (he : Exc g w w') (hne : b ≠ g) : IsR w' b B s := by
  obtain ⟨A', n', c', hb1, _⟩ := hb
  obtain ⟨A, n, c, h1, h2, h3, h4, h5⟩ := h
  refine ⟨A, n, c, h1.exc he hne, ?_, Nat.le_trans h3 he.size, h4, h5⟩
  rcases Nat.eq_zero_or_pos n with h0 | h0
  · exact ⟨h2.1, fun hn => absurd hn (by omega)⟩
  · exact Reads.exc h2 he h3 (bytes_apart h2 h0 hb1 (two_nou8 _ _ _ _))
theorem IsP.excR {w w' : World} {b B g B' : Nat} {s s' : St} (h : IsP w b B s) (hb : IsR w g B' s') (he : Exc g w w') (hne : b ≠ g) : IsP w' b B s := by
  obtain ⟨A', n', c', hb1, _⟩ := hb
  obtain ⟨A, n, c, h1, h2, h3, h4, h5⟩ := h
  refine ⟨A, n, c, h1.exc he hne, ?_, Nat.le_trans h3 he.size, h4, h5⟩
  rcases Nat.eq_zero_or_pos n with h0 | h0
  · exact ⟨h2.1, fun hn => absurd hn (by omega)⟩
  · exact Reads.exc h2 he h3 (bytes_apart h2 h0 hb1 (two_nou8 _ _ _ _))
theorem stFrac_size (s : St) (h : s.1.length ≤ 1048576) : QS 1099511627776 (stFrac s).1 := by
  have h0 : QS 1099511627776 0 := ⟨by decide, by decide⟩
  have h1 := stWhole_le s (by omega)
  have h2 := stCount_le 4611686018427387904 (stWhole s).2 (by omega)
  have h3 := stNat_blen2 (stCount 4611686018427387904 (stWhole s).2).1 (stCount 4611686018427387904 (stWhole s).2).2
  unfold stFrac
  simp only []
  split
  · exact h0
  · split
    · exact h0
    · rename_i hz
      have hz2 := fun h => hz (.inl h)
      obtain ⟨p1, p2, _⟩ := make_parts (stWhole s).1 ((stNat (stCount 4611686018427387904 (stWhole s).2).1 (stCount 4611686018427387904 (stWhole s).2).2).1 : Int) (by omega)
      constructor
      · rw [p2]; exact Nat.le_trans (blen_div _ _) (by omega)
      · rw [p1, Int.natAbs_natCast]; exact Nat.le_trans (blen_div _ _) (by omega)
theorem stText_good (most : Int) (s : St) : Good (stText most s).2 := stTake_good _ _
theorem stFrac_good (s : St) : Good (stFrac s).2 := by
  unfold stFrac
  simp only []
  split
  · exact stNat_good _ _
  · split
    · exact good_fail
    · exact stNat_good _ _
theorem stText_le (most : Int) (s : St) (h : s.1.length ≤ 1099511627776) : (stText most s).2.1.length ≤ s.1.length :=
  Nat.le_trans (stTake_le _ _).2 (stCount_le most s h).2
theorem stBool_le (s : St) : (stBool s).2.1.length ≤ s.1.length := by
  have := (stTake_le 1 s).2
  unfold stBool
  split
  · exact this
  · split
    · simp [stFail]
    · exact this
theorem stFrac_le (s : St) (h : s.1.length ≤ 1048576) : (stFrac s).2.1.length ≤ s.1.length := by
  have h1 := stWhole_le s (by omega)
  have h2 := stCount_le 4611686018427387904 (stWhole s).2 (by omega)
  have h3 := stNat_le (stCount 4611686018427387904 (stWhole s).2).1 (stCount 4611686018427387904 (stWhole s).2).2
  unfold stFrac
  simp only []
  split
  · simp only []; omega
  · split
    · simp [stFail]
    · simp only []; omega
/-- both readers, in the same state -/
structure Duo (w : World) (r Br p Bp B0 : Nat) (s : St) : Prop where
  isr : IsR w r Br s
  isp : IsP w p Bp s
  good : Good s
  ne : r ≠ p
  lr : B0 ≤ r
  lp : B0 ≤ p
  len : s.1.length ≤ 1048576
theorem Duo.below {w w' : World} {r Br p Bp B0 : Nat} {s : St} (h : Duo w r Br p Bp B0 s) (hb : Below w.heap.size w w') : Duo w' r Br p Bp B0 s :=
  ⟨h.isr.below hb, h.isp.below hb, h.good, h.ne, h.lr, h.lp, h.len⟩
theorem Duo.mid {w w' : World} {r Br p Bp B0 : Nat} {s : St} (h : Duo w r Br p Bp B0 s) (hx : Exc r w w') : IsP w' p Bp s := h.isp.excR h.isr hx (Ne.symm h.ne)
theorem Duo.done {w w1 w2 : World} {r Br p Bp B0 : Nat} {s s' : St} (h : Duo w r Br p Bp B0 s) (hx : Exc r w w1) (hR : IsR w1 r Br s') (hx2 : Exc p w1 w2) (hP : IsP w2 p Bp s') (hg : Good s') (hl : s'.1.length ≤ s.1.length) : Duo w2 r Br p Bp B0 s' ∧ Below B0 w w2 := by
  have hr := h.isr.lt
  have h1 := h.lr
  have h2 := h.lp
  have h3 := hx.size
  refine ⟨⟨hR.excP (h.mid hx) hx2 h.ne, hP, hg, h.ne, h.lr, h.lp, Nat.le_trans hl h.len⟩, ?_⟩
  exact (hx.below (by omega) h1).trans (hx2.below (by omega) h2)
/-- both have read the same -/
def TakeP (r Br p Bp B0 : Nat) (w : World) (e : Ending) (w' : World) : Prop := e = .returned (.bool true) ∧ (∃ s', Duo w' r Br p Bp B0 s') ∧ Below B0 w w'
theorem Duo.fin {W w w1 w2 : World} {r Br p Bp B0 : Nat} {s s' : St} (h : Duo W r Br p Bp B0 s) (hB : Below w.heap.size w W) (h0 : B0 ≤ w.heap.size) (hx : Exc r W w1) (hR : IsR w1 r Br s') (hx2 : Exc p w1 w2) (hP : IsP w2 p Bp s') (hg : Good s') (hl : s'.1.length ≤ s.1.length) {v : Value} (hv : v = .bool true) : TakeP r Br p Bp B0 w (.returned v) w2 := by
  obtain ⟨h1, h2⟩ := h.done hx hR hx2 hP hg hl
  exact ⟨by rw [hv], ⟨_, h1⟩, (hB.mono h0).trans h2⟩
/-- take's head: up to the read -/
theorem most_of (n : Int) (neg : Bool) : ∃ most : Int, 0 ≤ most ∧ ((neg = true ∧ most = 4611686018427387904) ∨ (neg = false ∧ most = n % 1000)) := by
  cases neg with
  | true => exact ⟨_, by omega, .inl ⟨rfl, rfl⟩⟩
  | false => exact ⟨_, Int.emod_nonneg _ (by omega), .inr ⟨rfl, rfl⟩⟩
set_option maxRecDepth 100000 in
set_option maxHeartbeats 1000000 in
theorem take_count (r Br p Bp B0 : Nat) (what n : Int) (A1 A2 : Option Addr) (na ca nb cb : Nat) (neg : Bool) (sx : ByteArray) (s : St) (w : World) (hd : Duo w r Br p Bp B0 s) (hw0 : -9223372036854775808 ≤ what) (hw1 : what ≤ 9223372036854775807) (hn0 : -9223372036854775808 ≤ n) (hn1 : n ≤ 9223372036854775807) (hk : what % 5 = 0) :
    Calls Tryz.prog 18 #[.pointer (some ⟨r, 0, none⟩), .pointer (some ⟨p, 0, none⟩), .agg #[.int .i64 what, .int .i64 n, .slice A1 na ca, .slice A2 nb cb, .bool neg, .string sx]] w (TakeP r Br p Bp B0 w) := by
  have hpk := fun w => hand_pick what 5 w hw0 hw1 (by omega) (by omega)
  have e5 : what % ((5 : Nat) : Int) = 0 := hk
  rw [e5] at hpk
  have hpm := fun w => hand_pick n 1000 w hn0 hn1 (by omega) (by omega)
  have e6 : n % ((1000 : Nat) : Int) = n % 1000 := rfl
  rw [e6] at hpm
  obtain ⟨most, hm0, hmc⟩ := most_of n neg
  generalize n % 1000 = m0 at *
  have HPK := Lib.hid hpk
  have HPM := Lib.hid hpm
  have hB0 : B0 ≤ w.heap.size := Nat.le_trans hd.lr (Nat.le_of_lt hd.isr.lt)
  have b0 := Blk.new w 24 #[.int .i64 what, .int .i64 n, .slice A1 na ca, .slice A2 nb cb, .bool neg, .string sx]
  have hB := balloc1 w (.cells #[.int .i64 what, .int .i64 n, .slice A1 na ca, .slice A2 nb cb, .bool neg, .string sx] 24)
  have HD := Lib.hid (hd.below hB)
  have hlen := hd.len
  clear hpk hpm e5 e6 hd hk
  rcases hmc with ⟨hneg, rfl⟩ | ⟨hneg, rfl⟩
  all_goals
    have HNEG := Lib.hid hneg
    clear hneg
    go_enter Tryz.func18, Tryz.ntmps18
    go_wp2_with fail
    generalize w.alloc (.cells #[.int .i64 what, .int .i64 n, .slice A1 na ca, .slice A2 nb cb, .bool neg, .string sx] 24) = W at *
    have hneg := HNEG.out
    obtain ⟨q0, q1, q2, q3, q4, q5⟩ := b0.c6
    refine (HPM.out W).mono ?_
    rintro e w1 ⟨rfl, rfl⟩
    go_wp2_with fail
    refine (HPK.out W).mono ?_
    rintro e w1 ⟨rfl, rfl⟩
    clear HPK HPM q0 q1 q2 q3 q4 q5
    go_wp2_with fail
    refine (reader_count r Br _ s W HD.out.isr (by omega)).mono ?_
    rintro e w2 ⟨rfl, hR2, hx2⟩
    have hP2 := HD.out.mid hx2
    go_wp2_with fail
    refine (rr_Count p Bp _ s w2 hP2 HD.out.good hm0).mono ?_
    rintro e w3 ⟨rfl, hP3, hx3⟩
    have HF := Lib.hid (HD.out.fin hB hB0 hx2 hR2 hx3 hP3 (stCount_good _ HD.out.good) ((stCount_le _ s (by omega)).2) rfl)
    clear hP2 hR2 hP3
    go_wp2
    go_ret
    exact HF.out
set_option maxRecDepth 100000 in
set_option maxHeartbeats 1000000 in
theorem take_text (r Br p Bp B0 : Nat) (what n : Int) (A1 A2 : Option Addr) (na ca nb cb : Nat) (neg : Bool) (sx : ByteArray) (s : St) (w : World) (hd : Duo w r Br p Bp B0 s) (hw0 : -9223372036854775808 ≤ what) (hw1 : what ≤ 9223372036854775807) (hn0 : -9223372036854775808 ≤ n) (hn1 : n ≤ 9223372036854775807) (hk : what % 5 = 3) :
    Calls Tryz.prog 18 #[.pointer (some ⟨r, 0, none⟩), .pointer (some ⟨p, 0, none⟩), .agg #[.int .i64 what, .int .i64 n, .slice A1 na ca, .slice A2 nb cb, .bool neg, .string sx]] w (TakeP r Br p Bp B0 w) := by
  have hpk := fun w => hand_pick what 5 w hw0 hw1 (by omega) (by omega)
  have e5 : what % ((5 : Nat) : Int) = 3 := hk
  rw [e5] at hpk
  have hpm := fun w => hand_pick n 1000 w hn0 hn1 (by omega) (by omega)
  have e6 : n % ((1000 : Nat) : Int) = n % 1000 := rfl
  rw [e6] at hpm
  obtain ⟨most, hm0, hmc⟩ := most_of n neg
  generalize n % 1000 = m0 at *
  have HPK := Lib.hid hpk
  have HPM := Lib.hid hpm
  have hB0 : B0 ≤ w.heap.size := Nat.le_trans hd.lr (Nat.le_of_lt hd.isr.lt)
  have b0 := Blk.new w 24 #[.int .i64 what, .int .i64 n, .slice A1 na ca, .slice A2 nb cb, .bool neg, .string sx]
  have hB := balloc1 w (.cells #[.int .i64 what, .int .i64 n, .slice A1 na ca, .slice A2 nb cb, .bool neg, .string sx] 24)
  have HD := Lib.hid (hd.below hB)
  have hlen := hd.len
  clear hpk hpm e5 e6 hd hk
  rcases hmc with ⟨hneg, rfl⟩ | ⟨hneg, rfl⟩
  all_goals
    have HNEG := Lib.hid hneg
    clear hneg
    go_enter Tryz.func18, Tryz.ntmps18
    go_wp2_with fail
    generalize w.alloc (.cells #[.int .i64 what, .int .i64 n, .slice A1 na ca, .slice A2 nb cb, .bool neg, .string sx] 24) = W at *
    have hneg := HNEG.out
    obtain ⟨q0, q1, q2, q3, q4, q5⟩ := b0.c6
    refine (HPM.out W).mono ?_
    rintro e w1 ⟨rfl, rfl⟩
    go_wp2_with fail
    refine (HPK.out W).mono ?_
    rintro e w1 ⟨rfl, rfl⟩
    clear HPK HPM q0 q1 q2 q3 q4 q5
    go_wp2_with fail
    refine (reader_text r Br _ s W HD.out.isr (by omega)).mono ?_
    rintro e w2 ⟨rfl, hR2, hx2⟩
    have hP2 := HD.out.mid hx2
    go_wp2_with fail
    refine (rr_text p Bp _ s w2 hP2 HD.out.good hm0 (by omega)).mono ?_
    rintro e w3 ⟨rfl, hP3, hx3⟩
    have HF := Lib.hid (HD.out.fin hB hB0 hx2 hR2 hx3 hP3 (stText_good _ s) (stText_le _ s (by omega)) rfl)
    clear hP2 hR2 hP3
    go_wp2
    go_ret
    exact HF.out
set_option maxRecDepth 100000 in
set_option maxHeartbeats 1000000 in
theorem take_bool (r Br p Bp B0 : Nat) (what n : Int) (A1 A2 : Option Addr) (na ca nb cb : Nat) (neg : Bool) (sx : ByteArray) (s : St) (w : World) (hd : Duo w r Br p Bp B0 s) (hw0 : -9223372036854775808 ≤ what) (hw1 : what ≤ 9223372036854775807) (hn0 : -9223372036854775808 ≤ n) (hn1 : n ≤ 9223372036854775807) (hk : what % 5 = 4) :
    Calls Tryz.prog 18 #[.pointer (some ⟨r, 0, none⟩), .pointer (some ⟨p, 0, none⟩), .agg #[.int .i64 what, .int .i64 n, .slice A1 na ca, .slice A2 nb cb, .bool neg, .string sx]] w (TakeP r Br p Bp B0 w) := by
  have hpk := fun w => hand_pick what 5 w hw0 hw1 (by omega) (by omega)
  have e5 : what % ((5 : Nat) : Int) = 4 := hk
  rw [e5] at hpk
  have hpm := fun w => hand_pick n 1000 w hn0 hn1 (by omega) (by omega)
  have e6 : n % ((1000 : Nat) : Int) = n % 1000 := rfl
  rw [e6] at hpm
  obtain ⟨most, hm0, hmc⟩ := most_of n neg
  generalize n % 1000 = m0 at *
  have HPK := Lib.hid hpk
  have HPM := Lib.hid hpm
  have hB0 : B0 ≤ w.heap.size := Nat.le_trans hd.lr (Nat.le_of_lt hd.isr.lt)
  have b0 := Blk.new w 24 #[.int .i64 what, .int .i64 n, .slice A1 na ca, .slice A2 nb cb, .bool neg, .string sx]
  have hB := balloc1 w (.cells #[.int .i64 what, .int .i64 n, .slice A1 na ca, .slice A2 nb cb, .bool neg, .string sx] 24)
  have HD := Lib.hid (hd.below hB)
  have hlen := hd.len
  clear hpk hpm e5 e6 hd hk
  rcases hmc with ⟨hneg, rfl⟩ | ⟨hneg, rfl⟩
  all_goals
    have HNEG := Lib.hid hneg
    clear hneg
    go_enter Tryz.func18, Tryz.ntmps18
    go_wp2_with fail
    generalize w.alloc (.cells #[.int .i64 what, .int .i64 n, .slice A1 na ca, .slice A2 nb cb, .bool neg, .string sx] 24) = W at *
    have hneg := HNEG.out
    obtain ⟨q0, q1, q2, q3, q4, q5⟩ := b0.c6
    refine (HPM.out W).mono ?_
    rintro e w1 ⟨rfl, rfl⟩
    go_wp2_with fail
    refine (HPK.out W).mono ?_
    rintro e w1 ⟨rfl, rfl⟩
    clear HPK HPM q0 q1 q2 q3 q4 q5
    go_wp2_with fail
    refine (reader_bool r Br s W HD.out.isr).mono ?_
    rintro e w2 ⟨rfl, hR2, hx2⟩
    have hP2 := HD.out.mid hx2
    go_wp2_with fail
    refine (rr_bool p Bp s w2 hP2).mono ?_
    rintro e w3 ⟨rfl, hP3, hx3⟩
    have HF := Lib.hid (HD.out.fin hB hB0 hx2 hR2 hx3 hP3 (stBool_good s) (stBool_le s) rfl)
    clear hP2 hR2 hP3
    go_wp2
    go_ret
    exact HF.out
set_option maxRecDepth 100000 in
set_option maxHeartbeats 1000000 in
theorem take_whole (r Br p Bp B0 : Nat) (what n : Int) (A1 A2 : Option Addr) (na ca nb cb : Nat) (neg : Bool) (sx : ByteArray) (s : St) (w : World) (hd : Duo w r Br p Bp B0 s) (hw0 : -9223372036854775808 ≤ what) (hw1 : what ≤ 9223372036854775807) (hn0 : -9223372036854775808 ≤ n) (hn1 : n ≤ 9223372036854775807) (hk : what % 5 = 1) :
    Calls Tryz.prog 18 #[.pointer (some ⟨r, 0, none⟩), .pointer (some ⟨p, 0, none⟩), .agg #[.int .i64 what, .int .i64 n, .slice A1 na ca, .slice A2 nb cb, .bool neg, .string sx]] w (TakeP r Br p Bp B0 w) := by
  have hpk := fun w => hand_pick what 5 w hw0 hw1 (by omega) (by omega)
  have e5 : what % ((5 : Nat) : Int) = 1 := hk
  rw [e5] at hpk
  have hpm := fun w => hand_pick n 1000 w hn0 hn1 (by omega) (by omega)
  have e6 : n % ((1000 : Nat) : Int) = n % 1000 := rfl
  rw [e6] at hpm
  obtain ⟨most, hm0, hmc⟩ := most_of n neg
  generalize n % 1000 = m0 at *
  have HPK := Lib.hid hpk
  have HPM := Lib.hid hpm
  have hB0 : B0 ≤ w.heap.size := Nat.le_trans hd.lr (Nat.le_of_lt hd.isr.lt)
  have b0 := Blk.new w 24 #[.int .i64 what, .int .i64 n, .slice A1 na ca, .slice A2 nb cb, .bool neg, .string sx]
  have hB := balloc1 w (.cells #[.int .i64 what, .int .i64 n, .slice A1 na ca, .slice A2 nb cb, .bool neg, .string sx] 24)
  have HD := Lib.hid (hd.below hB)
  have hlen := hd.len
  clear hpk hpm e5 e6 hd hk
  rcases hmc with ⟨hneg, rfl⟩ | ⟨hneg, rfl⟩
  all_goals
    have HNEG := Lib.hid hneg
    clear hneg
    go_enter Tryz.func18, Tryz.ntmps18
    go_wp2_with fail
    generalize w.alloc (.cells #[.int .i64 what, .int .i64 n, .slice A1 na ca, .slice A2 nb cb, .bool neg, .string sx] 24) = W at *
    have hneg := HNEG.out
    obtain ⟨q0, q1, q2, q3, q4, q5⟩ := b0.c6
    refine (HPM.out W).mono ?_
    rintro e w1 ⟨rfl, rfl⟩
    go_wp2_with fail
    refine (HPK.out W).mono ?_
    rintro e w1 ⟨rfl, rfl⟩
    clear HPK HPM q0 q1 q2 q3 q4 q5
    have hsz := (stWhole_le s (by omega)).1
    have hsl := (stWhole_le s (by omega)).2
    have hsg := stWhole_good s
    have hr1 := reader_whole r Br s W HD.out.isr (by omega)
    have hr2 := fun w h => rr_whole p Bp s w h HD.out.good (by omega)
    generalize stWhole s = zs at *
    obtain ⟨z, s1⟩ := zs
    simp only [] at hr1 hr2 hsz hsl hsg
    have hcz := fun w V V' h1 h2 => ref_intCmp z z _ V V' w h1 h2 (Nat.le_refl _) (by omega) (by omega)
    rw [Int.sub_self, Int.sign_zero] at hcz
    have HR1 := Lib.hid hr1
    have HR2 := Lib.hid hr2
    have HOI := Lib.hid (fun w => hand_outInt z w (by omega))
    have HCZ := Lib.hid hcz
    have HSG := Lib.hid (And.intro hsg hsl)
    clear hr1 hr2 hcz hsg hsl hsz
    go_wp2_with fail
    refine HR1.out.mono ?_
    rintro e w2 ⟨rfl, hR2, hx2⟩
    clear HR1
    go_wp2_with fail
    refine (HOI.out w2).mono ?_
    rintro e w3 ⟨V3, rfl, hV3, hb3⟩
    obtain ⟨g3, A3, l3, c3, rfl⟩ := hV3.shape
    have hR3 := hR2.below hb3
    have hx3 := hx2.trans (Exc.of hb3)
    have hP3 := HD.out.mid hx3
    clear HOI hR2 hx2
    go_wp2_with fail
    refine (HR2.out w3 hP3).mono ?_
    rintro e w4 ⟨V4, rfl, hV4, hP4, hx4⟩
    obtain ⟨g4, A4, l4, c4, rfl⟩ := hV4.shape
    have hV3 := hV3.exc hP3 hx4
    clear HR2
    have HC := Lib.hid (HCZ.out w4 _ _ hV3 hV4)
    clear HCZ hV3 hV4
    go_wp2_with fail
    refine HC.out.mono ?_
    rintro e w5 ⟨rfl, hb5⟩
    have HF := Lib.hid (HD.out.fin hB hB0 hx3 hR3 (hx4.trans (Exc.of hb5)) (hP4.below hb5) HSG.out.1 HSG.out.2 rfl)
    clear hP3 hR3 hP4 HC
    go_wp2
    go_ret
    exact HF.out
set_option maxRecDepth 100000 in
set_option maxHeartbeats 1000000 in
theorem take_frac (r Br p Bp B0 : Nat) (what n : Int) (A1 A2 : Option Addr) (na ca nb cb : Nat) (neg : Bool) (sx : ByteArray) (s : St) (w : World) (hd : Duo w r Br p Bp B0 s) (hw0 : -9223372036854775808 ≤ what) (hw1 : what ≤ 9223372036854775807) (hn0 : -9223372036854775808 ≤ n) (hn1 : n ≤ 9223372036854775807) (hT : Tab w) (hTr : 3 ≠ r) (hk : what % 5 = 2) :
    Calls Tryz.prog 18 #[.pointer (some ⟨r, 0, none⟩), .pointer (some ⟨p, 0, none⟩), .agg #[.int .i64 what, .int .i64 n, .slice A1 na ca, .slice A2 nb cb, .bool neg, .string sx]] w (TakeP r Br p Bp B0 w) := by
  have hpk := fun w => hand_pick what 5 w hw0 hw1 (by omega) (by omega)
  have e5 : what % ((5 : Nat) : Int) = 2 := hk
  rw [e5] at hpk
  have hpm := fun w => hand_pick n 1000 w hn0 hn1 (by omega) (by omega)
  have e6 : n % ((1000 : Nat) : Int) = n % 1000 := rfl
  rw [e6] at hpm
  obtain ⟨most, hm0, hmc⟩ := most_of n neg
  generalize n % 1000 = m0 at *
  have HPK := Lib.hid hpk
  have HPM := Lib.hid hpm
  have hB0 : B0 ≤ w.heap.size := Nat.le_trans hd.lr (Nat.le_of_lt hd.isr.lt)
  have b0 := Blk.new w 24 #[.int .i64 what, .int .i64 n, .slice A1 na ca, .slice A2 nb cb, .bool neg, .string sx]
  have hB := balloc1 w (.cells #[.int .i64 what, .int .i64 n, .slice A1 na ca, .slice A2 nb cb, .bool neg, .string sx] 24)
  have HD := Lib.hid (hd.below hB)
  have hlen := hd.len
  have HT := Lib.hid (hT.next hB)
  clear hT
  clear hpk hpm e5 e6 hd hk
  rcases hmc with ⟨hneg, rfl⟩ | ⟨hneg, rfl⟩
  all_goals
    have HNEG := Lib.hid hneg
    clear hneg
    go_enter Tryz.func18, Tryz.ntmps18
    go_wp2_with fail
    generalize w.alloc (.cells #[.int .i64 what, .int .i64 n, .slice A1 na ca, .slice A2 nb cb, .bool neg, .string sx] 24) = W at *
    have hneg := HNEG.out
    obtain ⟨q0, q1, q2, q3, q4, q5⟩ := b0.c6
    refine (HPM.out W).mono ?_
    rintro e w1 ⟨rfl, rfl⟩
    go_wp2_with fail
    refine (HPK.out W).mono ?_
    rintro e w1 ⟨rfl, rfl⟩
    clear HPK HPM q0 q1 q2 q3 q4 q5
    have hsz := stFrac_size s hlen
    have hsl := stFrac_le s hlen
    have hsg := stFrac_good s
    have hr1 := reader_frac r Br s W HD.out.isr hlen HT.out hTr
    have hr2 := fun w h => rr_frac p Bp s w h HD.out.good hlen
    generalize stFrac s = zs at *
    obtain ⟨z, s1⟩ := zs
    simp only [] at hr1 hr2 hsz hsl hsg
    have hsm := fun w V h => hand_same z _ V w h (Nat.le_refl _) hsz
    unfold qV at hr1 hsm
    have HSM := Lib.hid hsm
    have HR1 := Lib.hid hr1
    have HR2 := Lib.hid hr2
    have HSG := Lib.hid (And.intro hsg hsl)
    clear hr1 hr2 hsg hsl hsz HT hsm
    go_wp2_with fail
    refine HR1.out.mono ?_
    rintro e w2 ⟨rfl, hR2, hx2⟩
    have hP2 := HD.out.mid hx2
    clear HR1
    go_wp2_with fail
    refine (HR2.out w2 hP2).mono ?_
    rintro e w3 ⟨V3, rfl, hV3, hP3, hx3⟩
    obtain ⟨g3, A3, l3, c3, A3', l3', c3', rfl⟩ := hV3.shape
    have HS := Lib.hid (HSM.out w3 _ hV3)
    clear HSM HR2 hV3
    go_wp2_with fail
    refine HS.out.mono ?_
    rintro e w4 ⟨rfl, hb4⟩
    have HF := Lib.hid (HD.out.fin hB hB0 hx2 hR2 (hx3.trans (Exc.of hb4)) (hP3.below hb4) HSG.out.1 HSG.out.2 rfl)
    clear hP3 hR2 hP2 HS
    go_wp2
    go_ret
    exact HF.out
/-- one read by both -/
theorem take_step (r Br p Bp B0 : Nat) (what n : Int) (A1 A2 : Option Addr) (na ca nb cb : Nat) (neg : Bool) (sx : ByteArray) (s : St) (w : World) (hd : Duo w r Br p Bp B0 s) (hw0 : -9223372036854775808 ≤ what) (hw1 : what ≤ 9223372036854775807) (hn0 : -9223372036854775808 ≤ n) (hn1 : n ≤ 9223372036854775807) (hT : Tab w) (hTr : 3 ≠ r) :
    Calls Tryz.prog 18 #[.pointer (some ⟨r, 0, none⟩), .pointer (some ⟨p, 0, none⟩), .agg #[.int .i64 what, .int .i64 n, .slice A1 na ca, .slice A2 nb cb, .bool neg, .string sx]] w (TakeP r Br p Bp B0 w) := by
  have h5 : what % 5 = 0 ∨ what % 5 = 1 ∨ what % 5 = 2 ∨ what % 5 = 3 ∨ what % 5 = 4 := by omega
  rcases h5 with h | h | h | h | h
  · exact take_count r Br p Bp B0 what n A1 A2 na ca nb cb neg sx s w hd hw0 hw1 hn0 hn1 h
  · exact take_whole r Br p Bp B0 what n A1 A2 na ca nb cb neg sx s w hd hw0 hw1 hn0 hn1 h
  · exact take_frac r Br p Bp B0 what n A1 A2 na ca nb cb neg sx s w hd hw0 hw1 hn0 hn1 hT hTr h
  · exact take_text r Br p Bp B0 what n A1 A2 na ca nb cb neg sx s w hd hw0 hw1 hn0 hn1 h
  · exact take_bool r Br p Bp B0 what n A1 A2 na ca nb cb neg sx s w hd hw0 hw1 hn0 hn1 h
end Go.Proofs.YtjmbpnogicdkgaaGreatDoor
