/-
  The document's Reader: fail, raw, count, Count, nat.
  The document's Reader: Count, nat, Text, Bool.
  The document's Reader: Whole.
  The document's Reader: Frac.
-/
import Derived.Test.YtjmbpnogicdkgaaGreatDoorReader
import Derived.Test.YtjmbpnogicdkgaaGreatDoorRefInt
import Derived.Test.YtjmbpnogicdkgaaGreatDoorReaderD
import Derived.Test.YtjmbpnogicdkgaaGreatDoorRefQ
/-! The document's Reader: fail, raw, count, Count, nat. -/
namespace Go.Proofs.YtjmbpnogicdkgaaGreatDoor
open Go.RowKit
set_option linter.unusedSimpArgs false
set_option linter.unusedVariables false

/-- block b is a Reader of the document in the state s; its bytes lie below block B -/
def IsP (w : World) (b B : Nat) (s : St) : Prop :=
  ∃ A n c, Blk w b 48 #[.slice A n c, .bool s.2] ∧ Bytes w B A n s.1 ∧ B ≤ w.heap.size ∧ (∀ ad, A = some ad → ad.block ≠ b) ∧ n ≤ c ∧ c ≤ 9223372036854775807
theorem IsP.lt {w : World} {b B : Nat} {s : St} (h : IsP w b B s) : b < w.heap.size := by
  obtain ⟨A, n, c, h1, _⟩ := h
  exact h1.lt
theorem IsP.low {w : World} {b B : Nat} {s : St} (h : IsP w b B s) : B ≤ w.heap.size := by
  obtain ⟨A, n, c, h1, h2, h3, _⟩ := h
  exact h3
theorem IsP.below {w w' : World} {b B : Nat} {s : St} (h : IsP w b B s) (hb : Below w.heap.size w w') : IsP w' b B s := by
  obtain ⟨A, n, c, h1, h2, h3, h4, h5⟩ := h
  exact ⟨A, n, c, h1.below hb h1.lt, Reads.below h2 (hb.mono h3), Nat.le_trans h3 hb.size, h4, h5⟩
theorem IsP.set_ {w : World} {b B g i : Nat} {s : St} (h : IsP w b B s) (hg : B ≤ g) (hb : b ≠ g) (u : Value) : IsP (w.setCell ⟨g, i, none⟩ u) b B s := by
  obtain ⟨A, n, c, h1, h2, h3, h4, h5⟩ := h
  exact ⟨A, n, c, h1.far hb u, Reads.setCell h2 hg u, by rw [World.size_setCell]; exact h3, h4, h5⟩
/-- a value that was read of the document's Reader in block b, and its state -/
def GotP (b B : Nat) (v : Value) (s : St) (w : World) (e : Ending) (w' : World) : Prop := e = .returned v ∧ IsP w' b B s ∧ Exc b w w'
theorem rr_fail (b B : Nat) (s : St) (w : World) (h : IsP w b B s) : Calls Tryz.prog 118 #[.pointer (some ⟨b, 0, none⟩)] w fun e w' => e = .returned (.tuple #[]) ∧ IsP w' b B stFail ∧ Exc b w w' := by
  obtain ⟨A, n, c, h1, h2, hB, h3, h4, h5⟩ := h
  obtain ⟨h1q0, h1q1, h1f0, h1f1, h1s0, h1s1⟩ := h1.f2
  go_enter Tryz.func118, Tryz.ntmps118
  go_wp2
  go_end0
  refine ⟨rfl, ⟨none, 0, 0, ?_, Reads.none_, by simpa using hB, (fun ad he => by cases he), by omega, by omega⟩, ((Exc.refl b w).set_ 1 _).set_ 0 _⟩
  have := (h1.set_ 1 (.bool true)).set_ 0 (.slice none 0 0)
  show Blk _ _ _ #[.slice none 0 0, .bool true]
  simpa using this
/-- bytes that were taken of the document's Reader in block b, and its state -/
def TookP (b B : Nat) (l : List UInt8) (s : St) (w : World) (e : Ending) (w' : World) : Prop :=
  ∃ A c, e = .returned (.slice A l.length c) ∧ Bytes w' B A l.length l ∧ (∀ ad, A = some ad → ad.block ≠ b) ∧ IsP w' b B s ∧ Exc b w w' ∧ l.length ≤ c
set_option maxHeartbeats 400000 in
theorem rr_raw (b B n : Nat) (s : St) (w : World) (h : IsP w b B s) (hn : n ≤ 9223372036854775807) : Calls Tryz.prog 123 #[.pointer (some ⟨b, 0, none⟩), .int .i64 (n : Int)] w fun e w' =>
    TookP b B (stTake n s).1 (stTake n s).2 w e w' := by
  obtain ⟨bs, bad⟩ := s
  have h0 := h
  obtain ⟨A, m, c, h1, h2, hB, h3, h4, h5⟩ := h
  simp only [] at h1 h2
  have hl := h2.len
  obtain ⟨h1q0, h1q1, h1f0, h1f1, h1s0, h1s1⟩ := h1.f2
  by_cases hb : bad = true
  · subst hb
    have e : stTake n (bs, true) = ([], stFail) := by simp [stTake]
    rw [e]
    go_enter Tryz.func123, Tryz.ntmps123
    go_wp2_with fail
    refine (rr_fail b B _ w h0).mono ?_
    rintro e w1 ⟨rfl, h6, h7⟩
    go_wp2
    go_ret
    exact ⟨none, 0, rfl, Reads.none_, (fun ad he => by cases he), h6, h7, by simp⟩
  · obtain rfl : bad = false := by simpa using hb
    by_cases hlt : m < n
    · have e : stTake n (bs, false) = ([], stFail) := by simp [stTake, hl, hlt]
      rw [e]
      have hlt2 : (m : Int) < (n : Int) := by omega
      clear hl
      go_enter Tryz.func123, Tryz.ntmps123
      go_wp2_with fail
      refine (rr_fail b B _ w h0).mono ?_
      rintro e w1 ⟨rfl, h6, h7⟩
      go_wp2
      go_ret
      exact ⟨none, 0, rfl, Reads.none_, (fun ad he => by cases he), h6, h7, by simp⟩
    · have e : stTake n (bs, false) = (bs.take n, (bs.drop n, false)) := by simp [stTake, hl, hlt]
      rw [e]
      have hlt2 : ¬ (m : Int) < (n : Int) := by omega
      have hs1 : ∀ w, (Instr.slice 22 (.slice A m c) none (some (.int .i64 (n : Int))) none).run Tryz.prog w = .ok (.slice A n c) w := fun w => by
        have := run_front (P := Tryz.prog) Tryz.underlying22 Tryz.infoU8 A m c .i64 (n : Int) (by omega) (by omega) w
        simpa using this
      have hs2 : ∀ w, (Instr.slice 22 (.slice A m c) (some (.int .i64 (n : Int))) none none).run Tryz.prog w = .ok (.slice (cutA A c n 1) (m - n) (c - n)) w := fun w => by
        have := run_cut (P := Tryz.prog) Tryz.underlying22 Tryz.infoU8 A m c .i64 (n : Int) (by omega) (by omega) w
        simpa using this
      have hrt := Reads.front h2 (k := n) (by omega)
      rw [Nat.mul_one, ← List.map_take] at hrt
      have hrd := Reads.part h2 c n (m - n) (by omega) (by omega)
      rw [Nat.mul_one, Nat.mul_one, ← List.map_drop, List.take_of_length_le (by simp; omega)] at hrd
      have hex := (Exc.refl b w).set_ 0 (.slice (cutA A c n 1) (m - n) (c - n))
      have hbk := h1.set_ 0 (.slice (cutA A c n 1) (m - n) (c - n))
      have hlen : (bs.take n).length = n := by rw [List.length_take]; omega
      have HL := Lib.hid (And.intro hl hlen)
      clear hl hlen
      go_enter Tryz.func123, Tryz.ntmps123
      go_wp2
      go_ret
      unfold TookP
      simp only []
      rw [HL.out.2]
      refine ⟨A, c, rfl, ?_, h3, ⟨cutA A c n 1, m - n, c - n, by simpa using hbk, ?_, by simpa using hB, cutA_ne h3, by omega, by omega⟩, hex, by omega⟩
      · exact Reads.exc hrt hex hB h3
      · exact Reads.exc hrd hex hB (cutA_ne h3)
/-- count, whatever the greatest -/
def stCnt (s : St) : Nat × St := if s.2 then (0, stFail) else stCount 9223372036854775807 s
theorem readC_lead {bs : List UInt8} {i : Nat} {x : UInt8} (hi : ∀ (j : Nat) (y : UInt8), j < i → bs[j]? = some y → 128 ≤ y.toNat) (hl : i < bs.length) (hx : bs[i]? = some x) (h : x.toNat < 128) : lead bs = i := by
  induction bs generalizing i with
  | nil => simp at hl
  | cons b r ih =>
    cases i with
    | zero =>
      simp at hx
      subst hx
      simp only [lead]
      rw [if_neg (by omega)]
    | succ i =>
      have h0 := hi 0 b (by omega) rfl
      simp only [lead]
      rw [if_pos h0]
      congr 1
      exact ih (i := i) (fun j y hj hy => hi (j + 1) y (by omega) (by simpa using hy)) (by simp at hl; omega) (by simpa using hx)
theorem readC_all {bs : List UInt8} (hi : ∀ (j : Nat) (y : UInt8), bs[j]? = some y → 128 ≤ y.toNat) : lead bs = bs.length := by
  induction bs with
  | nil => rfl
  | cons b r ih =>
    simp only [lead]
    rw [if_pos (hi 0 b rfl), ih (fun j y hy => hi (j + 1) y (by simpa using hy)), List.length_cons]
theorem lead_ge {bs : List UInt8} {i : Nat} (hi : ∀ (j : Nat) (y : UInt8), j < i → bs[j]? = some y → 128 ≤ y.toNat) (hl : i ≤ bs.length) : i ≤ lead bs := by
  induction bs generalizing i with
  | nil => simp at hl; omega
  | cons b r ih =>
    cases i with
    | zero => omega
    | succ i =>
      have h0 := hi 0 b (by omega) rfl
      simp only [lead]
      rw [if_pos h0]
      have := ih (i := i) (fun j y hj hy => hi (j + 1) y (by omega) (by simpa using hy)) (by simp at hl; omega)
      omega
/-- what count finds when its i-th byte is not there, is a 0 behind others, or is the tenth -/
theorem stCnt_short {bs : List UInt8} (hi : ∀ (j : Nat) (y : UInt8), bs[j]? = some y → 128 ≤ y.toNat) : stCnt (bs, false) = (0, stFail) := by
  have h := readC_all hi
  have e : (readC bs).2.2 = 3 := by unfold readC; simp only [h, if_true]
  unfold stCnt stCount
  simp [e]
theorem stCnt_zero {bs : List UInt8} {i : Nat} (hi : ∀ (j : Nat) (y : UInt8), j < i → bs[j]? = some y → 128 ≤ y.toNat) (hl : i < bs.length) (hx : bs[i]? = some 0) (h0 : 0 < i) : stCnt (bs, false) = (0, stFail) := by
  have h := readC_lead hi hl hx (by decide)
  have e : (readC bs).2.2 = 2 := by
    unfold readC
    simp only [h]
    rw [if_neg (by omega), if_pos ⟨h0, hx⟩]
  unfold stCnt stCount
  simp [e]
theorem stCnt_long {bs : List UInt8} (hi : ∀ (j : Nat) (y : UInt8), j < 9 → bs[j]? = some y → 128 ≤ y.toNat) (hl : 9 < bs.length) : stCnt (bs, false) = (0, stFail) := by
  have h := lead_ge hi (by omega)
  have e : (readC bs).2.2 ≠ 0 := by
    unfold readC
    simp only []
    split
    · simp
    · split
      · simp
      · rw [if_pos (by omega)]; simp
  unfold stCnt stCount
  simp [e]
theorem stCnt_found {bs : List UInt8} {i : Nat} {x : UInt8} (hi : ∀ (j : Nat) (y : UInt8), j < i → bs[j]? = some y → 128 ≤ y.toNat) (hl : i < bs.length) (hx : bs[i]? = some x) (h : x.toNat < 128) (h9 : i ≤ 8) (h0 : ¬ (0 < i ∧ x = 0)) :
    stCnt (bs, false) = if 4611686018427387904 < valB (bs.take (i + 1)) then (0, stFail) else (valB (bs.take (i + 1)), (bs.drop (i + 1), false)) := by
  have h1 := readC_lead hi hl hx h
  have e : readC bs = if 4611686018427387904 < valB (bs.take (i + 1)) then (0, 0, 4) else (valB (bs.take (i + 1)), i + 1, 0) := by
    unfold readC
    simp only [h1]
    rw [if_neg (by omega), if_neg (by rw [hx]; rintro ⟨g1, g2⟩; exact h0 ⟨g1, Option.some.inj g2⟩), if_neg (by omega)]
  unfold stCnt stCount
  simp only [Bool.false_eq_true, if_false, e]
  by_cases hb : 4611686018427387904 < valB (bs.take (i + 1))
  · rw [if_pos hb, if_pos hb]
    simp
  · rw [if_neg hb, if_neg hb]
    simp only [ne_eq, not_true_eq_false, false_or]
    rw [if_neg (by omega)]
theorem valB_app (l : List UInt8) (x : UInt8) : valB (l ++ [x]) = valB l + x.toNat % 128 * 128 ^ l.length := by
  induction l with
  | nil => simp [valB]
  | cons b r ih =>
    simp only [List.cons_append, valB, ih, List.length_cons, Nat.pow_succ]
    rw [Nat.mul_add, ← Nat.add_assoc]
    congr 1
    rw [Nat.mul_comm 128, Nat.mul_assoc]
theorem or_grp (N d t : Nat) (hN : N < 128 ^ t) (hd : d < 128) (ht : t ≤ 8) : bits .or .u64 (N : Int) (IntKind.u64.wrap ((d : Int) * 2 ^ (7 * t))) = ((N + d * 128 ^ t : Nat) : Int) := by
  have p : (128 : Nat) ^ t = 2 ^ (7 * t) := by rw [Nat.pow_mul]
  have q : (2 : Nat) ^ (7 * t) ≤ 2 ^ 56 := Nat.pow_le_pow_right (by omega) (by omega)
  have r : d * 2 ^ (7 * t) ≤ 127 * 2 ^ 56 := Nat.mul_le_mul (by omega) q
  rw [p] at hN ⊢
  have e := or_u64 N (d * 2 ^ (7 * t)) (by omega) (by omega)
  rw [show (d : Int) * 2 ^ (7 * t) = ((d * 2 ^ (7 * t) : Nat) : Int) from by rw [Int.natCast_mul, Int.natCast_pow]; rfl, wrap_u64_nat, Nat.mod_eq_of_lt (by omega)]
  rw [e, Nat.add_comm N, Nat.mul_comm d, Nat.two_pow_add_eq_or_of_lt hN, Nat.or_comm]
def CntRel (w : World) (b B : Nat) (bs : List UInt8) (bad : Bool) (i : Nat) (wr : World) : Prop :=
  i ≤ bs.length ∧ (bad = true → i = 0) ∧ (∀ (j : Nat) (y : UInt8), j < i → bs[j]? = some y → 128 ≤ y.toNat) ∧ IsP wr b B (bs.drop i, bad) ∧ Exc b w wr
set_option maxRecDepth 100000 in
set_option maxHeartbeats 1000000 in
theorem rr_count (b B : Nat) (s : St) (w : World) (h : IsP w b B s) : Calls Tryz.prog 117 #[.pointer (some ⟨b, 0, none⟩)] w (GotP b B (.int .i64 ((stCnt s).1 : Int)) (stCnt s).2 w) := by
  obtain ⟨bs, bad⟩ := s
  have hres : ∃ res, stCnt (bs, bad) = res := ⟨_, rfl⟩
  obtain ⟨res, hres⟩ := hres
  rw [hres]
  have HRES := Lib.hid hres
  have H := Lib.hid h
  clear hres h
  go_enter Tryz.func117, Tryz.ntmps117
  go_wp2_with fail
  go_loopw [3, 4] (fun v i wr => ∃ k : Nat, k ≤ 9 ∧ i = .int .i64 (k : Int) ∧ v = .int .u64 ((valB (bs.take k) : Nat) : Int) ∧ CntRel w b B bs bad k wr) (fun _ i _ => 10 - (intOf i).toNat)
  case atStart => exact ⟨0, by omega, rfl, rfl, Nat.zero_le _, fun _ => rfl, (fun j y h => by omega), by rw [List.drop_zero]; exact H.out, Exc.refl _ _⟩
  case round =>
    obtain ⟨k, hk, rfl, rfl, hkl, hkb, hall, hP, hx⟩ := hrel
    rename World => wr
    have HALL := Lib.hid hall
    have hraw := rr_raw b B 1 (bs.drop k, bad) wr hP (by omega)
    have k1 : (k : Int) < 10 := by omega
    by_cases hend : bad = true ∨ bs.length = k
    · have e : stTake 1 (bs.drop k, bad) = ([], stFail) := by
        unfold stTake
        rw [if_pos]
        rcases hend with h | h
        · exact .inl h
        · right; simp; omega
      rw [e] at hraw
      have hfin : res = (0, stFail) := by
        rw [← HRES.out]
        rcases hend with h | h
        · subst h; rfl
        · cases bad with
          | true => rfl
          | false => exact stCnt_short (fun j y hy => HALL.out j y (by have := (List.getElem?_eq_some_iff.1 hy).1; omega) hy)
      subst hfin
      have HRAW := Lib.hid hraw
      clear hraw e hall hP hend
      go_wp2_with fail
      refine HRAW.out.mono ?_
      rintro e w1 ⟨A1, c1, rfl, _, _, hP1, hx1, _⟩
      have hP1' := hP1
      obtain ⟨Ar, nr, cr, r1, r2, r3, r4, r5⟩ := hP1'
      have rq1 := r1.cell 1
      simp [stFail] at rq1
      clear r1 r2 r3 r4 r5
      go_wp2_with fail
      refine (rr_fail b B _ w1 hP1).mono ?_
      rintro e w2 ⟨rfl, hP2, hx2⟩
      go_wp2
      go_ret
      exact ⟨rfl, hP2, (hx.trans hx1).trans hx2⟩
    · obtain rfl : bad = false := by
        cases bad with
        | true => exact absurd (.inl rfl) hend
        | false => rfl
      have hlt : k < bs.length := by
        have := fun h => hend (.inr h)
        omega
      obtain ⟨x, hxk⟩ : ∃ x, bs[k]? = some x := ⟨bs[k], by rw [List.getElem?_eq_getElem hlt]⟩
      have edr : bs.drop k = x :: bs.drop (k + 1) := by
        rw [List.drop_eq_getElem_cons hlt]
        congr 1
        have := List.getElem?_eq_getElem hlt
        rw [hxk] at this
        exact (Option.some.inj this).symm
      have e : stTake 1 (bs.drop k, false) = ([x], (bs.drop (k + 1), false)) := by
        rw [edr]
        simp [stTake]
      rw [e] at hraw
      have hx8 := x.toNat_lt
      have HRAW := Lib.hid hraw
      have HK := Lib.hid hlt
      have HXK := Lib.hid hxk
      clear hraw e hall hP hend edr hlt hxk
      go_wp2_with fail
      refine HRAW.out.mono ?_
      rintro e w1 ⟨A1, c1, rfl, hby, hne, hP1, hx1, _⟩
      have hP1' := hP1
      obtain ⟨Ar, nr, cr, r1, r2, r3, r4, r5⟩ := hP1'
      have rq1 := r1.cell 1
      simp at rq1
      clear r1 r2 r3 r4 r5
      simp only [List.length_cons, List.length_nil] at hby ⊢
      obtain ⟨ad, y, hA2, hb2, hy, hcell⟩ := Bytes.at_ hby (k := 0) (by omega)
      simp at hy
      subst hy
      subst hA2
      rw [show ad.add 0 = ad from rfl] at hcell
      clear hby
      by_cases hbadb : (0 < k ∧ x = 0) ∨ k = 9
      · have hfin : res = (0, stFail) := by
          rw [← HRES.out]
          by_cases h9 : k = 9
          · subst h9
            exact stCnt_long HALL.out (by have := HK.out; omega)
          · rcases hbadb with ⟨h0, h1⟩ | h1
            · exact stCnt_zero HALL.out HK.out (by rw [HXK.out, h1]) h0
            · exact absurd h1 h9
        subst hfin
        have hD : (k = 9 ∧ (0 : Int) < (k : Int)) ∨ ((0 : Int) < (k : Int) ∧ ((x.toNat : Int) == 0) = true) := by
          rcases hbadb with ⟨h0, h1⟩ | h1
          · exact .inr ⟨by omega, by subst h1; rfl⟩
          · exact .inl ⟨h1, by omega⟩
        clear hbadb
        have hbb : ((x.toNat : Int) == 0) = true ∨ ((x.toNat : Int) == 0) = false := by cases ((x.toNat : Int) == 0) <;> simp
        rcases hD with ⟨rfl, hD0⟩ | ⟨hD0, hD1⟩
        · rcases hbb with hbb | hbb
          all_goals
            go_wp2_with fail
            refine (rr_fail b B _ w1 hP1).mono ?_
            rintro e w2 ⟨rfl, hP2, hx2⟩
            go_wp2
            go_ret
            exact ⟨rfl, hP2, (hx.trans hx1).trans hx2⟩
        · go_wp2_with fail
          refine (rr_fail b B _ w1 hP1).mono ?_
          rintro e w2 ⟨rfl, hP2, hx2⟩
          go_wp2
          go_ret
          exact ⟨rfl, hP2, (hx.trans hx1).trans hx2⟩
      · have hk8 : k ≤ 8 := by
          have := fun h => hbadb (.inr h)
          omega
        have h00 : ¬ (0 < k ∧ x = 0) := fun h => hbadb (.inl h)
        have hD : (k < 1) ∨ ((0 : Int) < (k : Int) ∧ ((x.toNat : Int) == 0) = false) := by
          by_cases h0 : k < 1
          · exact .inl h0
          · refine .inr ⟨by omega, ?_⟩
            simp
            intro h4
            exact h00 ⟨by omega, UInt8.toNat_inj.1 h4⟩
        have H00 := Lib.hid h00
        clear hbadb h00
        have hv := valB_app (bs.take k) x
        rw [← take_snoc bs k x HXK.out, List.length_take, show min k bs.length = k from by have := HK.out; omega] at hv
        have hvlt := valB_lt (bs.take k)
        rw [List.length_take, show min k bs.length = k from by have := HK.out; omega] at hvlt
        have e2 := or_grp _ (x.toNat % 128) k hvlt (by omega) hk8
        have hvlt2 := valB_lt (bs.take (k + 1))
        rw [List.length_take, show min (k + 1) bs.length = k + 1 from by have := HK.out; omega] at hvlt2
        have hfin2 : valB (bs.take (k + 1)) < 9223372036854775808 := Nat.lt_of_lt_of_le hvlt2 (Nat.le_trans (Nat.pow_le_pow_right (by omega) (show k + 1 ≤ 9 by omega)) (by decide))
        obtain ⟨N, hN⟩ : ∃ N, valB (bs.take k) = N := ⟨_, rfl⟩
        obtain ⟨N', hN'⟩ : ∃ N', valB (bs.take (k + 1)) = N' := ⟨_, rfl⟩
        obtain ⟨d, hdd⟩ : ∃ d, x.toNat % 128 = d := ⟨_, rfl⟩
        have e1 := and_u8_127 x
        have e3 : bits .or .u64 (N : Int) (IntKind.u64.wrap ((d : Int) * 2 ^ (7 * k))) = (N' : Int) := by
          rw [← hN', hv, ← hN, ← hdd]
          exact e2
        rw [hdd] at e1
        have hd : d < 128 := by omega
        rw [hN'] at hfin2
        rw [hN]
        have HN' := Lib.hid hN'
        have HDD := Lib.hid hdd
        have k2 : (0 : Int) ≤ 7 * (k : Int) := by omega
        have k3 : (7 : Int) * (k : Int) ≤ 56 := by omega
        have k9 : ((k : Int) == 9) = false := by simp; omega
        clear hv hvlt e2 hvlt2 hN hN' hdd
        by_cases hlast : x.toNat < 128
        · have hfound := stCnt_found HALL.out HK.out HXK.out hlast hk8 H00.out
          rw [HRES.out, HN'.out] at hfound
          have hlast2 : (x.toNat : Int) < 128 := by omega
          by_cases hbig : 4611686018427387904 < N'
          · rw [if_pos hbig] at hfound
            subst hfound
            have hbig2 : (4611686018427387904 : Int) < (N' : Int) := by omega
            rcases hD with hD0 | ⟨hD0, hD1⟩
            all_goals
              go_wp2_with fail
              refine (rr_fail b B _ w1 hP1).mono ?_
              rintro e w2 ⟨rfl, hP2, hx2⟩
              go_wp2
              go_ret
              exact ⟨rfl, hP2, (hx.trans hx1).trans hx2⟩
          · rw [if_neg hbig] at hfound
            subst hfound
            have hbig2 : ¬ (4611686018427387904 : Int) < (N' : Int) := by omega
            rcases hD with hD0 | ⟨hD0, hD1⟩
            all_goals
              go_wp2
              go_ret
              exact ⟨rfl, hP1, hx.trans hx1⟩
        · have hlast2 : ¬ (x.toNat : Int) < 128 := by omega
          have hall2 : ∀ (j : Nat) (y : UInt8), j < k + 1 → bs[j]? = some y → 128 ≤ y.toNat := by
            intro j y hj hy
            by_cases hjk : j = k
            · subst hjk
              rw [HXK.out] at hy
              have := Option.some.inj hy
              subst this
              omega
            · exact HALL.out j y (by omega) hy
          have HALL2 := Lib.hid hall2
          clear hall2
          have hkb2 := Lib.hid hkb
          clear hkb
          rcases hD with hD0 | ⟨hD0, hD1⟩
          all_goals
            go_wp2
            refine ⟨⟨k + 1, by omega, by go_num, by rw [HN'.out], by have := HK.out; omega, (fun h => by cases h), HALL2.out, hP1, hx.trans hx1⟩, by simp [intOf]; omega⟩
end Go.Proofs.YtjmbpnogicdkgaaGreatDoor

/-! The document's Reader: Count, nat, Text, Bool. -/
namespace Go.Proofs.YtjmbpnogicdkgaaGreatDoor
open Go.RowKit
set_option linter.unusedSimpArgs false
set_option linter.unusedVariables false

/-- a state that is a bad Reader's has no bytes -/
def Good (s : St) : Prop := s.2 = true → s = stFail
theorem good_fail : Good stFail := fun _ => rfl
theorem good_ok (l : List UInt8) : Good (l, false) := fun h => by cases h
theorem stCount_good (most : Int) {s : St} (h : Good s) : Good (stCount most s).2 := by
  unfold stCount
  split
  · exact h
  · split
    · exact good_fail
    · exact good_ok _
theorem stTake_good (n : Nat) (s : St) : Good (stTake n s).2 := by
  unfold stTake
  split
  · exact good_fail
  · exact good_ok _
theorem stNat_good (n : Nat) (s : St) : Good (stNat n s).2 := by
  unfold stNat
  split
  · exact good_fail
  · exact stTake_good n s
theorem stWhole_good (s : St) : Good (stWhole s).2 := by
  unfold stWhole
  simp only []
  split
  · exact good_fail
  · exact stNat_good _ _
theorem stBool_good (s : St) : Good (stBool s).2 := by
  have h := stTake_good 1 s
  unfold stBool
  split
  · exact h
  · split
    · exact good_fail
    · exact h
/-- Count is count, and refuses what is more than most -/
theorem stCount_cnt (most : Int) (h0 : 0 ≤ most) {s : St} (hg : Good s) : stCount most s = if most < ((stCnt s).1 : Int) then (0, stFail) else stCnt s := by
  obtain ⟨bs, bad⟩ := s
  cases bad with
  | true =>
    have e := hg rfl
    have e1 : stCnt (bs, true) = (0, stFail) := rfl
    have e2 : stCount most (bs, true) = (0, (bs, true)) := rfl
    rw [e1, e2, e, if_neg (by simp; omega)]
  | false =>
    have hb := readC_bounds bs
    have e1 : stCnt (bs, false) = if (readC bs).2.2 ≠ 0 ∨ (9223372036854775807 : Int) < ((readC bs).1 : Int) then (0, stFail) else ((readC bs).1, (bs.drop (readC bs).2.1, false)) := rfl
    have e2 : stCount most (bs, false) = if (readC bs).2.2 ≠ 0 ∨ most < ((readC bs).1 : Int) then (0, stFail) else ((readC bs).1, (bs.drop (readC bs).2.1, false)) := rfl
    by_cases he : (readC bs).2.2 ≠ 0
    · rw [if_pos (.inl he)] at e1 e2
      rw [e1, e2, if_neg (by simp; omega)]
    · have h2 : ¬ (9223372036854775807 : Int) < ((readC bs).1 : Int) := by omega
      rw [if_neg (fun h => h.elim he h2)] at e1
      by_cases hm : most < ((readC bs).1 : Int)
      · rw [if_pos (.inr hm)] at e2
        rw [e1, e2, if_pos hm]
      · rw [if_neg (fun h => h.elim he hm)] at e2
        rw [e1, e2, if_neg hm]
theorem stCnt_good (s : St) : Good (stCnt s).2 := by
  unfold stCnt
  split
  · exact good_fail
  · exact stCount_good _ (by rename_i h; intro h2; exact absurd h2 h)
theorem stCnt_le (s : St) (h : s.1.length ≤ 1099511627776) : (stCnt s).1 ≤ 4611686018427387904 ∧ (stCnt s).2.1.length ≤ s.1.length := by
  unfold stCnt
  split
  · simp [stFail]
  · exact stCount_le _ s h

set_option maxHeartbeats 400000 in
theorem rr_Count (b B : Nat) (most : Int) (s : St) (w : World) (h : IsP w b B s) (hg : Good s) (h0 : 0 ≤ most) : Calls Tryz.prog 76 #[.pointer (some ⟨b, 0, none⟩), .int .i64 most] w (GotP b B (.int .i64 ((stCount most s).1 : Int)) (stCount most s).2 w) := by
  have e0 := stCount_cnt most h0 hg
  have hc := rr_count b B s w h
  generalize stCount most s = res at *
  generalize stCnt s = cn at *
  obtain ⟨n, s1⟩ := cn
  simp only [] at e0 hc
  have HC := Lib.hid hc
  have E0 := Lib.hid e0
  clear hc e0
  go_enter Tryz.func76, Tryz.ntmps76
  go_wp2_with fail
  refine HC.out.mono ?_
  rintro e w1 ⟨rfl, hP1, hx1⟩
  by_cases hm : most < (n : Int)
  · have e1 := E0.out
    rw [if_pos hm] at e1
    subst e1
    go_wp2_with fail
    refine (rr_fail b B _ w1 hP1).mono ?_
    rintro e w2 ⟨rfl, hP2, hx2⟩
    go_wp2
    go_ret
    exact ⟨rfl, hP2, hx1.trans hx2⟩
  · have e1 := E0.out
    rw [if_neg hm] at e1
    subst e1
    go_wp2
    go_ret
    exact ⟨rfl, hP1, hx1⟩
/-- a number of the document that was read -/
def GotN (b B n : Nat) (s : St) (w : World) (e : Ending) (w' : World) : Prop := ∃ v, e = .returned v ∧ IsN w' w'.heap.size v n ∧ IsP w' b B s ∧ Exc b w w'
set_option maxHeartbeats 400000 in
theorem rr_nat (b B n : Nat) (s : St) (w : World) (h : IsP w b B s) (hs : s.1.length ≤ 1099511627776) (hn : n ≤ 9223372036854775807) :
    Calls Tryz.prog 120 #[.pointer (some ⟨b, 0, none⟩), .int .i64 (n : Int)] w (GotN b B (stNat n s).1 (stNat n s).2 w) := by
  have hraw := rr_raw b B n s w h hn
  have hle := (stTake_le n s).1
  have e0 : stNat n s = if (stTake n s).1.head? = some 0 then (0, stFail) else (beVal (stTake n s).1, (stTake n s).2) := rfl
  have hcase : stTake n s = ([], stFail) ∨ ∃ l s', stTake n s = (l, (s', false)) ∧ l.length = n := by
    unfold stTake
    split
    · exact .inl rfl
    · rename_i hh
      refine .inr ⟨_, _, rfl, ?_⟩
      rw [List.length_take]
      have := fun h => hh (.inr h)
      omega
  generalize stNat n s = res at *
  rcases hcase with hc | ⟨l, s', hc, hl⟩
  · rw [hc] at hraw e0
    rw [if_neg (by simp)] at e0
    have E0 := Lib.hid e0
    have HRAW := Lib.hid hraw
    clear hraw e0 hc hle
    go_enter Tryz.func120, Tryz.ntmps120
    go_wp2_with fail
    refine HRAW.out.mono ?_
    rintro e w1 ⟨A1, c1, rfl, _, _, hP1, hx1, _⟩
    have hP1' := hP1
    obtain ⟨Ar, nr, cr, r1, r2, r3, r4, r5⟩ := hP1'
    have rq1 := r1.cell 1
    simp [stFail] at rq1
    clear r1 r2 r3 r4 r5
    go_wp2_with fail
    refine (rr_fail b B _ w1 hP1).mono ?_
    rintro e w2 ⟨rfl, hP2, hx2⟩
    go_wp2
    go_ret
    rw [E0.out]
    exact ⟨_, rfl, IsN.nil _ _, hP2, hx1.trans hx2⟩
  · rw [hc] at hraw e0 hle
    simp only [] at hraw e0 hle
    have E0 := Lib.hid e0
    have HRAW := Lib.hid hraw
    clear hraw e0 hc
    go_enter Tryz.func120, Tryz.ntmps120
    go_wp2_with fail
    refine HRAW.out.mono ?_
    rintro e w1 ⟨A1, c1, rfl, hby, hne, hP1, hx1, _⟩
    have hP1' := hP1
    obtain ⟨Ar, nr, cr, r1, r2, r3, r4, r5⟩ := hP1'
    have rq1 := r1.cell 1
    simp at rq1
    clear r1 r2 r3 r4 r5
    clear HRAW
    rw [hl] at hby ⊢
    cases l with
    | nil =>
      obtain rfl : n = 0 := by simpa using hl.symm
      have e1 := E0.out
      rw [if_neg (by simp)] at e1
      have E1 := Lib.hid e1
      clear e1 E0
      have HN := Lib.hid (ref_from A1 0 c1 B [] w1 hby hP1.low (by omega))
      clear hby hl
      go_wp2_with fail
      refine HN.out.mono ?_
      rintro e w2 ⟨v, rfl, hv, hb2⟩
      go_wp2
      go_ret
      rw [E1.out]
      exact ⟨_, rfl, hv, hP1.below hb2, hx1.trans (Exc.of hb2)⟩
    | cons x r =>
      have hn0 : (0 : Int) < (n : Int) := by simp at hl; omega
      obtain ⟨ad, y, hA2, hb2, hy, hcell⟩ := Bytes.at_ hby (k := 0) (by omega)
      simp at hy
      subst hy
      subst hA2
      rw [show ad.add 0 = ad from rfl] at hcell
      by_cases hx0 : x = 0
      · have e1 := E0.out
        rw [if_pos (by simp [hx0])] at e1
        have E1 := Lib.hid e1
        have hx2 : ((x.toNat : Int) == 0) = true := by subst hx0; rfl
        clear e1 E0 hx0 hby hl
        go_wp2_with fail
        refine (rr_fail b B _ w1 hP1).mono ?_
        rintro e w2 ⟨rfl, hP2, hx2⟩
        go_wp2
        go_ret
        rw [E1.out]
        exact ⟨_, rfl, IsN.nil _ _, hP2, hx1.trans hx2⟩
      · have e1 := E0.out
        rw [if_neg (by simpa using hx0)] at e1
        have E1 := Lib.hid e1
        have hx2 : ((x.toNat : Int) == 0) = false := by
          simp
          intro h4
          exact hx0 (UInt8.toNat_inj.1 h4)
        have HN := Lib.hid (ref_from (some ad) n c1 B (x :: r) w1 hby hP1.low (by omega))
        clear e1 E0 hx0 hby hl
        go_wp2_with fail
        refine HN.out.mono ?_
        rintro e w2 ⟨v, rfl, hv, hb2⟩
        go_wp2
        go_ret
        rw [E1.out]
        exact ⟨_, rfl, hv, hP1.below hb2, hx1.trans (Exc.of hb2)⟩
set_option maxHeartbeats 400000 in
theorem rr_text (b B : Nat) (most : Int) (s : St) (w : World) (h : IsP w b B s) (hg : Good s) (h0 : 0 ≤ most) (hs : s.1.length ≤ 1099511627776) :
    Calls Tryz.prog 81 #[.pointer (some ⟨b, 0, none⟩), .int .i64 most] w (GotP b B (.string ⟨(stText most s).1.toArray⟩) (stText most s).2 w) := by
  have hle := stCount_le most s hs
  have hcn := rr_Count b B most s w h hg h0
  have e0 : stText most s = stTake (stCount most s).1 (stCount most s).2 := rfl
  rw [e0]
  clear e0
  generalize stCount most s = cn at *
  obtain ⟨n, s1⟩ := cn
  simp only [] at hle hcn ⊢
  have HCN := Lib.hid hcn
  clear hcn
  go_enter Tryz.func81, Tryz.ntmps81
  go_wp2_with fail
  refine HCN.out.mono ?_
  rintro e w1 ⟨rfl, hR1, hx1⟩
  go_wp2_with fail
  refine (rr_raw b B n s1 w1 hR1 (by omega)).mono ?_
  rintro e w2 ⟨A, c, rfl, hr, hA, hR2, hx2, _⟩
  have hstr := run_string (P := Tryz.prog) w2 22 9 5 A _ c _ _ Tryz.underlying22 Tryz.underlying5 Tryz.underlying9 hr
  generalize stTake n s1 = tk at *
  obtain ⟨l, s2⟩ := tk
  simp only [] at hstr hr hR2 ⊢
  generalize l.length = m at *
  go_wp2
  go_ret
  exact ⟨rfl, hR2, hx1.trans hx2⟩
set_option maxHeartbeats 400000 in
theorem rr_bool (b B : Nat) (s : St) (w : World) (h : IsP w b B s) :
    Calls Tryz.prog 82 #[.pointer (some ⟨b, 0, none⟩)] w (GotP b B (.bool (stBool s).1) (stBool s).2 w) := by
  have e0 : stBool s = match (stTake 1 s).1 with | [] => (false, (stTake 1 s).2) | x :: _ => if 1 < x.toNat then (false, stFail) else (decide (x.toNat = 1), (stTake 1 s).2) := rfl
  have hraw := rr_raw b B 1 s w h (by omega)
  have hcase : stTake 1 s = ([], stFail) ∨ ∃ x s', stTake 1 s = ([x], (s', false)) := by
    obtain ⟨bs, bad⟩ := s
    cases bad with
    | true => exact .inl rfl
    | false =>
      cases bs with
      | nil => exact .inl rfl
      | cons x r => exact .inr ⟨x, r, by simp [stTake]⟩
  generalize stBool s = res at *
  rcases hcase with hc | ⟨x, s', hc⟩
  · rw [hc] at hraw e0
    simp only [] at e0
    have E0 := Lib.hid e0
    have HRAW := Lib.hid hraw
    clear hraw e0 hc
    go_enter Tryz.func82, Tryz.ntmps82
    go_wp2_with fail
    refine HRAW.out.mono ?_
    rintro e w1 ⟨A1, c1, rfl, _, _, hP1, hx1, _⟩
    have hP1' := hP1
    obtain ⟨Ar, nr, cr, r1, r2, r3, r4, r5⟩ := hP1'
    have rq1 := r1.cell 1
    simp [stFail] at rq1
    clear r1 r2 r3 r4 r5
    go_wp2_with fail
    refine (rr_fail b B _ w1 hP1).mono ?_
    rintro e w2 ⟨rfl, hP2, hx2⟩
    go_wp2
    go_ret
    rw [E0.out]
    exact ⟨rfl, hP2, hx1.trans hx2⟩
  · rw [hc] at hraw e0
    simp only [] at e0
    have E0 := Lib.hid e0
    have HRAW := Lib.hid hraw
    clear hraw e0 hc
    go_enter Tryz.func82, Tryz.ntmps82
    go_wp2_with fail
    refine HRAW.out.mono ?_
    rintro e w1 ⟨A1, c1, rfl, hby, hne, hP1, hx1, _⟩
    have hP1' := hP1
    obtain ⟨Ar, nr, cr, r1, r2, r3, r4, r5⟩ := hP1'
    have rq1 := r1.cell 1
    simp at rq1
    clear r1 r2 r3 r4 r5 HRAW
    simp only [List.length_cons, List.length_nil] at hby ⊢
    obtain ⟨ad, y, hA2, hb2, hy, hcell⟩ := Bytes.at_ hby (k := 0) (by omega)
    simp at hy
    subst hy
    subst hA2
    rw [show ad.add 0 = ad from rfl] at hcell
    clear hby
    by_cases hx1' : 1 < x.toNat
    · have hx2 : (1 : Int) < (x.toNat : Int) := by omega
      have e1 := E0.out
      rw [if_pos hx1'] at e1
      have E1 := Lib.hid e1
      clear e1 E0
      go_wp2_with fail
      refine (rr_fail b B _ w1 hP1).mono ?_
      rintro e w2 ⟨rfl, hP2, hx3⟩
      go_wp2
      go_ret
      rw [E1.out]
      exact ⟨rfl, hP2, hx1.trans hx3⟩
    · have hx2 : ¬ (1 : Int) < (x.toNat : Int) := by omega
      have e1 := E0.out
      rw [if_neg hx1'] at e1
      have E1 := Lib.hid e1
      clear e1 E0
      go_wp2
      go_ret
      rw [E1.out]
      refine ⟨?_, hP1, hx1⟩
      have : ((x.toNat : Int) == 1) = decide (x.toNat = 1) := by
        rw [Bool.eq_iff_iff]
        simp
        omega
      rw [this]
      rfl
end Go.Proofs.YtjmbpnogicdkgaaGreatDoor

/-! The document's Reader: Whole. -/
namespace Go.Proofs.YtjmbpnogicdkgaaGreatDoor
open Go.RowKit
set_option linter.unusedSimpArgs false
set_option linter.unusedVariables false

theorem stCount_max {s : St} (hg : Good s) (hs : s.1.length ≤ 1099511627776) : stCount 4611686018427387904 s = stCnt s := by
  have h := stCnt_le s hs
  rw [stCount_cnt _ (by omega) hg, if_neg (by omega)]
theorem IsP.set2 {w : World} {b B g : Nat} {s : St} (h : IsP w b B s) (hg : B ≤ g) (hb : b ≠ g) (x y : Value) : IsP ((w.setCell ⟨g, 0, none⟩ x).setCell ⟨g, 1, none⟩ y) b B s := (h.set_ hg hb x).set_ hg hb y
theorem Exc.far2 {b g : Nat} {w w' : World} (h : Exc b w w') (hg : w.heap.size ≤ g) (x y : Value) : Exc b w ((w'.setCell ⟨g, 0, none⟩ x).setCell ⟨g, 1, none⟩ y) := (h.far hg 0 x).far hg 1 y
/-- a whole number of the document that was read -/
def GotI (b B : Nat) (z : Int) (s : St) (w : World) (e : Ending) (w' : World) : Prop := ∃ v, e = .returned v ∧ IsI w' w'.heap.size v z ∧ IsP w' b B s ∧ Exc b w w'
set_option maxRecDepth 100000 in
set_option maxHeartbeats 400000 in
theorem rr_whole (b B : Nat) (s : St) (w : World) (h : IsP w b B s) (hg : Good s) (hs : s.1.length ≤ 1099511627776) :
    Calls Tryz.prog 78 #[.pointer (some ⟨b, 0, none⟩)] w (GotI b B (stWhole s).1 (stWhole s).2 w) := by
  have hle := stCount_le 4611686018427387904 s hs
  have h1 := h.below (balloc1 w (.cells #[.bool false, .slice none 0 0] 34))
  have bx := Blk.new w 34 #[.bool false, .slice none 0 0]
  have hcn := rr_count b B s _ h1
  rw [← stCount_max hg hs] at hcn
  have hcg := stCount_good 4611686018427387904 hg
  have hblt := h.lt
  have hlow := h.low
  have hbadn : (stCount 4611686018427387904 s).2.2 = true → (stCount 4611686018427387904 s).1 = 0 := by
    unfold stCount
    split
    · simp
    · split
      · simp
      · simp
  have e0 : stWhole s = (signed (decide ((stCount 4611686018427387904 s).1 % 2 = 1)) (stNat ((stCount 4611686018427387904 s).1 / 2) (stCount 4611686018427387904 s).2).1,
    if (stCount 4611686018427387904 s).1 = 1 then stFail else (stNat ((stCount 4611686018427387904 s).1 / 2) (stCount 4611686018427387904 s).2).2) := rfl
  generalize stWhole s = res at *
  generalize stCount 4611686018427387904 s = cn at *
  obtain ⟨n, s1⟩ := cn
  obtain ⟨l1, bad1⟩ := s1
  simp only [] at hle hcn e0 hcg hbadn
  have HCN := Lib.hid hcn
  have hE0 : Exc b w (w.alloc (.cells #[.bool false, .slice none 0 0] 34)) := Exc.of (balloc1 w _)
  by_cases hfl : bad1 = true ∨ n = 1
  · have e1 : res = (0, stFail) := by
      rw [e0]
      rcases hfl with hb | hn
      · subst hb
        have e2 := hcg rfl
        rw [hbadn rfl, e2]
        rfl
      · subst hn
        have e3 : (stNat (1 / 2) (l1, bad1)).1 = 0 := by
          unfold stNat
          split
          · rfl
          · unfold stTake
            split <;> simp [beVal]
        rw [e3]
        simp [signed]
    subst e1
    have hcase : bad1 = true ∨ (bad1 = false ∧ n = 1) := by
      cases bad1 with
      | true => exact .inl rfl
      | false => exact .inr ⟨rfl, by rcases hfl with h | h; exact absurd h (by simp); exact h⟩
    clear hcn h1 e0 hfl hcg hbadn
    go_enter Tryz.func78, Tryz.ntmps78
    go_wp2_with fail
    refine HCN.out.mono ?_
    rintro e w1 ⟨rfl, hP1, hx1⟩
    have bx := bx.exc hx1 (by omega)
    have hx1 := hE0.trans hx1
    clear HCN hE0
    have hP1' := hP1
    obtain ⟨Ar, nr, cr, r1, r2, r3, r4, r5⟩ := hP1'
    have rq1 := r1.cell 1
    simp at rq1
    clear r1 r2 r3 r4 r5
    rcases hcase with rfl | ⟨rfl, rfl⟩
    all_goals
      go_wp2_with fail
      refine (rr_fail b B _ w1 hP1).mono ?_
      rintro e w2 ⟨rfl, hP2, hx2⟩
      have bx := bx.exc hx2 (by omega)
      obtain ⟨bxq0, bxq1, bxf0, bxf1, bxs0, bxs1⟩ := bx.f2
      have hfin := hP2.set2 (g := w.heap.size) hlow (by omega) (.bool false) (.slice none 0 0)
      have hfin2 := (hx1.trans hx2).far2 (Nat.le_refl _) (.bool false) (.slice none 0 0)
      have HFN := Lib.hid (And.intro hfin hfin2)
      clear hfin hfin2
      go_wp2
      refine bodyPost_ret (v := .agg #[.bool false, .slice none 0 0]) (by simp [results, Tryz.results78, go_sem, bxs0, bxs1]) rfl ?_
      exact ⟨_, rfl, ⟨_, rfl, IsN.nil _ _⟩, HFN.out.1, HFN.out.2⟩
  · obtain rfl : bad1 = false := by
      cases bad1 with
      | true => exact absurd (.inl rfl) hfl
      | false => rfl
    have hn1 : n ≠ 1 := fun h => hfl (.inr h)
    rw [if_neg hn1] at e0
    have hn2 : ((n : Int) == 1) = false := by simp; omega
    have hnt := fun w h => rr_nat b B (n / 2) (l1, false) w h (by simp only []; omega) (by omega)
    generalize stNat (n / 2) (l1, false) = nt at *
    obtain ⟨a, s2⟩ := nt
    simp only [] at hnt e0
    have HNT := Lib.hid hnt
    have E0 := Lib.hid e0
    clear hcn h1 e0 hfl hcg hbadn hnt
    have hneg : ((n : Int) % 2 == 1) = decide (n % 2 = 1) := by
      rw [Bool.eq_iff_iff]
      simp
      omega
    generalize hng : decide (n % 2 = 1) = ng at *
    have HNG := Lib.hid hng
    clear hng
    obtain ⟨m, hm⟩ : ∃ m, n / 2 = m := ⟨_, rfl⟩
    have k1 : (n : Int) / 2 = (m : Int) := by omega
    rw [hm] at HNT
    clear hm
    go_enter Tryz.func78, Tryz.ntmps78
    go_wp2_with fail
    refine HCN.out.mono ?_
    rintro e w1 ⟨rfl, hP1, hx1⟩
    have bx := bx.exc hx1 (by omega)
    have hx1 := hE0.trans hx1
    clear HCN hE0
    have hP1' := hP1
    obtain ⟨Ar, nr, cr, r1, r2, r3, r4, r5⟩ := hP1'
    have rq1 := r1.cell 1
    simp at rq1
    clear r1 r2 r3 r4 r5
    go_wp2_with fail
    refine (HNT.out w1 hP1).mono ?_
    rintro e w2 ⟨v, rfl, hv, hP2, hx2⟩
    have bx := bx.exc hx2 (by omega)
    have hx2 := hx1.trans hx2
    obtain ⟨A, l, c, rfl⟩ := hv.form
    have HI := Lib.hid (ref_mkI ng a _ _ w2 hv (Nat.le_refl _))
    clear HNT k1 hv
    go_wp2_with fail
    refine HI.out.mono ?_
    rintro e w3 ⟨V, rfl, hV, hb3⟩
    obtain ⟨g1, A1, l1', c1, rfl⟩ := hV.shape
    have hz2 := bx.lt
    have bx := bx.below hb3 bx.lt
    obtain ⟨p1, p2⟩ := hV.parts
    have hfin := (hP2.below hb3).set2 (g := w.heap.size) hlow (by omega) (.bool g1) (.slice A1 l1' c1)
    have hfin2 := (hx2.trans (Exc.of hb3)).far2 (Nat.le_refl _) (.bool g1) (.slice A1 l1' c1)
    have hfin3 := p2.set2 bx (bool_ne _) (slice_ne _ _ _) (.bool g1) (.slice A1 l1' c1) (bool_ne _)
    have HFN := Lib.hid (And.intro hfin (And.intro hfin2 (And.intro hfin3 p1)))
    clear hfin hfin2 hfin3 hV p1 p2
    obtain ⟨bxq0, bxq1, bxf0, bxf1, bxs0, bxs1⟩ := bx.f2
    go_wp2
    refine bodyPost_ret (v := .agg #[.bool g1, .slice A1 l1' c1]) (by simp [results, Tryz.results78, go_sem, bxs0, bxs1]) rfl ?_
    rw [E0.out]
    exact ⟨_, rfl, ⟨_, by rw [HFN.out.2.2.2], by rw [World.size_setCell, World.size_setCell]; exact HFN.out.2.2.1⟩, HFN.out.1, HFN.out.2.1⟩
end Go.Proofs.YtjmbpnogicdkgaaGreatDoor

/-! The document's Reader: Frac. -/
namespace Go.Proofs.YtjmbpnogicdkgaaGreatDoor
open Go.RowKit
set_option linter.unusedSimpArgs false
set_option linter.unusedVariables false

theorem IsP.apart {w : World} {b B : Nat} {s : St} (h : IsP w b B s) : ∃ t cs, Blk w b t cs ∧ ∀ i x : Nat, cs[i]? ≠ some (u32v x) := by
  obtain ⟨A, n, c, h1, _⟩ := h
  refine ⟨_, _, h1, fun i x e => ?_⟩
  rcases i with _ | _ | i
  · simp at e; exact slice_ne _ _ _ x e
  · simp at e; exact bool_ne _ x e
  · simp at e
theorem IsN.exc {w w' : World} {b B n : Nat} {v : Value} {s : St} (h : IsN w w.heap.size v n) (hP : IsP w b B s) (he : Exc b w w') : IsN w' w'.heap.size v n := by
  obtain ⟨t, cs, hb, hcs⟩ := hP.apart
  obtain ⟨A, c, h1, h2, h3, h4, h5⟩ := h
  rcases Nat.eq_zero_or_pos (limbs n).length with h0 | h0
  · exact ⟨A, c, h1, h2, h3, ⟨h4.1, fun hn => absurd hn (by omega)⟩, fun hn => absurd hn (by omega)⟩
  · have hne := fun ad hA => limbs_apart h4 h0 hb hcs ad hA
    refine ⟨A, c, h1, h2, h3, (h4.exc he (Nat.le_refl _) hne).more he.size, fun hp ad hA => ?_⟩
    obtain ⟨cs', fr, h6⟩ := h5 hp ad hA
    obtain ⟨ad', e1, e2, _⟩ := h4.2 hp
    rw [hA] at e1
    obtain rfl := Option.some.inj e1
    exact ⟨cs', fr, (he.block _ e2 (hne ad hA)).trans h6⟩
theorem IsI.exc {w w' : World} {b B : Nat} {V : Value} {z : Int} {s : St} (h : IsI w w.heap.size V z) (hP : IsP w b B s) (he : Exc b w w') : IsI w' w'.heap.size V z := by
  obtain ⟨v, h1, h2⟩ := h
  exact ⟨v, h1, h2.exc hP he⟩
theorem IsQ.exc {w w' : World} {b B : Nat} {V : Value} {q : Rat} {s : St} (h : IsQ w w.heap.size V q) (hP : IsP w b B s) (he : Exc b w w') : IsQ w' w'.heap.size V q := by
  obtain ⟨v, v', h1, h2, h3⟩ := h
  exact ⟨v, v', h1, h2.exc hP he, h3.exc hP he⟩
theorem IsP.set3 {w : World} {b B g : Nat} {s : St} (h : IsP w b B s) (hg : B ≤ g) (hb : b ≠ g) (x y z : Value) : IsP (((w.setCell ⟨g, 0, none⟩ x).setCell ⟨g, 1, none⟩ y).setCell ⟨g, 2, none⟩ z) b B s := ((h.set_ hg hb x).set_ hg hb y).set_ hg hb z
theorem Exc.far3 {b g : Nat} {w w' : World} (h : Exc b w w') (hg : w.heap.size ≤ g) (x y z : Value) : Exc b w (((w'.setCell ⟨g, 0, none⟩ x).setCell ⟨g, 1, none⟩ y).setCell ⟨g, 2, none⟩ z) := ((h.far hg 0 x).far hg 1 y).far hg 2 z
/-- a fraction of the document that was read -/
def GotQ (b B : Nat) (q : Rat) (s : St) (w : World) (e : Ending) (w' : World) : Prop := ∃ v, e = .returned v ∧ IsQ w' w'.heap.size v q ∧ IsP w' b B s ∧ Exc b w w'
theorem gotQ_done {w wn : World} {q : Rat} {b B g l c l' c' : Nat} {s : St} {t : TypeId} {ng : Bool} {A A' : Option Addr} (hP : IsP wn b B s) (hE : Exc b w wn) (hQ : IsQ wn wn.heap.size (.agg #[.bool ng, .slice A l c, .slice A' l' c']) q)
    (hr : Blk wn g t #[.bool false, .slice none 0 0, .slice none 0 0]) (hg : w.heap.size ≤ g) (hB : B ≤ w.heap.size) (hb : b < w.heap.size) :
    GotQ b B q s w (.returned (.agg #[.bool ng, .slice A l c, .slice A' l' c'])) (((wn.setCell ⟨g, 0, none⟩ (.bool ng)).setCell ⟨g, 1, none⟩ (.slice A l c)).setCell ⟨g, 2, none⟩ (.slice A' l' c')) := by
  obtain ⟨h1, h2, h3⟩ := hQ.parts
  refine ⟨_, rfl, ⟨.slice A l c, .slice A' l' c', by rw [h1], ?_, ?_⟩, hP.set3 (Nat.le_trans hB hg) (by omega) _ _ _, hE.far3 hg _ _ _⟩
  · rw [World.size_setCell, World.size_setCell, World.size_setCell]
    exact h2.set3 hr (bool_ne _) (slice_ne _ _ _) (slice_ne _ _ _) _ _ _ (bool_ne _) (slice_ne _ _ _)
  · rw [World.size_setCell, World.size_setCell, World.size_setCell]
    exact h3.set3 hr (bool_ne _) (slice_ne _ _ _) (slice_ne _ _ _) _ _ _ (bool_ne _) (slice_ne _ _ _)
/-- v points to a fraction of the document in a block that was not there in W; nothing that was there in W has changed -/
def BornQ (W : World) (q : Rat) (v : Value) (wc : World) : Prop :=
  ∃ g ng A l c A' l' c', v = .pointer (some ⟨g, 0, none⟩) ∧ W.heap.size ≤ g ∧ Blk wc g 36 #[.bool ng, .slice A l c, .slice A' l' c'] ∧ IsQ wc wc.heap.size (.agg #[.bool ng, .slice A l c, .slice A' l' c']) q ∧ Below W.heap.size W wc
theorem bornQ_new {W wn : World} {q : Rat} {l c l' c' : Nat} {ng : Bool} {A A' : Option Addr} (hc : Below W.heap.size W wn) (hQ : IsQ wn wn.heap.size (.agg #[.bool ng, .slice A l c, .slice A' l' c']) q) :
    BornQ W q (.pointer (some ⟨wn.heap.size, 0, none⟩)) (wn.alloc (.cells #[.bool ng, .slice A l c, .slice A' l' c'] 36)) :=
  ⟨_, _, _, _, _, _, _, _, rfl, hc.size, Blk.new _ _ _, (hQ.next (Nat.le_refl _) (balloc1 _ _)).more (balloc1 _ _).size, bthen hc (balloc1 _ _)⟩
theorem bornQ_set {W wn : World} {q : Rat} {g l c l' c' : Nat} {ng : Bool} {A A' : Option Addr} (hc : Below W.heap.size W wn) (hQ : IsQ wn wn.heap.size (.agg #[.bool ng, .slice A l c, .slice A' l' c']) q)
    (ca : Blk wn g 36 #[.bool false, .slice none 0 0, .slice none 0 0]) (hg : W.heap.size ≤ g) :
    BornQ W q (.pointer (some ⟨g, 0, none⟩)) (((wn.setCell ⟨g, 0, none⟩ (.bool ng)).setCell ⟨g, 1, none⟩ (.slice A l c)).setCell ⟨g, 2, none⟩ (.slice A' l' c')) := by
  obtain ⟨h1, h2, h3⟩ := hQ.parts
  refine ⟨_, _, _, _, _, _, _, _, rfl, hg, by simpa using ((ca.set_ 0 (.bool ng)).set_ 1 (.slice A l c)).set_ 2 (.slice A' l' c'), ⟨_, _, by rw [h1], ?_, ?_⟩, bset3 hc hg _ _ _⟩
  · rw [World.size_setCell, World.size_setCell, World.size_setCell]
    exact h2.set3 ca (bool_ne _) (slice_ne _ _ _) (slice_ne _ _ _) _ _ _ (bool_ne _) (slice_ne _ _ _)
  · rw [World.size_setCell, World.size_setCell, World.size_setCell]
    exact h3.set3 ca (bool_ne _) (slice_ne _ _ _) (slice_ne _ _ _) _ _ _ (bool_ne _) (slice_ne _ _ _)
theorem bornQ_set' {W wn : World} {q : Rat} {g l c l' c' : Nat} {ng : Bool} {A A' : Option Addr} (hc : Below W.heap.size W wn) (hQ : IsQ wn wn.heap.size (.agg #[.bool ng, .slice A l c, .slice A' l' c']) q) :
    BornQ W q (.pointer (some ⟨wn.heap.size, 0, none⟩)) ((((wn.alloc (.cells #[.bool false, .slice none 0 0, .slice none 0 0] 36)).setCell ⟨wn.heap.size, 0, none⟩ (.bool ng)).setCell ⟨wn.heap.size, 1, none⟩ (.slice A l c)).setCell ⟨wn.heap.size, 2, none⟩ (.slice A' l' c')) :=
  bornQ_set (bthen hc (balloc1 _ _)) ((hQ.next (Nat.le_refl _) (balloc1 _ _)).more (balloc1 _ _).size) (Blk.new _ _ _) hc.size
set_option maxRecDepth 100000 in
set_option maxHeartbeats 2000000 in
theorem rr_frac (b B : Nat) (s : St) (w : World) (h : IsP w b B s) (hg : Good s) (hs : s.1.length ≤ 1048576) :
    Calls Tryz.prog 80 #[.pointer (some ⟨b, 0, none⟩)] w (GotQ b B (stFrac s).1 (stFrac s).2 w) := by
  have e0 : stFrac s = if (stNat (stCount 4611686018427387904 (stWhole s).2).1 (stCount 4611686018427387904 (stWhole s).2).2).2.2 then (0, (stNat (stCount 4611686018427387904 (stWhole s).2).1 (stCount 4611686018427387904 (stWhole s).2).2).2) else
    if (stNat (stCount 4611686018427387904 (stWhole s).2).1 (stCount 4611686018427387904 (stWhole s).2).2).1 = 0 ∨ (Rat.divInt (stWhole s).1 (stNat (stCount 4611686018427387904 (stWhole s).2).1 (stCount 4611686018427387904 (stWhole s).2).2).1).den ≠ (stNat (stCount 4611686018427387904 (stWhole s).2).1 (stCount 4611686018427387904 (stWhole s).2).2).1 then (0, stFail) else
      (Rat.divInt (stWhole s).1 (stNat (stCount 4611686018427387904 (stWhole s).2).1 (stCount 4611686018427387904 (stWhole s).2).2).1, (stNat (stCount 4611686018427387904 (stWhole s).2).1 (stCount 4611686018427387904 (stWhole s).2).2).2) := rfl
  have hwl := stWhole_le s (by omega)
  have hwg := stWhole_good s
  have hwh := fun w h => rr_whole b B s w h hg (by omega)
  generalize stFrac s = res at *
  generalize stWhole s = sw at *
  obtain ⟨z, s1⟩ := sw
  simp only [] at hwl hwh e0 hwg
  have hcl := stCount_le 4611686018427387904 s1 (by omega)
  have hct := fun w h => rr_count b B s1 w h
  rw [← stCount_max hwg (by omega)] at hct
  generalize stCount 4611686018427387904 s1 = sc at *
  obtain ⟨n, s2⟩ := sc
  simp only [] at hcl hct e0
  have hnb := stNat_blen2 n s2
  have hng := stNat_good n s2
  have hnt := fun w h => rr_nat b B n s2 w h (by omega) (by omega)
  generalize stNat n s2 = sn at *
  obtain ⟨a, s3⟩ := sn
  simp only [] at hnb hnt e0 hng
  obtain ⟨l3, bad3⟩ := s3
  simp only [] at e0
  have hzl : blen z.natAbs ≤ 8388608 := by omega
  have hal : blen a ≤ 8388608 := by omega
  have HWH := Lib.hid hwh
  have HCT := Lib.hid hct
  have HNT := Lib.hid hnt
  have E0 := Lib.hid e0
  have HNG := Lib.hid hng
  have hblt := h.lt
  have hlow := h.low
  clear hwh hct hnt e0 hwl hcl hnb hs hwg hg hng
  have bx := Blk.new w 36 #[.bool false, .slice none 0 0, .slice none 0 0]
  have h1 := h.below (balloc1 w (.cells #[.bool false, .slice none 0 0, .slice none 0 0] 36))
  have hE := Exc.of (b := b) (balloc1 w (.cells #[.bool false, .slice none 0 0, .slice none 0 0] 36))
  have hzz : (w.alloc (.cells #[.bool false, .slice none 0 0, .slice none 0 0] 36)).heap.size = w.heap.size + 1 := World.size_alloc _ _
  have HZ := Lib.hid hzz
  clear hzz h
  go_enter Tryz.func80, Tryz.ntmps80
  go_wp2_with fail
  generalize w.alloc (.cells #[.bool false, .slice none 0 0, .slice none 0 0] 36) = W at *
  refine (HWH.out W h1).mono ?_
  rintro e w1 ⟨V, rfl, hV, hR1, hx1⟩
  obtain ⟨gz0, Az, lz, kz, rfl⟩ := hV.shape
  have bx := bx.exc hx1 (by omega)
  have hE1 := hE.trans hx1
  have hz1 := bx.lt
  have bz := Blk.new w1 34 #[.bool gz0, .slice Az lz kz]
  have bx := bx.alloc (.cells #[.bool gz0, .slice Az lz kz] 34)
  have hR1 := hR1.below (balloc1 w1 (.cells #[.bool gz0, .slice Az lz kz] 34))
  have hE1 := hE1.trans (Exc.of (balloc1 w1 (.cells #[.bool gz0, .slice Az lz kz] 34)))
  have hV1 := (hV.next (Nat.le_refl _) (balloc1 w1 (.cells #[.bool gz0, .slice Az lz kz] 34))).more (balloc1 w1 (.cells #[.bool gz0, .slice Az lz kz] 34)).size
  clear h1 hE hx1 hV
  go_wp2_with fail
  obtain ⟨gz, hgz⟩ : ∃ g, w1.heap.size = g := ⟨_, rfl⟩
  have hgz2 : w.heap.size < gz := by omega
  have hgzb : gz ≠ b := by omega
  rw [hgz] at bz
  rw [hgz]
  clear hgz
  generalize w1.alloc (.cells #[.bool gz0, .slice Az lz kz] 34) = x1 at *
  clear hz1
  refine (HCT.out x1 hR1).mono ?_
  rintro e w2 ⟨rfl, hR2, hx2⟩
  have bx := bx.exc hx2 (by omega)
  have bz := bz.exc hx2 hgzb
  have hV2 := hV1.exc hR1 hx2
  have hE2 := hE1.trans hx2
  clear hR1 hx2 hE1 hV1
  go_wp2_with fail
  refine (HNT.out w2 hR2).mono ?_
  rintro e w3 ⟨v3, rfl, hv3, hR3, hx3⟩
  obtain ⟨Aa, la, ka, rfl⟩ := hv3.form
  have bx := bx.exc hx3 (by omega)
  have bz := bz.exc hx3 hgzb
  have hV3 := hV2.exc hR2 hx3
  have hE3 := hE2.trans hx3
  have hla : la = (limbs a).length := by
    obtain ⟨A', c', h1, _⟩ := hv3
    injection h1
  have hlz := limbs_nil a
  rw [← hla] at hlz
  clear hR2 hx3 hE2 hV2 hla
  have hR3' := hR3
  obtain ⟨Ar, nr, cr, r1, r2, r3, r4, r5⟩ := hR3'
  have rq1 := r1.cell 1
  simp at rq1
  clear r1 r2 r3 r4 r5
  by_cases hbad : bad3 = true ∨ a = 0
  · have e1 : res = (0, stFail) := by
      have e := E0.out
      rcases hbad with hb | ha
      · subst hb
        rw [if_pos rfl] at e
        rw [e, HNG.out rfl]
      · by_cases hb : bad3 = true
        · subst hb
          rw [if_pos rfl] at e
          rw [e, HNG.out rfl]
        · rw [if_neg hb, if_pos (.inl ha)] at e
          exact e
    subst e1
    have hcase : bad3 = true ∨ (bad3 = false ∧ la = 0) := by
      cases bad3 with
      | true => exact .inl rfl
      | false => exact .inr ⟨rfl, by rcases hbad with h | h; exact absurd h (by simp); exact hlz.2 h⟩
    have hx := bx.lt
    clear E0 HNG hbad hlz hV3 hv3 bz HWH HCT HNT
    rcases hcase with rfl | ⟨rfl, rfl⟩
    all_goals
      go_wp2_with fail
      refine (rr_fail b B _ w3 hR3).mono ?_
      rintro e w4 ⟨rfl, hP4, hx4⟩
      have bx := bx.exc hx4 (by omega)
      go_wp2_with fail
      refine (ref_of 0 w4 (by omega) (by omega)).mono ?_
      rintro e w5 ⟨V5, rfl, hV5, hb5⟩
      obtain ⟨g5, A5, l5, c5, A5', l5', c5', rfl⟩ := hV5.shape
      have bx := bx.below hb5 bx.lt
      have HFN := Lib.hid (gotQ_done (w := w) (hP4.below hb5) ((hE3.trans hx4).trans (Exc.of hb5)) hV5 bx (Nat.le_refl _) hlow hblt)
      obtain ⟨bxq0, bxq1, bxq2, bxf0, bxf1, bxf2, bxs0, bxs1, bxs2⟩ := bx.f3
      clear hV5
      go_wp2
      refine bodyPost_ret (v := .agg #[.bool g5, .slice A5 l5 c5, .slice A5' l5' c5']) (by simp [results, Tryz.results80, go_sem, bxs0, bxs1, bxs2]) rfl ?_
      exact HFN.out
  · obtain rfl : bad3 = false := by
      cases bad3 with
      | true => exact absurd (.inl rfl) hbad
      | false => rfl
    have ha0 : a ≠ 0 := fun h => hbad (.inr h)
    have e1 := E0.out
    rw [if_neg (by simp)] at e1
    have hla0 : ((la : Int) == 0) = false := by
      simp
      intro h
      exact ha0 (hlz.1 (by omega))
    have E1 := Lib.hid e1
    have HA0 := Lib.hid ha0
    have s1 : (limbs z.natAbs).length ≤ 17179869184 := Nat.le_trans (limbs_blen _ 262144 (by omega)) (by omega)
    have s2 : (limbs a).length ≤ 17179869184 := Nat.le_trans (limbs_blen _ 262144 (by omega)) (by omega)
    have HV3 := Lib.hid hV3
    have Hv3 := Lib.hid hv3
    have HR3 := Lib.hid hR3
    have HE3 := Lib.hid hE3
    clear e1 E0 HNG hbad hlz hV3 hv3 hR3 hE3 HWH HCT HNT ha0
    go_upto_region 6 with fail
    have hsa : signed false a = (a : Int) := rfl
    have hI : ∀ w', Below w3.heap.size w3 w' → Calls Tryz.prog 72 #[.bool false, .slice Aa la ka] w' (RetI (a : Int) w') := fun w' hb => by
      have := ref_mkI false a _ _ w' ((Hv3.out.next (Nat.le_refl _) hb).more hb.size) (Nat.le_refl _)
      rw [hsa] at this
      exact this
    have hM : ∀ w' V', Below w3.heap.size w3 w' → IsI w' w'.heap.size V' (a : Int) → Calls Tryz.prog 71 #[.agg #[.bool gz0, .slice Az lz kz], V'] w' (RetQ (Rat.divInt z a) w') := fun w' V' hb hv =>
      ref_make z a _ _ _ w' ((HV3.out.next (Nat.le_refl _) hb).more hb.size) hv (Nat.le_refl _) s1 (by rw [Int.natAbs_natCast]; exact s2) (by have := HA0.out; omega)
    obtain ⟨q, hq⟩ : ∃ q, Rat.divInt z (a : Int) = q := ⟨_, rfl⟩
    have hqd : q.den ≤ a := by
      obtain ⟨p1, p2, _⟩ := make_parts z (a : Int) (by have := HA0.out; omega)
      rw [← hq, p1, Int.natAbs_natCast]
      exact Nat.div_le_self _ _
    have s3 : (limbs q.den).length ≤ 34359738368 := Nat.le_trans (limbs_mono hqd) (by omega)
    rw [hq] at hM E1
    have HI := Lib.hid hI
    have HM := Lib.hid hM
    have hxz := bz.lt
    clear hI hM hsa hq hqd
    go_cut [5] (fun v wc => BornQ w3 q v wc)
    case first =>
      obtain ⟨bzq0, bzq1⟩ := bz.c2; have cz := bz.drew; have czl := cz.lt; have hc := bdrew0 w3; go_region_held3 (fun w' => w'.cell? ⟨gz, 0, none⟩ = some (.bool gz0) ∧ w'.cell? ⟨gz, 1, none⟩ = some (.slice Az lz kz)) (go_keep) (first | (go_at_call 72; (first | with_reducible refine (HI.out _ hc).mono ?_ | (have hga : w3.heap.size ≤ w3.heap.size := hc.size; have ca : Blk _ w3.heap.size _ _ := Blk.new w3.drew 36 #[.bool false, .slice none 0 0, .slice none 0 0]; have czna := nelt (show _ < w3.heap.size from czl) (Nat.le_refl _); have cz := cz.alloc (.cells #[.bool false, .slice none 0 0, .slice none 0 0] 36); have hc := bthen hc (balloc1 _ (.cells #[.bool false, .slice none 0 0, .slice none 0 0] 36)); with_reducible refine (HI.out _ hc).mono ?_) | (have hga : w3.heap.size ≤ w3.heap.size := hc.size; have ca : Blk (w3.alloc (.cells #[.bool false, .slice none 0 0, .slice none 0 0] 36)).drew w3.heap.size _ _ := Blk.new w3.drew 36 #[.bool false, .slice none 0 0, .slice none 0 0]; have czna := nelt (show _ < w3.heap.size from czl) (Nat.le_refl _); have cz : Blk (w3.alloc (.cells #[.bool false, .slice none 0 0, .slice none 0 0] 36)).drew _ _ _ := cz.alloc (.cells #[.bool false, .slice none 0 0, .slice none 0 0] 36); have hc : Below w3.heap.size w3 (w3.alloc (.cells #[.bool false, .slice none 0 0, .slice none 0 0] 36)).drew := bthen hc (balloc1 _ (.cells #[.bool false, .slice none 0 0, .slice none 0 0] 36)); with_reducible refine (HI.out _ hc).mono ?_)); rintro e w1 ⟨v1, rfl, hR1, hw1⟩; obtain ⟨g1, A1, l1, c1c, hv1⟩ := hR1.shape; subst hv1; (try have ca := ca.below hw1 ca.lt); have cz := cz.below hw1 cz.lt; (try clear czq0 czq1); obtain ⟨czq0, czq1⟩ := cz.c2; (try clear czl); have czl := cz.lt; have hc := bthen hc hw1) | (go_at_call 71; (first | with_reducible refine (HM.out _ _ hc hR1).mono ?_ | (have hga : w3.heap.size ≤ w1.heap.size := hc.size; have ca : Blk _ w1.heap.size _ _ := Blk.new w1 36 #[.bool false, .slice none 0 0, .slice none 0 0]; have czna := nelt (show _ < w1.heap.size from czl) (Nat.le_refl _); have cz := cz.alloc (.cells #[.bool false, .slice none 0 0, .slice none 0 0] 36); have hR1 := (hR1.next (Nat.le_refl _) (balloc1 _ (.cells #[.bool false, .slice none 0 0, .slice none 0 0] 36))).more (balloc1 _ (.cells #[.bool false, .slice none 0 0, .slice none 0 0] 36)).size; have hc := bthen hc (balloc1 _ (.cells #[.bool false, .slice none 0 0, .slice none 0 0] 36)); with_reducible refine (HM.out _ _ hc hR1).mono ?_)); rintro e w2 ⟨v2, rfl, hR2, hw2⟩; obtain ⟨g2, A2, l2, c2c, A2', l2', c2c', hv2⟩ := hR2.shape; subst hv2; (try have ca := ca.below hw2 ca.lt); have cz := cz.below hw2 cz.lt; (try clear czq0 czq1); obtain ⟨czq0, czq1⟩ := cz.c2; (try clear czl); have czl := cz.lt; have hR1 := (hR1.next (Nat.le_refl _) hw2).more hw2.size; have hc := bthen hc hw2; (try (have cal := ca.lt; obtain ⟨caq0, caq1, caq2, caf0, caf1, caf2, cas0, cas1, cas2⟩ := ca.f3))))
      all_goals
        go_wp2
        go_meet
        first | with_reducible exact bornQ_new hc hR2 | with_reducible exact bornQ_set hc hR2 ca hga | with_reducible exact bornQ_set' hc hR2
    case rest =>
      obtain ⟨g, ng, A, l, c, A', l', c', rfl, hgw, bq, hQ, hbc⟩ := hcut
      have bx := bx.below hbc bx.lt
      have hbw := bx.lt
      have hcp := ref_cmp q.den a _ _ _ _ wc hQ.parts.2.2 ((Hv3.out.next (Nat.le_refl _) hbc).more hbc.size) s3 (by omega)
      have hcase : (q.den = a ∧ cmpI q.den a = 0) ∨ (q.den ≠ a ∧ (cmpI q.den a == 0) = false ∧ (cmpI q.den a != 0) = true) := by
        by_cases h : q.den = a
        · left; exact ⟨h, by rw [h, cmpI_eq]⟩
        · right
          refine ⟨h, ?_⟩
          unfold cmpI
          split <;> (try split) <;> simp <;> omega
      generalize cmpI q.den a = cv at *
      have HCP := Lib.hid hcp
      have HQ := Lib.hid hQ
      have HRC := Lib.hid (HR3.out.below hbc)
      have HEC := Lib.hid (HE3.out.trans (Exc.of hbc))
      have hgw2 : ¬ g = w.heap.size := by omega
      have hgw3 : ¬ w.heap.size = g := by omega
      clear hcp hQ HI HM HV3 Hv3 HR3 HE3 hbc bz rq1
      obtain ⟨bqq0, bqq1, bqq2⟩ := bq.c3
      go_upto_region 7 with fail
      go_wp2_with fail
      refine HCP.out.mono ?_
      rintro e w4 ⟨rfl, hb4⟩
      have bx := bx.below hb4 bx.lt
      have bq := bq.below hb4 bq.lt
      have HR4 := Lib.hid (HRC.out.below hb4)
      have HE4 := Lib.hid (HEC.out.trans (Exc.of hb4))
      have HQ4 := Lib.hid ((HQ.out.next (Nat.le_refl _) hb4).more hb4.size)
      clear bqq0 bqq1 bqq2 HRC HEC HQ hb4
      rcases hcase with ⟨h1, rfl⟩ | ⟨h1, h2, h3⟩
      · have e2 := E1.out
        rw [if_neg (by simp [HA0.out, h1])] at e2
        have E2 := Lib.hid e2
        have HFN := Lib.hid (gotQ_done (w := w) HR4.out HE4.out HQ4.out bx (Nat.le_refl _) hlow hblt)
        clear e2 E1 h1
        obtain ⟨bqq0, bqq1, bqq2⟩ := bq.c3
        obtain ⟨bxq0, bxq1, bxq2, bxf0, bxf1, bxf2, bxs0, bxs1, bxs2⟩ := bx.f3
        go_wp2
        refine bodyPost_ret (v := .agg #[.bool ng, .slice A l c, .slice A' l' c']) (by simp [results, Tryz.results80, go_sem, bxs0, bxs1, bxs2]) rfl ?_
        rw [E2.out]
        exact HFN.out
      · have e2 := E1.out
        rw [if_pos (.inr h1)] at e2
        have E2 := Lib.hid e2
        clear e2 E1 h1 bq
        go_wp2_with fail
        refine (rr_fail b B _ w4 HR4.out).mono ?_
        rintro e w5 ⟨rfl, hP5, hx5⟩
        have bx := bx.exc hx5 (by omega)
        go_wp2_with fail
        refine (ref_of 0 w5 (by omega) (by omega)).mono ?_
        rintro e w6 ⟨V6, rfl, hV6, hb6⟩
        obtain ⟨g6, A6, l6, c6, A6', l6', c6', rfl⟩ := hV6.shape
        have bx := bx.below hb6 bx.lt
        have HFN := Lib.hid (gotQ_done (w := w) (hP5.below hb6) ((HE4.out.trans hx5).trans (Exc.of hb6)) hV6 bx (Nat.le_refl _) hlow hblt)
        obtain ⟨bxq0, bxq1, bxq2, bxf0, bxf1, bxf2, bxs0, bxs1, bxs2⟩ := bx.f3
        clear hV6
        go_wp2
        refine bodyPost_ret (v := .agg #[.bool g6, .slice A6 l6 c6, .slice A6' l6' c6']) (by simp [results, Tryz.results80, go_sem, bxs0, bxs1, bxs2]) rfl ?_
        rw [E2.out]
        exact HFN.out
end Go.Proofs.YtjmbpnogicdkgaaGreatDoor
