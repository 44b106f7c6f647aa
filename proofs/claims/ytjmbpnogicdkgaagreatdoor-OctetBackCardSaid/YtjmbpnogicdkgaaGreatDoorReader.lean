/-
  octet.Reader.
-/
import Derived.Test.YtjmbpnogicdkgaaGreatDoorMem
import Derived.Test.YtjmbpnogicdkgaaGreatDoorNatB
namespace Go.Proofs.YtjmbpnogicdkgaaGreatDoor
open Go.RowKit
set_option linter.unusedSimpArgs false
set_option linter.unusedVariables false

/-- a Reader: the bytes that are left, and whether it is bad -/
abbrev St := List UInt8 × Bool
def stFail : St := ([], true)
def stCount (most : Int) (s : St) : Nat × St :=
  if s.2 then (0, s) else if (readC s.1).2.2 ≠ 0 ∨ most < ((readC s.1).1 : Int) then (0, stFail) else ((readC s.1).1, (s.1.drop (readC s.1).2.1, false))
def stTake (n : Nat) (s : St) : List UInt8 × St := if s.2 ∨ s.1.length < n then ([], stFail) else (s.1.take n, (s.1.drop n, false))
def stNat (n : Nat) (s : St) : Nat × St := if (stTake n s).1.head? = some 0 then (0, stFail) else (beVal (stTake n s).1, (stTake n s).2)
def stWhole (s : St) : Int × St :=
  (signed (decide ((stCount 4611686018427387904 s).1 % 2 = 1)) (stNat ((stCount 4611686018427387904 s).1 / 2) (stCount 4611686018427387904 s).2).1,
    if (stCount 4611686018427387904 s).1 = 1 then stFail else (stNat ((stCount 4611686018427387904 s).1 / 2) (stCount 4611686018427387904 s).2).2)
def stText (most : Int) (s : St) : List UInt8 × St := stTake (stCount most s).1 (stCount most s).2
def stBool (s : St) : Bool × St :=
  match (stTake 1 s).1 with
  | [] => (false, (stTake 1 s).2)
  | x :: _ => if 1 < x.toNat then (false, stFail) else (decide (x.toNat = 1), (stTake 1 s).2)

theorem stCount_le (most : Int) (s : St) (h : s.1.length ≤ 1099511627776) : (stCount most s).1 ≤ 4611686018427387904 ∧ (stCount most s).2.1.length ≤ s.1.length := by
  unfold stCount
  have h1 := readC_bounds s.1
  split
  · simp
  · split
    · simp [stFail]
    · simp
      omega
theorem stTake_le (n : Nat) (s : St) : (stTake n s).1.length ≤ s.1.length ∧ (stTake n s).2.1.length ≤ s.1.length := by
  unfold stTake
  split
  · simp [stFail]
  · simp
    omega
theorem stNat_le (n : Nat) (s : St) : (stNat n s).2.1.length ≤ s.1.length := by
  unfold stNat
  split
  · simp [stFail]
  · exact (stTake_le n s).2

/-- block b is a Reader in the state s; its bytes lie below block B -/
def IsR (w : World) (b B : Nat) (s : St) : Prop :=
  ∃ A n c, Blk w b 119 #[.slice A n c, .bool s.2] ∧ Bytes w B A n s.1 ∧ B ≤ w.heap.size ∧ (∀ ad, A = some ad → ad.block ≠ b) ∧ n ≤ c ∧ c ≤ 9223372036854775807
theorem IsR.lt {w : World} {b B : Nat} {s : St} (h : IsR w b B s) : b < w.heap.size := by
  obtain ⟨A, n, c, h1, _⟩ := h
  exact h1.lt
theorem IsR.low {w : World} {b B : Nat} {s : St} (h : IsR w b B s) : B ≤ w.heap.size := by
  obtain ⟨A, n, c, h1, h2, h3, _⟩ := h
  exact h3
theorem IsR.below {w w' : World} {b B : Nat} {s : St} (h : IsR w b B s) (hb : Below w.heap.size w w') : IsR w' b B s := by
  obtain ⟨A, n, c, h1, h2, h3, h4, h5⟩ := h
  exact ⟨A, n, c, h1.below hb h1.lt, Reads.below h2 (hb.mono h3), Nat.le_trans h3 hb.size, h4, h5⟩
theorem IsR.set_ {w : World} {b B g i : Nat} {s : St} (h : IsR w b B s) (hg : B ≤ g) (hb : b ≠ g) (u : Value) : IsR (w.setCell ⟨g, i, none⟩ u) b B s := by
  obtain ⟨A, n, c, h1, h2, h3, h4, h5⟩ := h
  exact ⟨A, n, c, h1.far hb u, Reads.setCell h2 hg u, by rw [World.size_setCell]; exact h3, h4, h5⟩

theorem new_reader (A : Option Addr) (n c B : Nat) (bs : List UInt8) (w : World) (h : Bytes w B A n bs) (hB : B ≤ w.heap.size) (hn : n ≤ 1099511627776) :
    Calls Tryz.prog 17 #[.slice A n c] w fun e w' => ∃ g B', e = .returned (.pointer (some ⟨g, 0, none⟩)) ∧ IsR w' g B' (bs, false) ∧ Below w.heap.size w w' ∧ w.heap.size ≤ g := by
  go_enter Tryz.func17, Tryz.ntmps17
  go_wp2_with fail
  refine (octet_exact A n c B bs w h hB (by omega)).mono ?_
  rintro e w1 ⟨v1, rfl, ho1, hb1, hf1⟩
  obtain ⟨A1, c1, hv1, hc1, hc2⟩ := ho1.form
  rw [hv1] at ho1 ⊢
  have hr := Own.reads ho1
  have hlt := ho1.lt
  generalize bs.length = m at *
  clear hv1 ho1 hf1
  go_wp2
  go_ret
  refine ⟨_, _, rfl, ⟨A1, m, c1, Blk.new _ _ _, (Reads.alloc hr (Nat.le_refl _) _).more (Nat.le_refl _), by simp, fun ad he => ?_, hc1, by unfold maxLen at hc2; omega⟩, hb1.alloc hb1.size _, hb1.size⟩
  have := hlt ad.block (by rw [he]; rfl)
  omega

theorem reader_fail (b B : Nat) (s : St) (w : World) (h : IsR w b B s) : Calls Tryz.prog 96 #[.pointer (some ⟨b, 0, none⟩)] w fun e w' => e = .returned (.tuple #[]) ∧ IsR w' b B stFail ∧ Exc b w w' := by
  obtain ⟨A, n, c, h1, h2, hB, h3, h4, h5⟩ := h
  obtain ⟨h1q0, h1q1, h1f0, h1f1, h1s0, h1s1⟩ := h1.f2
  go_enter Tryz.func96, Tryz.ntmps96
  go_wp2
  go_end0
  refine ⟨rfl, ⟨none, 0, 0, ?_, Reads.none_, by simpa using hB, (fun ad he => by cases he), by omega, by omega⟩, ((Exc.refl b w).set_ 0 _).set_ 1 _⟩
  have := (h1.set_ 0 (.slice none 0 0)).set_ 1 (.bool true)
  show Blk _ _ _ #[.slice none 0 0, .bool true]
  simpa using this

theorem reader_left (b B : Nat) (s : St) (w : World) (h : IsR w b B s) : Calls Tryz.prog 20 #[.pointer (some ⟨b, 0, none⟩)] w fun e w' => e = .returned (.int .i64 (s.1.length : Int)) ∧ w = w' := by
  obtain ⟨A, n, c, h1, h2, hB, h3, h4, h5⟩ := h
  obtain ⟨h1q0, h1q1, h1f0, h1f1, h1s0, h1s1⟩ := h1.f2
  have hl := h2.len
  rw [hl]
  clear hl
  go_enter Tryz.func20, Tryz.ntmps20
  go_wp2
  go_ret
  exact ⟨rfl, rfl⟩
theorem reader_bad (b B : Nat) (s : St) (w : World) (h : IsR w b B s) : Calls Tryz.prog 19 #[.pointer (some ⟨b, 0, none⟩)] w fun e w' => e = .returned (.bool s.2) ∧ w = w' := by
  obtain ⟨A, n, c, h1, h2, hB, h3, h4, h5⟩ := h
  obtain ⟨h1q0, h1q1, h1f0, h1f1, h1s0, h1s1⟩ := h1.f2
  go_enter Tryz.func19, Tryz.ntmps19
  go_wp2
  go_ret
  exact ⟨rfl, rfl⟩

/-- bytes that were taken of the Reader in block b, and its state -/
def Took (b B : Nat) (l : List UInt8) (s : St) (w : World) (e : Ending) (w' : World) : Prop :=
  ∃ A c, e = .returned (.slice A l.length c) ∧ Bytes w' B A l.length l ∧ (∀ ad, A = some ad → ad.block ≠ b) ∧ IsR w' b B s ∧ Exc b w w'

set_option maxHeartbeats 400000 in
theorem reader_take (b B n : Nat) (s : St) (w : World) (h : IsR w b B s) (hn : n ≤ 9223372036854775807) : Calls Tryz.prog 103 #[.pointer (some ⟨b, 0, none⟩), .int .i64 (n : Int)] w fun e w' =>
    Took b B (stTake n s).1 (stTake n s).2 w e w' := by
  obtain ⟨bs, bad⟩ := s
  have h0 := h
  obtain ⟨A, m, c, h1, h2, hB, h3, h4, h5⟩ := h
  simp only [] at h1 h2
  have hl := h2.len
  obtain ⟨h1q0, h1q1, h1f0, h1f1, h1s0, h1s1⟩ := h1.f2
  by_cases hb : bad = true
  · subst hb
    have e : stTake n (bs, true) = ([], stFail) := by simp [stTake]
    rw [e]
    go_enter Tryz.func103, Tryz.ntmps103
    go_wp2_with fail
    refine (reader_fail b B _ w h0).mono ?_
    rintro e w1 ⟨rfl, h6, h7⟩
    go_wp2
    go_ret
    exact ⟨none, 0, rfl, Reads.none_, fun ad he => (by cases he), h6, h7⟩
  · obtain rfl : bad = false := by simpa using hb
    by_cases hlt : m < n
    · have e : stTake n (bs, false) = ([], stFail) := by simp [stTake, hl, hlt]
      rw [e]
      have hlt2 : (m : Int) < (n : Int) := by omega
      clear hl
      go_enter Tryz.func103, Tryz.ntmps103
      go_wp2_with fail
      refine (reader_fail b B _ w h0).mono ?_
      rintro e w1 ⟨rfl, h6, h7⟩
      go_wp2
      go_ret
      exact ⟨none, 0, rfl, Reads.none_, fun ad he => (by cases he), h6, h7⟩
    · have e : stTake n (bs, false) = (bs.take n, (bs.drop n, false)) := by simp [stTake, hl, hlt]
      rw [e]
      have hlt2 : ¬ (m : Int) < (n : Int) := by omega
      have hs1 : ∀ w, (Instr.slice 22 (.slice A m c) none (some (.int .i64 (n : Int))) (some (.int .i64 (n : Int)))).run Tryz.prog w = .ok (.slice A n n) w := fun w => by
        have := run_front3 (P := Tryz.prog) Tryz.underlying22 Tryz.infoU8 A m c .i64 .i64 (n : Int) (n : Int) (by omega) (by omega) (by omega) w
        simpa using this
      have hs2 : ∀ w, (Instr.slice 22 (.slice A m c) (some (.int .i64 (n : Int))) none none).run Tryz.prog w = .ok (.slice (cutA A c n 1) (m - n) (c - n)) w := fun w => by
        have := run_cut (P := Tryz.prog) Tryz.underlying22 Tryz.infoU8 A m c .i64 (n : Int) (by omega) (by omega) w
        simpa using this
      have hrt := Reads.front h2 (k := n) (by omega)
      rw [Nat.mul_one, ← List.map_take] at hrt
      have hrd := Reads.part h2 c n (m - n) (by omega) (by omega)
      rw [Nat.mul_one, Nat.mul_one, ← List.map_drop, List.take_of_length_le (by simp; omega)] at hrd
      have hex := (Exc.refl b w).set_ 0 (.slice (cutA A c n 1) (m - n) (c - n))
      have hbk := h1.set_ 0 (.slice (cutA A c n 1) (m - n) (c - n))
      have hlen : (bs.take n).length = n := by rw [List.length_take]; omega
      have HL := Lib.hid (And.intro hl hlen)
      clear hl hlen
      go_enter Tryz.func103, Tryz.ntmps103
      go_wp2
      go_ret
      unfold Took
      simp only []
      rw [HL.out.2]
      refine ⟨A, n, rfl, ?_, h3, ⟨cutA A c n 1, m - n, c - n, by simpa using hbk, ?_, by simpa using hB, cutA_ne h3, by omega, by omega⟩, hex⟩
      · exact Reads.exc hrt hex hB h3
      · exact Reads.exc hrd hex hB (cutA_ne h3)

set_option maxHeartbeats 400000 in
theorem reader_count (b B : Nat) (most : Int) (s : St) (w : World) (h : IsR w b B s) (hs : s.1.length ≤ 1099511627776) : Calls Tryz.prog 35 #[.pointer (some ⟨b, 0, none⟩), .int .i64 most] w fun e w' =>
    e = .returned (.int .i64 ((stCount most s).1 : Int)) ∧ IsR w' b B (stCount most s).2 ∧ Exc b w w' := by
  obtain ⟨bs, bad⟩ := s
  have h0 := h
  obtain ⟨A, m, c, h1, h2, hB, h3, h4, h5⟩ := h
  simp only [] at h1 h2 hs
  have hl := h2.len
  obtain ⟨h1q0, h1q1, h1f0, h1f1, h1s0, h1s1⟩ := h1.f2
  by_cases hb : bad = true
  · subst hb
    have e : stCount most (bs, true) = (0, (bs, true)) := by simp [stCount]
    rw [e]
    go_enter Tryz.func35, Tryz.ntmps35
    go_wp2
    go_ret
    exact ⟨rfl, h0, Exc.refl b w⟩
  · obtain rfl : bad = false := by simpa using hb
    have hrc := read_count A m c B bs w h2 (by omega)
    obtain ⟨B1, B2, B3, B4⟩ := readC_bounds bs
    have e0 : stCount most (bs, false) = if (readC bs).2.2 ≠ 0 ∨ most < ((readC bs).1 : Int) then (0, stFail) else ((readC bs).1, (bs.drop (readC bs).2.1, false)) := by simp [stCount]
    generalize stCount most (bs, false) = res at *
    generalize readC bs = rc at *
    obtain ⟨k, u, e⟩ := rc
    simp only [] at B1 B2 B3 B4 hrc e0
    have HRC := Lib.hid hrc
    clear hrc
    by_cases he : e = 0
    · subst he
      by_cases hm : most < (k : Int)
      · rw [if_pos (.inr hm)] at e0
        have E0 := Lib.hid e0
        clear e0 hl
        go_enter Tryz.func35, Tryz.ntmps35
        go_wp2_with fail
        refine HRC.out.mono ?_
        rintro e' w1 ⟨rfl, rfl⟩
        go_wp2_with fail
        refine (reader_fail b B _ w h0).mono ?_
        rintro e w1 ⟨rfl, h6, h7⟩
        go_wp2
        go_ret
        rw [E0.out]
        exact ⟨rfl, h6, h7⟩
      · rw [if_neg (by simp; omega)] at e0
        have E0 := Lib.hid e0
        have hs2 : ∀ w, (Instr.slice 22 (.slice A m c) (some (.int .i64 (u : Int))) none none).run Tryz.prog w = .ok (.slice (cutA A c u 1) (m - u) (c - u)) w := fun w => by
          have := run_cut (P := Tryz.prog) Tryz.underlying22 Tryz.infoU8 A m c .i64 (u : Int) (by omega) (by omega) w
          simpa using this
        have hrd := Reads.part h2 c u (m - u) (by omega) (by omega)
        rw [Nat.mul_one, Nat.mul_one, ← List.map_drop, List.take_of_length_le (by simp; omega)] at hrd
        have hex := (Exc.refl b w).set_ 0 (.slice (cutA A c u 1) (m - u) (c - u))
        have hbk := h1.set_ 0 (.slice (cutA A c u 1) (m - u) (c - u))
        clear e0 hl
        go_enter Tryz.func35, Tryz.ntmps35
        go_wp2_with fail
        refine HRC.out.mono ?_
        rintro e' w1 ⟨rfl, rfl⟩
        go_wp2
        go_ret
        rw [E0.out]
        refine ⟨rfl, ⟨cutA A c u 1, m - u, c - u, by simpa using hbk, ?_, by simpa using hB, cutA_ne h3, by omega, by omega⟩, hex⟩
        exact Reads.exc hrd hex hB (cutA_ne h3)
    · have he2 : ((e : Int) != 0) = true := by simp [bne_iff_ne]; exact he
      rw [if_pos (.inl he)] at e0
      have E0 := Lib.hid e0
      clear e0 hl
      go_enter Tryz.func35, Tryz.ntmps35
      go_wp2_with fail
      refine HRC.out.mono ?_
      rintro e' w1 ⟨rfl, rfl⟩
      go_wp2_with fail
      refine (reader_fail b B _ w h0).mono ?_
      rintro e w1 ⟨rfl, h6, h7⟩
      go_wp2
      go_ret
      rw [E0.out]
      exact ⟨rfl, h6, h7⟩
end Go.Proofs.YtjmbpnogicdkgaaGreatDoor
