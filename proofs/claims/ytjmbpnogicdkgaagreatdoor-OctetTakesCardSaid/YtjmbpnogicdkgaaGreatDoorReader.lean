/-
  octet.Reader.
  octet.Reader: natural, Whole, Text, Bool.
  octet.Reader: Whole.
-/
import Derived.Test.YtjmbpnogicdkgaaGreatDoorMem
import Derived.Test.YtjmbpnogicdkgaaGreatDoorNatB
import Derived.Test.YtjmbpnogicdkgaaGreatDoorMathA
/-! octet.Reader. -/
namespace Go.Proofs.YtjmbpnogicdkgaaGreatDoor
open Go.RowKit
set_option linter.unusedSimpArgs false
set_option linter.unusedVariables false

/-- a Reader: the bytes that are left, and whether it is bad -/
abbrev St := List UInt8 × Bool
def stFail : St := ([], true)
def stCount (most : Int) (s : St) : Nat × St :=
  if s.2 then (0, s) else if (readC s.1).2.2 ≠ 0 ∨ most < ((readC s.1).1 : Int) then (0, stFail) else ((readC s.1).1, (s.1.drop (readC s.1).2.1, false))
def stTake (n : Nat) (s : St) : List UInt8 × St := if s.2 ∨ s.1.length < n then ([], stFail) else (s.1.take n, (s.1.drop n, false))
def stNat (n : Nat) (s : St) : Nat × St := if (stTake n s).1.head? = some 0 then (0, stFail) else (beVal (stTake n s).1, (stTake n s).2)
def stWhole (s : St) : Int × St :=
  (signed (decide ((stCount 4611686018427387904 s).1 % 2 = 1)) (stNat ((stCount 4611686018427387904 s).1 / 2) (stCount 4611686018427387904 s).2).1,
    if (stCount 4611686018427387904 s).1 = 1 then stFail else (stNat ((stCount 4611686018427387904 s).1 / 2) (stCount 4611686018427387904 s).2).2)
def stText (most : Int) (s : St) : List UInt8 × St := stTake (stCount most s).1 (stCount most s).2
def stBool (s : St) : Bool × St :=
  match (stTake 1 s).1 with
  | [] => (false, (stTake 1 s).2)
  | x :: _ => if 1 < x.toNat then (false, stFail) else (decide (x.toNat = 1), (stTake 1 s).2)

theorem stCount_le (most : Int) (s : St) (h : s.1.length ≤ 1099511627776) : (stCount most s).1 ≤ 4611686018427387904 ∧ (stCount most s).2.1.length ≤ s.1.length := by
  unfold stCount
  have h1 := readC_bounds s.1
  split
  · simp
  · split
    · simp [stFail]
    · simp
      omega
theorem stTake_le (n : Nat) (s : St) : (stTake n s).1.length ≤ s.1.length ∧ (stTake n s).2.1.length ≤ s.1.length := by
  unfold stTake
  split
  · simp [stFail]
  · simp
    omega
theorem stNat_le (n : Nat) (s : St) : (stNat n s).2.1.length ≤ s.1.length := by
  unfold stNat
  split
  · simp [stFail]
  · exact (stTake_le n s).2

/-- block b is a Reader in the state s; its bytes lie below block B -/
def IsR (w : World) (b B : Nat) (s : St) : Prop :=
  ∃ A n c, Blk w b 119 #[.slice A n c, .bool s.2] ∧ Bytes w B A n s.1 ∧ B ≤ w.heap.size ∧ (∀ ad, A = some ad → ad.block ≠ b) ∧ n ≤ c ∧ c ≤ 9223372036854775807
theorem IsR.lt {w : World} {b B : Nat} {s : St} (h : IsR w b B s) : b < w.heap.size := by
  obtain ⟨A, n, c, h1, _⟩ := h
  exact h1.lt
theorem IsR.low {w : World} {b B : Nat} {s : St} (h : IsR w b B s) : B ≤ w.heap.size := by
  obtain ⟨A, n, c, h1, h2, h3, _⟩ := h
  exact h3
theorem IsR.below {w w' : World} {b B : Nat} {s : St} (h : IsR w b B s) (hb : Below w.heap.size w w') : IsR w' b B s := by
  obtain ⟨A, n, c, h1, h2, h3, h4, h5⟩ := h
  exact ⟨A, n, c, h1.below hb h1.lt, Reads.below h2 (hb.mono h3), Nat.le_trans h3 hb.size, h4, h5⟩
theorem IsR.set_ {w : World} {b B g i : Nat} {s : St} (h : IsR w b B s) (hg : B ≤ g) (hb : b ≠ g) (u : Value) : IsR (w.setCell ⟨g, i, none⟩ u) b B s := by
  obtain ⟨A, n, c, h1, h2, h3, h4, h5⟩ := h
  exact ⟨A, n, c, h1.far hb u, Reads.setCell h2 hg u, by rw [World.size_setCell]; exact h3, h4, h5⟩

theorem new_reader (A : Option Addr) (n c B : Nat) (bs : List UInt8) (w : World) (h : Bytes w B A n bs) (hB : B ≤ w.heap.size) (hn : n ≤ 1099511627776) :
    Calls Tryz.prog 17 #[.slice A n c] w fun e w' => ∃ g B', e = .returned (.pointer (some ⟨g, 0, none⟩)) ∧ IsR w' g B' (bs, false) ∧ Below w.heap.size w w' ∧ w.heap.size ≤ g := by
  go_enter Tryz.func17, Tryz.ntmps17
  go_wp2_with fail
  refine (octet_exact A n c B bs w h hB (by omega)).mono ?_
  rintro e w1 ⟨v1, rfl, ho1, hb1, hf1⟩
  obtain ⟨A1, c1, hv1, hc1, hc2⟩ := ho1.form
  rw [hv1] at ho1 ⊢
  have hr := Own.reads ho1
  have hlt := ho1.lt
  generalize bs.length = m at *
  clear hv1 ho1 hf1
  go_wp2
  go_ret
  refine ⟨_, _, rfl, ⟨A1, m, c1, Blk.new _ _ _, (Reads.alloc hr (Nat.le_refl _) _).more (Nat.le_refl _), by simp, fun ad he => ?_, hc1, by unfold maxLen at hc2; omega⟩, hb1.alloc hb1.size _, hb1.size⟩
  have := hlt ad.block (by rw [he]; rfl)
  omega

theorem reader_fail (b B : Nat) (s : St) (w : World) (h : IsR w b B s) : Calls Tryz.prog 96 #[.pointer (some ⟨b, 0, none⟩)] w fun e w' => e = .returned (.tuple #[]) ∧ IsR w' b B stFail ∧ Exc b w w' := by
  obtain ⟨A, n, c, h1, h2, hB, h3, h4, h5⟩ := h
  obtain ⟨h1q0, h1q1, h1f0, h1f1, h1s0, h1s1⟩ := h1.f2
  go_enter Tryz.func96, Tryz.ntmps96
  go_wp2
  go_end0
  refine ⟨rfl, ⟨none, 0, 0, ?_, Reads.none_, by simpa using hB, (fun ad he => by cases he), by omega, by omega⟩, ((Exc.refl b w).set_ 0 _).set_ 1 _⟩
  have := (h1.set_ 0 (.slice none 0 0)).set_ 1 (.bool true)
  show Blk _ _ _ #[.slice none 0 0, .bool true]
  simpa using this

theorem reader_left (b B : Nat) (s : St) (w : World) (h : IsR w b B s) : Calls Tryz.prog 20 #[.pointer (some ⟨b, 0, none⟩)] w fun e w' => e = .returned (.int .i64 (s.1.length : Int)) ∧ w = w' := by
  obtain ⟨A, n, c, h1, h2, hB, h3, h4, h5⟩ := h
  obtain ⟨h1q0, h1q1, h1f0, h1f1, h1s0, h1s1⟩ := h1.f2
  have hl := h2.len
  rw [hl]
  clear hl
  go_enter Tryz.func20, Tryz.ntmps20
  go_wp2
  go_ret
  exact ⟨rfl, rfl⟩
theorem reader_bad (b B : Nat) (s : St) (w : World) (h : IsR w b B s) : Calls Tryz.prog 19 #[.pointer (some ⟨b, 0, none⟩)] w fun e w' => e = .returned (.bool s.2) ∧ w = w' := by
  obtain ⟨A, n, c, h1, h2, hB, h3, h4, h5⟩ := h
  obtain ⟨h1q0, h1q1, h1f0, h1f1, h1s0, h1s1⟩ := h1.f2
  go_enter Tryz.func19, Tryz.ntmps19
  go_wp2
  go_ret
  exact ⟨rfl, rfl⟩

/-- bytes that were taken of the Reader in block b, and its state -/
def Took (b B : Nat) (l : List UInt8) (s : St) (w : World) (e : Ending) (w' : World) : Prop :=
  ∃ A c, e = .returned (.slice A l.length c) ∧ Bytes w' B A l.length l ∧ (∀ ad, A = some ad → ad.block ≠ b) ∧ IsR w' b B s ∧ Exc b w w'

set_option maxHeartbeats 400000 in
theorem reader_take (b B n : Nat) (s : St) (w : World) (h : IsR w b B s) (hn : n ≤ 9223372036854775807) : Calls Tryz.prog 103 #[.pointer (some ⟨b, 0, none⟩), .int .i64 (n : Int)] w fun e w' =>
    Took b B (stTake n s).1 (stTake n s).2 w e w' := by
  obtain ⟨bs, bad⟩ := s
  have h0 := h
  obtain ⟨A, m, c, h1, h2, hB, h3, h4, h5⟩ := h
  simp only [] at h1 h2
  have hl := h2.len
  obtain ⟨h1q0, h1q1, h1f0, h1f1, h1s0, h1s1⟩ := h1.f2
  by_cases hb : bad = true
  · subst hb
    have e : stTake n (bs, true) = ([], stFail) := by simp [stTake]
    rw [e]
    go_enter Tryz.func103, Tryz.ntmps103
    go_wp2_with fail
    refine (reader_fail b B _ w h0).mono ?_
    rintro e w1 ⟨rfl, h6, h7⟩
    go_wp2
    go_ret
    exact ⟨none, 0, rfl, Reads.none_, fun ad he => (by cases he), h6, h7⟩
  · obtain rfl : bad = false := by simpa using hb
    by_cases hlt : m < n
    · have e : stTake n (bs, false) = ([], stFail) := by simp [stTake, hl, hlt]
      rw [e]
      have hlt2 : (m : Int) < (n : Int) := by omega
      clear hl
      go_enter Tryz.func103, Tryz.ntmps103
      go_wp2_with fail
      refine (reader_fail b B _ w h0).mono ?_
      rintro e w1 ⟨rfl, h6, h7⟩
      go_wp2
      go_ret
      exact ⟨none, 0, rfl, Reads.none_, fun ad he => (by cases he), h6, h7⟩
    · have e : stTake n (bs, false) = (bs.take n, (bs.drop n, false)) := by simp [stTake, hl, hlt]
      rw [e]
      have hlt2 : ¬ (m : Int) < (n : Int) := by omega
      have hs1 : ∀ w, (Instr.slice 22 (.slice A m c) none (some (.int .i64 (n : Int))) (some (.int .i64 (n : Int)))).run Tryz.prog w = .ok (.slice A n n) w := fun w => by
        have := run_front3 (P := Tryz.prog) Tryz.underlying22 Tryz.infoU8 A m c .i64 .i64 (n : Int) (n : Int) (by omega) (by omega) (by omega) w
        simpa using this
      have hs2 : ∀ w, (Instr.slice 22 (.slice A m c) (some (.int .i64 (n : Int))) none none).run Tryz.prog w = .ok (.slice (cutA A c n 1) (m - n) (c - n)) w := fun w => by
        have := run_cut (P := Tryz.prog) Tryz.underlying22 Tryz.infoU8 A m c .i64 (n : Int) (by omega) (by omega) w
        simpa using this
      have hrt := Reads.front h2 (k := n) (by omega)
      rw [Nat.mul_one, ← List.map_take] at hrt
      have hrd := Reads.part h2 c n (m - n) (by omega) (by omega)
      rw [Nat.mul_one, Nat.mul_one, ← List.map_drop, List.take_of_length_le (by simp; omega)] at hrd
      have hex := (Exc.refl b w).set_ 0 (.slice (cutA A c n 1) (m - n) (c - n))
      have hbk := h1.set_ 0 (.slice (cutA A c n 1) (m - n) (c - n))
      have hlen : (bs.take n).length = n := by rw [List.length_take]; omega
      have HL := Lib.hid (And.intro hl hlen)
      clear hl hlen
      go_enter Tryz.func103, Tryz.ntmps103
      go_wp2
      go_ret
      unfold Took
      simp only []
      rw [HL.out.2]
      refine ⟨A, n, rfl, ?_, h3, ⟨cutA A c n 1, m - n, c - n, by simpa using hbk, ?_, by simpa using hB, cutA_ne h3, by omega, by omega⟩, hex⟩
      · exact Reads.exc hrt hex hB h3
      · exact Reads.exc hrd hex hB (cutA_ne h3)

set_option maxHeartbeats 400000 in
theorem reader_count (b B : Nat) (most : Int) (s : St) (w : World) (h : IsR w b B s) (hs : s.1.length ≤ 1099511627776) : Calls Tryz.prog 35 #[.pointer (some ⟨b, 0, none⟩), .int .i64 most] w fun e w' =>
    e = .returned (.int .i64 ((stCount most s).1 : Int)) ∧ IsR w' b B (stCount most s).2 ∧ Exc b w w' := by
  obtain ⟨bs, bad⟩ := s
  have h0 := h
  obtain ⟨A, m, c, h1, h2, hB, h3, h4, h5⟩ := h
  simp only [] at h1 h2 hs
  have hl := h2.len
  obtain ⟨h1q0, h1q1, h1f0, h1f1, h1s0, h1s1⟩ := h1.f2
  by_cases hb : bad = true
  · subst hb
    have e : stCount most (bs, true) = (0, (bs, true)) := by simp [stCount]
    rw [e]
    go_enter Tryz.func35, Tryz.ntmps35
    go_wp2
    go_ret
    exact ⟨rfl, h0, Exc.refl b w⟩
  · obtain rfl : bad = false := by simpa using hb
    have hrc := read_count A m c B bs w h2 (by omega)
    obtain ⟨B1, B2, B3, B4⟩ := readC_bounds bs
    have e0 : stCount most (bs, false) = if (readC bs).2.2 ≠ 0 ∨ most < ((readC bs).1 : Int) then (0, stFail) else ((readC bs).1, (bs.drop (readC bs).2.1, false)) := by simp [stCount]
    generalize stCount most (bs, false) = res at *
    generalize readC bs = rc at *
    obtain ⟨k, u, e⟩ := rc
    simp only [] at B1 B2 B3 B4 hrc e0
    have HRC := Lib.hid hrc
    clear hrc
    by_cases he : e = 0
    · subst he
      by_cases hm : most < (k : Int)
      · rw [if_pos (.inr hm)] at e0
        have E0 := Lib.hid e0
        clear e0 hl
        go_enter Tryz.func35, Tryz.ntmps35
        go_wp2_with fail
        refine HRC.out.mono ?_
        rintro e' w1 ⟨rfl, rfl⟩
        go_wp2_with fail
        refine (reader_fail b B _ w h0).mono ?_
        rintro e w1 ⟨rfl, h6, h7⟩
        go_wp2
        go_ret
        rw [E0.out]
        exact ⟨rfl, h6, h7⟩
      · rw [if_neg (by simp; omega)] at e0
        have E0 := Lib.hid e0
        have hs2 : ∀ w, (Instr.slice 22 (.slice A m c) (some (.int .i64 (u : Int))) none none).run Tryz.prog w = .ok (.slice (cutA A c u 1) (m - u) (c - u)) w := fun w => by
          have := run_cut (P := Tryz.prog) Tryz.underlying22 Tryz.infoU8 A m c .i64 (u : Int) (by omega) (by omega) w
          simpa using this
        have hrd := Reads.part h2 c u (m - u) (by omega) (by omega)
        rw [Nat.mul_one, Nat.mul_one, ← List.map_drop, List.take_of_length_le (by simp; omega)] at hrd
        have hex := (Exc.refl b w).set_ 0 (.slice (cutA A c u 1) (m - u) (c - u))
        have hbk := h1.set_ 0 (.slice (cutA A c u 1) (m - u) (c - u))
        clear e0 hl
        go_enter Tryz.func35, Tryz.ntmps35
        go_wp2_with fail
        refine HRC.out.mono ?_
        rintro e' w1 ⟨rfl, rfl⟩
        go_wp2
        go_ret
        rw [E0.out]
        refine ⟨rfl, ⟨cutA A c u 1, m - u, c - u, by simpa using hbk, ?_, by simpa using hB, cutA_ne h3, by omega, by omega⟩, hex⟩
        exact Reads.exc hrd hex hB (cutA_ne h3)
    · have he2 : ((e : Int) != 0) = true := by simp [bne_iff_ne]; exact he
      rw [if_pos (.inl he)] at e0
      have E0 := Lib.hid e0
      clear e0 hl
      go_enter Tryz.func35, Tryz.ntmps35
      go_wp2_with fail
      refine HRC.out.mono ?_
      rintro e' w1 ⟨rfl, rfl⟩
      go_wp2_with fail
      refine (reader_fail b B _ w h0).mono ?_
      rintro e w1 ⟨rfl, h6, h7⟩
      go_wp2
      go_ret
      rw [E0.out]
      exact ⟨rfl, h6, h7⟩
end Go.Proofs.YtjmbpnogicdkgaaGreatDoor

/-! octet.Reader: natural, Whole, Text, Bool. -/
namespace Go.Proofs.YtjmbpnogicdkgaaGreatDoor
open Go.RowKit
set_option linter.unusedSimpArgs false
set_option linter.unusedVariables false

/-- a value that was read of the Reader in block b, and its state -/
def Got (b B : Nat) (v : Value) (s : St) (w : World) (e : Ending) (w' : World) : Prop := e = .returned v ∧ IsR w' b B s ∧ Exc b w w'



theorem Exc.far {b g : Nat} {w w' : World} (h : Exc b w w') (hg : w.heap.size ≤ g) (i : Nat) (u : Value) : Exc b w (w'.setCell ⟨g, i, none⟩ u) :=
  ⟨h.os, h.tape, h.output, by rw [World.size_setCell]; exact h.size, fun k hk hb => (Below.heap_setCell w' _ _ k (by simp; omega)).trans (h.block k hk hb)⟩

set_option maxRecDepth 100000 in
set_option maxHeartbeats 400000 in
theorem reader_natural (b B n : Nat) (s : St) (w : World) (h : IsR w b B s) (hs : s.1.length ≤ 1099511627776) (hn : n ≤ 9223372036854775807) :
    Calls Tryz.prog 97 #[.pointer (some ⟨b, 0, none⟩), .int .i64 (n : Int)] w (Got b B (natV (stNat n s).1) (stNat n s).2 w) := by
  have hle := (stTake_le n s).1
  have e0 : stNat n s = if (stTake n s).1.head? = some 0 then (0, stFail) else (beVal (stTake n s).1, (stTake n s).2) := rfl
  have h1 := h.below (balloc1 w (.cells #[.int .u64 0, .string ⟨#[]⟩] 66))
  have bx := Blk.new w 66 #[.int .u64 0, .string ⟨#[]⟩]
  have htk := reader_take b B n s _ h1 hn
  have hblt := h.lt
  have hlow := h.low
  generalize stNat n s = res at *
  generalize stTake n s = tk at *
  obtain ⟨l, s'⟩ := tk
  simp only [] at hle e0 htk
  have HTK := Lib.hid htk
  have E0 := Lib.hid e0
  clear htk e0 h1
  have hE0 : Exc b w (w.alloc (.cells #[.int .u64 0, .string ⟨#[]⟩] 66)) := Exc.of (balloc1 w _)
  go_enter Tryz.func97, Tryz.ntmps97
  go_wp2_with fail
  refine HTK.out.mono ?_
  rintro e w1 ⟨A, c, rfl, hr, hA, hR, hx⟩
  have bx := bx.exc hx (by omega)
  have hx := hE0.trans hx
  have hz := bx.lt
  clear hE0 HTK
  cases l with
  | nil =>
    have e1 := E0.out
    rw [if_neg (by simp)] at e1
    have E1 := Lib.hid e1
    clear e1
    go_wp2_with fail
    refine (nat_fromBytes A 0 c B [] w1 hr hR.low (by omega)).mono ?_
    rintro e w2 ⟨rfl, hb2⟩
    have e2 : beVal [] = 0 := rfl
    rw [e2]
    (try clear bxq0 bxq1 bxf0 bxf1 bxs0 bxs1); have bx := bx.below hb2 bx.lt; obtain ⟨bxq0, bxq1, bxf0, bxf1, bxs0, bxs1⟩ := bx.f2
    rw [natV_zero]
    have hfin := ((hR.below hb2).set_ (i := 0) hlow (by omega) (.int .u64 0)).set_ (i := 1) (g := w.heap.size) hlow (by omega) (.string ⟨#[]⟩)
    have hfin2 := ((hx.trans (Exc.of hb2)).far (Nat.le_refl _) 0 (.int .u64 0)).far (Nat.le_refl _) 1 (.string ⟨#[]⟩)
    have HFN := Lib.hid (And.intro hfin hfin2)
    clear hfin hfin2
    go_wp2
    refine bodyPost_ret (v := .agg #[.int .u64 0, .string ⟨#[]⟩]) (by simp [results, Tryz.results97, go_sem, bxs0, bxs1]) rfl ?_
    rw [E1.out]
    exact ⟨by rw [e2, natV_zero], HFN.out.1, HFN.out.2⟩
  | cons x r =>
    obtain ⟨ad, y, hA2, hb2, hy, hcell⟩ := hr.at_ (k := 0) (by simp)
    simp at hy
    subst hy
    subst hA2
    rw [show ad.add 0 = ad from rfl] at hcell
    simp only [List.length_cons] at hle hr ⊢
    obtain ⟨m, hm⟩ : ∃ m, r.length + 1 = m := ⟨_, rfl⟩
    have hm1 : (0 : Int) < (m : Int) := by omega
    have hm2 : 0 < m := by omega
    rw [hm] at hr hle ⊢
    clear hm
    by_cases hx0 : x = 0
    · subst hx0
      have e1 := E0.out
      rw [if_pos (by simp)] at e1
      have E1 := Lib.hid e1
      clear e1
      go_wp2_with fail
      refine (reader_fail b B _ w1 hR).mono ?_
      rintro e w2 ⟨rfl, hR2, hx2⟩
      have bx := bx.exc hx2 (by omega)
      obtain ⟨bxq0, bxq1, bxf0, bxf1, bxs0, bxs1⟩ := bx.f2
      have hfin := ((hR2).set_ (i := 0) hlow (by omega) (.int .u64 0)).set_ (i := 1) (g := w.heap.size) hlow (by omega) (.string ⟨#[]⟩)
      have hfin2 := ((hx.trans hx2).far (Nat.le_refl _) 0 (.int .u64 0)).far (Nat.le_refl _) 1 (.string ⟨#[]⟩)
      have HFN := Lib.hid (And.intro hfin hfin2)
      clear hfin hfin2
      go_wp2
      refine bodyPost_ret (v := .agg #[.int .u64 0, .string ⟨#[]⟩]) (by simp [results, Tryz.results97, go_sem, bxs0, bxs1]) rfl ?_
      rw [E1.out]
      exact ⟨by rw [natV_zero], HFN.out.1, HFN.out.2⟩
    · have hx1 : ((x.toNat : Int) == 0) = false := by
        simp
        intro h0
        exact hx0 (UInt8.toNat_inj.1 h0)
      have e1 := E0.out
      rw [if_neg (by simpa using hx0)] at e1
      have E1 := Lib.hid e1
      clear e1
      go_wp2_with fail
      refine (nat_fromBytes (some ad) m c B (x :: r) w1 hr hR.low (by omega)).mono ?_
      rintro e w2 ⟨rfl, hb3⟩
      (try clear bxq0 bxq1 bxf0 bxf1 bxs0 bxs1); have bx := bx.below hb3 bx.lt; obtain ⟨bxq0, bxq1, bxf0, bxf1, bxs0, bxs1⟩ := bx.f2
      generalize beVal (x :: r) = N at *
      unfold natV
      have hfin := ((hR.below hb3).set_ (i := 0) hlow (by omega) (.int .u64 (lo N : Int))).set_ (i := 1) (g := w.heap.size) hlow (by omega) (.string (mo N))
      have hfin2 := ((hx.trans (Exc.of hb3)).far (Nat.le_refl _) 0 (.int .u64 (lo N : Int))).far (Nat.le_refl _) 1 (.string (mo N))
      have HFN := Lib.hid (And.intro hfin hfin2)
      clear hfin hfin2
      go_wp2
      refine bodyPost_ret (v := .agg #[.int .u64 (lo N : Int), .string (mo N)]) (by simp [results, Tryz.results97, go_sem, bxs0, bxs1]) rfl ?_
      rw [E1.out]
      exact ⟨rfl, HFN.out.1, HFN.out.2⟩

set_option maxHeartbeats 400000 in
theorem reader_bool (b B : Nat) (s : St) (w : World) (h : IsR w b B s) :
    Calls Tryz.prog 43 #[.pointer (some ⟨b, 0, none⟩)] w (Got b B (.bool (stBool s).1) (stBool s).2 w) := by
  have e0 : stBool s = match (stTake 1 s).1 with | [] => (false, (stTake 1 s).2) | x :: _ => if 1 < x.toNat then (false, stFail) else (decide (x.toNat = 1), (stTake 1 s).2) := rfl
  have htk := reader_take b B 1 s _ h (by omega)
  generalize stBool s = res at *
  generalize stTake 1 s = tk at *
  obtain ⟨l, s'⟩ := tk
  simp only [] at e0 htk
  have HTK := Lib.hid htk
  have E0 := Lib.hid e0
  clear htk e0
  go_enter Tryz.func43, Tryz.ntmps43
  go_wp2_with fail
  refine HTK.out.mono ?_
  rintro e w1 ⟨A, c, rfl, hr, hA, hR, hx⟩
  cases l with
  | nil =>
    go_wp2
    go_ret
    have e1 := E0.out
    rw [e1]
    exact ⟨rfl, hR, hx⟩
  | cons x r =>
    obtain ⟨ad, y, hA2, hb2, hy, hcell⟩ := hr.at_ (k := 0) (by simp)
    simp at hy
    subst hy
    subst hA2
    rw [show ad.add 0 = ad from rfl] at hcell
    simp only [List.length_cons] at hr ⊢
    obtain ⟨m, hm⟩ : ∃ m, r.length + 1 = m := ⟨_, rfl⟩
    have hm1 : (0 : Int) < (m : Int) := by omega
    have hm2 : ((m : Int) == 0) = false := by simp; omega
    rw [hm] at hr ⊢
    clear hm
    by_cases hx1 : 1 < x.toNat
    · have hx2 : (1 : Int) < (x.toNat : Int) := by omega
      go_wp2_with fail
      refine (reader_fail b B _ w1 hR).mono ?_
      rintro e w2 ⟨rfl, hR2, hx3⟩
      go_wp2
      go_ret
      have e1 := E0.out
      rw [if_pos hx1] at e1
      rw [e1]
      exact ⟨rfl, hR2, hx.trans hx3⟩
    · have hx2 : ¬ (1 : Int) < (x.toNat : Int) := by omega
      go_wp2
      go_ret
      have e1 := E0.out
      rw [if_neg hx1] at e1
      rw [e1]
      refine ⟨?_, hR, hx⟩
      show Ending.returned (.bool ((x.toNat : Int) == 1)) = _
      have : ((x.toNat : Int) == 1) = decide (x.toNat = 1) := by
        rw [Bool.eq_iff_iff]
        simp
        omega
      rw [this]

set_option maxHeartbeats 400000 in
theorem reader_text (b B : Nat) (most : Int) (s : St) (w : World) (h : IsR w b B s) (hs : s.1.length ≤ 1099511627776) :
    Calls Tryz.prog 42 #[.pointer (some ⟨b, 0, none⟩), .int .i64 most] w (Got b B (.string ⟨(stText most s).1.toArray⟩) (stText most s).2 w) := by
  have hle := stCount_le most s hs
  have hcn := reader_count b B most s w h hs
  have e0 : stText most s = stTake (stCount most s).1 (stCount most s).2 := rfl
  rw [e0]
  clear e0
  generalize stCount most s = cn at *
  obtain ⟨n, s1⟩ := cn
  simp only [] at hle hcn ⊢
  have HCN := Lib.hid hcn
  clear hcn
  go_enter Tryz.func42, Tryz.ntmps42
  go_wp2_with fail
  refine HCN.out.mono ?_
  rintro e w1 ⟨rfl, hR1, hx1⟩
  go_wp2_with fail
  refine (reader_take b B n s1 w1 hR1 (by omega)).mono ?_
  rintro e w2 ⟨A, c, rfl, hr, hA, hR2, hx2⟩
  have hstr := run_string (P := Tryz.prog) w2 22 9 5 A _ c _ _ Tryz.underlying22 Tryz.underlying5 Tryz.underlying9 hr
  generalize stTake n s1 = tk at *
  obtain ⟨l, s2⟩ := tk
  simp only [] at hstr hr hR2 ⊢
  generalize l.length = m at *
  go_wp2
  go_ret
  exact ⟨rfl, hR2, hx1.trans hx2⟩
end Go.Proofs.YtjmbpnogicdkgaaGreatDoor

/-! octet.Reader: Whole. -/
namespace Go.Proofs.YtjmbpnogicdkgaaGreatDoor
open Go.RowKit
set_option linter.unusedSimpArgs false
set_option linter.unusedVariables false

theorem stNat_blen (n : Nat) (s : St) (h : s.1.length ≤ 1099511627776) : blen (stNat n s).1 ≤ 8796093022208 := by
  have h1 := (stTake_le n s).1
  unfold stNat
  split
  · exact Nat.zero_le _
  · have h2 := beVal_lt (stTake n s).1
    have h3 : (256 : Nat) ^ (stTake n s).1.length = 2 ^ (8 * (stTake n s).1.length) := by rw [Nat.pow_mul]
    rw [h3] at h2
    have := blen_le _ _ h2
    simp only []
    omega

set_option maxRecDepth 100000 in
set_option maxHeartbeats 400000 in
theorem reader_whole (b B : Nat) (s : St) (w : World) (h : IsR w b B s) (hs : s.1.length ≤ 1099511627776) :
    Calls Tryz.prog 36 #[.pointer (some ⟨b, 0, none⟩)] w (Got b B (intV (stWhole s).1) (stWhole s).2 w) := by
  have hle := stCount_le 4611686018427387904 s hs
  have h1 := h.below (balloc1 w (.cells #[.bool false, .int .u64 0, .string ⟨#[]⟩] 68))
  have bx := Blk.new w 68 #[.bool false, .int .u64 0, .string ⟨#[]⟩]
  have hcn := reader_count b B 4611686018427387904 s _ h1 hs
  have hblt := h.lt
  have hlow := h.low
  have e0 : stWhole s = (signed (decide ((stCount 4611686018427387904 s).1 % 2 = 1)) (stNat ((stCount 4611686018427387904 s).1 / 2) (stCount 4611686018427387904 s).2).1,
    if (stCount 4611686018427387904 s).1 = 1 then stFail else (stNat ((stCount 4611686018427387904 s).1 / 2) (stCount 4611686018427387904 s).2).2) := rfl
  generalize stWhole s = res at *
  generalize stCount 4611686018427387904 s = cn at *
  obtain ⟨n, s1⟩ := cn
  simp only [] at hle hcn e0
  have hbl := stNat_blen (n / 2) s1 (by omega)
  have hnt := fun w h => reader_natural b B (n / 2) s1 w h (by omega) (by omega)
  generalize stNat (n / 2) s1 = nt at *
  obtain ⟨a, s2⟩ := nt
  simp only [] at hbl hnt e0
  have HCN := Lib.hid hcn
  have HNT := Lib.hid hnt
  have E0 := Lib.hid e0
  clear hcn e0 h1 hnt
  have hE0 : Exc b w (w.alloc (.cells #[.bool false, .int .u64 0, .string ⟨#[]⟩] 68)) := Exc.of (balloc1 w _)
  go_enter Tryz.func36, Tryz.ntmps36
  go_wp2_with fail
  refine HCN.out.mono ?_
  rintro e w1 ⟨rfl, hR1, hx1⟩
  have bx := bx.exc hx1 (by omega)
  have hx1 := hE0.trans hx1
  clear HCN hE0
  obtain ⟨m, hm⟩ : ∃ m, n / 2 = m := ⟨_, rfl⟩
  have k1 : (n : Int) / 2 = (m : Int) := by omega
  rw [hm] at HNT
  clear hm
  go_wp2_with fail
  refine (HNT.out w1 hR1).mono ?_
  rintro e w2 ⟨rfl, hR2, hx2⟩
  have bx := bx.exc hx2 (by omega)
  have hx2 := hx1.trans hx2
  have hz2 := bx.lt
  have hzz := hx2.size
  clear HNT k1
  unfold natV
  have by_ := Blk.new w2 66 #[.int .u64 (lo a : Int), .string (mo a)]
  have bx := bx.alloc (.cells #[.int .u64 (lo a : Int), .string (mo a)] 66)
  have hR3 := hR2.below (balloc1 w2 (.cells #[.int .u64 (lo a : Int), .string (mo a)] 66))
  have hx3 := hx2.alloc (.cells #[.int .u64 (lo a : Int), .string (mo a)] 66)
  have hneg : ((n : Int) % 2 == 1) = decide (n % 2 = 1) := by
    rw [Bool.eq_iff_iff]
    simp
    omega
  have hzz1 : w.heap.size ≤ w2.heap.size := hzz
  by_cases hn1 : n = 1
  · subst hn1
    go_wp2_with fail
    refine (reader_fail b B _ _ hR3).mono ?_
    rintro e w3 ⟨rfl, hR4, hx4⟩
    have bx := bx.exc hx4 (by omega)
    have by_ := by_.exc hx4 (by omega)
    have hx4 := hx3.trans hx4
    obtain ⟨by_q0, by_q1, by_f0, by_f1, by_s0, by_s1⟩ := by_.f2
    clear hneg
    go_wp2_with fail
    refine (whole_from true a w3 (by omega)).mono ?_
    rintro e w4 ⟨rfl, hb4⟩
    rw [intV_signed]
    (try clear bxq0 bxq1 bxq2 bxf0 bxf1 bxf2 bxs0 bxs1 bxs2); have bx := bx.below hb4 bx.lt; obtain ⟨bxq0, bxq1, bxq2, bxf0, bxf1, bxf2, bxs0, bxs1, bxs2⟩ := bx.f3
    obtain ⟨q, hq⟩ : ∃ q, (true && decide (0 < a)) = q := ⟨_, rfl⟩
    rw [hq]
    have hfin := (((hR4.below hb4).set_ (i := 0) hlow (by omega) (.bool q)).set_ (i := 1) (g := w.heap.size) hlow (by omega) (.int .u64 (lo a : Int))).set_ (i := 2) (g := w.heap.size) hlow (by omega) (.string (mo a))
    have hfin2 := (((hx4.trans (Exc.of hb4)).far (Nat.le_refl _) 0 (.bool q)).far (Nat.le_refl _) 1 (.int .u64 (lo a : Int))).far (Nat.le_refl _) 2 (.string (mo a))
    have HFN := Lib.hid (And.intro hfin hfin2)
    have HQ := Lib.hid hq
    clear hfin hfin2 hq
    go_wp2
    refine bodyPost_ret (v := .agg #[.bool q, .int .u64 (lo a : Int), .string (mo a)]) (by simp [results, Tryz.results36, go_sem, bxs0, bxs1, bxs2]) rfl ?_
    rw [E0.out]
    refine ⟨?_, ?_, HFN.out.2⟩
    · show _ = Ending.returned (intV (signed (decide (1 % 2 = 1)) a))
      rw [show decide (1 % 2 = 1) = true from rfl, intV_signed, HQ.out]
    · simp only [if_true]
      exact HFN.out.1
  · have hn2 : ((n : Int) == 1) = false := by simp; omega
    obtain ⟨by_q0, by_q1, by_f0, by_f1, by_s0, by_s1⟩ := by_.f2
    generalize hng : decide (n % 2 = 1) = ng at *
    have HNG := Lib.hid hng
    clear hng
    go_wp2_with fail
    refine (whole_from ng a _ (by omega)).mono ?_
    rintro e w4 ⟨rfl, hb4⟩
    rw [intV_signed]
    (try clear bxq0 bxq1 bxq2 bxf0 bxf1 bxf2 bxs0 bxs1 bxs2); have bx := bx.below hb4 bx.lt; obtain ⟨bxq0, bxq1, bxq2, bxf0, bxf1, bxf2, bxs0, bxs1, bxs2⟩ := bx.f3
    obtain ⟨q, hq⟩ : ∃ q, (ng && decide (0 < a)) = q := ⟨_, rfl⟩
    rw [hq]
    have hfin := (((hR3.below hb4).set_ (i := 0) hlow (by omega) (.bool q)).set_ (i := 1) (g := w.heap.size) hlow (by omega) (.int .u64 (lo a : Int))).set_ (i := 2) (g := w.heap.size) hlow (by omega) (.string (mo a))
    have hfin2 := (((hx3.trans (Exc.of hb4)).far (Nat.le_refl _) 0 (.bool q)).far (Nat.le_refl _) 1 (.int .u64 (lo a : Int))).far (Nat.le_refl _) 2 (.string (mo a))
    have HFN := Lib.hid (And.intro hfin hfin2)
    have HQ := Lib.hid hq
    clear hfin hfin2 hq
    go_wp2
    refine bodyPost_ret (v := .agg #[.bool q, .int .u64 (lo a : Int), .string (mo a)]) (by simp [results, Tryz.results36, go_sem, bxs0, bxs1, bxs2]) rfl ?_
    rw [E0.out]
    refine ⟨?_, ?_, HFN.out.2⟩
    · show _ = Ending.returned (intV (signed ng a))
      rw [intV_signed, HQ.out]
    · simp only []
      rw [if_neg hn1]
      exact HFN.out.1
end Go.Proofs.YtjmbpnogicdkgaaGreatDoor
