/-
  nat.Bytes: the bytes of a number, the highest first.
-/
import Derived.Test.YtjmbpnogicdkgaaNatWalks
import Derived.Test.YtjmbpnogicdkgaaSeal
namespace Go.Proofs.Ytjmbpnogicdkgaa
open Go.RowKit
set_option linter.unusedSimpArgs false
set_option linter.unusedVariables false

/-- the bytes of the lowest i places, the highest first -/
def lowBytes (n : Nat) : Nat → List UInt8
  | 0 => []
  | i + 1 => byteAt n i :: lowBytes n i
def nbytes (n : Nat) : Nat := (blen n + 7) / 8
def natB (n : Nat) : List UInt8 := lowBytes n (nbytes n)
theorem lowBytes_len (n i : Nat) : (lowBytes n i).length = i := by
  induction i with
  | zero => rfl
  | succ i ih => simp [lowBytes, ih]
theorem natB_len (n : Nat) : (natB n).length = nbytes n := lowBytes_len n _
theorem low_set (n N i : Nat) (h : i < N) : (List.replicate (N - i) (0 : UInt8) ++ lowBytes n i).set (N - 1 - i) (byteAt n i) = List.replicate (N - (i + 1)) 0 ++ lowBytes n (i + 1) := by
  obtain ⟨m, rfl⟩ : ∃ m, N = i + 1 + m := ⟨N - (i + 1), by omega⟩
  rw [show i + 1 + m - i = m + 1 from by omega, show i + 1 + m - 1 - i = m from by omega, show i + 1 + m - (i + 1) = m from by omega]
  rw [List.replicate_succ', List.append_assoc, List.set_append_right _ _ (by simp)]
  simp [lowBytes]
theorem words_get (n : Nat) : ∀ (j x : Nat), (words n)[j]? = some x → x = n / 18446744073709551616 ^ j % 18446744073709551616 := by
  induction n using Nat.strongRecOn with
  | ind n ih =>
    intro j x h
    by_cases h0 : n = 0
    · subst h0; rw [words_zero] at h; simp at h
    · rw [words_pos n h0] at h
      cases j with
      | zero => simp at h; subst h; simp
      | succ j =>
        rw [List.getElem?_cons_succ] at h
        rw [ih _ (by omega) j x h, Nat.div_div_eq_div_mul, Nat.pow_succ, Nat.mul_comm]
theorem byte_word (n i x : Nat) (h : (words n)[i / 8]? = some x) : (x : Int) / 2 ^ (8 * (i % 8)) % 256 = ((byteAt n i).toNat : Int) := by
  have e := words_get n _ _ h
  rw [byte_walk x (i % 8)]
  congr 2
  unfold byteAt
  congr 1
  have hm : i % 8 < 8 := Nat.mod_lt _ (by omega)
  have p : (18446744073709551616 : Nat) ^ (i / 8) = 256 ^ (8 * (i / 8)) := by rw [Nat.pow_mul]
  have q : (18446744073709551616 : Nat) = 256 ^ (i % 8) * 256 ^ (8 - i % 8) := by rw [← Nat.pow_add, show i % 8 + (8 - i % 8) = 8 from by omega]
  rw [e, p]
  conv => lhs; rw [show n / 256 ^ (8 * (i / 8)) % 18446744073709551616 = n / 256 ^ (8 * (i / 8)) % (256 ^ (i % 8) * 256 ^ (8 - i % 8)) from by rw [← q]]
  rw [Nat.mod_mul_right_div_self, Nat.div_div_eq_div_mul, ← Nat.pow_add, show 8 * (i / 8) + i % 8 = i from by omega]
  rw [Nat.mod_mod_of_dvd _ (by rw [show 8 - i % 8 = (7 - i % 8) + 1 from by omega, Nat.pow_succ]; exact Nat.dvd_mul_left _ _)]

def BytesRel (w : World) (n g : Nat) (A : Option Addr) (i : Nat) (wr : World) : Prop :=
  Row wr g 5 u8v (List.replicate (nbytes n - i) 0 ++ lowBytes n i) ∧ Below w.heap.size w wr ∧ Reads wr wr.heap.size 1 A (words n).length ((words n).map u64v)

theorem words_len_le (n : Nat) (hn : blen n ≤ 1125899906842624) : (words n).length ≤ 17592186044416 := by
  by_cases h0 : n = 0
  · subst h0; simp [words_zero]
  · have h1 := blen_words n h0
    have h2 := (blen_pos (top n)).2 (words_top n h0).2.1
    omega

set_option maxRecDepth 100000 in
set_option maxHeartbeats 1000000 in
theorem nat_bytes (n : Nat) (w : World) (hn : blen n ≤ 1125899906842624) : Calls Try.prog 49 #[natV n] w fun e w' => ∃ v, e = .returned v ∧ NewB w w' v (natB n) := by
  have hW := words_len_le n hn
  obtain ⟨N, hN⟩ : ∃ N, nbytes n = N := ⟨_, rfl⟩
  have hN2 : ((blen n : Int) + 7) / 8 = (N : Int) := by unfold nbytes at hN; omega
  have hN3 : N ≤ 140737488355328 := by omega
  have hmk := make_row (P := Try.prog) u8v 0 29 5 1 Try.underlying29 Try.infoU8 rfl .i64 .i64 N (by omega) (by omega)
  have HN := Lib.hid hN
  clear hN
  unfold natV
  go_enter Try.func49, Try.ntmps49
  go_wp2_with fail
  refine (nat_bits n _ (by omega)).mono ?_
  rintro e w1 ⟨rfl, hb1⟩
  have hbk : Blk w1 w.heap.size 51 #[.int .u64 (lo n : Int), .string (mo n)] := (Blk.new _ _ _).below hb1 (by simp)
  have hB1 : Below w.heap.size w w1 := ((Below.refl _ _).alloc (Nat.le_refl _) _).trans (hb1.mono (by simp))
  have hz1 : w.heap.size < w1.heap.size := hbk.lt
  have q0 := hbk.cell 0
  have q1 := hbk.cell 1
  simp at q0 q1
  clear hb1
  go_wp2_with fail
  refine (nat_words n _ (by omega) hW).mono ?_
  rintro e w2 ⟨v2, rfl, ho2, hb2, hf2⟩
  have hr2 : Row w2 w1.heap.size 5 u8v (List.replicate N 0) := (Row.rep w1 5 u8v 0 N).below hb2 (by simp)
  have hB2 : Below w.heap.size w w2 := (hB1.alloc (by omega) _).trans (hb2.mono (by simp; omega))
  obtain ⟨A, c, hv, hc1, hc2⟩ := ho2.form
  rw [hv] at ho2 hf2
  rw [hv]
  have hrd := Own.reads ho2
  have hfr : ∀ ad, A = some ad → w1.heap.size + 1 ≤ ad.block := fun ad h => by
    have := hf2 ad.block (by rw [h]; rfl)
    simpa using this
  clear hv ho2 hf2 hb2 q0 q1 hbk hB1 hmk
  obtain ⟨L, hL⟩ : ∃ L, (words n).length = L := ⟨_, rfl⟩
  obtain ⟨g, hg⟩ : ∃ g, w1.heap.size = g := ⟨_, rfl⟩
  rw [hg] at hr2 hfr hz1
  rw [hg, hL]
  rw [hL] at hc1
  have HL := Lib.hid hL
  clear hL
  go_wp2_with fail
  go_loopw [6, 16] (fun x y wr => ∃ i : Nat, i ≤ N ∧ y = .int .i64 i ∧ BytesRel w n g A i wr) (fun _ y _ => N - (intOf y).toNat)
  case atStart => exact ⟨0, Nat.zero_le _, rfl, by rw [HN.out]; simpa [lowBytes] using hr2, hB2, hrd⟩
  case round =>
    obtain ⟨i, hi, rfl, h1, h2, h3⟩ := hrel
    rw [HN.out] at h1
    by_cases hlt : i < N
    · have hi8 : i / 8 < L := by
        have h5 := HN.out
        have h6 := HL.out
        by_cases h0 : n = 0
        · subst h0
          have : nbytes 0 = 0 := rfl
          omega
        · have h7 := blen_words n h0
          have h8 : blen (top n) ≤ 64 := by rw [← bitLen_eq _ (words_top n h0).2.2]; exact Lib.bitLen_le _ 64 (by omega) (words_top n h0).2.2
          have h9 : 1 ≤ (words n).length := by rw [words_pos n h0]; simp
          unfold nbytes at h5
          omega
      rw [HL.out] at h3
      obtain ⟨ad, x, hA, hb, hx, hc⟩ := h3.atf hi8
      have hA2 := hfr ad hA
      have e1 := byte_word n i x hx
      obtain ⟨y, hy⟩ : ∃ y, byteAt n i = y := ⟨_, rfl⟩
      rw [hy] at e1
      have HY := Lib.hid hy
      clear hy hx
      subst hA
      unfold u64v at hc
      have hcell := h1.cell (k := N - 1 - i) (x := 0) (by rw [List.getElem?_append_left (by simp; omega), List.getElem?_replicate]; simp; omega)
      have hfz := h1.frozen (N - 1 - i)
      have hnx := low_set n N i hlt
      have HNX := Lib.hid hnx
      unfold u8v at hcell
      clear hnx
      have k1 : ((N : Int) - 1 - (i : Int)).toNat = N - 1 - i := by omega
      have k2 : (0 : Int) ≤ (N : Int) - 1 - (i : Int) := by omega
      have k3 : (N : Int) - 1 - (i : Int) < (N : Int) := by omega
      have k4 : ((i : Int) / 8) < (L : Int) := by omega
      go_wp2
      refine ⟨⟨i + 1, by omega, by go_num, ?_, h2.setCell (by simp; omega) _, ?_⟩, by simp [intOf]; omega⟩
      · have h6 := h1.set_ (N - 1 - i) y
        rw [← HY.out, HNX.out, HY.out] at h6
        rw [HN.out]
        exact h6
      · rw [World.size_setCell, HL.out]
        exact Reads.setFar h3 (fun ad' h => by cases h; simp; omega) _
    · obtain rfl : i = N := by omega
      go_wp2
      go_ret
      rw [Nat.sub_self, List.replicate_zero, List.nil_append] at h1
      have h5 : natB n = lowBytes n i := by unfold natB; rw [HN.out]
      have ho := Own.ofBlk h1 (by rw [lowBytes_len]; unfold maxLen; omega)
      rw [lowBytes_len] at ho
      rw [h5]
      exact ⟨_, rfl, ho, h2, fun k hk => by simp [Value.ownBlock] at hk; omega⟩
end Go.Proofs.Ytjmbpnogicdkgaa
