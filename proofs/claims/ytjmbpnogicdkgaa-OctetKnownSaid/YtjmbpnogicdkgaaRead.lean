/-
  octet.readCount.
-/
import Derived.Test.YtjmbpnogicdkgaaSeal
namespace Go.Proofs.Ytjmbpnogicdkgaa
open Go.RowKit
set_option linter.unusedSimpArgs false
set_option linter.unusedVariables false

/-- how many bytes at the beginning have their highest bit set -/
def lead : List UInt8 → Nat
  | [] => 0
  | b :: r => if 128 ≤ b.toNat then lead r + 1 else 0
/-- the number of the groups of seven bits, the lowest first -/
def valB : List UInt8 → Nat
  | [] => 0
  | b :: r => b.toNat % 128 + 128 * valB r
theorem lead_le (bs : List UInt8) : lead bs ≤ bs.length := by
  induction bs with
  | nil => simp [lead]
  | cons b r ih => simp only [lead]; split <;> simp <;> omega
theorem lead_hi (bs : List UInt8) : ∀ (k : Nat) (x : UInt8), k < lead bs → bs[k]? = some x → 128 ≤ x.toNat := by
  induction bs with
  | nil => intro k x h; simp [lead] at h
  | cons b r ih =>
    intro k x h hx
    simp only [lead] at h
    split at h
    · cases k with
      | zero => simp at hx; subst hx; assumption
      | succ k => exact ih k x (by omega) (by simpa using hx)
    · omega
theorem lead_lo (bs : List UInt8) : ∀ (x : UInt8), bs[lead bs]? = some x → x.toNat < 128 := by
  induction bs with
  | nil => intro x h; simp [lead] at h
  | cons b r ih =>
    intro x hx
    simp only [lead] at hx
    split at hx
    · exact ih x (by simpa using hx)
    · simp at hx; subst hx; omega
theorem valB_lt (bs : List UInt8) : valB bs < 128 ^ bs.length := by
  induction bs with
  | nil => simp [valB]
  | cons b r ih =>
    simp only [valB, List.length_cons, Nat.pow_succ]
    have : b.toNat % 128 < 128 := Nat.mod_lt _ (by omega)
    omega
theorem valB_drop (bs : List UInt8) (k : Nat) (x : UInt8) (h : bs[k]? = some x) : valB (bs.drop k) = x.toNat % 128 + 128 * valB (bs.drop (k + 1)) := by
  have hk : k < bs.length := (List.getElem?_eq_some_iff.1 h).1
  have hx : bs[k] = x := (List.getElem?_eq_some_iff.1 h).2
  rw [List.drop_eq_getElem_cons hk, hx]
  rfl

/-- readCount: the number, its size, the error -/
def readC (bs : List UInt8) : Nat × Nat × Nat :=
  let s := lead bs
  if s = bs.length then (0, 0, 3)
  else if 0 < s ∧ bs[s]? = some 0 then (0, 0, 2)
  else if 9 < s + 1 then (0, 0, 4)
  else if 4611686018427387904 < valB (bs.take (s + 1)) then (0, 0, 4)
  else (valB (bs.take (s + 1)), s + 1, 0)

theorem or_i64 (a b : Nat) (hb : b < 128) (ha : a < 72057594037927936) : bits .or .i64 ((a : Int) * 128) (b : Int) = ((a * 128 + b : Nat) : Int) := by
  have hx : bits .or .i64 ((a : Int) * 128) (b : Int) = (a : Int) * 128 + (b : Int) :=
    bits_join .i64 63 (by decide) (fun n h0 h1 => IntWalk.i64_in n (by omega)) 7 _ _ (by omega) (by omega) (by omega) (by omega) (by omega) (by omega)
  rw [hx]
  omega
theorem and_u8_127 (x : UInt8) : bits .and .u8 (x.toNat : Int) 127 = ((x.toNat % 128 : Nat) : Int) := by
  have h := x.toNat_lt
  have e := and_u8 x.toNat 127 (by omega) (by omega)
  rw [show ((127 : Nat) : Int) = 127 from rfl] at e
  rw [e, show (127 : Nat) = 2 ^ 7 - 1 from rfl, Nat.and_two_pow_sub_one_eq_mod]

set_option maxRecDepth 100000 in
set_option maxHeartbeats 1000000 in
theorem read_count (A : Option Addr) (n c B : Nat) (bs : List UInt8) (w : World) (h : Bytes w B A n bs) (hn : n ≤ 9223372036854775000) :
    Calls Try.prog 41 #[.slice A n c] w fun e w' => e = .returned (.tuple #[.int .i64 ((readC bs).1 : Int), .int .i64 ((readC bs).2.1 : Int), .int .i64 ((readC bs).2.2 : Int)]) ∧ w = w' := by
  have hl := h.len
  have hle := lead_le bs
  rw [hl] at hle
  have HL := Lib.hid hl
  clear hl
  obtain ⟨s, hs⟩ : ∃ s, lead bs = s := ⟨_, rfl⟩
  rw [hs] at hle
  have HS := Lib.hid hs
  clear hs
  go_enter Try.func41, Try.ntmps41
  go_wp2_with fail
  go_loop [3] (fun x => ∃ k : Nat, k ≤ s ∧ x = .int .i64 k) (fun x => s - (intOf x).toNat)
  case atStart => exact ⟨0, Nat.zero_le _, rfl⟩
  case round =>
    obtain ⟨k, hk, rfl⟩ := hrel
    by_cases hks : k < s
    · obtain ⟨ad, x, hA, hb, hx, hc⟩ := h.at_ (show k < n by omega)
      have hge := lead_hi bs k x (by rw [HS.out]; exact hks) hx
      subst hA
      clear hx
      have hk2 : (k : Int) < (n : Int) := by omega
      go_wp2
      exact ⟨⟨k + 1, by omega, by go_num⟩, by simp [intOf]; omega⟩
    · obtain rfl : k = s := by omega
      by_cases hsn : k = n
      · subst hsn
        go_wp2
        go_ret3
        have h1 := HL.out
        have h2 := HS.out
        have e : readC bs = (0, 0, 3) := by unfold readC; simp [h1, h2]
        rw [e]
        exact ⟨rfl, rfl⟩
      · obtain ⟨ad, x, hA, hb, hx, hc⟩ := h.at_ (show k < n by omega)
        have hlo := lead_lo bs x (by rw [HS.out]; exact hx)
        subst hA
        have HXX := Lib.hid hx
        clear hx
        have hk2 : (k : Int) < (n : Int) := by omega
        by_cases hF : 0 < k ∧ x.toNat = 0
        · obtain ⟨hF1, hF2⟩ := hF
          have hF3 : ((x.toNat : Int) == 0) = true := by simp [hF2]
          have HF2 := Lib.hid hF2
          clear hF2
          go_wp2
          go_ret3
          have h1 := HL.out
          have h2 := HS.out
          have h3 : bs[k]? = some 0 := by
            rw [HXX.out]
            have : x = 0 := UInt8.toNat_inj.1 HF2.out
            rw [this]
          have e : readC bs = (0, 0, 2) := by unfold readC; simp [h1, h2, hsn, hF1, h3]
          rw [e]
          exact ⟨rfl, rfl⟩
        · have h3 : ¬ (0 < k ∧ bs[k]? = some 0) := by
            rintro ⟨h3, h4⟩
            rw [HXX.out] at h4
            have := Option.some.inj h4
            subst this
            exact hF ⟨h3, rfl⟩
          have H3 := Lib.hid h3
          clear h3
          have hD : (k < 1) ∨ (0 < k ∧ ((x.toNat : Int) == 0) = false) := by
            by_cases h0 : k < 1
            · exact .inl h0
            · refine .inr ⟨by omega, ?_⟩
              simp
              intro h4
              exact hF ⟨by omega, h4⟩
          clear hF
          have e0 : readC bs = if 9 < k + 1 then (0, 0, 4) else if 4611686018427387904 < valB (bs.take (k + 1)) then (0, 0, 4) else (valB (bs.take (k + 1)), k + 1, 0) := by
            unfold readC
            have h1 := HL.out
            have h2 := HS.out
            have h3 := H3.out
            simp only [h2, h1]
            rw [if_neg hsn, if_neg h3]
          have E0 := Lib.hid e0
          clear e0
          by_cases hL : 9 < k + 1
          · rcases hD with hD1 | ⟨hD1, hD2⟩
            · omega
            · go_wp2
              go_ret3
              rw [E0.out, if_pos hL]
              exact ⟨rfl, rfl⟩
          · have hfin := valB_lt (bs.take (k + 1))
            have hlen : (bs.take (k + 1)).length = k + 1 := by rw [List.length_take, HL.out]; omega
            rw [hlen] at hfin
            have hfin2 : valB (bs.take (k + 1)) < 9223372036854775808 := Nat.lt_of_lt_of_le hfin (Nat.le_trans (Nat.pow_le_pow_right (by omega) (show k + 1 ≤ 9 by omega)) (by decide))
            clear hfin
            have HLEN := Lib.hid hlen
            clear hlen
            rcases hD with hD1 | ⟨hD1, hD2⟩
            all_goals
              go_wp2
              go_loop [2, 5] (fun x y => ∃ i : Nat, i ≤ k + 1 ∧ y = .int .i64 ((i : Int) - 1) ∧ x = .int .i64 ((valB ((bs.take (k + 1)).drop i) : Nat) : Int)) (fun _ y => (intOf y + 1).toNat)
              case atStart => exact ⟨k + 1, Nat.le_refl _, by go_num, by rw [List.drop_of_length_le (by rw [HLEN.out]; omega)]; rfl⟩
              case round =>
                obtain ⟨i, hi, rfl, rfl⟩ := hrel
                by_cases hi0 : 0 < i
                · obtain ⟨i, rfl⟩ : ∃ j, i = j + 1 := ⟨i - 1, by omega⟩
                  obtain ⟨ad', y, hA', hb', hy, hcy⟩ := h.at_ (show i < n by omega)
                  injection hA' with hA'
                  subst hA'
                  have hy2 : (bs.take (k + 1))[i]? = some y := by rw [List.getElem?_take, if_pos (by omega)]; exact hy
                  have hstep := valB_drop _ i y hy2
                  have hlt7 := valB_lt ((bs.take (k + 1)).drop (i + 1))
                  rw [List.length_drop, HLEN.out] at hlt7
                  have hlt8 : valB ((bs.take (k + 1)).drop (i + 1)) < 72057594037927936 := Nat.lt_of_lt_of_le hlt7 (Nat.le_trans (Nat.pow_le_pow_right (by omega) (show k + 1 - (i + 1) ≤ 8 by omega)) (by decide))
                  clear hlt7
                  have e1 := and_u8_127 y
                  have hm : y.toNat % 128 < 128 := Nat.mod_lt _ (by omega)
                  have e2 := or_i64 (valB ((bs.take (k + 1)).drop (i + 1))) (y.toNat % 128) hm hlt8
                  have HST := Lib.hid hstep
                  clear hstep hy hy2
                  generalize valB ((bs.take (k + 1)).drop (i + 1)) = u at *
                  obtain ⟨d, hd⟩ : ∃ d, y.toNat % 128 = d := ⟨_, rfl⟩
                  rw [hd] at e1 e2 HST hm
                  clear hd
                  have hi2 : ((i + 1 : Nat) : Int) - 1 = (i : Int) := by omega
                  have hi3 : (i : Int) < (n : Int) := by omega
                  go_wp2
                  refine ⟨⟨i, by omega, rfl, ?_⟩, by simp [intOf] <;> omega⟩
                  rw [HST.out]
                  exact congrArg (Value.int IntKind.i64) (by omega)
                · obtain rfl : i = 0 := by omega
                  rw [List.drop_zero]
                  by_cases hbig : 4611686018427387904 < valB (bs.take (k + 1))
                  · have hbig2 : (4611686018427387904 : Int) < (valB (bs.take (k + 1)) : Int) := by omega
                    go_wp2
                    go_ret3
                    rw [E0.out, if_neg hL, if_pos hbig]
                    exact ⟨rfl, rfl⟩
                  · have hbig2 : ¬ (4611686018427387904 : Int) < (valB (bs.take (k + 1)) : Int) := by omega
                    go_wp2
                    go_ret3
                    rw [E0.out, if_neg hL, if_neg hbig]
                    exact ⟨rfl, rfl⟩
end Go.Proofs.Ytjmbpnogicdkgaa
