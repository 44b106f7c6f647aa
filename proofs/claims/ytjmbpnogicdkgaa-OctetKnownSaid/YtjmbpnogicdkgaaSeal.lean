/-
  octet.Seal: a record's bytes.
-/
import Derived.Test.YtjmbpnogicdkgaaExact
import Derived.Test.YtjmbpnogicdkgaaSum
namespace Go.Proofs.Ytjmbpnogicdkgaa
open Go.RowKit
set_option linter.unusedSimpArgs false
set_option linter.unusedVariables false

/-- the byte number i, from the lowest on -/
def byteAt (h i : Nat) : UInt8 := UInt8.ofNat (h / 256 ^ i % 256)
/-- the first j of the eight bytes of h, the highest first -/
def beTake (h : Nat) : Nat → List UInt8
  | 0 => []
  | j + 1 => beTake h j ++ [byteAt h (7 - j)]
def beBytes (h : Nat) : List UInt8 := beTake h 8
theorem beTake_len (h j : Nat) : (beTake h j).length = j := by
  induction j with
  | zero => rfl
  | succ j ih => simp [beTake, ih]
theorem byte_walk (h i : Nat) : (h : Int) / 2 ^ (8 * i) % 256 = ((byteAt h i).toNat : Int) := by
  unfold byteAt
  rw [UInt8.toNat_ofNat', Nat.mod_mod_of_dvd _ (by decide), show (256 : Nat) ^ i = 2 ^ (8 * i) from by rw [Nat.pow_mul]]
  rw [Int.natCast_emod, Int.natCast_ediv, Int.natCast_pow]
  rfl
def headB (kind : Nat) (body : List UInt8) : List UInt8 := [UInt8.ofNat kind] ++ countB body.length ++ body
def sealB (kind : Nat) (body : List UInt8) : List UInt8 := headB kind body ++ beBytes (fnv (headB kind body))

def SealRel (w : World) (hd : List UInt8) (i : Int) (v : Value) (wr : World) : Prop :=
  ∃ j : Nat, j ≤ 8 ∧ i = 7 - (j : Int) ∧ Own wr 5 u8v v (hd ++ beTake (fnv hd) j) ∧ Below w.heap.size w wr ∧ ∀ k, v.ownBlock = some k → w.heap.size ≤ k

set_option maxRecDepth 100000 in
set_option maxHeartbeats 1000000 in
theorem octet_seal_full (kind : Nat) (A : Option Addr) (n c B : Nat) (bs : List UInt8) (w : World) (h : Bytes w B A n bs) (hB : B ≤ w.heap.size) (hn : n ≤ 4194304) (hk1 : 1 ≤ kind) (hk2 : kind ≤ 255) :
    Calls Try.prog 18 #[.int .i64 (kind : Int), .slice A n c] w fun e w' => ∃ g L, e = .returned (.tuple #[.slice (some ⟨g, 0, none⟩) L L, .int .i64 0]) ∧ NewB w w' (.slice (some ⟨g, 0, none⟩) L L) (sealB kind bs) := by
  have hl := h.len
  have HL := Lib.hid hl
  clear hl
  have c1 : decide ((kind : Int) < 1) = false := by simp; omega
  have c2 : decide ((255 : Int) < (kind : Int)) = false := by simp; omega
  have c3 : decide ((4194304 : Int) < (n : Int)) = false := by simp; omega
  have ho0 : Own (w.alloc (.cells #[.int .u8 (kind : Int)] 5)) 5 u8v (.slice (some ⟨w.heap.size, 0, none⟩) 1 1) [UInt8.ofNat kind] := by
    have h1 := Own.lit w 5 u8v [UInt8.ofNat kind] (by unfold maxLen; simp)
    have h2 : u8v (UInt8.ofNat kind) = .int .u8 (kind : Int) := by
      unfold u8v
      rw [UInt8.toNat_ofNat', Nat.mod_eq_of_lt (by omega)]
    simp only [List.map_cons, List.map_nil, h2] at h1
    exact h1
  go_enter Try.func18, Try.ntmps18
  go_wp2_with fail
  refine (append_count _ _ n _ ho0 (by omega) (by simp)).mono ?_
  rintro e w1 ⟨v1, rfl, ho1, hg1⟩
  have hb1 : Below w.heap.size w w1 := ((Below.refl _ _).alloc (Nat.le_refl _) _).trans (Grew.below hg1 (by simp) (by intro k hk; simp [Value.ownBlock] at hk; omega))
  have hf1 := Grew.fresh (B := w.heap.size) hg1 (by simp) (by intro k hk; simp [Value.ownBlock] at hk; omega)
  have hcl : (countB n).length ≤ 10 := countF_len 9 n
  have hll : ([UInt8.ofNat kind] ++ countB n).length ≤ 11 := by simp; omega
  generalize hl1 : [UInt8.ofNat kind] ++ countB n = l1 at ho1 hll
  have HL1 := Lib.hid hl1
  clear hl1 hcl hg1 ho0
  obtain ⟨A1, c1', hv1, hc1, hc2⟩ := ho1.form
  rw [hv1] at ho1 hf1
  rw [hv1]
  clear hv1
  have hr1 : Bytes w1 B A n bs := Reads.below h (hb1.mono hB)
  go_wp2_with (at_builtin; refine appN Try.eltU8 rfl (.tmp 24) (.tmp 25) rfl w1 _ l1 B A n c bs rfl ho1 rfl hr1 u8v_one ?c1 ?c2 ?_)
  case c1 => unfold maxLen; omega
  case c2 => omega
  intro v2 w2 ho2 hg2
  have hb2 := hb1.trans (Grew.below hg2 hb1.size hf1)
  have hf2 := Grew.fresh hg2 hb1.size hf1
  have hlhd : (l1 ++ bs).length ≤ 4194400 := by rw [List.length_append, HL.out]; omega
  generalize hhd : l1 ++ bs = hd at ho2 hlhd
  have HHD := Lib.hid hhd
  clear hhd hg2 ho1 hr1 hb1 hf1 hll
  obtain ⟨A2, c2', hv2, hc3, hc4⟩ := ho2.form
  rw [hv2] at ho2 hf2
  rw [hv2]
  clear hv2
  go_wp2_with fail
  refine (octet_sum _ _ _ _ _ _ (Own.reads ho2) (by omega)).mono ?_
  rintro e w3 ⟨rfl, rfl⟩
  go_wp2_with fail
  go_loopw [6, 8] (fun v i wr => ∃ z : Int, i = .int .i64 z ∧ SealRel w hd z v wr) (fun _ i _ => (intOf i + 1).toNat)
  case atStart => exact ⟨7, rfl, 0, by omega, by omega, by simpa [beTake] using ho2, hb2, hf2⟩
  case round =>
    obtain ⟨z, rfl, j, hj, rfl, ho3, hb3, hf3⟩ := hrel
    have hlt : (hd ++ beTake (fnv hd) j).length ≤ 4194410 := by rw [List.length_append, beTake_len]; omega
    generalize hl3 : hd ++ beTake (fnv hd) j = l3 at ho3 hlt
    have HL3 := Lib.hid hl3
    clear hl3
    obtain ⟨A3, c3', hv3, hc5, hc6⟩ := ho3.form
    rw [hv3] at ho3 hf3
    rw [hv3]
    clear hv3 ho2 hb2 hf2 c1 c2 c3
    by_cases hj8 : j < 8
    · have hs1 : (0 : Int) ≤ 8 * (7 - (j : Int)) := by omega
      have hs2 : 8 * (7 - (j : Int)) ≤ 56 := by omega
      have e1 := byte_walk (fnv hd) (7 - j)
      obtain ⟨x, hx⟩ : ∃ x, byteAt (fnv hd) (7 - j) = x := ⟨_, rfl⟩
      rw [hx] at e1
      have HX := Lib.hid hx
      clear hx
      go_wp2_with (at_builtin; refine app1 Try.eltU8 rfl (.tmp 33) (.tmp 39) rfl wr _ l3 x _ rfl rfl ho3 rfl (u8v_one _) ?d1 ?d2 ?_)
      case d1 => unfold maxLen; omega
      case d2 => omega
      intro v4 w4 ho4 hg4
      go_wp2
      refine ⟨⟨7 - ((j + 1 : Nat) : Int), by go_num, j + 1, by omega, rfl, ?_, hb3.trans (Grew.below hg4 hb3.size hf3), Grew.fresh hg4 hb3.size hf3⟩, by simp [intOf]; omega⟩
      have h1 := HL3.out
      rw [← h1, ← HX.out] at ho4
      rw [List.append_assoc] at ho4
      exact ho4
    · obtain rfl : j = 8 := by omega
      go_wp2_with fail
      refine (octet_exact_full _ _ _ _ _ _ (Own.reads ho3) (Nat.le_refl _) (by omega)).mono ?_
      rintro e w5 ⟨g5, rfl, ho5, hb5, hf5⟩
      go_wp2
      go_ret2
      refine ⟨g5, _, rfl, ?_, hb3.trans (hb5.mono hb3.size), fun k hk => Nat.le_trans hb3.size (hf5 k hk)⟩
      have h1 := HL3.out
      have h2 := HHD.out
      have h3 := HL1.out
      have h4 := HL.out
      unfold sealB headB
      rw [h4, h3, h2]
      unfold beBytes
      rw [h1]
      exact ho5

theorem octet_seal (kind : Nat) (A : Option Addr) (n c B : Nat) (bs : List UInt8) (w : World) (h : Bytes w B A n bs) (hB : B ≤ w.heap.size) (hn : n ≤ 4194304) (hk1 : 1 ≤ kind) (hk2 : kind ≤ 255) :
    Calls Try.prog 18 #[.int .i64 (kind : Int), .slice A n c] w fun e w' => ∃ v', e = .returned (.tuple #[v', .int .i64 0]) ∧ NewB w w' v' (sealB kind bs) :=
  (octet_seal_full kind A n c B bs w h hB hn hk1 hk2).mono fun _ _ ⟨_, _, h1, h2⟩ => ⟨_, h1, h2⟩
end Go.Proofs.Ytjmbpnogicdkgaa
