/-
  nat.FromBytes: the number with these bytes, the highest first.
-/
import Derived.Test.YtjmbpnogicdkgaaFromWords
import Derived.Test.YtjmbpnogicdkgaaNext
import Derived.RegionTactic
import Derived.BigRegion
namespace Go.Proofs.Ytjmbpnogicdkgaa
open Go.RowKit
set_option linter.unusedSimpArgs false
set_option linter.unusedVariables false

theorem beVal_cons (b : UInt8) (r : List UInt8) : beVal (b :: r) = b.toNat * 256 ^ r.length + beVal r := by
  have : ∀ (l : List UInt8) (a : Nat), l.foldl (fun a b => a * 256 + b.toNat) a = a * 256 ^ l.length + beVal l := by
    intro l
    induction l with
    | nil => intro a; simp [beVal]
    | cons x s ih =>
      intro a
      have h1 := ih (a * 256 + x.toNat)
      have h2 := ih x.toNat
      unfold beVal at *
      simp only [List.foldl_cons, List.length_cons, Nat.zero_mul, Nat.zero_add]
      rw [h1, h2, Nat.pow_succ, Nat.add_mul, Nat.mul_assoc, Nat.mul_comm 256, Nat.add_assoc]
  have h := this r b.toNat
  unfold beVal at *
  simp only [List.foldl_cons, Nat.zero_mul, Nat.zero_add]
  exact h
theorem beVal_drop (bs : List UInt8) (i : Nat) (x : UInt8) (hi : i < bs.length) (hx : bs[bs.length - 1 - i]? = some x) : beVal (bs.drop (bs.length - (i + 1))) = x.toNat * 256 ^ i + beVal (bs.drop (bs.length - i)) := by
  have e : bs.drop (bs.length - (i + 1)) = x :: bs.drop (bs.length - i) := by
    rw [show bs.length - (i + 1) = bs.length - 1 - i from by omega]
    have hk : bs.length - 1 - i < bs.length := by omega
    rw [List.drop_eq_getElem_cons hk]
    rw [List.getElem?_eq_getElem hk] at hx
    rw [Option.some.inj hx, show bs.length - 1 - i + 1 = bs.length - i from by omega]
  rw [e, beVal_cons, List.length_drop, show bs.length - (bs.length - i) = i from by omega]
theorem or_byte (x b r : Nat) (hx : x < 256 ^ r) (hb : b < 256) (hr : r < 8) : bits .or .u64 (x : Int) (IntKind.u64.wrap ((b : Int) * 2 ^ (8 * r))) = ((x + b * 256 ^ r : Nat) : Int) ∧ x + b * 256 ^ r < 18446744073709551616 := by
  have p : (256 : Nat) ^ r = 2 ^ (8 * r) := by rw [Nat.pow_mul]
  have q : (2 : Nat) ^ (8 * r) ≤ 2 ^ 56 := Nat.pow_le_pow_right (by omega) (by omega)
  have h3 : b * 2 ^ (8 * r) ≤ 255 * 2 ^ 56 := Nat.mul_le_mul (by omega) q
  rw [p] at hx ⊢
  have e := or_u64 x (b * 2 ^ (8 * r)) (by omega) (by omega)
  have h4 : x + b * 2 ^ (8 * r) < 18446744073709551616 := by omega
  refine ⟨?_, h4⟩
  rw [show (b : Int) * 2 ^ (8 * r) = ((b * 2 ^ (8 * r) : Nat) : Int) from by rw [Int.natCast_mul, Int.natCast_pow]; rfl, wrap_u64_nat, Nat.mod_eq_of_lt (by omega)]
  rw [e, Nat.add_comm x, Nat.mul_comm b, Nat.two_pow_add_eq_or_of_lt hx, Nat.or_comm]

def FbRel (w : World) (g L : Nat) (v : Nat) (wr : World) : Prop := ∃ l : List Nat, Row wr g 22 u64v l ∧ l.length = L ∧ Dig 18446744073709551616 l ∧ dv 18446744073709551616 l = v ∧ Below g w wr

set_option maxRecDepth 100000 in
set_option maxHeartbeats 1000000 in
theorem nat_fromBytes (A : Option Addr) (n c B : Nat) (bs : List UInt8) (w : World) (h : Bytes w B A n bs) (hB : B ≤ w.heap.size) (hn : n ≤ 1099511627776) :
    Calls Try.prog 51 #[.slice A n c] w (Ret (natV (beVal bs)) w) := by
  have hl := h.len
  obtain ⟨L, hL⟩ : ∃ L, (n + 7) / 8 = L := ⟨_, rfl⟩
  have hL2 : ((n : Int) + 7) / 8 = (L : Int) := by omega
  have hmk := make_row (P := Try.prog) u64v 0 82 22 8 Try.underlying82 Try.infoU64 rfl .i64 .i64 L (by omega) (by omega)
  have HL := Lib.hid (And.intro hl hL)
  clear hl
  have hLn : L ≤ 1099511627776 := by omega
  clear hL
  go_enter Try.func51, Try.ntmps51
  go_wp2_with fail
  clear hmk hL2
  have hbk := Blk.new w 51 #[.int .u64 0, .string ⟨#[]⟩]
  have hrow := Row.rep (w.alloc (.cells #[.int .u64 0, .string ⟨#[]⟩] 51)) 22 u64v 0 L
  rw [World.size_alloc] at hrow
  have hbel0 := (Below.refl (w.heap.size + 1) (w.alloc (.cells #[.int .u64 0, .string ⟨#[]⟩] 51))).alloc (by simp) (.cells (Array.replicate L (u64v 0)) 22)
  obtain ⟨g, hg⟩ : ∃ g, w.heap.size + 1 = g := ⟨_, rfl⟩
  obtain ⟨w0, hw0⟩ : ∃ w0, w.alloc (.cells #[.int .u64 0, .string ⟨#[]⟩] 51) = w0 := ⟨_, rfl⟩
  have hB0 : Below w.heap.size w w0 := by rw [← hw0]; exact (Below.refl _ _).alloc (Nat.le_refl _) _
  rw [hw0] at hbk hrow hbel0 ⊢
  rw [hg] at hrow hbel0 ⊢
  have HG := Lib.hid hg
  have hgw : w.heap.size < g := by omega
  clear hg hw0
  go_loopw [4, 12] (fun x i wr => ∃ k : Nat, k ≤ n ∧ i = .int .i64 k ∧ FbRel w0 g L (beVal (bs.drop (n - k))) wr) (fun _ i _ => n - (intOf i).toNat)
  case atStart =>
    refine ⟨0, Nat.zero_le _, rfl, _, hrow, by simp, Dig.rep (by omega) _, ?_, hbel0⟩
    rw [dv_rep, Nat.sub_zero, List.drop_of_length_le (by rw [HL.out.1]; omega)]
    rfl
  case round =>
    obtain ⟨i, hi, rfl, l, hr, hlen, hdig, hdv, hbel⟩ := hrel
    have HLEN := Lib.hid hlen
    have HDV := Lib.hid hdv
    clear hlen hdv hrow hbel0
    by_cases hlt : i < n
    · have h4 : Bytes wr B A n bs := Reads.below (Reads.below h (hB0.mono hB)) (hbel.mono (by omega))
      obtain ⟨ad, x, hA, hb, hx, hcx⟩ := h4.at_ (show n - 1 - i < n by omega)
      subst hA
      obtain ⟨j, hj⟩ : ∃ j, i / 8 = j := ⟨_, rfl⟩
      obtain ⟨r, hr8⟩ : ∃ r, i % 8 = r := ⟨_, rfl⟩
      have hjL : j < L := by have := HL.out.2; omega
      obtain ⟨y, hy⟩ : ∃ y, l[j]? = some y := ⟨_, List.getElem?_eq_getElem (by rw [HLEN.out]; exact hjL)⟩
      have hylt : y < 256 ^ r := by
        have h5 := dv_ge (β := 18446744073709551616) hy
        have h6 := beVal_lt (bs.drop (n - i))
        rw [HDV.out] at h5
        have h8 : (256 : Nat) ^ i = 18446744073709551616 ^ j * 256 ^ r := by rw [show i = 8 * j + r from by omega, Nat.pow_add, Nat.pow_mul]
        rw [List.length_drop, HL.out.1, show n - (n - i) = i from by omega, h8] at h6
        have h7 : y * 18446744073709551616 ^ j < 256 ^ r * 18446744073709551616 ^ j := by
          rw [Nat.mul_comm (256 ^ r)]
          exact Nat.lt_of_le_of_lt h5 h6
        exact Nat.lt_of_mul_lt_mul_right h7
      have hor := or_byte y x.toNat r hylt (by have := x.toNat_lt; omega) (by omega)
      have hnew : dv 18446744073709551616 (l.set j (y + x.toNat * 256 ^ r)) = beVal (bs.drop (n - (i + 1))) := by
        have h5 := dv_set (β := 18446744073709551616) (y + x.toNat * 256 ^ r) hy
        have h6 := beVal_drop bs i x (by rw [HL.out.1]; exact hlt) (by rw [HL.out.1]; exact hx)
        rw [HL.out.1] at h6
        rw [HDV.out, Nat.add_mul] at h5
        have h7 : x.toNat * 256 ^ i = x.toNat * 256 ^ r * 18446744073709551616 ^ j := by
          rw [show i = 8 * j + r from by omega, Nat.pow_add, Nat.pow_mul, Nat.mul_assoc, Nat.mul_comm (256 ^ r)]
        rw [h6, h7]
        omega
      obtain ⟨hor1, hor2⟩ := hor
      generalize y + x.toNat * 256 ^ r = z at *
      have hcy := hr.cell (k := j) (x := y) hy
      have hfz := hr.frozen j
      unfold u64v at hcy
      have HX := Lib.hid (And.intro hnew (And.intro hx hy))
      clear hnew hx hy hylt
      have c1 : ((i : Int) / 8) = (j : Int) := by omega
      have c2 : ((i : Int) % 8) = (r : Int) := by omega
      have c3 : ((n : Int) - 1 - (i : Int)).toNat = n - 1 - i := by omega
      have c4 : (0 : Int) ≤ (n : Int) - 1 - (i : Int) := by omega
      have c5 : (n : Int) - 1 - (i : Int) < (n : Int) := by omega
      have c6 : (j : Int) < (L : Int) := by omega
      have c7 : (8 : Int) * (r : Int) ≤ 56 := by omega
      have c8 := wrap_u64_byte x
      go_wp2_with fail
      go_region
      go_wp2
      refine ⟨⟨i + 1, by omega, by go_num, l.set j z, ?_, by rw [List.length_set]; exact HLEN.out, hdig.set_ j hor2, HX.out.1, ?_⟩, by simp [intOf]; omega⟩
      · exact (hr.drewN 1).set_ j z
      · exact (bdrewN hbel 1).setCell (Nat.le_refl _) _
    · obtain rfl : i = n := by omega
      have hdv2 := HDV.out
      rw [Nat.sub_self, List.drop_zero] at hdv2
      have hrd := Own.reads (Own.ofBlk hr (by rw [HLEN.out]; unfold maxLen; omega))
      rw [HLEN.out] at hrd
      have hbk3 := hbk.below hbel (by omega)
      go_wp2_with fail
      refine (nat_fromWords _ L L _ l wr hrd (Nat.le_refl _) hdig (by omega) (Nat.le_refl _)).mono ?_
      rintro e w5 ⟨rfl, hb5⟩
      rw [hdv2]
      have hbk5 := hbk3.below hb5 hbk3.lt
      have q0 := hbk5.cell 0
      have q1 := hbk5.cell 1
      have f0 := hbk5.frozen 0
      have f1 := hbk5.frozen 1
      have s0 := hbk5.same0 (by simp)
      have s1 := hbk5.same1 (by simp)
      simp at q0 q1
      unfold natV
      clear hdv2
      generalize beVal bs = N at *
      go_wp2
      refine bodyPost_ret (v := .agg #[.int .u64 (lo N : Int), .string (mo N)]) (by simp [results, Try.results51, go_sem, s0, s1]) rfl ?_
      have hfin : Below w.heap.size w w5 := (hB0.trans (hbel.mono (by omega))).trans (hb5.mono (by have := hbk3.lt; omega))
      exact ⟨rfl, (hfin.setCell (Nat.le_refl _) _).setCell (Nat.le_refl _) _⟩
end Go.Proofs.Ytjmbpnogicdkgaa
