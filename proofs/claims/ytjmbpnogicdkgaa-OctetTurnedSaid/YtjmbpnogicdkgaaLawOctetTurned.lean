/-
  Proved here: for every kind, body, place and byte, abaculuslaw4.OctetTurned returns true and leaves its arguments as they were. No condition.
-/
import Derived.Test.YtjmbpnogicdkgaaRows
import Derived.Test.YtjmbpnogicdkgaaLawKit
import Derived.Test.YtjmbpnogicdkgaaInts
import Derived.Test.YtjmbpnogicdkgaaKnown4
import Derived.Test.YtjmbpnogicdkgaaTurnMath
import Derived.WalkKit
import Derived.ProofKit
import Derived.OpenShut
import Derived.ShutString
import Derived.ChangeOld
import Derived.Below
namespace Go.Proofs.Ytjmbpnogicdkgaa.octetTurned
open Go.ChangeShapes Go.WideShapes Go.ChangeAt Go.RowKit
open Go.ChangeMaps (open_string shut_string)
set_option linter.unusedVariables false
set_option linter.unusedSimpArgs false

theorem own : ownKnob Try.prog.godebug = none := by kernel_rfl
theorem laidOut : laidOutB Try.prog = true := by kernel_rfl

set_option maxRecDepth 100000 in
set_option maxHeartbeats 1000000 in
theorem walkN (kd : Int) (A : Option Addr) (n c : Nat) (bs : List UInt8) (at0 : Int) (by0 : Nat) (w : World) (hk0 : -9223372036854775808 ≤ kd) (hk1 : kd ≤ 9223372036854775807) (ha0 : -9223372036854775808 ≤ at0) (ha1 : at0 ≤ 9223372036854775807) (hby : by0 < 256)
    (h : Bytes w w.heap.size A n bs) (hc : n ≤ c) (hc2 : c ≤ 9223372036854775807) :
    Calls Try.prog 6 #[.int .i64 kd, .slice A n c, .int .i64 at0, .int .u8 (by0 : Int)] w (Ret (.bool true) w) := by
  obtain ⟨k', hk'⟩ := Int.eq_ofNat_of_zero_le (Int.emod_nonneg kd (b := 255) (by omega))
  have hk2 : k' < 255 := by omega
  have HK := Lib.hid hk'
  clear hk'
  have hlen := h.len
  go_enter Try.func6, Try.ntmps6
  go_wp2_with fail
  refine (hand_pick kd 255 _ hk0 hk1 (by omega) (by omega)).mono ?_
  rintro e x1 ⟨rfl, rfl⟩
  rw [show ((255 : Nat) : Int) = 255 from rfl, HK.out]
  go_wp2_with fail
  refine (hand_few A n c _ bs 2000 w h (Nat.le_refl _) (by omega) hc (by omega)).mono ?_
  rintro e x1 ⟨v1, rfl, ho1, hb1, hf1⟩
  obtain ⟨A1, c1, hv1, hc3, hc4⟩ := ho1.form
  obtain ⟨m, hm⟩ : ∃ m, (bs.take 2000).length = m := ⟨_, rfl⟩
  have hm2 : m ≤ 2000 := by rw [← hm, List.length_take]; omega
  have hm3 : m = min n 2000 := by rw [← hm, List.length_take, hlen]; omega
  have HM3 := Lib.hid hm3
  clear hm3
  have hr1 := ho1
  rw [hv1] at hr1
  have hr1 := Own.reads hr1
  rw [hm] at hv1 hr1
  rw [hv1]
  have HM := Lib.hid hm
  clear hm hlen
  go_wp2_with fail
  obtain ⟨k, hkk⟩ : ∃ k, k = 1 + k' := ⟨_, rfl⟩
  have hk3 : k ≤ 255 := by omega
  have hk4 : 1 ≤ k := by omega
  rw [show (1 + (k' : Int)) = (k : Int) from by omega]
  clear hkk
  refine (octet_seal k A1 m c1 _ (bs.take 2000) x1 hr1 (Nat.le_refl _) (by omega) hk4 hk3).mono ?_
  rintro e x2 ⟨v2, rfl, ho2, hb2, hf2⟩
  have hB2 := hb1.trans (hb2.mono hb1.size)
  have hsl := sealB_len k (bs.take 2000)
  rw [HM.out] at hsl
  have hcl : (countB m).length ≤ 10 := countF_len 9 m
  obtain ⟨L, hL⟩ : ∃ L, (sealB k (bs.take 2000)).length = L := ⟨_, rfl⟩
  rw [hL] at hsl
  obtain ⟨A2, c2', hv2, hc5, hc6⟩ := ho2.form
  rw [hL] at hv2 hc5
  rw [hv2] at ho2 hf2
  rw [hv2]
  have hcp : 1 ≤ (countB m).length := countF_pos 9 m
  have HL := Lib.hid (And.intro hL (And.intro hsl (And.intro HM.out HM3.out)))
  have hLl : L ≤ 2019 := by omega
  have hLg : 10 ≤ L := by omega
  clear hv1 hv2 ho1 hr1 hb2 hf1 hc3 hc4 hL hsl HM HM3
  have hz1 := hb1.size
  clear hb1
  go_wp2_with fail
  refine (octet_known x2).mono ?_
  rintro e x3 ⟨rfl, hb3⟩
  have hB3 := hB2.trans (hb3.mono hB2.size)
  have ho3 := ho2.below hb3 (fun k hk => ho2.lt k hk)
  clear ho2 hb3 hB2
  by_cases hb0 : by0 = 0
  · subst hb0
    go_wp2
    go_ret
    exact ⟨rfl, hB3⟩
  · have hb1 : ((by0 : Int) == 0) = false := by simp; omega
    obtain ⟨g, rfl⟩ := ho3.addr (by rw [HL.out.1]; omega)
    go_wp2_with fail
    obtain ⟨N0, hN0⟩ : ∃ N0, N0 = 1 + (countB m).length := ⟨_, rfl⟩
    have hLN : L = N0 + m + 8 := by have := HL.out; omega
    rw [show ((L : Int) - 8 - min (n : Int) 2000) = (N0 : Int) from by have := HL.out; omega]
    rw [show ((L : Int) - (N0 : Int)) = ((m + 8 : Nat) : Int) from by omega]
    refine (hand_pick at0 (m + 8) _ ha0 ha1 (by omega) (by omega)).mono ?_
    rintro e x4 ⟨rfl, rfl⟩
    obtain ⟨j, hj⟩ := Int.eq_ofNat_of_zero_le (Int.emod_nonneg at0 (b := ((m + 8 : Nat) : Int)) (by omega))
    have hj2 : j < m + 8 := by have := Int.emod_lt_of_pos at0 (b := ((m + 8 : Nat) : Int)) (by omega); omega
    rw [hj]
    obtain ⟨p, hp⟩ : ∃ p, p = N0 + j := ⟨_, rfl⟩
    have hpL : p < L := by omega
    obtain ⟨x, hx⟩ : ∃ x, (sealB k (bs.take 2000))[p]? = some x := ⟨_, List.getElem?_eq_getElem (by rw [HL.out.1]; exact hpL)⟩
    have hL0 := HL.out.1
    rw [← hL0] at ho3
    have hcell := ho3.cellf hx
    have hfz := ho3.frozenf p
    have hst := ho3.store p (x ^^^ UInt8.ofNat by0)
    have hxor : bits .xor .u8 (x.toNat : Int) (by0 : Int) = ((x ^^^ UInt8.ofNat by0).toNat : Int) := by
      rw [xor_u8 _ _ (by have := x.toNat_lt; omega) hby, UInt8.toNat_xor, UInt8.toNat_ofNat', Nat.mod_eq_of_lt (by omega)]
    have hne : x ^^^ UInt8.ofNat by0 ≠ x := by
      intro h1
      have h2 := congrArg UInt8.toNat h1
      rw [UInt8.toNat_xor, UInt8.toNat_ofNat', Nat.mod_eq_of_lt (by omega)] at h2
      have h3 : x.toNat ^^^ by0 = x.toNat ^^^ 0 := by rw [h2, Nat.xor_zero]
      exact hb0 (xor_inj h3)
    have hm0 := HL.out.2.2.1
    have htu := turned k (bs.take 2000) hk4 hk3 (by rw [hm0]; omega) p (by rw [hm0]; omega) x _ hx hne
    generalize hy : x ^^^ UInt8.ofNat by0 = y at *
    have hpp : (N0 : Int) + (j : Int) = (p : Int) := by omega
    have hpL2 : (p : Int) < (L : Int) := by omega
    have hgB : w.heap.size ≤ g := Nat.le_trans hz1 (hf2 g rfl)
    have hB4 := hB3.setCell (p := ⟨g, p, none⟩) hgB (u8v y)
    rw [hL0] at hst
    have hst2 : Own (x3.setCell ⟨g, p, none⟩ (u8v y)) 5 u8v (.slice (some ⟨g, 0, none⟩) L c2') ((sealB k (bs.take 2000)).set p y) := hst
    have hrd := Own.reads hst2
    rw [List.length_set, hL0] at hrd
    have HX := Lib.hid (And.intro hrd (And.intro htu hB4))
    unfold u8v at hcell
    clear hx hy hp hj hLN hN0 hL0 hm0 hst hst2 hrd htu hB4 ho3 hf2 hcl hcp hne
    go_wp2_with fail
    refine (octet_next _ L c2' _ _ _ HX.out.1 (Nat.le_refl _) (by omega) hc5 (by unfold maxLen at hc6; omega)).mono ?_
    rintro e x5 ⟨v5, rfl, ho5, hb5, hf5⟩
    rw [HX.out.2.1] at ho5 ⊢
    obtain ⟨A5, c5', hv5, _, _⟩ := ho5.form
    rw [hv5]
    have hB5 : Below w.heap.size w x5 := HX.out.2.2.trans (hb5.mono HX.out.2.2.size)
    clear hv5 ho5 hf5 hb5 HX
    go_wp2
    go_ret
    exact ⟨rfl, hB5⟩

/-! ### the walk -/
theorem walk (a0 : Int) (a1 : Option Addr) (len1 cap1 : Nat) (z1 : List Int) (a2 : Int) (a3 : Int) (w : World) (w0 : (Lit.int .i64 a0).wf = true) (w1 : IsRow .u8 w a1 len1 cap1 z1) (w2 : (Lit.int .i64 a2).wf = true) (w3 : (Lit.int .u8 a3).wf = true) :
    Calls Try.prog 6 #[.int .i64 a0, .slice a1 len1 cap1, .int .i64 a2, .int .u8 a3] w fun e w' => e = .returned (.bool true) ∧ Below w.heap.size w w' := by
  obtain ⟨b0, b1⟩ := bounds_i64 w0
  obtain ⟨c0, c1⟩ := bounds_i64 w2
  obtain ⟨d0, d1⟩ := bounds_u8 w3
  obtain ⟨bs, h1, h2, h3⟩ := w1.bytes
  obtain ⟨y, rfl⟩ := Int.eq_ofNat_of_zero_le d0
  exact walkN a0 a1 len1 cap1 bs a2 y w (by omega) (by omega) (by omega) (by omega) (by omega) h1 h2 h3

set_option maxRecDepth 100000 in
theorem lifted (os : Os) (started : os.Started) (H : Type) (enc : TypeId × Value → H) :
    ReturnsInHanded {} Try.checked os 6 .any (Rows.octetTurnedSpec.pre6 enc Try.prog Try.f6 Rows.octetTurnedRow.domain false) (Rows.octetTurnedSpec.post enc Try.prog Try.f6 false true false false) := by
  refine returnsInHanded_of_change (C := Try.checked) own started (by kernel_rfl) Try.func6
    (ChangeSpec.witness6 (enc := enc) (C := Try.checked) false ⟨#[], #[.int .i64 0, .slice none 0 0, .int .i64 0, .int .u8 0], []⟩ 8 (by kernel_rfl) (by kernel_rfl) (by kernel_rfl) (by kernel_rfl)) ?_
  intro W base args ds gs before hval0 hW hcnd _
  have hval : ∀ (j : Nat) t v, Try.f6.params[j]? = some t → args[j]? = some v → Value.okWide Try.prog W .any base t v := hval0
  have hW' := hW
  obtain ⟨p, q, hA0, hV, rfl, hfz, hnd⟩ := hW
  have hA : DataW.TrodAll enc Try.prog W 0 (fun _ => true) true Try.f6.params.toList args.toList ds p := hA0
  rw [Try.params6] at hA hval
  obtain ⟨v0, vs0, d0, ds0, p0, q0, hargs, rfl, rfl, h0, r0⟩ := trodAll_cons hA
  obtain ⟨v1, vs1, d1, ds1, p1, q1, rfl, rfl, rfl, h1, r1⟩ := trodAll_cons r0
  obtain ⟨v2, vs2, d2, ds2, p2, q2, rfl, rfl, rfl, h2, r2⟩ := trodAll_cons r1
  obtain ⟨v3, vs3, d3, ds3, p3, q3, rfl, rfl, rfl, h3, r3⟩ := trodAll_cons r2
  obtain ⟨rfl, rfl, rfl⟩ := trodAll_nil r3
  obtain rfl : args = #[v0, v1, v2, v3] := by cases args; simp_all
  obtain ⟨rfl, rfl⟩ := trodVars_none hV
  obtain ⟨a0, rfl, rfl, rfl, w0⟩ := open_int Try.underlying3 (hval 0 3 v0 rfl rfl) h0
  obtain ⟨a1, len1, cap1, rfl⟩ := okWide_slice Try.underlying29 (hval 1 29 v1 rfl rfl)
  have k1 := h1
  have lt1 : ∀ x ∈ p1, x.block < W.heap.size := by obtain ⟨m, hm⟩ := k1; exact DataW.trod_lt m _ _ _ hm
  obtain ⟨z1, w1⟩ : ∃ zs, IsRow .u8 W a1 len1 cap1 zs := by
    obtain ⟨fuel, hf⟩ := h1
    rcases open_ints Try.underlying29 Try.underlying5 (by kernel_rfl) hf with ⟨hcs, _⟩ | ⟨x, l, c, zs, hcs, _, hl, hm, hz, _, hcell, hwz⟩
    · simp [Value.cells] at hcs
      obtain ⟨rfl, rfl, rfl⟩ := hcs
      exact ⟨[], .inl ⟨rfl, rfl, rfl, rfl⟩⟩
    · simp [Value.cells] at hcs
      obtain ⟨rfl, rfl, rfl⟩ := hcs
      exact ⟨zs, .inr ⟨_, rfl, hl, hm, by simpa using hz, hcell, hwz⟩⟩
  obtain ⟨a2, rfl, rfl, rfl, w2⟩ := open_int Try.underlying3 (hval 2 3 v2 rfl rfl) h2
  obtain ⟨a3, rfl, rfl, rfl, w3⟩ := open_int Try.underlying5 (hval 3 5 v3 rfl rfl) h3
  clear hA0 hval0
  refine (walk a0 a1 len1 cap1 z1 a2 a3 W w0 w1 w2 w3).mono fun e W' ⟨he, bel⟩ => ?_
  subst he
  exact ⟨_, rfl, _, _, _, [], _, [], hW', trodAll_mk1 (shut_bool Try.underlying4 _), (trodAll_cons_mk (shut_int Try.underlying3 w0) (trodAll_cons_mk (Below.trod laidOut (by kernel_rfl) (of_decide_eq_true (by kernel_rfl)) k1 bel lt1) (trodAll_cons_mk (shut_int Try.underlying3 w2) (trodAll_cons_mk (shut_int Try.underlying5 w3) trodAll_mk0)))), rfl, bel.frame _, fun h => by cases h⟩

theorem over : Rows.octetTurnedRow.holds Try.pinned (OpenSpec.ofChange Rows.octetTurnedSpec) :=
  OpenClaim.holds_of_wide 6 Try.f6 rfl rfl rfl rfl rfl rfl rfl ⟨rfl, rfl, rfl, rfl, rfl⟩ rfl rfl rfl rfl rfl (by kernel_rfl) Try.func6 (by kernel_rfl)
    (of_decide_eq_true (by kernel_rfl)) (by unfold Func.isWrapper; first | (rw [if_pos (by decide +kernel)]; kernel_rfl) | (rw [if_neg (by decide +kernel)]; exact ⟨rfl, rfl⟩))
    (fun os started H enc _ => lifted os started H enc)

theorem proved : Rows.OctetTurnedSaid := over
#print axioms proved
end Go.Proofs.Ytjmbpnogicdkgaa.octetTurned
