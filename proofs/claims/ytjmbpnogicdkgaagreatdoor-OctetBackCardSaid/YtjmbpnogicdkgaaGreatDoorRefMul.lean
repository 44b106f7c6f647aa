/-
  The document's NatMul.
-/
import Derived.Test.YtjmbpnogicdkgaaGreatDoorRefAdd
namespace Go.Proofs.YtjmbpnogicdkgaaGreatDoor
open Go.RowKit
set_option linter.unusedSimpArgs false
set_option linter.unusedVariables false

def RMul (w : World) (g len N : Nat) (wr : World) : Prop :=
  ∃ l : List Nat, l.length = len ∧ Row wr g 150 u32v l ∧ Dig 4294967296 l ∧ dv 4294967296 l = N ∧ Below w.heap.size w wr
def RMul2 (w : World) (g len N : Nat) (k c top : Nat) (wr : World) : Prop :=
  ∃ l : List Nat, l.length = len ∧ Row wr g 150 u32v l ∧ Dig 4294967296 l ∧ dv 4294967296 l + c * 4294967296 ^ k = N ∧ dv 4294967296 (l.drop top) = 0 ∧ Below w.heap.size w wr
theorem mulL_key {m n x c : Nat} (hm : m < 4294967296) (hn : n < 4294967296) (hx : x < 4294967296) (hc : c < 4294967296) : ∃ S P V V1 V2 : Nat, IntKind.u64.wrap ((c : Int) + (x : Int)) = (S : Int) ∧ IntKind.u64.wrap ((m : Int) * (n : Int)) = (P : Int) ∧ IntKind.u64.wrap ((S : Int) + (P : Int)) = (V : Int) ∧
    IntKind.u32.wrap (V : Int) = (V1 : Int) ∧ (V : Int) / 4294967296 = (V2 : Int) ∧ V1 < 4294967296 ∧ V2 < 4294967296 ∧ V1 + 4294967296 * V2 = x + m * n + c := by
  have hP : m * n ≤ 4294967295 * 4294967295 := Nat.mul_le_mul (by omega) (by omega)
  obtain ⟨P, hPe⟩ : ∃ P, m * n = P := ⟨_, rfl⟩
  rw [hPe] at hP ⊢
  refine ⟨c + x, P, c + x + P, (c + x + P) % 4294967296, (c + x + P) / 4294967296, ?_, ?_, ?_, ?_, ?_, by omega, by omega, by omega⟩
  · rw [wrap_u64_of _ (by omega) (by omega)]; omega
  · rw [← Int.natCast_mul, hPe, wrap_u64_of _ (by omega) (by omega)]
  · rw [wrap_u64_of _ (by omega) (by omega)]; omega
  · rw [wrap_u32_nat]
  · omega

set_option maxRecDepth 100000 in
set_option maxHeartbeats 1000000 in
theorem ref_natMul (a b B : Nat) (va vb : Value) (w : World) (h : IsN w B va a) (h' : IsN w B vb b) (hB : B ≤ w.heap.size) (hla : (limbs a).length ≤ 34359738368) (hlb : (limbs b).length ≤ 34359738368) :
    Calls Tryz.prog 85 #[va, vb] w (RetN (a * b) w) := by
  obtain ⟨A1, c1, rfl, hac, hac2, hX, _⟩ := h
  obtain ⟨A2, c2, rfl, hbc, hbc2, hY, _⟩ := h'
  obtain ⟨p, hp⟩ : ∃ p, (limbs a).length = p := ⟨_, rfl⟩
  obtain ⟨q, hq⟩ : ∃ q, (limbs b).length = q := ⟨_, rfl⟩
  rw [hp] at hX hac hla
  rw [hq] at hY hbc hlb
  rw [hp, hq]
  have hmk := make_row (P := Tryz.prog) u32v 0 32 150 4 Tryz.underlying32 Tryz.infoU32 rfl .i64 .i64 (p + q) (by omega) (by omega)
  obtain ⟨L, hL⟩ : ∃ L, p + q = L := ⟨_, rfl⟩
  have hL2 : (p : Int) + (q : Int) = (L : Int) := by omega
  rw [hL] at hmk
  have HL := Lib.hid (And.intro hp (And.intro hq hL))
  have hpL : p ≤ L := by omega
  have hLb : L ≤ 68719476736 := by omega
  clear hp hq hL
  go_enter Tryz.func85, Tryz.ntmps85
  go_wp2_with fail
  clear hmk
  have hrow := Row.rep w 150 u32v 0 L
  have hbel := balloc1 w (.cells (Array.replicate L (u32v 0)) 150)
  obtain ⟨g, hg⟩ : ∃ g, w.heap.size = g := ⟨_, rfl⟩
  rw [hg] at hrow
  rw [hg]
  have hgg : w.heap.size ≤ g := by omega
  clear hg
  go_loopw [6] (fun i wr => ∃ k : Nat, k ≤ p ∧ i = .int .i64 k ∧ RMul w g L (dv 4294967296 ((limbs a).take k) * b) wr) (fun i _ => p - (intOf i).toNat)
  case atStart => exact ⟨0, Nat.zero_le _, rfl, _, by simp, hrow, Dig.rep (by omega) _, by rw [dv_rep]; simp [dv], hbel⟩
  case round =>
    obtain ⟨i, hi, rfl, l0, hl0, hr0, hd0, hv0, hb0⟩ := hrel
    rename World => wr
    clear hrow hbel
    by_cases hlt : i < p
    · have hX2 := hX.below (hb0.mono hB)
      obtain ⟨ad, m, hA, hab, hm, hcm⟩ := hX2.atf hlt
      have hml := (limbs_dig a).get hm
      have htk := dv_take_succ (β := 4294967296) hm
      have hlow : dv 4294967296 (l0.drop (i + q)) = 0 := by
        apply dv_high hd0 (by omega)
        rw [hv0, Nat.pow_add]
        have h1 := dv_lt ((limbs_dig a).take i)
        have h2 := limbs_lt b
        rw [List.length_take, HL.out.1, Nat.min_eq_left (by omega)] at h1
        rw [HL.out.2.1] at h2
        exact Nat.mul_lt_mul'' h1 h2
      have HV0 := Lib.hid (And.intro hv0 (And.intro hl0 (And.intro htk hm)))
      unfold u32v at hcm
      have hi2 : (i : Int) < (p : Int) := by omega
      clear hv0 hl0 htk hm
      subst hA
      go_wp2_with fail
      obtain ⟨wo, hwo⟩ : ∃ wo : World, wo = wr := ⟨_, rfl⟩
      rw [← hwo] at hb0 hr0 hX2 hcm ⊢
      clear hwo
      go_loopw [7, 8] (fun c j wr => ∃ t c' : Nat, t ≤ q ∧ c' < 4294967296 ∧ j = .int .i64 t ∧ c = .int .u64 c' ∧ RMul2 w g L (dv 4294967296 ((limbs a).take i) * b + m * dv 4294967296 ((limbs b).take t) * 4294967296 ^ i) (i + t) c' (i + q) wr) (fun _ j _ => q - (intOf j).toNat)
      case atStart =>
        exact ⟨0, 0, Nat.zero_le _, by omega, rfl, rfl, l0, HV0.out.2.1, hr0, hd0, by rw [HV0.out.1]; simp [dv], hlow, hb0⟩
      case round =>
        obtain ⟨t, c, ht, hcl, rfl, rfl, l, hl, hr, hd, hv, htop, hb⟩ := hrel
        rename World => wv
        clear hr0 hd0 hlow hX2 hcm
        have HV := Lib.hid (And.intro hv (And.intro hl htop))
        clear hv hl htop
        by_cases hlt2 : t < q
        · have hX3 := hX.below (hb.mono hB)
          obtain ⟨ad', m', hA', _, hm', hcm⟩ := hX3.atf hlt
          obtain rfl := Option.some.inj hA'
          have hmm : m' = m := by have h1 := HV0.out.2.2.2; rw [hm'] at h1; exact Option.some.inj h1
          subst hmm
          unfold u32v at hcm
          have hY2 := hY.below (hb.mono hB)
          obtain ⟨ad2, n, hA2, hab2, hn, hcn⟩ := hY2.atf hlt2
          have hnl := (limbs_dig b).get hn
          have htk2 := dv_take_succ (β := 4294967296) hn
          have hpL2 : i + t < L := by have := HL.out; omega
          obtain ⟨x, hx⟩ : ∃ x, l[i + t]? = some x := ⟨_, List.getElem?_eq_getElem (by rw [HV.out.2.1]; exact hpL2)⟩
          have hxl := hd.get hx
          obtain ⟨S, P, V, V1, V2, f1, f2, f3, f4, f5, hV1, hV2, hkey⟩ := mulL_key hml hnl hxl hcl
          have hnew := add_step (s := V1) (c' := V2) (b := m' * n) hx hkey HV.out.1
          have hnew2 : dv 4294967296 (l.set (i + t) V1) + V2 * 4294967296 ^ (i + (t + 1)) = dv 4294967296 ((limbs a).take i) * b + m' * dv 4294967296 ((limbs b).take (t + 1)) * 4294967296 ^ i := by
            rw [← Nat.add_assoc, hnew, htk2, Nat.mul_add, Nat.add_mul, Nat.pow_add, Nat.add_assoc]
            congr 2
            rw [Nat.mul_comm (4294967296 ^ i), Nat.mul_assoc, Nat.mul_assoc, Nat.mul_assoc]
          obtain ⟨j, hj⟩ : ∃ j, i + t = j := ⟨_, rfl⟩
          rw [hj] at hx hpL2
          have hcx := hr.cell hx
          have hfx := hr.frozen j
          have HF : Hid (∀ z, RMul2 w g L (dv 4294967296 ((limbs a).take i) * b + m' * dv 4294967296 ((limbs b).take (t + 1)) * 4294967296 ^ i) (i + (t + 1)) V2 (i + q) ((wv.drewN z).setCell ⟨g, j, none⟩ (u32v V1))) := Lib.hid fun z => by
            refine ⟨l.set j V1, by rw [List.length_set]; exact HV.out.2.1, (hr.drewN z).set_ j V1, hd.set_ _ hV1, by rw [← hj]; exact hnew2, ?_, (bdrewN hb z).setCell hgg _⟩
            rw [List.drop_set_of_lt (by omega)]
            exact HV.out.2.2
          have k0 : (i : Int) + (t : Int) = (j : Int) := by omega
          have k1 : IntKind.i64.wrap (j : Int) = (j : Int) := IntWalk.i64_in _ (by omega)
          have k2 : (j : Int) < (L : Int) := by omega
          have k4 : (t : Int) < (q : Int) := by omega
          have u1 : IntKind.u64.wrap (x : Int) = (x : Int) := by rw [wrap_u64_of _ (by omega) (by omega)]
          have u2 : IntKind.u64.wrap (m' : Int) = (m' : Int) := by rw [wrap_u64_of _ (by omega) (by omega)]
          have u3 : IntKind.u64.wrap (n : Int) = (n : Int) := by rw [wrap_u64_of _ (by omega) (by omega)]
          unfold u32v at hcx hcn
          clear hkey hnew hnew2 hx hn htk2 hd hb hY2 hX3 hm' hj hr
          subst hA2
          go_wp2_with fail
          go_quiet (fail)
          go_wp2
          exact ⟨⟨t + 1, V2, by omega, hV2, by go_num, rfl, HF.out _⟩, by simp [intOf]; omega⟩
        · obtain rfl : t = q := by omega
          have hpL2 : i + t < L := by have := HL.out; omega
          obtain ⟨x, hx⟩ : ∃ x, l[i + t]? = some x := ⟨_, List.getElem?_eq_getElem (by rw [HV.out.2.1]; exact hpL2)⟩
          have hx0 : x = 0 := dv_zero (by omega) HV.out.2.2 (k := 0) (by rw [List.getElem?_drop]; exact hx)
          subst hx0
          have hst := dv_set (β := 4294967296) c hx
          have hnew : dv 4294967296 (l.set (i + t) c) = dv 4294967296 ((limbs a).take (i + 1)) * b := by
            have h1 := HV.out.1
            rw [limb_out (a := b) (k := t) (by rw [HL.out.2.1]; omega)] at h1
            rw [HV0.out.2.2.1, Nat.add_mul]
            have h2 : m * b * 4294967296 ^ i = m * 4294967296 ^ i * b := by rw [Nat.mul_right_comm]
            omega
          obtain ⟨j, hj⟩ : ∃ j, i + t = j := ⟨_, rfl⟩
          rw [hj] at hx hpL2 hnew
          have hcx := hr.cell hx
          have hfx := hr.frozen j
          have hfin : RMul w g L (dv 4294967296 ((limbs a).take (i + 1)) * b) (wv.setCell ⟨g, j, none⟩ (u32v c)) :=
            ⟨l.set j c, by rw [List.length_set]; exact HV.out.2.1, hr.set_ j c, hd.set_ _ hcl, hnew, hb.setCell hgg _⟩
          have HFIN := Lib.hid hfin
          have k0 : (i : Int) + (t : Int) = (j : Int) := by omega
          have k2 : (j : Int) < (L : Int) := by omega
          have k4 : ¬ (t : Int) < (t : Int) := by omega
          have u1 : IntKind.u32.wrap (c : Int) = (c : Int) := by rw [wrap_u32_nat, Nat.mod_eq_of_lt hcl]
          unfold u32v at hcx
          clear hst hnew hfin hx hd hb hj hr
          go_wp2
          exact ⟨⟨i + 1, by omega, by go_num, HFIN.out⟩, by simp [intOf]; omega⟩
    · obtain rfl : i = p := by omega
      rw [limb_out (by rw [HL.out.1]; omega)] at hv0
      have hrd := hr0.reads
      rw [hl0] at hrd
      have HF := Lib.hid (And.intro hd0 (And.intro hv0 (And.intro hr0.ty hr0.lt)))
      clear hd0 hv0 hr0 hl0
      have k4 : ¬ (i : Int) < (i : Int) := by omega
      go_wp2_with fail
      refine (ref_trim (some ⟨g, 0, none⟩) L L _ l0 wr hrd (by omega) (by omega)).mono ?_
      rintro e w5 ⟨rfl, rfl⟩
      go_wp2
      go_ret
      exact ⟨_, rfl, (IsN.trim hrd (by omega) (by omega) HF.out.1 HF.out.2.1 HF.out.2.2.1).more (by have := HF.out.2.2.2; omega), hb0⟩
end Go.Proofs.YtjmbpnogicdkgaaGreatDoor
