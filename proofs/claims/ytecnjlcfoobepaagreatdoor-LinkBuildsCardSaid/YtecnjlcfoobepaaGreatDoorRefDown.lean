import Derived.Test.YtecnjlcfoobepaaGreatDoorRefShift
namespace Go.Proofs.YtecnjlcfoobepaaGreatDoor
set_option maxRecDepth 100000
set_option maxHeartbeats 1000000
open Go.RowKit
set_option linter.unusedSimpArgs false
set_option linter.unusedVariables false
theorem limb_div (a k : Nat) : a / 4294967296 ^ k = (limbs a).getD k 0 + 4294967296 * (a / 4294967296 ^ (k + 1)) := by
 have h1 := dv_div (limbs_dig a) (by omega) k
 have h2 := dv_div (limbs_dig a) (by omega) (k + 1)
 rw [dv_limbs] at h1 h2
 rw [h1, h2]
 cases h : (limbs a)[k]? with
 | none =>
  have hl : (limbs a).length <= k := by simpa using h
  rw [List.drop_of_length_le hl, List.drop_of_length_le (Nat.le_succ_of_le hl), List.getD_eq_getElem?_getD, h]
  rfl
 | some x =>
  rw [dv_drop h, List.getD_eq_getElem?_getD, h]
  rfl
theorem down_digit (M x y z r : Nat) (hr : r < 32) (h : M = x + 4294967296 * (y + 4294967296 * z)) : M / 2 ^ r % 4294967296 = (x + y * 4294967296) / 2 ^ r % 4294967296 := by
 have hp : (4294967296 : Nat) = 2 ^ r * 2 ^ (32 - r) := by rw [<- Nat.pow_add, show r + (32 - r) = 32 by omega]
 have e : M = (x + y * 4294967296) + 2 ^ r * (4294967296 * (2 ^ (32 - r) * z)) := by
  rw [h]
  have e1 : 2 ^ r * (4294967296 * (2 ^ (32 - r) * z)) = 4294967296 * (2 ^ r * 2 ^ (32 - r)) * z := by
   rw [Nat.mul_left_comm, <- Nat.mul_assoc (2 ^ r), <- Nat.mul_assoc]
  rw [e1, <- hp]
  rw [Nat.mul_add, Nat.mul_comm y, <- Nat.mul_assoc, Nat.add_assoc]
 rw [e, Nat.add_mul_div_left _ _ (Nat.pow_pos (by omega)), Nat.add_mul_mod_self_left]
def ShDn (w : World) (a h r k : Nat) (v : Value) (wr : World) : Prop :=
 ∃ l : List Nat, Own wr 155 u32v v l /\ l.length = k - h /\ Dig 4294967296 l /\ dv 4294967296 l = a / 4294967296 ^ h / 2 ^ r % 4294967296 ^ (k - h) /\ (∀ b, v.ownBlock = some b -> w.heap.size <= b) /\ Below w.heap.size w wr
theorem ref_shift_down (a n B : Nat) (va : Value) (w : World) (h : IsN w B va a) (hB : B <= w.heap.size) (hla : (limbs a).length <= 34359738368) (hn0 : 0 < n) (hn : n <= 1099511627776) :
  Calls Tryz.prog 141 #[va, .int .i64 (-(n : Int))] w (RetN (a / 2 ^ n) w) := by
 obtain ⟨A, c, rfl, hac, hac2, hr, _⟩ := h
 obtain ⟨p, hp⟩ : ∃ p, (limbs a).length = p := ⟨_, rfl⟩
 rw [hp] at hr hac hla
 rw [hp]
 have HP := lh hp
 have HR := lh hr
 clear hp hr
 obtain ⟨h, hh⟩ : ∃ h, n / 32 = h := ⟨_, rfl⟩
 obtain ⟨r, hr⟩ : ∃ r, n % 32 = r := ⟨_, rfl⟩
 have hr32 : r < 32 := by omega
 have hhb : h <= 34359738368 := by omega
 have hpow : a / 2 ^ n = a / 4294967296 ^ h / 2 ^ r := by
  rw [show n = 32 * h + r by omega, Nat.pow_add, Nat.pow_mul, <- Nat.div_div_eq_div_mul]
 rw [hpow]
 have c0 : (0 : Int) < (n : Int) := by omega
 have c1 : (n : Int) / 32 = (h : Int) := by omega
 have c2 : (n : Int) % 32 = (r : Int) := by omega
 have c3 : IntKind.u64.wrap (r : Int) = (r : Int) := by rw [wrap_u64_nat, Nat.mod_eq_of_lt (by omega)]
 have c4 : ¬ 0 <= -(n : Int) := by omega
 clear hh hr hpow
 go_enter Tryz.func141, Tryz.ntmps141
 go_wp2_with fail
 go_loopw [8, 9, 10] (fun v i _ wr => ∃ k : Nat, h <= k /\ k <= h + p /\ (k <= p \/ k = h) /\ i = .int .i64 (k : Int) /\ ShDn w a h r k v wr) (fun _ i _ _ => h + p - (intOf i).toNat)
 case atStart =>
  refine ⟨h, Nat.le_refl _, by omega, .inr rfl, rfl, [], Own.nil_ _ _ _, by simp, Dig.nil, ?_, (fun b hb => by cases hb), Below.refl _ _⟩
  rw [Nat.sub_self, Nat.pow_zero, Nat.mod_one]
  rfl
 case round =>
  obtain ⟨k, hk1, hk2, hk3, rfl, l, hown, hlen, hdig, hdv, hfr, hbel⟩ := hrel
  rename World => wr
  by_cases hlt : k < p
  ·have hat := ref_at A p c B k (limbs a) wr (HR.out.below (hbel.mono hB)) (by omega) (limbs_dig a) (by omega)
   have hat2 := ref_at A p c B (k + 1) (limbs a) wr (HR.out.below (hbel.mono hB)) (by omega) (limbs_dig a) (by omega)
   have hxl := limb_lt a k
   have hyl := limb_lt a (k + 1)
   have hd1 := limb_div a k
   rw [limb_div a (k + 1)] at hd1
   obtain ⟨x, hx⟩ : ∃ x, (limbs a).getD k 0 = x := ⟨_, rfl⟩
   obtain ⟨y, hy⟩ : ∃ y, (limbs a).getD (k + 1) 0 = y := ⟨_, rfl⟩
   rw [hx] at hat hxl hd1
   rw [hy] at hat2 hyl hd1
   have hor : bits .or .u64 (x : Int) ((y : Int) * 4294967296) = ((x + y * 4294967296 : Nat) : Int) := by
    have e := or_u64 x (y * 4294967296) (by omega) (by omega)
    rw [show (y : Int) * 4294967296 = ((y * 4294967296 : Nat) : Int) from by omega, e]
    congr 1
    have h := Nat.two_pow_add_eq_or_of_lt (i := 32) (b := x) (by omega) y
    rw [Nat.add_comm, Nat.mul_comm y, show (4294967296 : Nat) = 2 ^ 32 from rfl, h, Nat.or_comm]
   have hdg := down_digit _ x y _ r hr32 hd1
   obtain ⟨V, hV⟩ : ∃ V, x + y * 4294967296 = V := ⟨_, rfl⟩
   rw [hV] at hor hdg
   obtain ⟨V2, hV2⟩ : ∃ V2, V / 2 ^ r = V2 := ⟨_, rfl⟩
   obtain ⟨D, hD⟩ : ∃ D, V2 % 4294967296 = D := ⟨_, rfl⟩
   rw [hV2, hD] at hdg
   have hVl : V < 18446744073709551616 := by omega
   have hV2l : V2 < 18446744073709551616 := by rw [<- hV2]; exact Nat.lt_of_le_of_lt (Nat.div_le_self _ _) hVl
   have f1 : (V : Int) / 2 ^ r = (V2 : Int) := by rw [<- hV2, Int.natCast_ediv, Int.natCast_pow]; rfl
   have f2 : IntKind.u32.wrap (V2 : Int) = (D : Int) := by rw [wrap_u32_nat, hD]
   have f3 : (k : Int) < (p : Int) := by omega
   have f4 : ((k + 1 : Nat) : Int) = (k : Int) + 1 := by omega
   rw [f4] at hat2
   have hnew : dv 4294967296 (l ++ [D]) = a / 4294967296 ^ h / 2 ^ r % 4294967296 ^ (k + 1 - h) := by
    rw [dv_append, hlen, dv_cons, dv_nil, Nat.mul_zero, Nat.add_zero, hdv, show k + 1 - h = (k - h) + 1 by omega, Nat.pow_succ, Nat.mod_mul]
    congr 2
    rw [<- hdg]
    congr 1
    rw [show (4294967296 : Nat) ^ k = 4294967296 ^ h * 4294967296 ^ (k - h) from by rw [<- Nat.pow_add, show h + (k - h) = k by omega], Nat.div_div_eq_div_mul, Nat.div_div_eq_div_mul, Nat.div_div_eq_div_mul, Nat.mul_assoc, Nat.mul_comm (2 ^ r)]
   have HST := lh (And.intro hnew (And.intro hlen hfr))
   have HAT := lh hat
   have HAT2 := lh hat2
   have hll : l.length <= 1099511627776 := by rw [hlen]; omega
   have hDl : D < 4294967296 := by omega
   clear hnew hat hat2 hlen hfr hV hV2 hD hx hy hdv hdg hd1 f4
   go_wp2_with fail
   refine HAT.out.mono ?_
   rintro e w1 ⟨rfl, rfl⟩
   go_wp2_with fail
   refine HAT2.out.mono ?_
   rintro e w1 ⟨rfl, rfl⟩
   go_wp2_with (at_builtin; refine app_limb Tryz.eltRN rfl (.tmp 59) (.tmp 66) rfl wr _ l D rfl hown rfl hll ?_; intro v' w2 hown2 hgr)
   have hst := HST.out
   exact ⟨⟨k + 1, by omega, by omega, .inl (by omega), by go_num, l ++ [D], hown2, by rw [List.length_append, hst.2.1]; simp; omega, hdig.append (Dig.cons hDl Dig.nil), hst.1, hgr.fresh hbel.size hst.2.2, hbel.trans (hgr.below hbel.size hst.2.2)⟩, by simp [intOf]; omega⟩
  have hfin : dv 4294967296 l = a / 4294967296 ^ h / 2 ^ r := by
   rw [hdv]
   apply Nat.mod_eq_of_lt
   refine Nat.lt_of_le_of_lt (Nat.div_le_self _ _) ?_
   rw [Nat.div_lt_iff_lt_mul (Nat.pow_pos (by omega)), <- Nat.pow_add, show k - h + h = k by omega]
   have h1 := limbs_lt a
   rw [HP.out] at h1
   exact Nat.lt_of_lt_of_le h1 (Nat.pow_le_pow_right (by omega) (by omega))
  obtain ⟨A2, c2', hv, hc1, hc2⟩ := hown.form
  rw [hv] at hown
  rw [hv]
  have hrd := hown.reads
  have HD := lh hfin
  have hll : l.length <= 1099511627776 := by rw [hlen]; omega
  have f3 : ¬ (k : Int) < (p : Int) := by omega
  unfold maxLen at hc2
  clear hdv hfin hlen hv hfr
  go_wp2_with fail
  refine (ref_trim A2 l.length c2' _ l wr hrd (by omega) hc1).mono ?_
  rintro e w5 ⟨rfl, rfl⟩
  go_wp2
  go_ret
  exact ⟨_, rfl, IsN.trim hrd hc1 hc2 hdig HD.out hown.ty, hbel⟩
end Go.Proofs.YtecnjlcfoobepaaGreatDoor
