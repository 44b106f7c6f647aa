import Derived.Test.YtecnjlcfoobepaaGreatDoorRefA
namespace Go.Proofs.YtecnjlcfoobepaaGreatDoor
set_option maxRecDepth 100000
set_option maxHeartbeats 1000000
open Go.RowKit
set_option linter.unusedSimpArgs false
set_option linter.unusedVariables false
theorem or_u64_limb (r x : Nat) (hr : r < 4294967296) (hx : x < 4294967296) : bits .or .u64 ((r : Int) * 4294967296) (x : Int) = ((r * 4294967296 + x : Nat) : Int) := by
 have e := or_u64 (r * 4294967296) x (by omega) (by omega)
 rw [show (r : Int) * 4294967296 = ((r * 4294967296 : Nat) : Int) from by omega, e]
 congr 1
 have h := Nat.two_pow_add_eq_or_of_lt (i := 32) (b := x) (by omega) r
 rw [Nat.mul_comm r, show (4294967296 : Nat) = 2 ^ 32 from rfl]
 exact h.symm
theorem drop_set_self {α : Type} (l : List α) (j : Nat) (x : α) (h : j < l.length) : (l.set j x).drop j = x :: l.drop (j + 1) := by
 rw [List.drop_eq_getElem_cons (by rw [List.length_set]; exact h), List.getElem_set_self, List.drop_set_of_lt (by omega)]
def RetN1 (q r : Nat) (w : World) (e : Ending) (w' : World) : Prop := ∃ v, e = .returned (.tuple #[v, .int .u32 (r : Int)]) /\ IsN w' w'.heap.size v q /\ Below w.heap.size w w'
def OneRel (w : World) (g n a b : Nat) (k r : Nat) (wr : World) : Prop :=
 ∃ l : List Nat, Row wr g 155 u32v l /\ l.length = n /\ Dig 4294967296 l /\ r < b /\ dv 4294967296 (l.drop k) * b + r = dv 4294967296 ((limbs a).drop k) /\ Below w.heap.size w wr
theorem ref_one (a b B : Nat) (va : Value) (w : World) (h : IsN w B va a) (hB : B <= w.heap.size) (hla : (limbs a).length <= 34359738368) (hb0 : 0 < b) (hb : b < 4294967296) :
  Calls Tryz.prog 140 #[va, .int .u32 (b : Int)] w (RetN1 (a / b) (a % b) w) := by
 obtain ⟨A, c, rfl, hac, hac2, hr, _⟩ := h
 obtain ⟨n, hn⟩ : ∃ n, (limbs a).length = n := ⟨_, rfl⟩
 rw [hn] at hr hac hla
 rw [hn]
 have HN := lh hn
 have HR := lh hr
 clear hn hr
 have hmk := make_row (P := Tryz.prog) u32v 0 66 155 4 Tryz.underlying66 Tryz.infoU32 rfl .i64 .i64 n (by omega) (by omega)
 have hbw : IntKind.u64.wrap (b : Int) = (b : Int) := by rw [wrap_u64_nat, Nat.mod_eq_of_lt (by omega)]
 go_enter Tryz.func140, Tryz.ntmps140
 go_wp2_with fail
 clear hmk
 have hrow := Row.rep w 155 u32v 0 n
 have hbel0 := balloc1 w (.cells (Array.replicate n (u32v 0)) 155)
 obtain ⟨g, hg⟩ : ∃ g, w.heap.size = g := ⟨_, rfl⟩
 have hgw : w.heap.size <= g := by omega
 have hBg : B <= g := by omega
 rw [hg] at hrow
 rw [hg]
 clear hg
 go_loopw [7, 8] (fun rr i wr => ∃ k r : Nat, k <= n /\ i = .int .i64 ((k : Int) - 1) /\ rr = .int .u64 (r : Int) /\ OneRel w g n a b k r wr) (fun _ i _ => (intOf i + 1).toNat)
 case atStart =>
  refine ⟨n, 0, Nat.le_refl _, rfl, rfl, List.replicate n 0, hrow, by simp, Dig.rep (by omega) _, hb0, ?_, hbel0⟩
  rw [List.drop_of_length_le (by simp), List.drop_of_length_le (by rw [HN.out]; omega)]
  simp [dv]
 case round =>
  obtain ⟨k, r, hk, rfl, rfl, l, hro, hlen, hdig, hrb, hdv, hbel⟩ := hrel
  have HLEN := lh hlen
  have HDV := lh hdv
  clear hlen hdv hrow hbel0
  by_cases h0 : k = 0
  ·subst h0
   have hdv := HDV.out
   rw [List.drop_zero, List.drop_zero, dv_limbs] at hdv
   have hq : dv 4294967296 l = a / b /\ r = a % b := by
    have h1 : (dv 4294967296 l * b + r) / b = dv 4294967296 l := by
     rw [Nat.add_comm, Nat.add_mul_div_right _ _ hb0, Nat.div_eq_of_lt hrb, Nat.zero_add]
    have h2 : (dv 4294967296 l * b + r) % b = r := by
     rw [Nat.add_comm, Nat.add_mul_mod_self_right, Nat.mod_eq_of_lt hrb]
    rw [hdv] at h1 h2
    exact ⟨h1.symm, h2.symm⟩
   have hrd := Own.reads (Own.ofBlk hro (by rw [HLEN.out]; unfold maxLen; omega))
   rw [HLEN.out] at hrd
   have HQ := lh hq
   have hrw : IntKind.u32.wrap (r : Int) = (r : Int) := by rw [wrap_u32_nat, Nat.mod_eq_of_lt (by omega)]
   clear hdv hq
   go_wp2_with fail
   refine (ref_trim _ n n _ l wr hrd (by omega) zd).mono ?_
   rintro e w5 ⟨rfl, rfl⟩
   go_wp2
   go_ret2
   exact ⟨_, by rw [<- HQ.out.2]; rfl, IsN.trim hrd zd (by omega) hdig HQ.out.1 hro.ty, hbel⟩
  obtain ⟨j, rfl⟩ : ∃ j, k = j + 1 := ⟨k - 1, by omega⟩
  obtain ⟨ad, x, hA, hb1, hx, hcx⟩ := (HR.out.below (hbel.mono hB)).atf (show j < n by omega)
  subst hA
  have hxl := (limbs_dig a).get hx
  obtain ⟨R, hR⟩ : ∃ R, r * 4294967296 + x = R := ⟨_, rfl⟩
  have hor := or_u64_limb r x (by omega) hxl
  rw [hR] at hor
  have hRb : R < 4294967296 * b := by
   have := Nat.mul_le_mul_right 4294967296 (show r + 1 <= b from hrb)
   rw [Nat.add_mul, Nat.one_mul] at this
   rw [Nat.mul_comm]
   omega
  obtain ⟨q, hq⟩ : ∃ q, R / b = q := ⟨_, rfl⟩
  obtain ⟨r', hr'⟩ : ∃ r', R % b = r' := ⟨_, rfl⟩
  have hql : q < 4294967296 := by rw [<- hq]; exact (Nat.div_lt_iff_lt_mul hb0).2 hRb
  have hrl : r' < b := by rw [<- hr']; exact Nat.mod_lt _ hb0
  have hRl : R < 18446744073709551616 := by omega
  have hdm := Nat.div_add_mod R b
  rw [hq, hr'] at hdm
  have e1 : (R : Int) / (b : Int) = (q : Int) := by rw [<- hq, Int.natCast_ediv]
  have e2 : (R : Int) % (b : Int) = (r' : Int) := by rw [<- hr', Int.natCast_emod]
  have e3 : IntKind.u32.wrap (q : Int) = (q : Int) := by rw [wrap_u32_nat, Nat.mod_eq_of_lt hql]
  have e4 : IntKind.u64.wrap (x : Int) = (x : Int) := by rw [wrap_u64_nat, Nat.mod_eq_of_lt (by omega)]
  have hjl : j < l.length := by rw [HLEN.out]; omega
  obtain ⟨y, hy⟩ : ∃ y, l[j]? = some y := ⟨_, List.getElem?_eq_getElem hjl⟩
  have hnew : dv 4294967296 ((l.set j q).drop j) * b + r' = dv 4294967296 ((limbs a).drop j) := by
   rw [drop_set_self l j q hjl, dv_cons, dv_drop hx, <- HDV.out, Nat.add_mul, Nat.mul_add]
   have e5 : 4294967296 * dv 4294967296 (l.drop (j + 1)) * b = 4294967296 * (dv 4294967296 (l.drop (j + 1)) * b) := Nat.mul_assoc _ _ _
   rw [e5]
   have e6 : q * b = b * q := Nat.mul_comm _ _
   rw [e6]
   omega
  have hcy := hro.cell hy
  have hfy := hro.frozen j
  have k1 : (((j + 1 : Nat) : Int) - 1) = (j : Int) := by omega
  have k2 : (j : Int) < (n : Int) := by omega
  have k3 : (b : Int) ≠ 0 := by omega
  have k4 : ((b : Int) == 0) = false := by simp; omega
  have k5 : (r : Int) < 4294967296 := by omega
  have k6 : 0 < (b : Int) := by omega
  unfold u32v at hcx hcy
  have HX := lh (And.intro hnew (And.intro hr' hq))
  clear hnew hx hy hR hq hr' hdm hRb
  rw [k1]
  go_wp2
  refine ⟨⟨j, r', by omega, rfl, by rw [e2], l.set j q, hro.set_ j q, by rw [List.length_set]; exact HLEN.out, hdig.set_ j hql, hrl, HX.out.1, hbel.setCell hgw _⟩, by simp [intOf]⟩
theorem or_shl (c x r : Nat) (hc : c < 2 ^ r) (hx : x < 4294967296) (hr : r < 32) : bits .or .u64 (c : Int) ((x : Int) * 2 ^ r) = ((c + x * 2 ^ r : Nat) : Int) /\ c + x * 2 ^ r < 18446744073709551616 := by
 have q : (2 : Nat) ^ r <= 2 ^ 31 := Nat.pow_le_pow_right (by omega) (by omega)
 have h3 : x * 2 ^ r <= 4294967295 * 2 ^ 31 := Nat.mul_le_mul (by omega) q
 have e := or_u64 c (x * 2 ^ r) (by omega) (by omega)
 refine ⟨?_, by omega⟩
 rw [show (x : Int) * 2 ^ r = ((x * 2 ^ r : Nat) : Int) from by rw [Int.natCast_mul, Int.natCast_pow]; rfl, e, Nat.add_comm c, Nat.mul_comm x, Nat.two_pow_add_eq_or_of_lt hc, Nat.or_comm]
theorem limb_take (a k : Nat) : dv 4294967296 ((limbs a).take (k + 1)) = dv 4294967296 ((limbs a).take k) + (limbs a).getD k 0 * 4294967296 ^ k := by
 cases h : (limbs a)[k]? with
 | none =>
  have hl : (limbs a).length <= k := by simpa using h
  rw [List.take_of_length_le (by omega), List.take_of_length_le hl, List.getD_eq_getElem?_getD, h]
  simp
 | some x =>
  rw [dv_take_succ h, List.getD_eq_getElem?_getD, h]
  rfl
theorem limb_lt (a k : Nat) : (limbs a).getD k 0 < 4294967296 := by
 cases h : (limbs a)[k]? with
 | none => rw [List.getD_eq_getElem?_getD, h]; decide
 | some x => rw [List.getD_eq_getElem?_getD, h]; exact (limbs_dig a).get h
theorem app_limb {P : Program} {ops : Array Oper} {rest : List Oper} {o : Oper} {a : Act} {Q : Exit -> Act -> World -> Prop} (E : Elt P 66 155 (u32v 0) 4) (hgd : o.guard = none) (s x : Operand)
  (ho : o.op = .call { callee := .builtin .append, args := #[s, x], argTypes := #[66, 66] })
  (wr : World) (v : Value) (l : List Nat) (m : Nat) (hs : a.eval s = v) (hown : Own wr 155 u32v v l) (hx : a.eval x = .slice (some ⟨wr.heap.size, 0, none⟩) 1 1) (hl : l.length <= 1099511627776)
  (h : ∀ v' w1, Own w1 155 u32v v' (l ++ [m]) -> Grew wr w1 v v' -> wpList P ops Q rest (a.put o.dst v') w1) : wpList P ops Q (o :: rest) a (wr.alloc (.cells #[.int .u32 (m : Int)] 155)) :=
 app1 E hgd s x ho wr v l m (.int .u32 (m : Int)) rfl hs hown hx rfl (by unfold maxLen; omega) (by omega) h
def ShUp (w : World) (a n k c : Nat) (v : Value) (wr : World) : Prop :=
 ∃ l : List Nat, Own wr 155 u32v v l /\ l.length = n / 32 + k /\ Dig 4294967296 l /\ c < 2 ^ (n % 32) /\ dv 4294967296 l + c * 4294967296 ^ (n / 32 + k) = dv 4294967296 ((limbs a).take k) * 2 ^ n /\ (∀ b, v.ownBlock = some b -> w.heap.size <= b) /\ Below w.heap.size w wr
theorem shup_step {a n k c x L V l0 : Nat} (hL : L = n / 32 + k) (hx : (limbs a).getD k 0 = x) (hd : l0 + c * 4294967296 ^ L = dv 4294967296 ((limbs a).take k) * 2 ^ n) (hV : c + x * 2 ^ (n % 32) = V) :
  l0 + 4294967296 ^ L * (V % 4294967296) + V / 4294967296 * 4294967296 ^ (L + 1) = dv 4294967296 ((limbs a).take (k + 1)) * 2 ^ n := by
 rw [limb_take, hx, Nat.add_mul, <- hd]
 have h1 := Nat.div_add_mod V 4294967296
 have e1 : V / 4294967296 * 4294967296 ^ (L + 1) = 4294967296 ^ L * (4294967296 * (V / 4294967296)) := by
  rw [Nat.pow_succ, Nat.mul_comm, Nat.mul_assoc]
 rw [e1, Nat.add_assoc, <- Nat.mul_add, Nat.add_comm (V % 4294967296), h1, <- hV, Nat.mul_add, Nat.mul_comm c]
 have e2 : x * 4294967296 ^ k * 2 ^ n = 4294967296 ^ L * (x * 2 ^ (n % 32)) := by
  have hn : n = 32 * (n / 32) + n % 32 := by omega
  have hp : (2 : Nat) ^ n = 4294967296 ^ (n / 32) * 2 ^ (n % 32) := by
   conv => lhs; rw [hn]
   rw [Nat.pow_add, Nat.pow_mul]
  rw [hp, hL, Nat.pow_add]
  generalize 4294967296 ^ (n / 32) = p
  generalize 4294967296 ^ k = q
  generalize 2 ^ (n % 32) = s
  rw [Nat.mul_comm p q, Nat.mul_assoc, Nat.mul_assoc, Nat.mul_left_comm x q, Nat.mul_left_comm x p]
 rw [e2]
 omega
theorem ref_shift_up (a n B : Nat) (va : Value) (w : World) (h : IsN w B va a) (hB : B <= w.heap.size) (hla : (limbs a).length <= 34359738368) (hn : n <= 1099511627776) :
  Calls Tryz.prog 141 #[va, .int .i64 (n : Int)] w (RetN (a * 2 ^ n) w) := by
 obtain ⟨A, c, rfl, hac, hac2, hr, _⟩ := h
 obtain ⟨p, hp⟩ : ∃ p, (limbs a).length = p := ⟨_, rfl⟩
 rw [hp] at hr hac hla
 rw [hp]
 have HP := lh hp
 have HR := lh hr
 clear hp hr
 obtain ⟨h, hh⟩ : ∃ h, n / 32 = h := ⟨_, rfl⟩
 obtain ⟨r, hr⟩ : ∃ r, n % 32 = r := ⟨_, rfl⟩
 have hr32 : r < 32 := by omega
 have hhb : h <= 34359738368 := by omega
 have c1 : (n : Int) / 32 = (h : Int) := by omega
 have c2 : (n : Int) % 32 = (r : Int) := by omega
 have c3 : IntKind.u64.wrap (r : Int) = (r : Int) := by rw [wrap_u64_nat, Nat.mod_eq_of_lt (by omega)]
 have hmk := make_row (P := Tryz.prog) u32v 0 66 155 4 Tryz.underlying66 Tryz.infoU32 rfl .i64 .i64 h (by omega) (by omega)
 have HH := lh (And.intro hh hr)
 clear hh hr
 go_enter Tryz.func141, Tryz.ntmps141
 go_wp2_with fail
 clear hmk c1
 have hrow := Row.rep w 155 u32v 0 h
 have hbel0 := balloc1 w (.cells (Array.replicate h (u32v 0)) 155)
 have hown0 := Own.ofBlk hrow (by simp; unfold maxLen; omega)
 rw [List.length_replicate] at hown0
 go_loopw [5, 6, 7] (fun v cc i wr => ∃ k c : Nat, k <= p + 1 /\ i = .int .i64 (k : Int) /\ cc = .int .u64 (c : Int) /\ ShUp w a n k c v wr) (fun _ _ i _ => p + 1 - (intOf i).toNat)
 case atStart =>
  refine ⟨0, 0, by omega, rfl, rfl, List.replicate h 0, hown0, by rw [HH.out.1]; simp, Dig.rep (by omega) _, Nat.pow_pos (by omega), ?_, fun b hb => by simp [Value.ownBlock] at hb; omega, hbel0⟩
  rw [dv_rep, List.take_zero]
  simp [dv]
 case round =>
  obtain ⟨k, cc, hk, rfl, rfl, l, hown, hlen, hdig, hcl, hdv, hfr, hbel⟩ := hrel
  clear hown0 hrow hbel0
  rename World => wr
  by_cases hlt : k <= p
  ·have hat := ref_at A p c B k (limbs a) wr (HR.out.below (hbel.mono hB)) (by omega) (limbs_dig a) (by omega)
   have hxl := limb_lt a k
   obtain ⟨x, hx⟩ : ∃ x, (limbs a).getD k 0 = x := ⟨_, rfl⟩
   rw [hx] at hat hxl
   rw [HH.out.2] at hcl
   have hor := or_shl cc x r hcl hxl hr32
   obtain ⟨V, hV⟩ : ∃ V, cc + x * 2 ^ r = V := ⟨_, rfl⟩
   rw [hV] at hor
   have hst := shup_step (n := n) (V := V) rfl hx hdv (by rw [HH.out.2]; exact hV)
   obtain ⟨V1, hV1⟩ : ∃ V1, V % 4294967296 = V1 := ⟨_, rfl⟩
   obtain ⟨V2, hV2⟩ : ∃ V2, V / 4294967296 = V2 := ⟨_, rfl⟩
   have hV2l : V2 < 2 ^ r := by
    rw [<- hV2, Nat.div_lt_iff_lt_mul (by omega), <- hV]
    have h1 : x * 2 ^ r + 2 ^ r <= 4294967296 * 2 ^ r := by
     have := Nat.mul_le_mul_right (2 ^ r) (show x + 1 <= 4294967296 from hxl)
     rwa [Nat.add_mul, Nat.one_mul] at this
    rw [Nat.mul_comm (2 ^ r)]
    omega
   rw [hV1, hV2] at hst
   have f1 : IntKind.u32.wrap (V : Int) = (V1 : Int) := by rw [wrap_u32_nat, hV1]
   have f2 : (V : Int) / 4294967296 = (V2 : Int) := by omega
   have f3 : (k : Int) <= (p : Int) := by omega
   have hor1 := hor.1
   have hVl := hor.2
   have hor2 : bits .or .u64 (cc : Int) (IntKind.u64.wrap ((x : Int) * 2 ^ r)) = (V : Int) := by
    have q : (2 : Nat) ^ r <= 2 ^ 31 := Nat.pow_le_pow_right (by omega) (by omega)
    have h3 : x * 2 ^ r <= 4294967295 * 2 ^ 31 := Nat.mul_le_mul (by omega) q
    rw [show (x : Int) * 2 ^ r = ((x * 2 ^ r : Nat) : Int) from by rw [Int.natCast_mul, Int.natCast_pow]; rfl, wrap_u64_nat, Nat.mod_eq_of_lt (by omega)]
    rw [show (x : Int) * 2 ^ r = ((x * 2 ^ r : Nat) : Int) from by rw [Int.natCast_mul, Int.natCast_pow]; rfl] at hor1
    exact hor1
   have HST := lh (And.intro hst (And.intro hlen (And.intro hfr hV2l)))
   have HAT := lh hat
   have hll : l.length <= 1099511627776 := by rw [hlen, HH.out.1]; omega
   have HV := lh (And.intro hV1 hV2)
   clear hst hat hlen hfr hV hV1 hV2 hx hdv hor hV2l hcl
   go_wp2_with fail
   refine HAT.out.mono ?_
   rintro e w1 ⟨rfl, rfl⟩
   go_wp2_with (at_builtin; refine app_limb Tryz.eltRN rfl (.tmp 31) (.tmp 34) rfl wr _ l V1 rfl hown rfl hll ?_; intro v' w2 hown2 hgr)
   have hst := HST.out
   have hV1l : V1 < 4294967296 := by rw [<- HV.out.1]; omega
   refine ⟨⟨k + 1, V2, by omega, by go_num, rfl, l ++ [V1], hown2, by rw [List.length_append, hst.2.1]; simp; omega, hdig.append (Dig.cons hV1l Dig.nil), by rw [HH.out.2]; exact hst.2.2.2, ?_, hgr.fresh hbel.size hst.2.2.1, hbel.trans (hgr.below hbel.size hst.2.2.1)⟩, by simp [intOf]; omega⟩
   rw [dv_append, hst.2.1, dv_cons, dv_nil, Nat.mul_zero, Nat.add_zero]
   exact hst.1
  obtain rfl : k = p + 1 := by omega
  have hcz : cc = 0 := by
   rcases Nat.eq_zero_or_pos cc with h0 | h0
   ·exact h0
   exfalso
   rw [List.take_of_length_le (by rw [HP.out]; omega), dv_limbs] at hdv
   have h1 := limbs_lt a
   rw [HP.out] at h1
   have h2 : a * 2 ^ n < 4294967296 ^ (h + (p + 1)) := by
    have hn2 : n = 32 * h + r := by have := HH.out; omega
    have e1 : (4294967296 : Nat) ^ (h + (p + 1)) = 4294967296 ^ p * (4294967296 ^ h * 4294967296) := by
     rw [Nat.pow_add, Nat.pow_succ, Nat.mul_left_comm]
    rw [e1, hn2, Nat.pow_add, Nat.pow_mul]
    refine Nat.mul_lt_mul'' h1 ?_
    exact Nat.mul_lt_mul_of_pos_left (Nat.pow_lt_pow_right (by omega) (show r < 32 by omega)) (Nat.pow_pos (by omega))
   rw [HH.out.1] at hdv
   have h3 : 4294967296 ^ (h + (p + 1)) <= cc * 4294967296 ^ (h + (p + 1)) := Nat.le_mul_of_pos_left _ h0
   omega
  have hdv2 : dv 4294967296 l = a * 2 ^ n := by
   rw [hcz, Nat.zero_mul, Nat.add_zero, List.take_of_length_le (by rw [HP.out]; omega), dv_limbs] at hdv
   exact hdv
  obtain ⟨A2, c2', hv, hc1, hc2⟩ := hown.form
  rw [hv] at hown
  rw [hv]
  have hrd := hown.reads
  have HD := lh (And.intro hdv2 hfr)
  have hll : l.length <= 1099511627776 := by rw [hlen, HH.out.1]; omega
  have f3 : ¬ ((p + 1 : Nat) : Int) <= (p : Int) := by omega
  unfold maxLen at hc2
  clear hdv hdv2 hlen hv hcl hfr
  go_wp2_with fail
  refine (ref_trim A2 l.length c2' _ l wr hrd (by omega) hc1).mono ?_
  rintro e w5 ⟨rfl, rfl⟩
  go_wp2
  go_ret
  exact ⟨_, rfl, IsN.trim hrd hc1 hc2 hdig HD.out.1 hown.ty, hbel⟩
end Go.Proofs.YtecnjlcfoobepaaGreatDoor
