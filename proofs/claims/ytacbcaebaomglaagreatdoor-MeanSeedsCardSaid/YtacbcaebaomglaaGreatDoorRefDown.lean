import Derived.Test.YtacbcaebaomglaaGreatDoorRefShift
namespace Go.Proofs.YtacbcaebaomglaaGreatDoor
set_option maxRecDepth 100000
set_option maxHeartbeats 1000000
open Go.RowKit
set_option linter.all false
theorem Jh6 (a k : Nat) : a / 4294967296 ^ k = (Jc a).getD k 0 + 4294967296 * (a / 4294967296 ^ (k + 1)) := by
 have h1 := Yr (Jq a) (by omega) k
 have h2 := Yr (Jq a) (by omega) (k + 1)
 rw [Qg] at h1 h2
 rw [h1, h2]
 cases h : (Jc a)[k]? with
 | none =>
  have hl : (Jc a).length <= k := by simpa using h
  rw [List.drop_of_length_le hl, List.drop_of_length_le (Nat.le_succ_of_le hl), List.getD_eq_getElem?_getD, h]
  rfl
 | some x =>
  rw [Qb h, List.getD_eq_getElem?_getD, h]
  rfl
theorem Jjl (M x y z r : Nat) (hr : r < 32) (h : M = x + 4294967296 * (y + 4294967296 * z)) : M / 2 ^ r % 4294967296 = (x + y * 4294967296) / 2 ^ r % 4294967296 := by
 have hp : (4294967296 : Nat) = 2 ^ r * 2 ^ (32 - r) := by rw [<- Nat.pow_add, show r + (32 - r) = 32 by omega]
 have e : M = (x + y * 4294967296) + 2 ^ r * (4294967296 * (2 ^ (32 - r) * z)) := by
  rw [h]
  have e1 : 2 ^ r * (4294967296 * (2 ^ (32 - r) * z)) = 4294967296 * (2 ^ r * 2 ^ (32 - r)) * z := by
   rw [Nat.mul_left_comm, <- Nat.mul_assoc (2 ^ r), <- Nat.mul_assoc]
  rw [e1, <- hp]
  rw [Nat.mul_add, Nat.mul_comm y, <- Nat.mul_assoc, Nat.add_assoc]
 rw [e, Nat.add_mul_div_left _ _ (Nat.pow_pos (by omega)), Nat.add_mul_mod_self_left]
def ShDn (w : World) (a h r k : Nat) (v : Value) (wr : World) : Prop :=
 ∃ l : List Nat, Own wr 166 Jo v l /\ l.length = k - h /\ Dig 4294967296 l /\ dv 4294967296 l = a / 4294967296 ^ h / 2 ^ r % 4294967296 ^ (k - h) /\ (∀ b, v.ownBlock = some b -> w.heap.size <= b) /\ Below w.heap.size w wr
theorem Jdn (a n B : Nat) (va : Value) (w : World) (h : IsN w B va a) (hB : B <= w.heap.size) (x9 : (Jc a).length <= 34359738368) (aG : 0 < n) (hn : n <= 1099511627776) :
  Calls Tryz.prog 146 #[va, .int .i64 (-(n : Int))] w (Jbm (a / 2 ^ n) w) := by
 obtain ⟨A, c, rfl, y8, y9, hr, _⟩ := h
 obtain ⟨p, hp⟩ : ∃ p, (Jc a).length = p := ⟨_, rfl⟩
 rw [hp] at hr y8 x9
 rw [hp]
 have HP := lh hp
 have HR := lh hr
 clear hp hr
 obtain ⟨h, hh⟩ : ∃ h, n / 32 = h := ⟨_, rfl⟩
 obtain ⟨r, hr⟩ : ∃ r, n % 32 = r := ⟨_, rfl⟩
 have p9 : r < 32 := by omega
 have aH : h <= 34359738368 := by omega
 have j7 : a / 2 ^ n = a / 4294967296 ^ h / 2 ^ r := by
  rw [show n = 32 * h + r by omega, Nat.pow_add, Nat.pow_mul, <- Nat.div_div_eq_div_mul]
 rw [j7]
 have c0 : (0 : Int) < (n : Int) := by omega
 have c1 : (n : Int) / 32 = (h : Int) := by omega
 have c2 : (n : Int) % 32 = (r : Int) := by omega
 have c3 : IntKind.u64.wrap (r : Int) = (r : Int) := by rw [Jg, Nat.mod_eq_of_lt (by omega)]
 have c4 : ¬ 0 <= -(n : Int) := by omega
 clear hh hr j7
 go_enter Tryz.func146, Tryz.ntmps146
 go_wp2_with fail
 go_loopw [8, 9, 10] (fun v i _ wr => ∃ k : Nat, h <= k /\ k <= h + p /\ (k <= p \/ k = h) /\ i = .int .i64 (k : Int) /\ ShDn w a h r k v wr) (fun _ i _ _ => h + p - (intOf i).toNat)
 case atStart =>
  refine ⟨h, Nat.le_refl _, by omega, .inr rfl, rfl, [], Own.nil_ _ _ _, by simp, Dig.nil, ?_, (fun b hb => by cases hb), Below.refl _ _⟩
  rw [Nat.sub_self, Nat.pow_zero, Nat.mod_one]
  rfl
 case round =>
  obtain ⟨k, aI, aJ, aK, rfl, l, j0, e8, j8, o8, q8, e9⟩ := hrel
  rename World => wr
  by_cases aL : k < p
  ·have s9 := Jcb A p c B k (Jc a) wr (HR.out.below (e9.mono hB)) (by omega) (Jq a) (by omega)
   have j6 := Jcb A p c B (k + 1) (Jc a) wr (HR.out.below (e9.mono hB)) (by omega) (Jq a) (by omega)
   have aA := Jay a k
   have aB := Jay a (k + 1)
   have j9 := Jh6 a k
   rw [Jh6 a (k + 1)] at j9
   obtain ⟨x, hx⟩ : ∃ x, (Jc a).getD k 0 = x := ⟨_, rfl⟩
   obtain ⟨y, hy⟩ : ∃ y, (Jc a).getD (k + 1) 0 = y := ⟨_, rfl⟩
   rw [hx] at s9 aA j9
   rw [hy] at j6 aB j9
   have aC : bits .or .u64 (x : Int) ((y : Int) * 4294967296) = ((x + y * 4294967296 : Nat) : Int) := by
    have e := Jab x (y * 4294967296) (by omega) (by omega)
    rw [show (y : Int) * 4294967296 = ((y * 4294967296 : Nat) : Int) from by omega, e]
    congr 1
    have h := Nat.two_pow_add_eq_or_of_lt (i := 32) (b := x) (by omega) y
    rw [Nat.add_comm, Nat.mul_comm y, show (4294967296 : Nat) = 2 ^ 32 from rfl, h, Nat.or_comm]
   have o9 := Jjl _ x y _ r p9 j9
   obtain ⟨V, hV⟩ : ∃ V, x + y * 4294967296 = V := ⟨_, rfl⟩
   rw [hV] at aC o9
   obtain ⟨V2, p7⟩ : ∃ V2, V / 2 ^ r = V2 := ⟨_, rfl⟩
   obtain ⟨D, hD⟩ : ∃ D, V2 % 4294967296 = D := ⟨_, rfl⟩
   rw [p7, hD] at o9
   have aD : V < 18446744073709551616 := by omega
   have aE : V2 < 18446744073709551616 := by rw [<- p7]; exact Nat.lt_of_le_of_lt (Nat.div_le_self _ _) aD
   have f1 : (V : Int) / 2 ^ r = (V2 : Int) := by rw [<- p7, Int.natCast_ediv, Int.natCast_pow]; rfl
   have f2 : IntKind.u32.wrap (V2 : Int) = (D : Int) := by rw [Jr, hD]
   have f3 : (k : Int) < (p : Int) := by omega
   have f4 : ((k + 1 : Nat) : Int) = (k : Int) + 1 := by omega
   rw [f4] at j6
   have o0 : dv 4294967296 (l ++ [D]) = a / 4294967296 ^ h / 2 ^ r % 4294967296 ^ (k + 1 - h) := by
    rw [Yk, e8, Xw, Up, Nat.mul_zero, Nat.add_zero, o8, show k + 1 - h = (k - h) + 1 by omega, Nat.pow_succ, Nat.mod_mul]
    congr 2
    rw [<- o9]
    congr 1
    rw [show (4294967296 : Nat) ^ k = 4294967296 ^ h * 4294967296 ^ (k - h) from by rw [<- Nat.pow_add, show h + (k - h) = k by omega], Nat.div_div_eq_div_mul, Nat.div_div_eq_div_mul, Nat.div_div_eq_div_mul, Nat.mul_assoc, Nat.mul_comm (2 ^ r)]
   have HST := lh (And.intro o0 (And.intro e8 q8))
   have HAT := lh s9
   have HAT2 := lh j6
   have t7 : l.length <= 1099511627776 := by rw [e8]; omega
   have aF : D < 4294967296 := by omega
   clear o0 s9 j6 e8 q8 hV p7 hD hx hy o8 o9 j9 f4
   go_wp2_with fail
   refine HAT.out.mono ?_
   rintro e w1 ⟨rfl, rfl⟩
   go_wp2_with fail
   refine HAT2.out.mono ?_
   rintro e w1 ⟨rfl, rfl⟩
   go_wp2_with (at_builtin; refine Jio Tryz.eltRN rfl (.tmp 59) (.tmp 66) rfl wr _ l D rfl j0 rfl t7 ?_; intro v' w2 o6 t8)
   have p8 := HST.out
   exact ⟨⟨k + 1, by omega, by omega, .inl (by omega), by go_num, l ++ [D], o6, by rw [List.length_append, p8.2.1]; simp; omega, j8.append (Dig.cons aF Dig.nil), p8.1, t8.fresh e9.size p8.2.2, e9.trans (t8.below e9.size p8.2.2)⟩, by simp [intOf]; omega⟩
  have o7 : dv 4294967296 l = a / 4294967296 ^ h / 2 ^ r := by
   rw [o8]
   apply Nat.mod_eq_of_lt
   refine Nat.lt_of_le_of_lt (Nat.div_le_self _ _) ?_
   rw [Nat.div_lt_iff_lt_mul (Nat.pow_pos (by omega)), <- Nat.pow_add, show k - h + h = k by omega]
   have h1 := Xj a
   rw [HP.out] at h1
   exact Nat.lt_of_lt_of_le h1 (Nat.pow_le_pow_right (by omega) (by omega))
  obtain ⟨A2, c2', hv, u4, x7⟩ := j0.form
  rw [hv] at j0
  rw [hv]
  have x8 := j0.reads
  have HD := lh o7
  have t7 : l.length <= 1099511627776 := by rw [e8]; omega
  have f3 : ¬ (k : Int) < (p : Int) := by omega
  unfold maxLen at x7
  clear o8 o7 e8 hv q8
  go_wp2_with fail
  refine (Zr A2 l.length c2' _ l wr x8 (by omega) u4).mono ?_
  rintro e w5 ⟨rfl, rfl⟩
  go_wp2
  go_ret
  exact ⟨_, rfl, IsN.trim x8 u4 x7 j8 HD.out j0.ty, e9⟩
