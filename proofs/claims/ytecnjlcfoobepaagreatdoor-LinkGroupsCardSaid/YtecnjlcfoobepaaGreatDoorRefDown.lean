import Derived.Test.YtecnjlcfoobepaaGreatDoorRefShift
namespace Go.Proofs.YtecnjlcfoobepaaGreatDoor
set_option maxRecDepth 100000
set_option maxHeartbeats 1000000
open Go.RowKit
set_option linter.all false
theorem Jjd (a k : Nat) : a / 4294967296 ^ k = (Jc a).getD k 0 + 4294967296 * (a / 4294967296 ^ (k + 1)) := by
 have h1 := Ym (Jt a) (by omega) k
 have h2 := Ym (Jt a) (by omega) (k + 1)
 rw [Qm] at h1 h2
 rw [h1, h2]
 cases h : (Jc a)[k]? with
 | none =>
  have hl : (Jc a).length <= k := by simpa using h
  rw [List.drop_of_length_le hl, List.drop_of_length_le (Nat.le_succ_of_le hl), List.getD_eq_getElem?_getD, h]
  rfl
 | some x =>
  rw [Qd h, List.getD_eq_getElem?_getD, h]
  rfl
theorem Jlm (M x y z r : Nat) (hr : r < 32) (h : M = x + 4294967296 * (y + 4294967296 * z)) : M / 2 ^ r % 4294967296 = (x + y * 4294967296) / 2 ^ r % 4294967296 := by
 have hp : (4294967296 : Nat) = 2 ^ r * 2 ^ (32 - r) := by rw [<- Nat.pow_add, show r + (32 - r) = 32 by omega]
 have e : M = (x + y * 4294967296) + 2 ^ r * (4294967296 * (2 ^ (32 - r) * z)) := by
  rw [h]
  have e1 : 2 ^ r * (4294967296 * (2 ^ (32 - r) * z)) = 4294967296 * (2 ^ r * 2 ^ (32 - r)) * z := by
   rw [Nat.mul_left_comm, <- Nat.mul_assoc (2 ^ r), <- Nat.mul_assoc]
  rw [e1, <- hp]
  rw [Nat.mul_add, Nat.mul_comm y, <- Nat.mul_assoc, Nat.add_assoc]
 rw [e, Nat.add_mul_div_left _ _ (Nat.pow_pos (by omega)), Nat.add_mul_mod_self_left]
def ShDn (w : World) (a h r k : Nat) (v : Value) (wr : World) : Prop :=
 ∃ l : List Nat, Own wr 155 Jr v l /\ l.length = k - h /\ Dig 4294967296 l /\ dv 4294967296 l = a / 4294967296 ^ h / 2 ^ r % 4294967296 ^ (k - h) /\ (∀ b, v.ownBlock = some b -> w.heap.size <= b) /\ Below w.heap.size w wr
theorem Jee (a n B : Nat) (va : Value) (w : World) (h : IsN w B va a) (hB : B <= w.heap.size) (aJ : (Jc a).length <= 34359738368) (aS : 0 < n) (hn : n <= 1099511627776) :
  Calls Tryz.prog 141 #[va, .int .i64 (-(n : Int))] w (Jb4 (a / 2 ^ n) w) := by
 obtain ⟨A, c, rfl, aK, aL, hr, _⟩ := h
 obtain ⟨p, hp⟩ : ∃ p, (Jc a).length = p := ⟨_, rfl⟩
 rw [hp] at hr aK aJ
 rw [hp]
 have HP := lh hp
 have HR := lh hr
 clear hp hr
 obtain ⟨h, hh⟩ : ∃ h, n / 32 = h := ⟨_, rfl⟩
 obtain ⟨r, hr⟩ : ∃ r, n % 32 = r := ⟨_, rfl⟩
 have aB : r < 32 := by omega
 have aT : h <= 34359738368 := by omega
 have o0 : a / 2 ^ n = a / 4294967296 ^ h / 2 ^ r := by
  rw [show n = 32 * h + r by omega, Nat.pow_add, Nat.pow_mul, <- Nat.div_div_eq_div_mul]
 rw [o0]
 have c0 : (0 : Int) < (n : Int) := by omega
 have c1 : (n : Int) / 32 = (h : Int) := by omega
 have c2 : (n : Int) % 32 = (r : Int) := by omega
 have c3 : IntKind.u64.wrap (r : Int) = (r : Int) := by rw [Ji, Nat.mod_eq_of_lt (by omega)]
 have c4 : ¬ 0 <= -(n : Int) := by omega
 clear hh hr o0
 go_enter Tryz.func141, Tryz.ntmps141
 go_wp2_with fail
 go_loopw [8, 9, 10] (fun v i _ wr => ∃ k : Nat, h <= k /\ k <= h + p /\ (k <= p \/ k = h) /\ i = .int .i64 (k : Int) /\ ShDn w a h r k v wr) (fun _ i _ _ => h + p - (intOf i).toNat)
 case atStart =>
  refine ⟨h, Nat.le_refl _, by omega, .inr rfl, rfl, [], Own.nil_ _ _ _, by simp, Dig.nil, ?_, (fun b hb => by cases hb), Below.refl _ _⟩
  rw [Nat.sub_self, Nat.pow_zero, Nat.mod_one]
  rfl
 case round =>
  obtain ⟨k, aU, aV, aW, rfl, l, j8, j6, o5, x9, aC, j7⟩ := hrel
  rename World => wr
  by_cases aX : k < p
  ·have aD := Jcx A p c B k (Jc a) wr (HR.out.below (j7.mono hB)) (by omega) (Jt a) (by omega)
   have j9 := Jcx A p c B (k + 1) (Jc a) wr (HR.out.below (j7.mono hB)) (by omega) (Jt a) (by omega)
   have aM := Jbe a k
   have aN := Jbe a (k + 1)
   have s9 := Jjd a k
   rw [Jjd a (k + 1)] at s9
   obtain ⟨x, hx⟩ : ∃ x, (Jc a).getD k 0 = x := ⟨_, rfl⟩
   obtain ⟨y, hy⟩ : ∃ y, (Jc a).getD (k + 1) 0 = y := ⟨_, rfl⟩
   rw [hx] at aD aM s9
   rw [hy] at j9 aN s9
   have aO : bits .or .u64 (x : Int) ((y : Int) * 4294967296) = ((x + y * 4294967296 : Nat) : Int) := by
    have e := Jan x (y * 4294967296) (by omega) (by omega)
    rw [show (y : Int) * 4294967296 = ((y * 4294967296 : Nat) : Int) from by omega, e]
    congr 1
    have h := Nat.two_pow_add_eq_or_of_lt (i := 32) (b := x) (by omega) y
    rw [Nat.add_comm, Nat.mul_comm y, show (4294967296 : Nat) = 2 ^ 32 from rfl, h, Nat.or_comm]
   have y8 := Jlm _ x y _ r aB s9
   obtain ⟨V, hV⟩ : ∃ V, x + y * 4294967296 = V := ⟨_, rfl⟩
   rw [hV] at aO y8
   obtain ⟨V2, y9⟩ : ∃ V2, V / 2 ^ r = V2 := ⟨_, rfl⟩
   obtain ⟨D, hD⟩ : ∃ D, V2 % 4294967296 = D := ⟨_, rfl⟩
   rw [y9, hD] at y8
   have aP : V < 18446744073709551616 := by omega
   have aQ : V2 < 18446744073709551616 := by rw [<- y9]; exact Nat.lt_of_le_of_lt (Nat.div_le_self _ _) aP
   have f1 : (V : Int) / 2 ^ r = (V2 : Int) := by rw [<- y9, Int.natCast_ediv, Int.natCast_pow]; rfl
   have f2 : IntKind.u32.wrap (V2 : Int) = (D : Int) := by rw [Ju, hD]
   have f3 : (k : Int) < (p : Int) := by omega
   have f4 : ((k + 1 : Nat) : Int) = (k : Int) + 1 := by omega
   rw [f4] at j9
   have t7 : dv 4294967296 (l ++ [D]) = a / 4294967296 ^ h / 2 ^ r % 4294967296 ^ (k + 1 - h) := by
    rw [Yf, j6, Xv, Ur, Nat.mul_zero, Nat.add_zero, x9, show k + 1 - h = (k - h) + 1 by omega, Nat.pow_succ, Nat.mod_mul]
    congr 2
    rw [<- y8]
    congr 1
    rw [show (4294967296 : Nat) ^ k = 4294967296 ^ h * 4294967296 ^ (k - h) from by rw [<- Nat.pow_add, show h + (k - h) = k by omega], Nat.div_div_eq_div_mul, Nat.div_div_eq_div_mul, Nat.div_div_eq_div_mul, Nat.mul_assoc, Nat.mul_comm (2 ^ r)]
   have HST := lh (And.intro t7 (And.intro j6 aC))
   have HAT := lh aD
   have HAT2 := lh j9
   have aE : l.length <= 1099511627776 := by rw [j6]; omega
   have aR : D < 4294967296 := by omega
   clear t7 aD j9 j6 aC hV y9 hD hx hy x9 y8 s9 f4
   go_wp2_with fail
   refine HAT.out.mono ?_
   rintro e w1 ⟨rfl, rfl⟩
   go_wp2_with fail
   refine HAT2.out.mono ?_
   rintro e w1 ⟨rfl, rfl⟩
   go_wp2_with (at_builtin; refine Jj7 Tryz.eltRN rfl (.tmp 59) (.tmp 66) rfl wr _ l D rfl j8 rfl aE ?_; intro v' w2 t8 aF)
   have aA := HST.out
   exact ⟨⟨k + 1, by omega, by omega, .inl (by omega), by go_num, l ++ [D], t8, by rw [List.length_append, aA.2.1]; simp; omega, o5.append (Dig.cons aR Dig.nil), aA.1, aF.fresh j7.size aA.2.2, j7.trans (aF.below j7.size aA.2.2)⟩, by simp [intOf]; omega⟩
  have x8 : dv 4294967296 l = a / 4294967296 ^ h / 2 ^ r := by
   rw [x9]
   apply Nat.mod_eq_of_lt
   refine Nat.lt_of_le_of_lt (Nat.div_le_self _ _) ?_
   rw [Nat.div_lt_iff_lt_mul (Nat.pow_pos (by omega)), <- Nat.pow_add, show k - h + h = k by omega]
   have h1 := Xk a
   rw [HP.out] at h1
   exact Nat.lt_of_lt_of_le h1 (Nat.pow_le_pow_right (by omega) (by omega))
  obtain ⟨A2, c2', hv, aG, aH⟩ := j8.form
  rw [hv] at j8
  rw [hv]
  have aI := j8.reads
  have HD := lh x8
  have aE : l.length <= 1099511627776 := by rw [j6]; omega
  have f3 : ¬ (k : Int) < (p : Int) := by omega
  unfold maxLen at aH
  clear x9 x8 j6 hv aC
  go_wp2_with fail
  refine (Zq A2 l.length c2' _ l wr aI (by omega) aG).mono ?_
  rintro e w5 ⟨rfl, rfl⟩
  go_wp2
  go_ret
  exact ⟨_, rfl, IsN.trim aI aG aH o5 HD.out j8.ty, j7⟩
