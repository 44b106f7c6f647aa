import Derived.Test.YtcoloflmigcphaaGreatDoorRefShift
namespace Go.Proofs.YtcoloflmigcphaaGreatDoor
set_option maxRecDepth 100000
set_option maxHeartbeats 1000000
open Go.RowKit
set_option linter.all false
theorem Jgx (a k : Nat) : a / 4294967296 ^ k = (Jd a).getD k 0 + 4294967296 * (a / 4294967296 ^ (k + 1)) := by
 have h1 := Zx (Jx a) (by omega) k
 have h2 := Zx (Jx a) (by omega) (k + 1)
 rw [Ql] at h1 h2
 rw [h1, h2]
 cases h : (Jd a)[k]? with
 | none =>
  have hl : (Jd a).length <= k := by simpa using h
  rw [List.drop_of_length_le hl, List.drop_of_length_le (Nat.le_succ_of_le hl), List.getD_eq_getElem?_getD, h]
  rfl
 | some x =>
  rw [Qa h, List.getD_eq_getElem?_getD, h]
  rfl
theorem Jij (M x y z r : Nat) (hr : r < 32) (h : M = x + 4294967296 * (y + 4294967296 * z)) : M / 2 ^ r % 4294967296 = (x + y * 4294967296) / 2 ^ r % 4294967296 := by
 have hp : (4294967296 : Nat) = 2 ^ r * 2 ^ (32 - r) := by rw [<- Nat.pow_add, show r + (32 - r) = 32 by omega]
 have e : M = (x + y * 4294967296) + 2 ^ r * (4294967296 * (2 ^ (32 - r) * z)) := by
  rw [h]
  have e1 : 2 ^ r * (4294967296 * (2 ^ (32 - r) * z)) = 4294967296 * (2 ^ r * 2 ^ (32 - r)) * z := by
   rw [Nat.mul_left_comm, <- Nat.mul_assoc (2 ^ r), <- Nat.mul_assoc]
  rw [e1, <- hp]
  rw [Nat.mul_add, Nat.mul_comm y, <- Nat.mul_assoc, Nat.add_assoc]
 rw [e, Nat.add_mul_div_left _ _ (Nat.pow_pos (by omega)), Nat.add_mul_mod_self_left]
def ShDn (w : World) (a h r k : Nat) (v : Value) (wr : World) : Prop :=
 ∃ l : List Nat, Own wr 163 Ju v l /\ l.length = k - h /\ Dig 4294967296 l /\ dv 4294967296 l = a / 4294967296 ^ h / 2 ^ r % 4294967296 ^ (k - h) /\ (∀ b, v.ownBlock = some b -> w.heap.size <= b) /\ Below w.heap.size w wr
theorem Jcp (a n B : Nat) (va : Value) (w : World) (h : IsN w B va a) (hB : B <= w.heap.size) (aD : (Jd a).length <= 34359738368) (aM : 0 < n) (hn : n <= 1099511627776) :
  Calls Tryz.prog 157 #[va, .int .i64 (-(n : Int))] w (Jkl (a / 2 ^ n) w) := by
 obtain ⟨A, c, rfl, aE, aF, hr, _⟩ := h
 obtain ⟨p, hp⟩ : ∃ p, (Jd a).length = p := ⟨_, rfl⟩
 rw [hp] at hr aE aD
 rw [hp]
 have HP := lh hp
 have HR := lh hr
 clear hp hr
 obtain ⟨h, hh⟩ : ∃ h, n / 32 = h := ⟨_, rfl⟩
 obtain ⟨r, hr⟩ : ∃ r, n % 32 = r := ⟨_, rfl⟩
 have aX : r < 32 := by omega
 have aN : h <= 34359738368 := by omega
 have j9 : a / 2 ^ n = a / 4294967296 ^ h / 2 ^ r := by
  rw [show n = 32 * h + r by omega, Nat.pow_add, Nat.pow_mul, <- Nat.div_div_eq_div_mul]
 rw [j9]
 have c0 : (0 : Int) < (n : Int) := by omega
 have c1 : (n : Int) / 32 = (h : Int) := by omega
 have c2 : (n : Int) % 32 = (r : Int) := by omega
 have c3 : IntKind.u64.wrap (r : Int) = (r : Int) := by rw [Jf, Nat.mod_eq_of_lt (by omega)]
 have c4 : ¬ 0 <= -(n : Int) := by omega
 clear hh hr j9
 go_enter Tryz.func157, Tryz.ntmps157
 go_wp2_with fail
 go_loopw [8, 9, 10] (fun v i _ wr => ∃ k : Nat, h <= k /\ k <= h + p /\ (k <= p \/ k = h) /\ i = .int .i64 (k : Int) /\ ShDn w a h r k v wr) (fun _ i _ _ => h + p - (intOf i).toNat)
 case atStart =>
  refine ⟨h, Nat.le_refl _, by omega, .inr rfl, rfl, [], Own.nil_ _ _ _, by simp, Dig.nil, ?_, (fun b hb => by cases hb), Below.refl _ _⟩
  rw [Nat.sub_self, Nat.pow_zero, Nat.mod_one]
  rfl
 case round =>
  obtain ⟨k, aO, aP, aQ, rfl, l, j7, j0, aS, aV, aY, j6⟩ := hrel
  rename World => wr
  by_cases aR : k < p
  ·have aZ := Jhu A p c B k (Jd a) wr (HR.out.below (j6.mono hB)) (by omega) (Jx a) (by omega)
   have j8 := Jhu A p c B (k + 1) (Jd a) wr (HR.out.below (j6.mono hB)) (by omega) (Jx a) (by omega)
   have aG := Jfj a k
   have aH := Jfj a (k + 1)
   have aT := Jgx a k
   rw [Jgx a (k + 1)] at aT
   obtain ⟨x, hx⟩ : ∃ x, (Jd a).getD k 0 = x := ⟨_, rfl⟩
   obtain ⟨y, hy⟩ : ∃ y, (Jd a).getD (k + 1) 0 = y := ⟨_, rfl⟩
   rw [hx] at aZ aG aT
   rw [hy] at j8 aH aT
   have aI : bits .or .u64 (x : Int) ((y : Int) * 4294967296) = ((x + y * 4294967296 : Nat) : Int) := by
    have e := Ut x (y * 4294967296) (by omega) (by omega)
    rw [show (y : Int) * 4294967296 = ((y * 4294967296 : Nat) : Int) from by omega, e]
    congr 1
    have h := Nat.two_pow_add_eq_or_of_lt (i := 32) (b := x) (by omega) y
    rw [Nat.add_comm, Nat.mul_comm y, show (4294967296 : Nat) = 2 ^ 32 from rfl, h, Nat.or_comm]
   have p9 := Jij _ x y _ r aX aT
   obtain ⟨V, hV⟩ : ∃ V, x + y * 4294967296 = V := ⟨_, rfl⟩
   rw [hV] at aI p9
   obtain ⟨V2, aW⟩ : ∃ V2, V / 2 ^ r = V2 := ⟨_, rfl⟩
   obtain ⟨D, hD⟩ : ∃ D, V2 % 4294967296 = D := ⟨_, rfl⟩
   rw [aW, hD] at p9
   have aJ : V < 18446744073709551616 := by omega
   have aK : V2 < 18446744073709551616 := by rw [<- aW]; exact Nat.lt_of_le_of_lt (Nat.div_le_self _ _) aJ
   have f1 : (V : Int) / 2 ^ r = (V2 : Int) := by rw [<- aW, Int.natCast_ediv, Int.natCast_pow]; rfl
   have f2 : IntKind.u32.wrap (V2 : Int) = (D : Int) := by rw [Qb, hD]
   have f3 : (k : Int) < (p : Int) := by omega
   have f4 : ((k + 1 : Nat) : Int) = (k : Int) + 1 := by omega
   rw [f4] at j8
   have aU : dv 4294967296 (l ++ [D]) = a / 4294967296 ^ h / 2 ^ r % 4294967296 ^ (k + 1 - h) := by
    rw [Yp, j0, Xv, Ux, Nat.mul_zero, Nat.add_zero, aV, show k + 1 - h = (k - h) + 1 by omega, Nat.pow_succ, Nat.mod_mul]
    congr 2
    rw [<- p9]
    congr 1
    rw [show (4294967296 : Nat) ^ k = 4294967296 ^ h * 4294967296 ^ (k - h) from by rw [<- Nat.pow_add, show h + (k - h) = k by omega], Nat.div_div_eq_div_mul, Nat.div_div_eq_div_mul, Nat.div_div_eq_div_mul, Nat.mul_assoc, Nat.mul_comm (2 ^ r)]
   have HST := lh (And.intro aU (And.intro j0 aY))
   have HAT := lh aZ
   have HAT2 := lh j8
   have bA : l.length <= 1099511627776 := by rw [j0]; omega
   have aL : D < 4294967296 := by omega
   clear aU aZ j8 j0 aY hV aW hD hx hy aV p9 aT f4
   go_wp2_with fail
   refine HAT.out.mono ?_
   rintro e w1 ⟨rfl, rfl⟩
   go_wp2_with fail
   refine HAT2.out.mono ?_
   rintro e w1 ⟨rfl, rfl⟩
   go_wp2_with (at_builtin; refine Jhi Tryz.eltRN rfl (.tmp 59) (.tmp 66) rfl wr _ l D rfl j7 rfl bA ?_; intro v' w2 o0 y9)
   have s9 := HST.out
   exact ⟨⟨k + 1, by omega, by omega, .inl (by omega), by go_num, l ++ [D], o0, by rw [List.length_append, s9.2.1]; simp; omega, aS.append (Dig.cons aL Dig.nil), s9.1, y9.fresh j6.size s9.2.2, j6.trans (y9.below j6.size s9.2.2)⟩, by simp [intOf]; omega⟩
  have o9 : dv 4294967296 l = a / 4294967296 ^ h / 2 ^ r := by
   rw [aV]
   apply Nat.mod_eq_of_lt
   refine Nat.lt_of_le_of_lt (Nat.div_le_self _ _) ?_
   rw [Nat.div_lt_iff_lt_mul (Nat.pow_pos (by omega)), <- Nat.pow_add, show k - h + h = k by omega]
   have h1 := Xz a
   rw [HP.out] at h1
   exact Nat.lt_of_lt_of_le h1 (Nat.pow_le_pow_right (by omega) (by omega))
  obtain ⟨A2, c2', hv, aA, aB⟩ := j7.form
  rw [hv] at j7
  rw [hv]
  have aC := j7.reads
  have HD := lh o9
  have bA : l.length <= 1099511627776 := by rw [j0]; omega
  have f3 : ¬ (k : Int) < (p : Int) := by omega
  unfold maxLen at aB
  clear aV o9 j0 hv aY
  go_wp2_with fail
  refine (Yr A2 l.length c2' _ l wr aC (by omega) aA).mono ?_
  rintro e w5 ⟨rfl, rfl⟩
  go_wp2
  go_ret
  exact ⟨_, rfl, IsN.trim aC aA aB aS HD.out j7.ty, j6⟩
