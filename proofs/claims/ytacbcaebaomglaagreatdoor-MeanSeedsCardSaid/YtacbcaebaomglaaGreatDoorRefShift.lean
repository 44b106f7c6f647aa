import Derived.Test.YtacbcaebaomglaaGreatDoorRefA
namespace Go.Proofs.YtacbcaebaomglaaGreatDoor
set_option maxRecDepth 100000
set_option maxHeartbeats 1000000
open Go.RowKit
set_option linter.all false
theorem Jaa (r x : Nat) (hr : r < 4294967296) (hx : x < 4294967296) : bits .or .u64 ((r : Int) * 4294967296) (x : Int) = ((r * 4294967296 + x : Nat) : Int) := by
 have e := Jab (r * 4294967296) x (by omega) (by omega)
 rw [show (r : Int) * 4294967296 = ((r * 4294967296 : Nat) : Int) from by omega, e]
 congr 1
 have h := Nat.two_pow_add_eq_or_of_lt (i := 32) (b := x) (by omega) r
 rw [Nat.mul_comm r, show (4294967296 : Nat) = 2 ^ 32 from rfl]
 exact h.symm
theorem Je5 {α : Type} (l : List α) (j : Nat) (x : α) (h : j < l.length) : (l.set j x).drop j = x :: l.drop (j + 1) := by
 rw [List.drop_eq_getElem_cons (by rw [List.length_set]; exact h), List.getElem_set_self, List.drop_set_of_lt (by omega)]
def Jpb (q r : Nat) (w : World) (e : Ending) (w' : World) : Prop := ∃ v, e = .returned (.tuple #[v, .int .u32 (r : Int)]) /\ IsN w' w'.heap.size v q /\ Below w.heap.size w w'
def Joq (w : World) (g n a b : Nat) (k r : Nat) (wr : World) : Prop :=
 ∃ l : List Nat, Row wr g 166 Jo l /\ l.length = n /\ Dig 4294967296 l /\ r < b /\ dv 4294967296 (l.drop k) * b + r = dv 4294967296 ((Jc a).drop k) /\ Below w.heap.size w wr
theorem Jna (a b B : Nat) (va : Value) (w : World) (h : IsN w B va a) (hB : B <= w.heap.size) (y9 : (Jc a).length <= 34359738368) (u4 : 0 < b) (hb : b < 4294967296) :
  Calls Tryz.prog 147 #[va, .int .u32 (b : Int)] w (Jpb (a / b) (a % b) w) := by
 obtain ⟨A, c, rfl, aA, aB, hr, _⟩ := h
 obtain ⟨n, hn⟩ : ∃ n, (Jc a).length = n := ⟨_, rfl⟩
 rw [hn] at hr aA y9
 rw [hn]
 have HN := lh hn
 have HR := lh hr
 clear hn hr
 have aC := Qf (P := Tryz.prog) Jo 0 52 166 4 Tryz.underlying52 Tryz.infoU32 rfl .i64 .i64 n (by omega) (by omega)
 have aW : IntKind.u64.wrap (b : Int) = (b : Int) := by rw [Jg, Nat.mod_eq_of_lt (by omega)]
 go_enter Tryz.func147, Tryz.ntmps147
 go_wp2_with fail
 clear aC
 have j8 := Row.rep w 166 Jo 0 n
 have e9 := Jb w (.cells (Array.replicate n (Jo 0)) 166)
 obtain ⟨g, hg⟩ : ∃ g, w.heap.size = g := ⟨_, rfl⟩
 have aP : w.heap.size <= g := by omega
 have aX : B <= g := by omega
 rw [hg] at j8
 rw [hg]
 clear hg
 go_loopw [7, 8] (fun rr i wr => ∃ k r : Nat, k <= n /\ i = .int .i64 ((k : Int) - 1) /\ rr = .int .u64 (r : Int) /\ Joq w g n a b k r wr) (fun _ i _ => (intOf i + 1).toNat)
 case atStart =>
  refine ⟨n, 0, Nat.le_refl _, rfl, rfl, List.replicate n 0, j8, by simp, Dig.rep (by omega) _, u4, ?_, e9⟩
  rw [List.drop_of_length_le (by simp), List.drop_of_length_le (by rw [HN.out]; omega)]
  simp [dv]
 case round =>
  obtain ⟨k, r, hk, rfl, rfl, l, o9, j0, j9, aD, j7, e8⟩ := hrel
  have HLEN := lh j0
  have HDV := lh j7
  clear j0 j7 j8 e9
  by_cases h0 : k = 0
  ·subst h0
   have j7 := HDV.out
   rw [List.drop_zero, List.drop_zero, Qg] at j7
   have hq : dv 4294967296 l = a / b /\ r = a % b := by
    have h1 : (dv 4294967296 l * b + r) / b = dv 4294967296 l := by
     rw [Nat.add_comm, Nat.add_mul_div_right _ _ u4, Nat.div_eq_of_lt aD, Nat.zero_add]
    have h2 : (dv 4294967296 l * b + r) % b = r := by
     rw [Nat.add_comm, Nat.add_mul_mod_self_right, Nat.mod_eq_of_lt aD]
    rw [j7] at h1 h2
    exact ⟨h1.symm, h2.symm⟩
   have o7 := Own.reads (Own.ofBlk o9 (by rw [HLEN.out]; unfold maxLen; omega))
   rw [HLEN.out] at o7
   have HQ := lh hq
   have aY : IntKind.u32.wrap (r : Int) = (r : Int) := by rw [Jr, Nat.mod_eq_of_lt (by omega)]
   clear j7 hq
   go_wp2_with fail
   refine (Zr _ n n _ l wr o7 (by omega) zd).mono ?_
   rintro e w5 ⟨rfl, rfl⟩
   go_wp2
   go_ret2
   exact ⟨_, by rw [<- HQ.out.2]; rfl, IsN.trim o7 zd (by omega) j9 HQ.out.1 o9.ty, e8⟩
  obtain ⟨j, rfl⟩ : ∃ j, k = j + 1 := ⟨k - 1, by omega⟩
  obtain ⟨ad, x, hA, aZ, hx, aQ⟩ := (HR.out.below (e8.mono hB)).atf (show j < n by omega)
  subst hA
  have p7 := (Jq a).get hx
  obtain ⟨R, hR⟩ : ∃ R, r * 4294967296 + x = R := ⟨_, rfl⟩
  have o8 := Jaa r x (by omega) p7
  rw [hR] at o8
  have aH : R < 4294967296 * b := by
   have := Nat.mul_le_mul_right 4294967296 (show r + 1 <= b from aD)
   rw [Nat.add_mul, Nat.one_mul] at this
   rw [Nat.mul_comm]
   omega
  obtain ⟨q, hq⟩ : ∃ q, R / b = q := ⟨_, rfl⟩
  obtain ⟨r', p8⟩ : ∃ r', R % b = r' := ⟨_, rfl⟩
  have aI : q < 4294967296 := by rw [<- hq]; exact (Nat.div_lt_iff_lt_mul u4).2 aH
  have aR : r' < b := by rw [<- p8]; exact Nat.mod_lt _ u4
  have bA : R < 18446744073709551616 := by omega
  have aJ := Nat.div_add_mod R b
  rw [hq, p8] at aJ
  have e1 : (R : Int) / (b : Int) = (q : Int) := by rw [<- hq, Int.natCast_ediv]
  have e2 : (R : Int) % (b : Int) = (r' : Int) := by rw [<- p8, Int.natCast_emod]
  have e3 : IntKind.u32.wrap (q : Int) = (q : Int) := by rw [Jr, Nat.mod_eq_of_lt aI]
  have e4 : IntKind.u64.wrap (x : Int) = (x : Int) := by rw [Jg, Nat.mod_eq_of_lt (by omega)]
  have aK : j < l.length := by rw [HLEN.out]; omega
  obtain ⟨y, hy⟩ : ∃ y, l[j]? = some y := ⟨_, List.getElem?_eq_getElem aK⟩
  have p9 : dv 4294967296 ((l.set j q).drop j) * b + r' = dv 4294967296 ((Jc a).drop j) := by
   rw [Je5 l j q aK, Xw, Qb hx, <- HDV.out, Nat.add_mul, Nat.mul_add]
   have e5 : 4294967296 * dv 4294967296 (l.drop (j + 1)) * b = 4294967296 * (dv 4294967296 (l.drop (j + 1)) * b) := Nat.mul_assoc _ _ _
   rw [e5]
   have e6 : q * b = b * q := Nat.mul_comm _ _
   rw [e6]
   omega
  have aS := o9.cell hy
  have bB := o9.frozen j
  have k1 : (((j + 1 : Nat) : Int) - 1) = (j : Int) := by omega
  have k2 : (j : Int) < (n : Int) := by omega
  have k3 : (b : Int) ≠ 0 := by omega
  have k4 : ((b : Int) == 0) = false := by simp; omega
  have k5 : (r : Int) < 4294967296 := by omega
  have k6 : 0 < (b : Int) := by omega
  unfold Jo at aQ aS
  have HX := lh (And.intro p9 (And.intro p8 hq))
  clear p9 hx hy hR hq p8 aJ aH
  rw [k1]
  go_wp2
  refine ⟨⟨j, r', by omega, rfl, by rw [e2], l.set j q, o9.set_ j q, by rw [List.length_set]; exact HLEN.out, j9.set_ j aI, aR, HX.out.1, e8.setCell aP _⟩, by simp [intOf]⟩
theorem Jod (c x r : Nat) (hc : c < 2 ^ r) (hx : x < 4294967296) (hr : r < 32) : bits .or .u64 (c : Int) ((x : Int) * 2 ^ r) = ((c + x * 2 ^ r : Nat) : Int) /\ c + x * 2 ^ r < 18446744073709551616 := by
 have q : (2 : Nat) ^ r <= 2 ^ 31 := Nat.pow_le_pow_right (by omega) (by omega)
 have h3 : x * 2 ^ r <= 4294967295 * 2 ^ 31 := Nat.mul_le_mul (by omega) q
 have e := Jab c (x * 2 ^ r) (by omega) (by omega)
 refine ⟨?_, by omega⟩
 rw [show (x : Int) * 2 ^ r = ((x * 2 ^ r : Nat) : Int) from by rw [Int.natCast_mul, Int.natCast_pow]; rfl, e, Nat.add_comm c, Nat.mul_comm x, Nat.two_pow_add_eq_or_of_lt hc, Nat.or_comm]
theorem Jax (a k : Nat) : dv 4294967296 ((Jc a).take (k + 1)) = dv 4294967296 ((Jc a).take k) + (Jc a).getD k 0 * 4294967296 ^ k := by
 cases h : (Jc a)[k]? with
 | none =>
  have hl : (Jc a).length <= k := by simpa using h
  rw [List.take_of_length_le (by omega), List.take_of_length_le hl, List.getD_eq_getElem?_getD, h]
  simp
 | some x =>
  rw [Js h, List.getD_eq_getElem?_getD, h]
  rfl
theorem Jay (a k : Nat) : (Jc a).getD k 0 < 4294967296 := by
 cases h : (Jc a)[k]? with
 | none => rw [List.getD_eq_getElem?_getD, h]; decide
 | some x => rw [List.getD_eq_getElem?_getD, h]; exact (Jq a).get h
theorem Jio {P : Program} {ops : Array Oper} {rest : List Oper} {o : Oper} {a : Act} {Q : Exit -> Act -> World -> Prop} (E : Elt P 52 166 (Jo 0) 4) (aT : o.guard = none) (s x : Operand)
  (ho : o.op = .call { callee := .builtin .append, args := #[s, x], argTypes := #[52, 52] })
  (wr : World) (v : Value) (l : List Nat) (m : Nat) (hs : a.eval s = v) (j6 : Own wr 166 Jo v l) (hx : a.eval x = .slice (some ⟨wr.heap.size, 0, none⟩) 1 1) (hl : l.length <= 1099511627776)
  (h : ∀ v' w1, Own w1 166 Jo v' (l ++ [m]) -> Grew wr w1 v v' -> wpList P ops Q rest (a.put o.dst v') w1) : wpList P ops Q (o :: rest) a (wr.alloc (.cells #[.int .u32 (m : Int)] 166)) :=
 Jmt E aT s x ho wr v l m (.int .u32 (m : Int)) rfl hs j6 hx rfl (by unfold maxLen; omega) (by omega) h
def ShUp (w : World) (a n k c : Nat) (v : Value) (wr : World) : Prop :=
 ∃ l : List Nat, Own wr 166 Jo v l /\ l.length = n / 32 + k /\ Dig 4294967296 l /\ c < 2 ^ (n % 32) /\ dv 4294967296 l + c * 4294967296 ^ (n / 32 + k) = dv 4294967296 ((Jc a).take k) * 2 ^ n /\ (∀ b, v.ownBlock = some b -> w.heap.size <= b) /\ Below w.heap.size w wr
theorem Jkk {a n k c x L V l0 : Nat} (hL : L = n / 32 + k) (hx : (Jc a).getD k 0 = x) (hd : l0 + c * 4294967296 ^ L = dv 4294967296 ((Jc a).take k) * 2 ^ n) (hV : c + x * 2 ^ (n % 32) = V) :
  l0 + 4294967296 ^ L * (V % 4294967296) + V / 4294967296 * 4294967296 ^ (L + 1) = dv 4294967296 ((Jc a).take (k + 1)) * 2 ^ n := by
 rw [Jax, hx, Nat.add_mul, <- hd]
 have h1 := Nat.div_add_mod V 4294967296
 have e1 : V / 4294967296 * 4294967296 ^ (L + 1) = 4294967296 ^ L * (4294967296 * (V / 4294967296)) := by
  rw [Nat.pow_succ, Nat.mul_comm, Nat.mul_assoc]
 rw [e1, Nat.add_assoc, <- Nat.mul_add, Nat.add_comm (V % 4294967296), h1, <- hV, Nat.mul_add, Nat.mul_comm c]
 have e2 : x * 4294967296 ^ k * 2 ^ n = 4294967296 ^ L * (x * 2 ^ (n % 32)) := by
  have hn : n = 32 * (n / 32) + n % 32 := by omega
  have hp : (2 : Nat) ^ n = 4294967296 ^ (n / 32) * 2 ^ (n % 32) := by
   conv => lhs; rw [hn]
   rw [Nat.pow_add, Nat.pow_mul]
  rw [hp, hL, Nat.pow_add]
  generalize 4294967296 ^ (n / 32) = p
  generalize 4294967296 ^ k = q
  generalize 2 ^ (n % 32) = s
  rw [Nat.mul_comm p q, Nat.mul_assoc, Nat.mul_assoc, Nat.mul_left_comm x q, Nat.mul_left_comm x p]
 rw [e2]
 omega
theorem Vh (a n B : Nat) (va : Value) (w : World) (h : IsN w B va a) (hB : B <= w.heap.size) (y9 : (Jc a).length <= 34359738368) (hn : n <= 1099511627776) :
  Calls Tryz.prog 146 #[va, .int .i64 (n : Int)] w (Jbm (a * 2 ^ n) w) := by
 obtain ⟨A, c, rfl, aA, aB, hr, _⟩ := h
 obtain ⟨p, hp⟩ : ∃ p, (Jc a).length = p := ⟨_, rfl⟩
 rw [hp] at hr aA y9
 rw [hp]
 have HP := lh hp
 have HR := lh hr
 clear hp hr
 obtain ⟨h, hh⟩ : ∃ h, n / 32 = h := ⟨_, rfl⟩
 obtain ⟨r, hr⟩ : ∃ r, n % 32 = r := ⟨_, rfl⟩
 have aE : r < 32 := by omega
 have bC : h <= 34359738368 := by omega
 have c1 : (n : Int) / 32 = (h : Int) := by omega
 have c2 : (n : Int) % 32 = (r : Int) := by omega
 have c3 : IntKind.u64.wrap (r : Int) = (r : Int) := by rw [Jg, Nat.mod_eq_of_lt (by omega)]
 have aC := Qf (P := Tryz.prog) Jo 0 52 166 4 Tryz.underlying52 Tryz.infoU32 rfl .i64 .i64 h (by omega) (by omega)
 have HH := lh (And.intro hh hr)
 clear hh hr
 go_enter Tryz.func146, Tryz.ntmps146
 go_wp2_with fail
 clear aC c1
 have j8 := Row.rep w 166 Jo 0 h
 have e9 := Jb w (.cells (Array.replicate h (Jo 0)) 166)
 have o0 := Own.ofBlk j8 (by simp; unfold maxLen; omega)
 rw [List.length_replicate] at o0
 go_loopw [5, 6, 7] (fun v cc i wr => ∃ k c : Nat, k <= p + 1 /\ i = .int .i64 (k : Int) /\ cc = .int .u64 (c : Int) /\ ShUp w a n k c v wr) (fun _ _ i _ => p + 1 - (intOf i).toNat)
 case atStart =>
  refine ⟨0, 0, by omega, rfl, rfl, List.replicate h 0, o0, by rw [HH.out.1]; simp, Dig.rep (by omega) _, Nat.pow_pos (by omega), ?_, fun b hb => by simp [Value.ownBlock] at hb; omega, e9⟩
  rw [Kk, List.take_zero]
  simp [dv]
 case round =>
  obtain ⟨k, cc, hk, rfl, rfl, l, j6, j0, j9, x7, j7, x8, e8⟩ := hrel
  clear o0 j8 e9
  rename World => wr
  by_cases bD : k <= p
  ·have aF := Jcb A p c B k (Jc a) wr (HR.out.below (e8.mono hB)) (by omega) (Jq a) (by omega)
   have p7 := Jay a k
   obtain ⟨x, hx⟩ : ∃ x, (Jc a).getD k 0 = x := ⟨_, rfl⟩
   rw [hx] at aF p7
   rw [HH.out.2] at x7
   have o8 := Jod cc x r x7 p7 aE
   obtain ⟨V, hV⟩ : ∃ V, cc + x * 2 ^ r = V := ⟨_, rfl⟩
   rw [hV] at o8
   have o6 := Jkk (n := n) (V := V) rfl hx j7 (by rw [HH.out.2]; exact hV)
   obtain ⟨V1, x9⟩ : ∃ V1, V % 4294967296 = V1 := ⟨_, rfl⟩
   obtain ⟨V2, y8⟩ : ∃ V2, V / 4294967296 = V2 := ⟨_, rfl⟩
   have q8 : V2 < 2 ^ r := by
    rw [<- y8, Nat.div_lt_iff_lt_mul (by omega), <- hV]
    have h1 : x * 2 ^ r + 2 ^ r <= 4294967296 * 2 ^ r := by
     have := Nat.mul_le_mul_right (2 ^ r) (show x + 1 <= 4294967296 from p7)
     rwa [Nat.add_mul, Nat.one_mul] at this
    rw [Nat.mul_comm (2 ^ r)]
    omega
   rw [x9, y8] at o6
   have f1 : IntKind.u32.wrap (V : Int) = (V1 : Int) := by rw [Jr, x9]
   have f2 : (V : Int) / 4294967296 = (V2 : Int) := by omega
   have f3 : (k : Int) <= (p : Int) := by omega
   have s9 := o8.1
   have bE := o8.2
   have aU : bits .or .u64 (cc : Int) (IntKind.u64.wrap ((x : Int) * 2 ^ r)) = (V : Int) := by
    have q : (2 : Nat) ^ r <= 2 ^ 31 := Nat.pow_le_pow_right (by omega) (by omega)
    have h3 : x * 2 ^ r <= 4294967295 * 2 ^ 31 := Nat.mul_le_mul (by omega) q
    rw [show (x : Int) * 2 ^ r = ((x * 2 ^ r : Nat) : Int) from by rw [Int.natCast_mul, Int.natCast_pow]; rfl, Jg, Nat.mod_eq_of_lt (by omega)]
    rw [show (x : Int) * 2 ^ r = ((x * 2 ^ r : Nat) : Int) from by rw [Int.natCast_mul, Int.natCast_pow]; rfl] at s9
    exact s9
   have HST := lh (And.intro o6 (And.intro j0 (And.intro x8 q8)))
   have HAT := lh aF
   have aL : l.length <= 1099511627776 := by rw [j0, HH.out.1]; omega
   have HV := lh (And.intro x9 y8)
   clear o6 aF j0 x8 hV x9 y8 hx j7 o8 q8 x7
   go_wp2_with fail
   refine HAT.out.mono ?_
   rintro e w1 ⟨rfl, rfl⟩
   go_wp2_with (at_builtin; refine Jio Tryz.eltRN rfl (.tmp 31) (.tmp 34) rfl wr _ l V1 rfl j6 rfl aL ?_; intro v' w2 t7 aM)
   have o6 := HST.out
   have aG : V1 < 4294967296 := by rw [<- HV.out.1]; omega
   refine ⟨⟨k + 1, V2, by omega, by go_num, rfl, l ++ [V1], t7, by rw [List.length_append, o6.2.1]; simp; omega, j9.append (Dig.cons aG Dig.nil), by rw [HH.out.2]; exact o6.2.2.2, ?_, aM.fresh e8.size o6.2.2.1, e8.trans (aM.below e8.size o6.2.2.1)⟩, by simp [intOf]; omega⟩
   rw [Yk, o6.2.1, Xw, Up, Nat.mul_zero, Nat.add_zero]
   exact o6.1
  obtain rfl : k = p + 1 := by omega
  have aV : cc = 0 := by
   rcases Nat.eq_zero_or_pos cc with h0 | h0
   ·exact h0
   exfalso
   rw [List.take_of_length_le (by rw [HP.out]; omega), Qg] at j7
   have h1 := Xj a
   rw [HP.out] at h1
   have h2 : a * 2 ^ n < 4294967296 ^ (h + (p + 1)) := by
    have hn2 : n = 32 * h + r := by have := HH.out; omega
    have e1 : (4294967296 : Nat) ^ (h + (p + 1)) = 4294967296 ^ p * (4294967296 ^ h * 4294967296) := by
     rw [Nat.pow_add, Nat.pow_succ, Nat.mul_left_comm]
    rw [e1, hn2, Nat.pow_add, Nat.pow_mul]
    refine Nat.mul_lt_mul'' h1 ?_
    exact Nat.mul_lt_mul_of_pos_left (Nat.pow_lt_pow_right (by omega) (show r < 32 by omega)) (Nat.pow_pos (by omega))
   rw [HH.out.1] at j7
   have h3 : 4294967296 ^ (h + (p + 1)) <= cc * 4294967296 ^ (h + (p + 1)) := Nat.le_mul_of_pos_left _ h0
   omega
  have t8 : dv 4294967296 l = a * 2 ^ n := by
   rw [aV, Nat.zero_mul, Nat.add_zero, List.take_of_length_le (by rw [HP.out]; omega), Qg] at j7
   exact j7
  obtain ⟨A2, c2', hv, aN, aO⟩ := j6.form
  rw [hv] at j6
  rw [hv]
  have o7 := j6.reads
  have HD := lh (And.intro t8 x8)
  have aL : l.length <= 1099511627776 := by rw [j0, HH.out.1]; omega
  have f3 : ¬ ((p + 1 : Nat) : Int) <= (p : Int) := by omega
  unfold maxLen at aO
  clear j7 t8 j0 hv x7 x8
  go_wp2_with fail
  refine (Zr A2 l.length c2' _ l wr o7 (by omega) aN).mono ?_
  rintro e w5 ⟨rfl, rfl⟩
  go_wp2
  go_ret
  exact ⟨_, rfl, IsN.trim o7 aN aO j9 HD.out.1 j6.ty, e8⟩
