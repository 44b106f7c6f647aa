import Derived.Test.YtcoloflmigcphaaGreatDoorRefA
namespace Go.Proofs.YtcoloflmigcphaaGreatDoor
set_option maxRecDepth 100000
set_option maxHeartbeats 1000000
open Go.RowKit
set_option linter.all false
theorem Us (r x : Nat) (hr : r < 4294967296) (hx : x < 4294967296) : bits .or .u64 ((r : Int) * 4294967296) (x : Int) = ((r * 4294967296 + x : Nat) : Int) := by
 have e := Ut (r * 4294967296) x (by omega) (by omega)
 rw [show (r : Int) * 4294967296 = ((r * 4294967296 : Nat) : Int) from by omega, e]
 congr 1
 have h := Nat.two_pow_add_eq_or_of_lt (i := 32) (b := x) (by omega) r
 rw [Nat.mul_comm r, show (4294967296 : Nat) = 2 ^ 32 from rfl]
 exact h.symm
theorem Jds {α : Type} (l : List α) (j : Nat) (x : α) (h : j < l.length) : (l.set j x).drop j = x :: l.drop (j + 1) := by
 rw [List.drop_eq_getElem_cons (by rw [List.length_set]; exact h), List.getElem_set_self, List.drop_set_of_lt (by omega)]
def Joj (q r : Nat) (w : World) (e : Ending) (w' : World) : Prop := ∃ v, e = .returned (.tuple #[v, .int .u32 (r : Int)]) /\ IsN w' w'.heap.size v q /\ Below w.heap.size w w'
def Jn0 (w : World) (g n a b : Nat) (k r : Nat) (wr : World) : Prop :=
 ∃ l : List Nat, Row wr g 163 Ju l /\ l.length = n /\ Dig 4294967296 l /\ r < b /\ dv 4294967296 (l.drop k) * b + r = dv 4294967296 ((Jd a).drop k) /\ Below w.heap.size w wr
theorem Jma (a b B : Nat) (va : Value) (w : World) (h : IsN w B va a) (hB : B <= w.heap.size) (aF : (Jd a).length <= 34359738368) (aA : 0 < b) (hb : b < 4294967296) :
  Calls Tryz.prog 156 #[va, .int .u32 (b : Int)] w (Joj (a / b) (a % b) w) := by
 obtain ⟨A, c, rfl, aG, aH, hr, _⟩ := h
 obtain ⟨n, hn⟩ : ∃ n, (Jd a).length = n := ⟨_, rfl⟩
 rw [hn] at hr aG aF
 rw [hn]
 have HN := lh hn
 have HR := lh hr
 clear hn hr
 have aI := Qh (P := Tryz.prog) Ju 0 24 163 4 Tryz.underlying24 Tryz.infoU32 rfl .i64 .i64 n (by omega) (by omega)
 have bD : IntKind.u64.wrap (b : Int) = (b : Int) := by rw [Jf, Nat.mod_eq_of_lt (by omega)]
 go_enter Tryz.func156, Tryz.ntmps156
 go_wp2_with fail
 clear aI
 have bM := Row.rep w 163 Ju 0 n
 have j6 := Jb w (.cells (Array.replicate n (Ju 0)) 163)
 obtain ⟨g, hg⟩ : ∃ g, w.heap.size = g := ⟨_, rfl⟩
 have aV : w.heap.size <= g := by omega
 have bE : B <= g := by omega
 rw [hg] at bM
 rw [hg]
 clear hg
 go_loopw [7, 8] (fun rr i wr => ∃ k r : Nat, k <= n /\ i = .int .i64 ((k : Int) - 1) /\ rr = .int .u64 (r : Int) /\ Jn0 w g n a b k r wr) (fun _ i _ => (intOf i + 1).toNat)
 case atStart =>
  refine ⟨n, 0, Nat.le_refl _, rfl, rfl, List.replicate n 0, bM, by simp, Dig.rep (by omega) _, aA, ?_, j6⟩
  rw [List.drop_of_length_le (by simp), List.drop_of_length_le (by rw [HN.out]; omega)]
  simp [dv]
 case round =>
  obtain ⟨k, r, hk, rfl, rfl, l, p9, j7, bN, aJ, j9, j0⟩ := hrel
  have HLEN := lh j7
  have HDV := lh j9
  clear j7 j9 bM j6
  by_cases h0 : k = 0
  ·subst h0
   have j9 := HDV.out
   rw [List.drop_zero, List.drop_zero, Ql] at j9
   have hq : dv 4294967296 l = a / b /\ r = a % b := by
    have h1 : (dv 4294967296 l * b + r) / b = dv 4294967296 l := by
     rw [Nat.add_comm, Nat.add_mul_div_right _ _ aA, Nat.div_eq_of_lt aJ, Nat.zero_add]
    have h2 : (dv 4294967296 l * b + r) % b = r := by
     rw [Nat.add_comm, Nat.add_mul_mod_self_right, Nat.mod_eq_of_lt aJ]
    rw [j9] at h1 h2
    exact ⟨h1.symm, h2.symm⟩
   have o9 := Own.reads (Own.ofBlk p9 (by rw [HLEN.out]; unfold maxLen; omega))
   rw [HLEN.out] at o9
   have HQ := lh hq
   have bF : IntKind.u32.wrap (r : Int) = (r : Int) := by rw [Qb, Nat.mod_eq_of_lt (by omega)]
   clear j9 hq
   go_wp2_with fail
   refine (Yr _ n n _ l wr o9 (by omega) zd).mono ?_
   rintro e w5 ⟨rfl, rfl⟩
   go_wp2
   go_ret2
   exact ⟨_, by rw [<- HQ.out.2]; rfl, IsN.trim o9 zd (by omega) bN HQ.out.1 p9.ty, j0⟩
  obtain ⟨j, rfl⟩ : ∃ j, k = j + 1 := ⟨k - 1, by omega⟩
  obtain ⟨ad, x, hA, bG, hx, aW⟩ := (HR.out.below (j0.mono hB)).atf (show j < n by omega)
  subst hA
  have bQ := (Jx a).get hx
  obtain ⟨R, hR⟩ : ∃ R, r * 4294967296 + x = R := ⟨_, rfl⟩
  have bP := Us r x (by omega) bQ
  rw [hR] at bP
  have aN : R < 4294967296 * b := by
   have := Nat.mul_le_mul_right 4294967296 (show r + 1 <= b from aJ)
   rw [Nat.add_mul, Nat.one_mul] at this
   rw [Nat.mul_comm]
   omega
  obtain ⟨q, hq⟩ : ∃ q, R / b = q := ⟨_, rfl⟩
  obtain ⟨r', s9⟩ : ∃ r', R % b = r' := ⟨_, rfl⟩
  have aO : q < 4294967296 := by rw [<- hq]; exact (Nat.div_lt_iff_lt_mul aA).2 aN
  have aX : r' < b := by rw [<- s9]; exact Nat.mod_lt _ aA
  have bH : R < 18446744073709551616 := by omega
  have aP := Nat.div_add_mod R b
  rw [hq, s9] at aP
  have e1 : (R : Int) / (b : Int) = (q : Int) := by rw [<- hq, Int.natCast_ediv]
  have e2 : (R : Int) % (b : Int) = (r' : Int) := by rw [<- s9, Int.natCast_emod]
  have e3 : IntKind.u32.wrap (q : Int) = (q : Int) := by rw [Qb, Nat.mod_eq_of_lt aO]
  have e4 : IntKind.u64.wrap (x : Int) = (x : Int) := by rw [Jf, Nat.mod_eq_of_lt (by omega)]
  have aQ : j < l.length := by rw [HLEN.out]; omega
  obtain ⟨y, hy⟩ : ∃ y, l[j]? = some y := ⟨_, List.getElem?_eq_getElem aQ⟩
  have bR : dv 4294967296 ((l.set j q).drop j) * b + r' = dv 4294967296 ((Jd a).drop j) := by
   rw [Jds l j q aQ, Xv, Qa hx, <- HDV.out, Nat.add_mul, Nat.mul_add]
   have e5 : 4294967296 * dv 4294967296 (l.drop (j + 1)) * b = 4294967296 * (dv 4294967296 (l.drop (j + 1)) * b) := Nat.mul_assoc _ _ _
   rw [e5]
   have e6 : q * b = b * q := Nat.mul_comm _ _
   rw [e6]
   omega
  have aY := p9.cell hy
  have bI := p9.frozen j
  have k1 : (((j + 1 : Nat) : Int) - 1) = (j : Int) := by omega
  have k2 : (j : Int) < (n : Int) := by omega
  have k3 : (b : Int) ≠ 0 := by omega
  have k4 : ((b : Int) == 0) = false := by simp; omega
  have k5 : (r : Int) < 4294967296 := by omega
  have k6 : 0 < (b : Int) := by omega
  unfold Ju at aW aY
  have HX := lh (And.intro bR (And.intro s9 hq))
  clear bR hx hy hR hq s9 aP aN
  rw [k1]
  go_wp2
  refine ⟨⟨j, r', by omega, rfl, by rw [e2], l.set j q, p9.set_ j q, by rw [List.length_set]; exact HLEN.out, bN.set_ j aO, aX, HX.out.1, j0.setCell aV _⟩, by simp [intOf]⟩
theorem Jng (c x r : Nat) (hc : c < 2 ^ r) (hx : x < 4294967296) (hr : r < 32) : bits .or .u64 (c : Int) ((x : Int) * 2 ^ r) = ((c + x * 2 ^ r : Nat) : Int) /\ c + x * 2 ^ r < 18446744073709551616 := by
 have q : (2 : Nat) ^ r <= 2 ^ 31 := Nat.pow_le_pow_right (by omega) (by omega)
 have h3 : x * 2 ^ r <= 4294967295 * 2 ^ 31 := Nat.mul_le_mul (by omega) q
 have e := Ut c (x * 2 ^ r) (by omega) (by omega)
 refine ⟨?_, by omega⟩
 rw [show (x : Int) * 2 ^ r = ((x * 2 ^ r : Nat) : Int) from by rw [Int.natCast_mul, Int.natCast_pow]; rfl, e, Nat.add_comm c, Nat.mul_comm x, Nat.two_pow_add_eq_or_of_lt hc, Nat.or_comm]
theorem Jjx (a k : Nat) : dv 4294967296 ((Jd a).take (k + 1)) = dv 4294967296 ((Jd a).take k) + (Jd a).getD k 0 * 4294967296 ^ k := by
 cases h : (Jd a)[k]? with
 | none =>
  have hl : (Jd a).length <= k := by simpa using h
  rw [List.take_of_length_le (by omega), List.take_of_length_le hl, List.getD_eq_getElem?_getD, h]
  simp
 | some x =>
  rw [Jv h, List.getD_eq_getElem?_getD, h]
  rfl
theorem Jfj (a k : Nat) : (Jd a).getD k 0 < 4294967296 := by
 cases h : (Jd a)[k]? with
 | none => rw [List.getD_eq_getElem?_getD, h]; decide
 | some x => rw [List.getD_eq_getElem?_getD, h]; exact (Jx a).get h
theorem Jhi {P : Program} {ops : Array Oper} {rest : List Oper} {o : Oper} {a : Act} {Q : Exit -> Act -> World -> Prop} (E : Elt P 24 163 (Ju 0) 4) (aZ : o.guard = none) (s x : Operand)
  (ho : o.op = .call { callee := .builtin .append, args := #[s, x], argTypes := #[24, 24] })
  (wr : World) (v : Value) (l : List Nat) (m : Nat) (hs : a.eval s = v) (j8 : Own wr 163 Ju v l) (hx : a.eval x = .slice (some ⟨wr.heap.size, 0, none⟩) 1 1) (hl : l.length <= 1099511627776)
  (h : ∀ v' w1, Own w1 163 Ju v' (l ++ [m]) -> Grew wr w1 v v' -> wpList P ops Q rest (a.put o.dst v') w1) : wpList P ops Q (o :: rest) a (wr.alloc (.cells #[.int .u32 (m : Int)] 163)) :=
 Joi E aZ s x ho wr v l m (.int .u32 (m : Int)) rfl hs j8 hx rfl (by unfold maxLen; omega) (by omega) h
def ShUp (w : World) (a n k c : Nat) (v : Value) (wr : World) : Prop :=
 ∃ l : List Nat, Own wr 163 Ju v l /\ l.length = n / 32 + k /\ Dig 4294967296 l /\ c < 2 ^ (n % 32) /\ dv 4294967296 l + c * 4294967296 ^ (n / 32 + k) = dv 4294967296 ((Jd a).take k) * 2 ^ n /\ (∀ b, v.ownBlock = some b -> w.heap.size <= b) /\ Below w.heap.size w wr
theorem Jjn {a n k c x L V l0 : Nat} (hL : L = n / 32 + k) (hx : (Jd a).getD k 0 = x) (hd : l0 + c * 4294967296 ^ L = dv 4294967296 ((Jd a).take k) * 2 ^ n) (hV : c + x * 2 ^ (n % 32) = V) :
  l0 + 4294967296 ^ L * (V % 4294967296) + V / 4294967296 * 4294967296 ^ (L + 1) = dv 4294967296 ((Jd a).take (k + 1)) * 2 ^ n := by
 rw [Jjx, hx, Nat.add_mul, <- hd]
 have h1 := Nat.div_add_mod V 4294967296
 have e1 : V / 4294967296 * 4294967296 ^ (L + 1) = 4294967296 ^ L * (4294967296 * (V / 4294967296)) := by
  rw [Nat.pow_succ, Nat.mul_comm, Nat.mul_assoc]
 rw [e1, Nat.add_assoc, <- Nat.mul_add, Nat.add_comm (V % 4294967296), h1, <- hV, Nat.mul_add, Nat.mul_comm c]
 have e2 : x * 4294967296 ^ k * 2 ^ n = 4294967296 ^ L * (x * 2 ^ (n % 32)) := by
  have hn : n = 32 * (n / 32) + n % 32 := by omega
  have hp : (2 : Nat) ^ n = 4294967296 ^ (n / 32) * 2 ^ (n % 32) := by
   conv => lhs; rw [hn]
   rw [Nat.pow_add, Nat.pow_mul]
  rw [hp, hL, Nat.pow_add]
  generalize 4294967296 ^ (n / 32) = p
  generalize 4294967296 ^ k = q
  generalize 2 ^ (n % 32) = s
  rw [Nat.mul_comm p q, Nat.mul_assoc, Nat.mul_assoc, Nat.mul_left_comm x q, Nat.mul_left_comm x p]
 rw [e2]
 omega
theorem Uf (a n B : Nat) (va : Value) (w : World) (h : IsN w B va a) (hB : B <= w.heap.size) (aF : (Jd a).length <= 34359738368) (hn : n <= 1099511627776) :
  Calls Tryz.prog 157 #[va, .int .i64 (n : Int)] w (Jkl (a * 2 ^ n) w) := by
 obtain ⟨A, c, rfl, aG, aH, hr, _⟩ := h
 obtain ⟨p, hp⟩ : ∃ p, (Jd a).length = p := ⟨_, rfl⟩
 rw [hp] at hr aG aF
 rw [hp]
 have HP := lh hp
 have HR := lh hr
 clear hp hr
 obtain ⟨h, hh⟩ : ∃ h, n / 32 = h := ⟨_, rfl⟩
 obtain ⟨r, hr⟩ : ∃ r, n % 32 = r := ⟨_, rfl⟩
 have aK : r < 32 := by omega
 have bJ : h <= 34359738368 := by omega
 have c1 : (n : Int) / 32 = (h : Int) := by omega
 have c2 : (n : Int) % 32 = (r : Int) := by omega
 have c3 : IntKind.u64.wrap (r : Int) = (r : Int) := by rw [Jf, Nat.mod_eq_of_lt (by omega)]
 have aI := Qh (P := Tryz.prog) Ju 0 24 163 4 Tryz.underlying24 Tryz.infoU32 rfl .i64 .i64 h (by omega) (by omega)
 have HH := lh (And.intro hh hr)
 clear hh hr
 go_enter Tryz.func157, Tryz.ntmps157
 go_wp2_with fail
 clear aI c1
 have bM := Row.rep w 163 Ju 0 h
 have j6 := Jb w (.cells (Array.replicate h (Ju 0)) 163)
 have bO := Own.ofBlk bM (by simp; unfold maxLen; omega)
 rw [List.length_replicate] at bO
 go_loopw [5, 6, 7] (fun v cc i wr => ∃ k c : Nat, k <= p + 1 /\ i = .int .i64 (k : Int) /\ cc = .int .u64 (c : Int) /\ ShUp w a n k c v wr) (fun _ _ i _ => p + 1 - (intOf i).toNat)
 case atStart =>
  refine ⟨0, 0, by omega, rfl, rfl, List.replicate h 0, bO, by rw [HH.out.1]; simp, Dig.rep (by omega) _, Nat.pow_pos (by omega), ?_, fun b hb => by simp [Value.ownBlock] at hb; omega, j6⟩
  rw [Yx, List.take_zero]
  simp [dv]
 case round =>
  obtain ⟨k, cc, hk, rfl, rfl, l, j8, j7, bN, aB, j9, aC, j0⟩ := hrel
  clear bO bM j6
  rename World => wr
  by_cases bK : k <= p
  ·have aL := Jhu A p c B k (Jd a) wr (HR.out.below (j0.mono hB)) (by omega) (Jx a) (by omega)
   have bQ := Jfj a k
   obtain ⟨x, hx⟩ : ∃ x, (Jd a).getD k 0 = x := ⟨_, rfl⟩
   rw [hx] at aL bQ
   rw [HH.out.2] at aB
   have bP := Jng cc x r aB bQ aK
   obtain ⟨V, hV⟩ : ∃ V, cc + x * 2 ^ r = V := ⟨_, rfl⟩
   rw [hV] at bP
   have o0 := Jjn (n := n) (V := V) rfl hx j9 (by rw [HH.out.2]; exact hV)
   obtain ⟨V1, aD⟩ : ∃ V1, V % 4294967296 = V1 := ⟨_, rfl⟩
   obtain ⟨V2, aE⟩ : ∃ V2, V / 4294967296 = V2 := ⟨_, rfl⟩
   have bS : V2 < 2 ^ r := by
    rw [<- aE, Nat.div_lt_iff_lt_mul (by omega), <- hV]
    have h1 : x * 2 ^ r + 2 ^ r <= 4294967296 * 2 ^ r := by
     have := Nat.mul_le_mul_right (2 ^ r) (show x + 1 <= 4294967296 from bQ)
     rwa [Nat.add_mul, Nat.one_mul] at this
    rw [Nat.mul_comm (2 ^ r)]
    omega
   rw [aD, aE] at o0
   have f1 : IntKind.u32.wrap (V : Int) = (V1 : Int) := by rw [Qb, aD]
   have f2 : (V : Int) / 4294967296 = (V2 : Int) := by omega
   have f3 : (k : Int) <= (p : Int) := by omega
   have bT := bP.1
   have bL := bP.2
   have bA : bits .or .u64 (cc : Int) (IntKind.u64.wrap ((x : Int) * 2 ^ r)) = (V : Int) := by
    have q : (2 : Nat) ^ r <= 2 ^ 31 := Nat.pow_le_pow_right (by omega) (by omega)
    have h3 : x * 2 ^ r <= 4294967295 * 2 ^ 31 := Nat.mul_le_mul (by omega) q
    rw [show (x : Int) * 2 ^ r = ((x * 2 ^ r : Nat) : Int) from by rw [Int.natCast_mul, Int.natCast_pow]; rfl, Jf, Nat.mod_eq_of_lt (by omega)]
    rw [show (x : Int) * 2 ^ r = ((x * 2 ^ r : Nat) : Int) from by rw [Int.natCast_mul, Int.natCast_pow]; rfl] at bT
    exact bT
   have HST := lh (And.intro o0 (And.intro j7 (And.intro aC bS)))
   have HAT := lh aL
   have aR : l.length <= 1099511627776 := by rw [j7, HH.out.1]; omega
   have HV := lh (And.intro aD aE)
   clear o0 aL j7 aC hV aD aE hx j9 bP bS aB
   go_wp2_with fail
   refine HAT.out.mono ?_
   rintro e w1 ⟨rfl, rfl⟩
   go_wp2_with (at_builtin; refine Jhi Tryz.eltRN rfl (.tmp 31) (.tmp 34) rfl wr _ l V1 rfl j8 rfl aR ?_; intro v' w2 bU aS)
   have o0 := HST.out
   have aM : V1 < 4294967296 := by rw [<- HV.out.1]; omega
   refine ⟨⟨k + 1, V2, by omega, by go_num, rfl, l ++ [V1], bU, by rw [List.length_append, o0.2.1]; simp; omega, bN.append (Dig.cons aM Dig.nil), by rw [HH.out.2]; exact o0.2.2.2, ?_, aS.fresh j0.size o0.2.2.1, j0.trans (aS.below j0.size o0.2.2.1)⟩, by simp [intOf]; omega⟩
   rw [Yp, o0.2.1, Xv, Ux, Nat.mul_zero, Nat.add_zero]
   exact o0.1
  obtain rfl : k = p + 1 := by omega
  have bB : cc = 0 := by
   rcases Nat.eq_zero_or_pos cc with h0 | h0
   ·exact h0
   exfalso
   rw [List.take_of_length_le (by rw [HP.out]; omega), Ql] at j9
   have h1 := Xz a
   rw [HP.out] at h1
   have h2 : a * 2 ^ n < 4294967296 ^ (h + (p + 1)) := by
    have bC : n = 32 * h + r := by have := HH.out; omega
    have e1 : (4294967296 : Nat) ^ (h + (p + 1)) = 4294967296 ^ p * (4294967296 ^ h * 4294967296) := by
     rw [Nat.pow_add, Nat.pow_succ, Nat.mul_left_comm]
    rw [e1, bC, Nat.pow_add, Nat.pow_mul]
    refine Nat.mul_lt_mul'' h1 ?_
    exact Nat.mul_lt_mul_of_pos_left (Nat.pow_lt_pow_right (by omega) (show r < 32 by omega)) (Nat.pow_pos (by omega))
   rw [HH.out.1] at j9
   have h3 : 4294967296 ^ (h + (p + 1)) <= cc * 4294967296 ^ (h + (p + 1)) := Nat.le_mul_of_pos_left _ h0
   omega
  have y9 : dv 4294967296 l = a * 2 ^ n := by
   rw [bB, Nat.zero_mul, Nat.add_zero, List.take_of_length_le (by rw [HP.out]; omega), Ql] at j9
   exact j9
  obtain ⟨A2, c2', hv, aT, aU⟩ := j8.form
  rw [hv] at j8
  rw [hv]
  have o9 := j8.reads
  have HD := lh (And.intro y9 aC)
  have aR : l.length <= 1099511627776 := by rw [j7, HH.out.1]; omega
  have f3 : ¬ ((p + 1 : Nat) : Int) <= (p : Int) := by omega
  unfold maxLen at aU
  clear j9 y9 j7 hv aB aC
  go_wp2_with fail
  refine (Yr A2 l.length c2' _ l wr o9 (by omega) aT).mono ?_
  rintro e w5 ⟨rfl, rfl⟩
  go_wp2
  go_ret
  exact ⟨_, rfl, IsN.trim o9 aT aU bN HD.out.1 j8.ty, j0⟩
