import Derived.Test.YtecnjlcfoobepaaGreatDoorDiv64
namespace Go.Proofs.YtecnjlcfoobepaaGreatDoor
set_option maxRecDepth 100000
set_option maxHeartbeats 1000000
open Go.RowKit
set_option linter.all false
def B64 : Nat := 18446744073709551616
theorem Jqd {l : List Nat} {k x q r r' d X : Nat} (hx : l[k]? = some x) (hq : r * B64 + x = d * q + r') (he : X = d * dv B64 (l.drop (k + 1)) * B64 ^ (k + 1) + r * B64 ^ (k + 1) + dv B64 (l.take (k + 1))) :
  X = d * dv B64 ((l.set k q).drop k) * B64 ^ k + r' * B64 ^ k + dv B64 ((l.set k q).take k) := by
 have hk : k < l.length := (List.getElem?_eq_some_iff.1 hx).1
 have e1 : (l.set k q).drop k = q :: l.drop (k + 1) := by
  rw [List.drop_eq_getElem_cons (by rw [List.length_set]; exact hk), List.getElem_set_self, List.drop_set_of_lt (by omega)]
 have e2 : (l.set k q).take k = l.take k := List.take_set_of_le (by omega)
 rw [e1, e2, Xv, he, Jv hx]
 have h2 := congrArg (· * B64 ^ k) hq
 simp only [Nat.add_mul] at h2
 rw [Nat.pow_succ, Nat.mul_add, Nat.add_mul]
 have e3 : d * dv B64 (l.drop (k + 1)) * (B64 ^ k * B64) = d * (B64 * dv B64 (l.drop (k + 1))) * B64 ^ k := by
  rw [Nat.mul_comm (B64 ^ k) B64, <- Nat.mul_assoc, Nat.mul_assoc d, Nat.mul_comm (dv B64 _) B64]
 have e4 : r * (B64 ^ k * B64) = r * B64 * B64 ^ k := by rw [Nat.mul_comm (B64 ^ k), Nat.mul_assoc]
 rw [e3, e4]
 omega
def Jr8 (w : World) (g c p d X k r : Nat) (wr : World) : Prop :=
 ∃ l : List Nat, l.length = p /\ Own wr 50 Jm (.slice (some ⟨g, 0, none⟩) l.length c) l /\ Dig B64 l /\ X = d * dv B64 (l.drop k) * B64 ^ k + r * B64 ^ k + dv B64 (l.take k) /\ Exc g w wr
def Js1 (w : World) (g N d : Nat) (e : Ending) (w' : World) : Prop :=
 ∃ (n c : Nat) (q : List Nat), e = .returned (.tuple #[.slice (some ⟨g, 0, none⟩) n c, .int .u64 ((N % d : Nat) : Int)]) /\ Reads w' w'.heap.size 1 (some ⟨g, 0, none⟩) n (q.map Jm) /\ Dig B64 q /\ dv B64 q = N / d /\ n <= c /\ n <= 17179869185 /\ Exc g w w'
theorem Ji6 (g c d : Nat) (lX : List Nat) (w : World) (ho : Own w 50 Jm (.slice (some ⟨g, 0, none⟩) lX.length c) lX) (hd : Dig B64 lX) (hp : lX.length <= 17179869185) (aO : 0 < d) (bO : d < 18446744073709551616) :
  Calls Tryz.prog 142 #[.slice (some ⟨g, 0, none⟩) lX.length c, .int .u64 (d : Int)] w (Js1 w g (dv B64 lX) d) := by
 obtain ⟨p, aS⟩ : ∃ p, lX.length = p := ⟨_, rfl⟩
 have bP : p <= c := by
  obtain ⟨A, c', hv, h1, _⟩ := ho.form
  injection hv with _ _ hv
  omega
 rw [aS] at hp ⊢
 have HP := lh aS
 go_enter Tryz.func142, Tryz.ntmps142
 clear aS
 go_wp2_with fail
 go_loopw [6, 7] (fun r i wr => ∃ k r' : Nat, k <= p /\ r' < d /\ i = .int .i64 ((k : Int) - 1) /\ r = .int .u64 (r' : Int) /\ Jr8 w g c p d (dv B64 lX) k r' wr) (fun _ i _ => (intOf i + 1).toNat)
 case atStart =>
  refine ⟨p, 0, Nat.le_refl _, aO, rfl, rfl, lX, HP.out, ho, hd, ?_, Exc.refl _ _⟩
  rw [Xg (by rw [HP.out]; omega), Qw (by rw [HP.out]; omega)]
  simp
 case round =>
  obtain ⟨k, r, hk, hr, rfl, rfl, l, hl, aF, aP, hX, hx⟩ := hrel
  clear ho
  have HL := lh (And.intro hl hX)
  clear hl hX
  by_cases bQ : k = 0
  ·subst bQ
   have hX := HL.out.2
   rw [Nat.pow_zero, Nat.mul_one, Nat.mul_one, List.drop_zero, List.take_zero, Ur, Nat.add_zero] at hX
   have hq : dv B64 lX / d = dv B64 l := by rw [hX, Nat.mul_comm, Nat.add_comm, Nat.add_mul_div_right _ _ aO, Nat.div_eq_of_lt hr, Nat.zero_add]
   have hm : dv B64 lX % d = r := by rw [hX, Nat.mul_add_mod, Nat.mod_eq_of_lt hr]
   have aT := Own.reads aF
   rw [HL.out.1] at aT
   have HQ := lh (And.intro hq hm)
   clear hX hq hm
   go_wp2_with fail
   refine (Ji4 _ p c _ l wr aT (by omega) bP).mono ?_
   rintro e w1 ⟨rfl, rfl⟩
   go_wp2
   go_ret2
   have aG := Uw l
   rw [HL.out.1] at aG
   have bJ := Reads.front aT (k := (trimL l).length) aG
   rw [Nat.mul_one, <- List.map_take, <- Zu] at bJ
   refine ⟨_, c, trimL l, ?_, bJ, aP.trimL, ?_, by omega, by omega, hx⟩
   ·rw [HQ.out.2]; rfl
   rw [Jd4, HQ.out.1]
  obtain ⟨j, rfl⟩ : ∃ j, k = j + 1 := ⟨k - 1, by omega⟩
  obtain ⟨x, aQ⟩ : ∃ x, l[j]? = some x := ⟨_, List.getElem?_eq_getElem (by rw [HL.out.1]; omega)⟩
  have aU := aP.get aQ
  have bR := aF.cellf aQ
  have cF := aF.frozenf j
  have j8 := Jff r x d
  obtain ⟨q, hq⟩ : ∃ q, (r * 18446744073709551616 + x) / d = q := ⟨_, rfl⟩
  obtain ⟨r', aR⟩ : ∃ r', (r * 18446744073709551616 + x) % d = r' := ⟨_, rfl⟩
  rw [hq, aR] at j8
  have aV : r' < d := by rw [<- aR]; exact Nat.mod_lt _ aO
  have bS : q < B64 := by
   rw [<- hq, Nat.div_lt_iff_lt_mul aO]
   unfold B64 at aU ⊢
   have h1 := Nat.mul_le_mul_right 18446744073709551616 (show r + 1 <= d from hr)
   rw [Nat.mul_comm d] at h1
   omega
  have aH : r * B64 + x = d * q + r' := by
   rw [<- hq, <- aR]
   exact (Nat.div_add_mod _ d).symm
  have aI := Jqd aQ aH HL.out.2
  have bT := aF.store j q
  have aJ : ∀ n, Jr8 w g c p d (dv B64 lX) j r' ((wr.drewN n).setCell ⟨g, j, none⟩ (Jm q)) := fun n => by
   refine ⟨l.set j q, by rw [List.length_set]; exact HL.out.1, ?_, aP.set_ j bS, aI, ?_⟩
   ·rw [List.length_set]
    exact (Own.drewN aF n).store j q
   exact Exc.set_ (⟨hx.os, hx.tape, hx.output, hx.size, hx.block⟩ : Exc g w (wr.drewN n)) j _
  have HFIN := lh aJ
  have HD := lh j8
  unfold Jm at bR
  unfold B64 at aU
  have k1 : (((j + 1 : Nat) : Int) - 1) = (j : Int) := by omega
  have k2 : (j : Int) < (p : Int) := by omega
  rw [k1]
  clear hq aR aH aI bT aJ j8 aQ aF aP hx k1
  go_wp2_with fail
  refine (HD.out wr aU bO hr).mono ?_
  rintro e w1 ⟨rfl, n, rfl⟩
  go_wp2
  exact ⟨⟨j, r', by omega, aV, by go_num, rfl, HFIN.out n⟩, by simp [intOf] <;> omega⟩
def Um (T D g : Nat) : Prop := g < B64 /\ g * D <= T /\ (g + 1 < B64 -> T < (g + 1) * D)
def Jof (T D : Nat) (w : World) (e : Ending) (w' : World) : Prop := ∃ g n : Nat, e = .returned (.int .u64 (g : Int)) /\ Um T D g /\ w' = w.drewN n
theorem Jfv (u2 u1 u0 v1 v0 : Nat) (w : World) (h2 : u2 <= v1) (bU : u1 < 18446744073709551616) (bV : u0 < 18446744073709551616) (aW : v1 < 18446744073709551616) (x8 : v0 < 18446744073709551616) (x9 : 0 < v1) :
  Calls Tryz.prog 165 #[.int .u64 (u2 : Int), .int .u64 (u1 : Int), .int .u64 (u0 : Int), .int .u64 (v1 : Int), .int .u64 (v0 : Int)] w (Jof ((u2 * B64 + u1) * B64 + u0) (v1 * B64 + v0) w) := by
 obtain ⟨u, hu⟩ : ∃ u, u2 * B64 + u1 = u := ⟨_, rfl⟩
 rw [hu]
 have HU := lh hu
 clear hu
 by_cases bW : u2 = v1
 ·subst bW
  have e0 : ((u2 : Int) == (u2 : Int)) = true := by simp
  obtain ⟨S, hS⟩ : ∃ S, (u1 + u2) % 18446744073709551616 = S := ⟨_, rfl⟩
  obtain ⟨C, hC⟩ : ∃ C, (u1 + u2) / 18446744073709551616 = C := ⟨_, rfl⟩
  have y8 : ∀ w, (callFunc 155 #[.int .u64 (u1 : Int), .int .u64 (u2 : Int), .int .u64 0]).run Tryz.prog w = .ok (.value (.tuple #[.int .u64 (S : Int), .int .u64 (C : Int)])) w := fun w => by
   have := Yh u1 u2 0 (by omega) w
   rw [Nat.add_zero, hS, hC] at this
   exact this
  have aD := Jss (β := B64) (v1 := u2) (v0 := v0) (u := u) (u0 := u0) u1 (by rw [<- HU.out, Nat.mul_comm]) (by decide)
  have t8 : u1 + u2 = S + B64 * C := by unfold B64; omega
  rw [t8] at aD
  have HGI := lh aD
  have aB : S < 18446744073709551616 := by omega
  have aC : C <= 1 := by omega
  clear hS hC aD t8
  go_enter Tryz.func165, Tryz.ntmps165
  go_wp2_with fail
  clear y8 e0
  go_loop [11, 12, 13] (fun a b c => ∃ g r o : Nat, g < 18446744073709551616 /\ r < 18446744073709551616 /\ o <= 1 /\ a = .int .u64 (g : Int) /\ b = .int .u64 (r : Int) /\ c = .int .u64 (o : Int) /\ Hid (GI B64 u2 v0 u u0 g (r + B64 * o))) (fun a _ _ => (intOf a).toNat)
  case atStart => exact ⟨18446744073709551615, S, C, by omega, aB, aC, rfl, rfl, rfl, HGI⟩
  case round =>
   obtain ⟨g, r, o, j9, bX, bY, rfl, rfl, rfl, HG⟩ := hrel
   clear HGI
   by_cases ho : o = 0
   ·subst ho
    have o5 := Tryz.bits_Mul64 g v0 j9 x8
    obtain ⟨hi, aE⟩ : ∃ hi, g * v0 / 18446744073709551616 = hi := ⟨_, rfl⟩
    obtain ⟨lo', aK⟩ : ∃ lo', g * v0 % 18446744073709551616 = lo' := ⟨_, rfl⟩
    rw [aE, aK] at o5
    have HMUL := lh o5
    have j7 : g * v0 = hi * B64 + lo' := by unfold B64; omega
    have aX : lo' < 18446744073709551616 := by omega
    have aY : hi < 18446744073709551616 := by
     rw [<- aE, Nat.div_lt_iff_lt_mul (by omega)]
     exact Nat.mul_lt_mul'' j9 x8
    have hG := HG.out
    rw [Nat.mul_zero, Nat.add_zero] at hG
    have HG0 := lh hG
    clear o5 aE aK hG
    have o0 : (hi < r \/ (hi = r /\ lo' <= u0)) ↔ g * v0 <= r * B64 + u0 := by
     rw [j7]
     unfold B64
     constructor
     ·rintro (h | ⟨rfl, h⟩) <;> omega
     intro h
     by_cases h1 : hi < r
     ·exact .inl h1
     exact .inr ⟨by omega, by omega⟩
    have HTEST := lh o0
    have HPROD := lh j7
    clear o0 j7
    by_cases aZ : hi < r
    ·have d1 : (hi : Int) < (r : Int) := by omega
     have y9 : Um (u * B64 + u0) (u2 * B64 + v0) g := ⟨by unfold B64; exact j9, Uj HG0.out (by unfold B64; exact j9) (by unfold B64; exact x8) (.inr (HTEST.out.1 (.inl aZ))), HG0.out.2⟩
     go_wp2_with fail
     refine (HMUL.out _).mono ?_
     rintro e w5 ⟨rfl, rfl⟩
     go_wp2
     go_ret
     exact ⟨g, 0, rfl, y9, rfl⟩
    have d1 : ¬ (hi : Int) < (r : Int) := by omega
    by_cases bA : hi = r
    ·subst bA
     have d2 : ((hi : Int) == (hi : Int)) = true := by simp
     by_cases bB : lo' <= u0
     ·have d3 : (lo' : Int) <= (u0 : Int) := by omega
      have y9 : Um (u * B64 + u0) (u2 * B64 + v0) g := ⟨by unfold B64; exact j9, Uj HG0.out (by unfold B64; exact j9) (by unfold B64; exact x8) (.inr (HTEST.out.1 (.inr ⟨rfl, bB⟩))), HG0.out.2⟩
      go_wp2_with fail
      refine (HMUL.out _).mono ?_
      rintro e w5 ⟨rfl, rfl⟩
      go_wp2
      go_ret
      exact ⟨g, 0, rfl, y9, rfl⟩
     have d3 : ¬ (lo' : Int) <= (u0 : Int) := by omega
     have s9 : hi * B64 + u0 < g * v0 := by rw [HPROD.out]; omega
     have t7 : 0 < g := by
      rcases Nat.eq_zero_or_pos g with h0 | h0
      ·subst h0
       rw [Nat.zero_mul] at s9
       omega
      exact h0
     have j6 := Ki HG0.out (.inr s9) t7
     obtain ⟨S, hS⟩ : ∃ S, (hi + u2) % 18446744073709551616 = S := ⟨_, rfl⟩
     obtain ⟨C, hC⟩ : ∃ C, (hi + u2) / 18446744073709551616 = C := ⟨_, rfl⟩
     have y8 : ∀ w, (callFunc 155 #[.int .u64 (hi : Int), .int .u64 (u2 : Int), .int .u64 0]).run Tryz.prog w = .ok (.value (.tuple #[.int .u64 (S : Int), .int .u64 (C : Int)])) w := fun w => by
      have := Yh hi u2 0 (by omega) w
      rw [Nat.add_zero, hS, hC] at this
      exact this
     have t8 : hi + u2 = S + B64 * C := by unfold B64; omega
     rw [t8] at j6
     have aB : S < 18446744073709551616 := by omega
     have aC : C <= 1 := by omega
     have d5 : IntKind.u64.wrap ((g : Int) - 1) = ((g - 1 : Nat) : Int) := by rw [Jd _ (by omega) (by omega)]; omega
     obtain ⟨g', aA⟩ : ∃ g', g - 1 = g' := ⟨_, rfl⟩
     rw [aA] at d5 j6
     have bC : g' < g := by omega
     have HDEC := lh j6
     clear hS hC t8 j6 aA s9 t7
     go_wp2_with fail
     refine (HMUL.out _).mono ?_
     rintro e w5 ⟨rfl, rfl⟩
     go_wp2
     exact ⟨⟨g', S, C, by omega, aB, aC, rfl, rfl, rfl, HDEC⟩, by simp [intOf] <;> omega⟩
    have d2 : ((hi : Int) == (r : Int)) = false := by simp; omega
    have s9 : r * B64 + u0 < g * v0 := by rw [HPROD.out]; unfold B64; omega
    have t7 : 0 < g := by
     rcases Nat.eq_zero_or_pos g with h0 | h0
     ·subst h0
      rw [Nat.zero_mul] at s9
      omega
     exact h0
    have j6 := Ki HG0.out (.inr s9) t7
    obtain ⟨S, hS⟩ : ∃ S, (r + u2) % 18446744073709551616 = S := ⟨_, rfl⟩
    obtain ⟨C, hC⟩ : ∃ C, (r + u2) / 18446744073709551616 = C := ⟨_, rfl⟩
    have y8 : ∀ w, (callFunc 155 #[.int .u64 (r : Int), .int .u64 (u2 : Int), .int .u64 0]).run Tryz.prog w = .ok (.value (.tuple #[.int .u64 (S : Int), .int .u64 (C : Int)])) w := fun w => by
     have := Yh r u2 0 (by omega) w
     rw [Nat.add_zero, hS, hC] at this
     exact this
    have t8 : r + u2 = S + B64 * C := by unfold B64; omega
    rw [t8] at j6
    have aB : S < 18446744073709551616 := by omega
    have aC : C <= 1 := by omega
    have d5 : IntKind.u64.wrap ((g : Int) - 1) = ((g - 1 : Nat) : Int) := by rw [Jd _ (by omega) (by omega)]; omega
    obtain ⟨g', aA⟩ : ∃ g', g - 1 = g' := ⟨_, rfl⟩
    rw [aA] at d5 j6
    have bC : g' < g := by omega
    have HDEC := lh j6
    clear hS hC t8 j6 aA s9 t7
    go_wp2_with fail
    refine (HMUL.out _).mono ?_
    rintro e w5 ⟨rfl, rfl⟩
    go_wp2
    exact ⟨⟨g', S, C, by omega, aB, aC, rfl, rfl, rfl, HDEC⟩, by simp [intOf] <;> omega⟩
   have bZ : ((o : Int) == 0) = false := by simp; omega
   have y9 : Um (u * B64 + u0) (u2 * B64 + v0) g := ⟨by unfold B64; exact j9, Uj HG.out (by unfold B64; exact j9) (by unfold B64; exact x8) (.inl (by unfold B64; omega)), HG.out.2⟩
   go_wp2
   go_ret
   exact ⟨g, 0, rfl, y9, rfl⟩
 have e0 : ((u2 : Int) == (v1 : Int)) = false := by simp; omega
 have bK : u2 < v1 := by omega
 have j8 := Jff u2 u1 v1 w bU aW bK
 have aD := Jhw (β := B64) (v1 := v1) (v0 := v0) (u := u) (u0 := u0) x9 (by unfold B64; exact bV)
 have bD : u2 * 18446744073709551616 + u1 = u := by rw [<- HU.out]; rfl
 rw [bD] at j8
 obtain ⟨g0, t7⟩ : ∃ g0, u / v1 = g0 := ⟨_, rfl⟩
 obtain ⟨r0, bE⟩ : ∃ r0, u % v1 = r0 := ⟨_, rfl⟩
 rw [t7, bE] at j8 aD
 have cA : r0 < v1 := by rw [<- bE]; exact Nat.mod_lt _ x9
 have bF : g0 < 18446744073709551616 := by
  rw [<- t7, Nat.div_lt_iff_lt_mul x9, <- bD, Nat.mul_comm 18446744073709551616 v1]
  have h1 := Nat.mul_le_mul_right 18446744073709551616 (show u2 + 1 <= v1 from bK)
  omega
 have HDIV := lh j8
 have aL : GI B64 v1 v0 u u0 g0 (r0 + B64 * 0) := by rw [Nat.mul_zero, Nat.add_zero]; exact aD
 have HGI := lh aL
 clear j8 aD aL t7 bE bD
 go_enter Tryz.func165, Tryz.ntmps165
 go_wp2_with fail
 refine HDIV.out.mono ?_
 rintro e w1 ⟨rfl, nn, rfl⟩
 clear HDIV
 go_wp2_with fail
 clear e0
 go_loop [11, 12, 13] (fun a b c => ∃ g r o : Nat, g < 18446744073709551616 /\ r < 18446744073709551616 /\ o <= 1 /\ a = .int .u64 (g : Int) /\ b = .int .u64 (r : Int) /\ c = .int .u64 (o : Int) /\ Hid (GI B64 v1 v0 u u0 g (r + B64 * o))) (fun a _ _ => (intOf a).toNat)
 case atStart => exact ⟨g0, r0, 0, bF, by omega, by omega, rfl, rfl, rfl, HGI⟩
 case round =>
  obtain ⟨g, r, o, j9, bX, bY, rfl, rfl, rfl, HG⟩ := hrel
  clear HGI
  by_cases ho : o = 0
  ·subst ho
   have o5 := Tryz.bits_Mul64 g v0 j9 x8
   obtain ⟨hi, aE⟩ : ∃ hi, g * v0 / 18446744073709551616 = hi := ⟨_, rfl⟩
   obtain ⟨lo', aK⟩ : ∃ lo', g * v0 % 18446744073709551616 = lo' := ⟨_, rfl⟩
   rw [aE, aK] at o5
   have HMUL := lh o5
   have j7 : g * v0 = hi * B64 + lo' := by unfold B64; omega
   have aX : lo' < 18446744073709551616 := by omega
   have aY : hi < 18446744073709551616 := by
    rw [<- aE, Nat.div_lt_iff_lt_mul (by omega)]
    exact Nat.mul_lt_mul'' j9 x8
   have hG := HG.out
   rw [Nat.mul_zero, Nat.add_zero] at hG
   have HG0 := lh hG
   clear o5 aE aK hG
   have o0 : (hi < r \/ (hi = r /\ lo' <= u0)) ↔ g * v0 <= r * B64 + u0 := by
    rw [j7]
    unfold B64
    constructor
    ·rintro (h | ⟨rfl, h⟩) <;> omega
    intro h
    by_cases h1 : hi < r
    ·exact .inl h1
    exact .inr ⟨by omega, by omega⟩
   have HTEST := lh o0
   have HPROD := lh j7
   clear o0 j7
   by_cases aZ : hi < r
   ·have d1 : (hi : Int) < (r : Int) := by omega
    have y9 : Um (u * B64 + u0) (v1 * B64 + v0) g := ⟨by unfold B64; exact j9, Uj HG0.out (by unfold B64; exact j9) (by unfold B64; exact x8) (.inr (HTEST.out.1 (.inl aZ))), HG0.out.2⟩
    go_wp2_with fail
    refine (HMUL.out _).mono ?_
    rintro e w5 ⟨rfl, rfl⟩
    go_wp2
    go_ret
    exact ⟨g, nn, rfl, y9, rfl⟩
   have d1 : ¬ (hi : Int) < (r : Int) := by omega
   by_cases bA : hi = r
   ·subst bA
    have d2 : ((hi : Int) == (hi : Int)) = true := by simp
    by_cases bB : lo' <= u0
    ·have d3 : (lo' : Int) <= (u0 : Int) := by omega
     have y9 : Um (u * B64 + u0) (v1 * B64 + v0) g := ⟨by unfold B64; exact j9, Uj HG0.out (by unfold B64; exact j9) (by unfold B64; exact x8) (.inr (HTEST.out.1 (.inr ⟨rfl, bB⟩))), HG0.out.2⟩
     go_wp2_with fail
     refine (HMUL.out _).mono ?_
     rintro e w5 ⟨rfl, rfl⟩
     go_wp2
     go_ret
     exact ⟨g, nn, rfl, y9, rfl⟩
    have d3 : ¬ (lo' : Int) <= (u0 : Int) := by omega
    have s9 : hi * B64 + u0 < g * v0 := by rw [HPROD.out]; omega
    have t7 : 0 < g := by
     rcases Nat.eq_zero_or_pos g with h0 | h0
     ·subst h0
      rw [Nat.zero_mul] at s9
      omega
     exact h0
    have j6 := Ki HG0.out (.inr s9) t7
    obtain ⟨S, hS⟩ : ∃ S, (hi + v1) % 18446744073709551616 = S := ⟨_, rfl⟩
    obtain ⟨C, hC⟩ : ∃ C, (hi + v1) / 18446744073709551616 = C := ⟨_, rfl⟩
    have y8 : ∀ w, (callFunc 155 #[.int .u64 (hi : Int), .int .u64 (v1 : Int), .int .u64 0]).run Tryz.prog w = .ok (.value (.tuple #[.int .u64 (S : Int), .int .u64 (C : Int)])) w := fun w => by
     have := Yh hi v1 0 (by omega) w
     rw [Nat.add_zero, hS, hC] at this
     exact this
    have t8 : hi + v1 = S + B64 * C := by unfold B64; omega
    rw [t8] at j6
    have aB : S < 18446744073709551616 := by omega
    have aC : C <= 1 := by omega
    have d5 : IntKind.u64.wrap ((g : Int) - 1) = ((g - 1 : Nat) : Int) := by rw [Jd _ (by omega) (by omega)]; omega
    obtain ⟨g', aA⟩ : ∃ g', g - 1 = g' := ⟨_, rfl⟩
    rw [aA] at d5 j6
    have bC : g' < g := by omega
    have HDEC := lh j6
    clear hS hC t8 j6 aA s9 t7
    go_wp2_with fail
    refine (HMUL.out _).mono ?_
    rintro e w5 ⟨rfl, rfl⟩
    go_wp2
    exact ⟨⟨g', S, C, by omega, aB, aC, rfl, rfl, rfl, HDEC⟩, by simp [intOf] <;> omega⟩
   have d2 : ((hi : Int) == (r : Int)) = false := by simp; omega
   have s9 : r * B64 + u0 < g * v0 := by rw [HPROD.out]; unfold B64; omega
   have t7 : 0 < g := by
    rcases Nat.eq_zero_or_pos g with h0 | h0
    ·subst h0
     rw [Nat.zero_mul] at s9
     omega
    exact h0
   have j6 := Ki HG0.out (.inr s9) t7
   obtain ⟨S, hS⟩ : ∃ S, (r + v1) % 18446744073709551616 = S := ⟨_, rfl⟩
   obtain ⟨C, hC⟩ : ∃ C, (r + v1) / 18446744073709551616 = C := ⟨_, rfl⟩
   have y8 : ∀ w, (callFunc 155 #[.int .u64 (r : Int), .int .u64 (v1 : Int), .int .u64 0]).run Tryz.prog w = .ok (.value (.tuple #[.int .u64 (S : Int), .int .u64 (C : Int)])) w := fun w => by
    have := Yh r v1 0 (by omega) w
    rw [Nat.add_zero, hS, hC] at this
    exact this
   have t8 : r + v1 = S + B64 * C := by unfold B64; omega
   rw [t8] at j6
   have aB : S < 18446744073709551616 := by omega
   have aC : C <= 1 := by omega
   have d5 : IntKind.u64.wrap ((g : Int) - 1) = ((g - 1 : Nat) : Int) := by rw [Jd _ (by omega) (by omega)]; omega
   obtain ⟨g', aA⟩ : ∃ g', g - 1 = g' := ⟨_, rfl⟩
   rw [aA] at d5 j6
   have bC : g' < g := by omega
   have HDEC := lh j6
   clear hS hC t8 j6 aA s9 t7
   go_wp2_with fail
   refine (HMUL.out _).mono ?_
   rintro e w5 ⟨rfl, rfl⟩
   go_wp2
   exact ⟨⟨g', S, C, by omega, aB, aC, rfl, rfl, rfl, HDEC⟩, by simp [intOf] <;> omega⟩
  have bZ : ((o : Int) == 0) = false := by simp; omega
  have y9 : Um (u * B64 + u0) (v1 * B64 + v0) g := ⟨by unfold B64; exact j9, Uj HG.out (by unfold B64; exact j9) (by unfold B64; exact x8) (.inl (by unfold B64; omega)), HG.out.2⟩
  go_wp2
  go_ret
  exact ⟨g, nn, rfl, y9, rfl⟩
def Kw (T D : Nat) : Nat := min (B64 - 1) (T / D)
theorem Jhv {T D g : Nat} (hD : 0 < D) (h : Um T D g) : g = Kw T D := by
 obtain ⟨h1, h2, h3⟩ := h
 unfold Kw
 have h4 : g <= T / D := (Nat.le_div_iff_mul_le hD).2 h2
 by_cases h5 : g + 1 < B64
 ·have h6 := h3 h5
  have h7 : T / D < g + 1 := (Nat.div_lt_iff_lt_mul hD).2 h6
  omega
 omega
theorem Jge {T D : Nat} (hD : 0 < D) : Kw T D < B64 /\ Kw T D * D <= T /\ (Kw T D + 1 < B64 -> T < (Kw T D + 1) * D) := by
 have hB : 0 < B64 := by decide
 unfold Kw
 refine ⟨by omega, ?_, fun h => ?_⟩
 ·have h1 : min (B64 - 1) (T / D) <= T / D := Nat.min_le_right _ _
  exact (Nat.le_div_iff_mul_le hD).1 h1
 have h1 : min (B64 - 1) (T / D) = T / D := by omega
 rw [h1]
 have := Nat.lt_div_mul_add (a := T) hD
 rw [Nat.add_mul]
 omega
theorem Jk8 {lu lv : List Nat} {j n u2 u1 u0 v1 v0 : Nat} (bL : Dig B64 lu) (bG : Dig B64 lv) (cB : lv.length = n) (hn : 2 <= n) (h2 : lu[j + n]? = some u2) (h1 : lu[j + n - 1]? = some u1) (h0 : lu[j + n - 2]? = some u0)
  (aW : lv[n - 1]? = some v1) (x8 : lv[n - 2]? = some v0) (x9 : 0 < v1) (hX : dv B64 lu < dv B64 lv * B64 ^ (j + 1)) :
  u2 <= v1 /\ dv B64 lu / (dv B64 lv * B64 ^ j) <= Kw ((u2 * B64 + u1) * B64 + u0) (v1 * B64 + v0) /\ Kw ((u2 * B64 + u1) * B64 + u0) (v1 * B64 + v0) <= dv B64 lu / (dv B64 lv * B64 ^ j) + 1 := by
 have hB : 0 < B64 := by decide
 have aM := Xn bG
 rw [cB] at aM
 have bH : dv B64 lu < B64 ^ (j + n + 1) := by
  refine Nat.lt_trans hX ?_
  have e : B64 ^ (j + n + 1) = B64 ^ n * B64 ^ (j + 1) := by rw [<- Nat.pow_add]; congr 1; omega
  rw [e]
  exact Nat.mul_lt_mul_of_pos_right aM (Nat.pow_pos hB)
 have bI := Km bL hB bH
 have hT : dv B64 lu / B64 ^ (j + n - 2) = (u2 * B64 + u1) * B64 + u0 := by
  rw [Ym bL hB, Qd h0, show j + n - 2 + 1 = j + n - 1 from by omega, Qd h1, show j + n - 1 + 1 = j + n from by omega, Qd h2, bI]
  rw [Nat.mul_zero, Nat.add_zero, Nat.add_mul, Nat.mul_add, Nat.mul_comm u1, Nat.mul_comm (u2 * B64), Nat.mul_comm u2]
  omega
 have hD : dv B64 lv / B64 ^ (n - 2) = v1 * B64 + v0 := by
  rw [Ym bG hB, Qd x8, show n - 2 + 1 = n - 1 from by omega, Qd aW, Xg (by omega), Nat.mul_zero, Nat.add_zero, Nat.mul_comm]
  omega
 have cC : 0 < v1 * B64 + v0 := by
  have := Nat.mul_pos x9 hB
  omega
 obtain ⟨g1, g2, g3⟩ := Jge (T := (u2 * B64 + u1) * B64 + u0) cC
 have hP : B64 ^ (j + n - 2) = B64 ^ (n - 2) * B64 ^ j := by rw [<- Nat.pow_add]; congr 1; omega
 have bM : dv B64 lu / B64 ^ j < B64 * dv B64 lv := by
  rw [Nat.div_lt_iff_lt_mul (Nat.pow_pos hB), Nat.mul_comm B64, Nat.mul_assoc, Nat.mul_comm B64, <- Nat.pow_succ]
  exact hX
 have bN : dv B64 lu / B64 ^ j / B64 ^ (n - 2) = (u2 * B64 + u1) * B64 + u0 := by
  rw [Nat.div_div_eq_div_mul, Nat.mul_comm, <- hP]
  exact hT
 have cD : B64 <= v1 * B64 + v0 + 1 := by
  have := Nat.mul_le_mul_right B64 x9
  omega
 have aN := Jjr (β := B64) (Nat.pow_pos hB) bN hD bM cD g1 g2 g3
 rw [Nat.div_div_eq_div_mul, Nat.mul_comm (B64 ^ j)] at aN
 refine ⟨?_, aN⟩
 have h4 : (u2 * B64 + u1) * B64 + u0 < B64 * (v1 * B64 + v0 + 1) := by
  rw [<- bN, <- hD, Nat.div_lt_iff_lt_mul (Nat.pow_pos hB)]
  refine Nat.lt_of_lt_of_le bM ?_
  rw [Nat.mul_assoc]
  refine Nat.mul_le_mul_left _ ?_
  rw [Nat.add_mul, Nat.one_mul]
  have := Nat.lt_div_mul_add (a := dv B64 lv) (Nat.pow_pos (n := n - 2) hB)
  exact Nat.le_of_lt this
 rcases Nat.lt_or_ge v1 u2 with h5 | h5
 ·exfalso
  have cE := bG.get x8
  have h6 : B64 * (v1 * B64 + v0 + 1) <= B64 * (B64 * u2) := by
   refine Nat.mul_le_mul_left _ ?_
   have h7 := Nat.mul_le_mul_left B64 h5
   rw [Nat.mul_succ, Nat.mul_comm B64 v1] at h7
   omega
  have h8 : B64 * (B64 * u2) = u2 * B64 * B64 := by rw [Nat.mul_comm, Nat.mul_comm B64 u2]
  rw [h8] at h6
  rw [Nat.add_mul] at h4
  omega
 exact h5
