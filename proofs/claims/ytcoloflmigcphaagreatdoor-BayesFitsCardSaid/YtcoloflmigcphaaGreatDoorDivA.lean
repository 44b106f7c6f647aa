import Derived.Test.YtcoloflmigcphaaGreatDoorDiv64
namespace Go.Proofs.YtcoloflmigcphaaGreatDoor
set_option maxRecDepth 100000
set_option maxHeartbeats 1000000
open Go.RowKit
set_option linter.all false
def B64 : Nat := 18446744073709551616
theorem Jlp {l : List Nat} {k x q r r' d X : Nat} (hx : l[k]? = some x) (hq : r * B64 + x = d * q + r') (he : X = d * dv B64 (l.drop (k + 1)) * B64 ^ (k + 1) + r * B64 ^ (k + 1) + dv B64 (l.take (k + 1))) :
  X = d * dv B64 ((l.set k q).drop k) * B64 ^ k + r' * B64 ^ k + dv B64 ((l.set k q).take k) := by
 have hk : k < l.length := (List.getElem?_eq_some_iff.1 hx).1
 have e1 : (l.set k q).drop k = q :: l.drop (k + 1) := by
  rw [List.drop_eq_getElem_cons (by rw [List.length_set]; exact hk), List.getElem_set_self, List.drop_set_of_lt (by omega)]
 have e2 : (l.set k q).take k = l.take k := List.take_set_of_le (by omega)
 rw [e1, e2, Xv, he, Jv hx]
 have h2 := congrArg (· * B64 ^ k) hq
 simp only [Nat.add_mul] at h2
 rw [Nat.pow_succ, Nat.mul_add, Nat.add_mul]
 have e3 : d * dv B64 (l.drop (k + 1)) * (B64 ^ k * B64) = d * (B64 * dv B64 (l.drop (k + 1))) * B64 ^ k := by
  rw [Nat.mul_comm (B64 ^ k) B64, <- Nat.mul_assoc, Nat.mul_assoc d, Nat.mul_comm (dv B64 _) B64]
 have e4 : r * (B64 ^ k * B64) = r * B64 * B64 ^ k := by rw [Nat.mul_comm (B64 ^ k), Nat.mul_assoc]
 rw [e3, e4]
 omega
def Jm6 (w : World) (g c p d X k r : Nat) (wr : World) : Prop :=
 ∃ l : List Nat, l.length = p /\ Own wr 35 Jh (.slice (some ⟨g, 0, none⟩) l.length c) l /\ Dig B64 l /\ X = d * dv B64 (l.drop k) * B64 ^ k + r * B64 ^ k + dv B64 (l.take k) /\ Exc g w wr
def Jn2 (w : World) (g N d : Nat) (e : Ending) (w' : World) : Prop :=
 ∃ (n c : Nat) (q : List Nat), e = .returned (.tuple #[.slice (some ⟨g, 0, none⟩) n c, .int .u64 ((N % d : Nat) : Int)]) /\ Reads w' w'.heap.size 1 (some ⟨g, 0, none⟩) n (q.map Jh) /\ Dig B64 q /\ dv B64 q = N / d /\ n <= c /\ n <= 17179869185 /\ Exc g w w'
theorem Jgq (g c d : Nat) (lX : List Nat) (w : World) (ho : Own w 35 Jh (.slice (some ⟨g, 0, none⟩) lX.length c) lX) (hd : Dig B64 lX) (hp : lX.length <= 17179869185) (aI : 0 < d) (bI : d < 18446744073709551616) :
  Calls Tryz.prog 143 #[.slice (some ⟨g, 0, none⟩) lX.length c, .int .u64 (d : Int)] w (Jn2 w g (dv B64 lX) d) := by
 obtain ⟨p, aM⟩ : ∃ p, lX.length = p := ⟨_, rfl⟩
 have bJ : p <= c := by
  obtain ⟨A, c', hv, h1, _⟩ := ho.form
  injection hv with _ _ hv
  omega
 rw [aM] at hp ⊢
 have HP := lh aM
 go_enter Tryz.func143, Tryz.ntmps143
 clear aM
 go_wp2_with fail
 go_loopw [6, 7] (fun r i wr => ∃ k r' : Nat, k <= p /\ r' < d /\ i = .int .i64 ((k : Int) - 1) /\ r = .int .u64 (r' : Int) /\ Jm6 w g c p d (dv B64 lX) k r' wr) (fun _ i _ => (intOf i + 1).toNat)
 case atStart =>
  refine ⟨p, 0, Nat.le_refl _, aI, rfl, rfl, lX, HP.out, ho, hd, ?_, Exc.refl _ _⟩
  rw [Qx (by rw [HP.out]; omega), Qm (by rw [HP.out]; omega)]
  simp
 case round =>
  obtain ⟨k, r, hk, hr, rfl, rfl, l, hl, y9, aJ, hX, hx⟩ := hrel
  clear ho
  have HL := lh (And.intro hl hX)
  clear hl hX
  by_cases bK : k = 0
  ·subst bK
   have hX := HL.out.2
   rw [Nat.pow_zero, Nat.mul_one, Nat.mul_one, List.drop_zero, List.take_zero, Ux, Nat.add_zero] at hX
   have hq : dv B64 lX / d = dv B64 l := by rw [hX, Nat.mul_comm, Nat.add_comm, Nat.add_mul_div_right _ _ aI, Nat.div_eq_of_lt hr, Nat.zero_add]
   have hm : dv B64 lX % d = r := by rw [hX, Nat.mul_add_mod, Nat.mod_eq_of_lt hr]
   have aN := Own.reads y9
   rw [HL.out.1] at aN
   have HQ := lh (And.intro hq hm)
   clear hX hq hm
   go_wp2_with fail
   refine (Jgo _ p c _ l wr aN (by omega) bJ).mono ?_
   rintro e w1 ⟨rfl, rfl⟩
   go_wp2
   go_ret2
   have aA := Kn l
   rw [HL.out.1] at aA
   have bD := Reads.front aN (k := (trimL l).length) aA
   rw [Nat.mul_one, <- List.map_take, <- Zc] at bD
   refine ⟨_, c, trimL l, ?_, bD, aJ.trimL, ?_, by omega, by omega, hx⟩
   ·rw [HQ.out.2]; rfl
   rw [Jci, HQ.out.1]
  obtain ⟨j, rfl⟩ : ∃ j, k = j + 1 := ⟨k - 1, by omega⟩
  obtain ⟨x, aK⟩ : ∃ x, l[j]? = some x := ⟨_, List.getElem?_eq_getElem (by rw [HL.out.1]; omega)⟩
  have aO := aJ.get aK
  have bL := y9.cellf aK
  have cA := y9.frozenf j
  have j7 := Jc5 r x d
  obtain ⟨q, hq⟩ : ∃ q, (r * 18446744073709551616 + x) / d = q := ⟨_, rfl⟩
  obtain ⟨r', aL⟩ : ∃ r', (r * 18446744073709551616 + x) % d = r' := ⟨_, rfl⟩
  rw [hq, aL] at j7
  have aP : r' < d := by rw [<- aL]; exact Nat.mod_lt _ aI
  have bM : q < B64 := by
   rw [<- hq, Nat.div_lt_iff_lt_mul aI]
   unfold B64 at aO ⊢
   have h1 := Nat.mul_le_mul_right 18446744073709551616 (show r + 1 <= d from hr)
   rw [Nat.mul_comm d] at h1
   omega
  have aB : r * B64 + x = d * q + r' := by
   rw [<- hq, <- aL]
   exact (Nat.div_add_mod _ d).symm
  have aC := Jlp aK aB HL.out.2
  have bN := y9.store j q
  have aD : ∀ n, Jm6 w g c p d (dv B64 lX) j r' ((wr.drewN n).setCell ⟨g, j, none⟩ (Jh q)) := fun n => by
   refine ⟨l.set j q, by rw [List.length_set]; exact HL.out.1, ?_, aJ.set_ j bM, aC, ?_⟩
   ·rw [List.length_set]
    exact (Own.drewN y9 n).store j q
   exact Exc.set_ (⟨hx.os, hx.tape, hx.output, hx.size, hx.block⟩ : Exc g w (wr.drewN n)) j _
  have HFIN := lh aD
  have HD := lh j7
  unfold Jh at bL
  unfold B64 at aO
  have k1 : (((j + 1 : Nat) : Int) - 1) = (j : Int) := by omega
  have k2 : (j : Int) < (p : Int) := by omega
  rw [k1]
  clear hq aL aB aC bN aD j7 aK y9 aJ hx k1
  go_wp2_with fail
  refine (HD.out wr aO bI hr).mono ?_
  rintro e w1 ⟨rfl, n, rfl⟩
  go_wp2
  exact ⟨⟨j, r', by omega, aP, by go_num, rfl, HFIN.out n⟩, by simp [intOf] <;> omega⟩
def Kk (T D g : Nat) : Prop := g < B64 /\ g * D <= T /\ (g + 1 < B64 -> T < (g + 1) * D)
def Jkm (T D : Nat) (w : World) (e : Ending) (w' : World) : Prop := ∃ g n : Nat, e = .returned (.int .u64 (g : Int)) /\ Kk T D g /\ w' = w.drewN n
theorem Jdn (u2 u1 u0 v1 v0 : Nat) (w : World) (h2 : u2 <= v1) (bO : u1 < 18446744073709551616) (bP : u0 < 18446744073709551616) (aQ : v1 < 18446744073709551616) (o9 : v0 < 18446744073709551616) (cE : 0 < v1) :
  Calls Tryz.prog 164 #[.int .u64 (u2 : Int), .int .u64 (u1 : Int), .int .u64 (u0 : Int), .int .u64 (v1 : Int), .int .u64 (v0 : Int)] w (Jkm ((u2 * B64 + u1) * B64 + u0) (v1 * B64 + v0) w) := by
 obtain ⟨u, hu⟩ : ∃ u, u2 * B64 + u1 = u := ⟨_, rfl⟩
 rw [hu]
 have HU := lh hu
 clear hu
 by_cases bQ : u2 = v1
 ·subst bQ
  have e0 : ((u2 : Int) == (u2 : Int)) = true := by simp
  obtain ⟨S, hS⟩ : ∃ S, (u1 + u2) % 18446744073709551616 = S := ⟨_, rfl⟩
  obtain ⟨C, hC⟩ : ∃ C, (u1 + u2) / 18446744073709551616 = C := ⟨_, rfl⟩
  have p9 : ∀ w, (callFunc 140 #[.int .u64 (u1 : Int), .int .u64 (u2 : Int), .int .u64 0]).run Tryz.prog w = .ok (.value (.tuple #[.int .u64 (S : Int), .int .u64 (C : Int)])) w := fun w => by
   have := Zo u1 u2 0 (by omega) w
   rw [Nat.add_zero, hS, hC] at this
   exact this
  have cI := Jnq (β := B64) (v1 := u2) (v0 := v0) (u := u) (u0 := u0) u1 (by rw [<- HU.out, Nat.mul_comm]) (by decide)
  have o0 : u1 + u2 = S + B64 * C := by unfold B64; omega
  rw [o0] at cI
  have HGI := lh cI
  have cG : S < 18446744073709551616 := by omega
  have cH : C <= 1 := by omega
  clear hS hC cI o0
  go_enter Tryz.func164, Tryz.ntmps164
  go_wp2_with fail
  clear p9 e0
  go_loop [11, 12, 13] (fun a b c => ∃ g r o : Nat, g < 18446744073709551616 /\ r < 18446744073709551616 /\ o <= 1 /\ a = .int .u64 (g : Int) /\ b = .int .u64 (r : Int) /\ c = .int .u64 (o : Int) /\ Hid (GI B64 u2 v0 u u0 g (r + B64 * o))) (fun a _ _ => (intOf a).toNat)
  case atStart => exact ⟨18446744073709551615, S, C, by omega, cG, cH, rfl, rfl, rfl, HGI⟩
  case round =>
   obtain ⟨g, r, o, j8, bS, bT, rfl, rfl, rfl, HG⟩ := hrel
   clear HGI
   by_cases ho : o = 0
   ·subst ho
    have bR := Tryz.bits_Mul64 g v0 j8 o9
    obtain ⟨hi, cJ⟩ : ∃ hi, g * v0 / 18446744073709551616 = hi := ⟨_, rfl⟩
    obtain ⟨lo', aE⟩ : ∃ lo', g * v0 % 18446744073709551616 = lo' := ⟨_, rfl⟩
    rw [cJ, aE] at bR
    have HMUL := lh bR
    have j6 : g * v0 = hi * B64 + lo' := by unfold B64; omega
    have aR : lo' < 18446744073709551616 := by omega
    have aS : hi < 18446744073709551616 := by
     rw [<- cJ, Nat.div_lt_iff_lt_mul (by omega)]
     exact Nat.mul_lt_mul'' j8 o9
    have hG := HG.out
    rw [Nat.mul_zero, Nat.add_zero] at hG
    have HG0 := lh hG
    clear bR cJ aE hG
    have j9 : (hi < r \/ (hi = r /\ lo' <= u0)) ↔ g * v0 <= r * B64 + u0 := by
     rw [j6]
     unfold B64
     constructor
     ·rintro (h | ⟨rfl, h⟩) <;> omega
     intro h
     by_cases h1 : hi < r
     ·exact .inl h1
     exact .inr ⟨by omega, by omega⟩
    have HTEST := lh j9
    have HPROD := lh j6
    clear j9 j6
    by_cases aT : hi < r
    ·have d1 : (hi : Int) < (r : Int) := by omega
     have cF : Kk (u * B64 + u0) (u2 * B64 + v0) g := ⟨by unfold B64; exact j8, Kf HG0.out (by unfold B64; exact j8) (by unfold B64; exact o9) (.inr (HTEST.out.1 (.inl aT))), HG0.out.2⟩
     go_wp2_with fail
     refine (HMUL.out _).mono ?_
     rintro e w5 ⟨rfl, rfl⟩
     go_wp2
     go_ret
     exact ⟨g, 0, rfl, cF, rfl⟩
    have d1 : ¬ (hi : Int) < (r : Int) := by omega
    by_cases aU : hi = r
    ·subst aU
     have d2 : ((hi : Int) == (hi : Int)) = true := by simp
     by_cases aV : lo' <= u0
     ·have d3 : (lo' : Int) <= (u0 : Int) := by omega
      have cF : Kk (u * B64 + u0) (u2 * B64 + v0) g := ⟨by unfold B64; exact j8, Kf HG0.out (by unfold B64; exact j8) (by unfold B64; exact o9) (.inr (HTEST.out.1 (.inr ⟨rfl, aV⟩))), HG0.out.2⟩
      go_wp2_with fail
      refine (HMUL.out _).mono ?_
      rintro e w5 ⟨rfl, rfl⟩
      go_wp2
      go_ret
      exact ⟨g, 0, rfl, cF, rfl⟩
     have d3 : ¬ (lo' : Int) <= (u0 : Int) := by omega
     have cB : hi * B64 + u0 < g * v0 := by rw [HPROD.out]; omega
     have cD : 0 < g := by
      rcases Nat.eq_zero_or_pos g with h0 | h0
      ·subst h0
       rw [Nat.zero_mul] at cB
       omega
      exact h0
     have j0 := Yk HG0.out (.inr cB) cD
     obtain ⟨S, hS⟩ : ∃ S, (hi + u2) % 18446744073709551616 = S := ⟨_, rfl⟩
     obtain ⟨C, hC⟩ : ∃ C, (hi + u2) / 18446744073709551616 = C := ⟨_, rfl⟩
     have p9 : ∀ w, (callFunc 140 #[.int .u64 (hi : Int), .int .u64 (u2 : Int), .int .u64 0]).run Tryz.prog w = .ok (.value (.tuple #[.int .u64 (S : Int), .int .u64 (C : Int)])) w := fun w => by
      have := Zo hi u2 0 (by omega) w
      rw [Nat.add_zero, hS, hC] at this
      exact this
     have o0 : hi + u2 = S + B64 * C := by unfold B64; omega
     rw [o0] at j0
     have cG : S < 18446744073709551616 := by omega
     have cH : C <= 1 := by omega
     have d5 : IntKind.u64.wrap ((g : Int) - 1) = ((g - 1 : Nat) : Int) := by rw [Jc _ (by omega) (by omega)]; omega
     obtain ⟨g', s9⟩ : ∃ g', g - 1 = g' := ⟨_, rfl⟩
     rw [s9] at d5 j0
     have aW : g' < g := by omega
     have HDEC := lh j0
     clear hS hC o0 j0 s9 cB cD
     go_wp2_with fail
     refine (HMUL.out _).mono ?_
     rintro e w5 ⟨rfl, rfl⟩
     go_wp2
     exact ⟨⟨g', S, C, by omega, cG, cH, rfl, rfl, rfl, HDEC⟩, by simp [intOf] <;> omega⟩
    have d2 : ((hi : Int) == (r : Int)) = false := by simp; omega
    have cB : r * B64 + u0 < g * v0 := by rw [HPROD.out]; unfold B64; omega
    have cD : 0 < g := by
     rcases Nat.eq_zero_or_pos g with h0 | h0
     ·subst h0
      rw [Nat.zero_mul] at cB
      omega
     exact h0
    have j0 := Yk HG0.out (.inr cB) cD
    obtain ⟨S, hS⟩ : ∃ S, (r + u2) % 18446744073709551616 = S := ⟨_, rfl⟩
    obtain ⟨C, hC⟩ : ∃ C, (r + u2) / 18446744073709551616 = C := ⟨_, rfl⟩
    have p9 : ∀ w, (callFunc 140 #[.int .u64 (r : Int), .int .u64 (u2 : Int), .int .u64 0]).run Tryz.prog w = .ok (.value (.tuple #[.int .u64 (S : Int), .int .u64 (C : Int)])) w := fun w => by
     have := Zo r u2 0 (by omega) w
     rw [Nat.add_zero, hS, hC] at this
     exact this
    have o0 : r + u2 = S + B64 * C := by unfold B64; omega
    rw [o0] at j0
    have cG : S < 18446744073709551616 := by omega
    have cH : C <= 1 := by omega
    have d5 : IntKind.u64.wrap ((g : Int) - 1) = ((g - 1 : Nat) : Int) := by rw [Jc _ (by omega) (by omega)]; omega
    obtain ⟨g', s9⟩ : ∃ g', g - 1 = g' := ⟨_, rfl⟩
    rw [s9] at d5 j0
    have aW : g' < g := by omega
    have HDEC := lh j0
    clear hS hC o0 j0 s9 cB cD
    go_wp2_with fail
    refine (HMUL.out _).mono ?_
    rintro e w5 ⟨rfl, rfl⟩
    go_wp2
    exact ⟨⟨g', S, C, by omega, cG, cH, rfl, rfl, rfl, HDEC⟩, by simp [intOf] <;> omega⟩
   have bU : ((o : Int) == 0) = false := by simp; omega
   have cF : Kk (u * B64 + u0) (u2 * B64 + v0) g := ⟨by unfold B64; exact j8, Kf HG.out (by unfold B64; exact j8) (by unfold B64; exact o9) (.inl (by unfold B64; omega)), HG.out.2⟩
   go_wp2
   go_ret
   exact ⟨g, 0, rfl, cF, rfl⟩
 have e0 : ((u2 : Int) == (v1 : Int)) = false := by simp; omega
 have bE : u2 < v1 := by omega
 have j7 := Jc5 u2 u1 v1 w bO aQ bE
 have cI := Jfl (β := B64) (v1 := v1) (v0 := v0) (u := u) (u0 := u0) cE (by unfold B64; exact bP)
 have aX : u2 * 18446744073709551616 + u1 = u := by rw [<- HU.out]; rfl
 rw [aX] at j7
 obtain ⟨g0, cD⟩ : ∃ g0, u / v1 = g0 := ⟨_, rfl⟩
 obtain ⟨r0, aY⟩ : ∃ r0, u % v1 = r0 := ⟨_, rfl⟩
 rw [cD, aY] at j7 cI
 have bV : r0 < v1 := by rw [<- aY]; exact Nat.mod_lt _ cE
 have aZ : g0 < 18446744073709551616 := by
  rw [<- cD, Nat.div_lt_iff_lt_mul cE, <- aX, Nat.mul_comm 18446744073709551616 v1]
  have h1 := Nat.mul_le_mul_right 18446744073709551616 (show u2 + 1 <= v1 from bE)
  omega
 have HDIV := lh j7
 have aF : GI B64 v1 v0 u u0 g0 (r0 + B64 * 0) := by rw [Nat.mul_zero, Nat.add_zero]; exact cI
 have HGI := lh aF
 clear j7 cI aF cD aY aX
 go_enter Tryz.func164, Tryz.ntmps164
 go_wp2_with fail
 refine HDIV.out.mono ?_
 rintro e w1 ⟨rfl, nn, rfl⟩
 clear HDIV
 go_wp2_with fail
 clear e0
 go_loop [11, 12, 13] (fun a b c => ∃ g r o : Nat, g < 18446744073709551616 /\ r < 18446744073709551616 /\ o <= 1 /\ a = .int .u64 (g : Int) /\ b = .int .u64 (r : Int) /\ c = .int .u64 (o : Int) /\ Hid (GI B64 v1 v0 u u0 g (r + B64 * o))) (fun a _ _ => (intOf a).toNat)
 case atStart => exact ⟨g0, r0, 0, aZ, by omega, by omega, rfl, rfl, rfl, HGI⟩
 case round =>
  obtain ⟨g, r, o, j8, bS, bT, rfl, rfl, rfl, HG⟩ := hrel
  clear HGI
  by_cases ho : o = 0
  ·subst ho
   have bR := Tryz.bits_Mul64 g v0 j8 o9
   obtain ⟨hi, cJ⟩ : ∃ hi, g * v0 / 18446744073709551616 = hi := ⟨_, rfl⟩
   obtain ⟨lo', aE⟩ : ∃ lo', g * v0 % 18446744073709551616 = lo' := ⟨_, rfl⟩
   rw [cJ, aE] at bR
   have HMUL := lh bR
   have j6 : g * v0 = hi * B64 + lo' := by unfold B64; omega
   have aR : lo' < 18446744073709551616 := by omega
   have aS : hi < 18446744073709551616 := by
    rw [<- cJ, Nat.div_lt_iff_lt_mul (by omega)]
    exact Nat.mul_lt_mul'' j8 o9
   have hG := HG.out
   rw [Nat.mul_zero, Nat.add_zero] at hG
   have HG0 := lh hG
   clear bR cJ aE hG
   have j9 : (hi < r \/ (hi = r /\ lo' <= u0)) ↔ g * v0 <= r * B64 + u0 := by
    rw [j6]
    unfold B64
    constructor
    ·rintro (h | ⟨rfl, h⟩) <;> omega
    intro h
    by_cases h1 : hi < r
    ·exact .inl h1
    exact .inr ⟨by omega, by omega⟩
   have HTEST := lh j9
   have HPROD := lh j6
   clear j9 j6
   by_cases aT : hi < r
   ·have d1 : (hi : Int) < (r : Int) := by omega
    have cF : Kk (u * B64 + u0) (v1 * B64 + v0) g := ⟨by unfold B64; exact j8, Kf HG0.out (by unfold B64; exact j8) (by unfold B64; exact o9) (.inr (HTEST.out.1 (.inl aT))), HG0.out.2⟩
    go_wp2_with fail
    refine (HMUL.out _).mono ?_
    rintro e w5 ⟨rfl, rfl⟩
    go_wp2
    go_ret
    exact ⟨g, nn, rfl, cF, rfl⟩
   have d1 : ¬ (hi : Int) < (r : Int) := by omega
   by_cases aU : hi = r
   ·subst aU
    have d2 : ((hi : Int) == (hi : Int)) = true := by simp
    by_cases aV : lo' <= u0
    ·have d3 : (lo' : Int) <= (u0 : Int) := by omega
     have cF : Kk (u * B64 + u0) (v1 * B64 + v0) g := ⟨by unfold B64; exact j8, Kf HG0.out (by unfold B64; exact j8) (by unfold B64; exact o9) (.inr (HTEST.out.1 (.inr ⟨rfl, aV⟩))), HG0.out.2⟩
     go_wp2_with fail
     refine (HMUL.out _).mono ?_
     rintro e w5 ⟨rfl, rfl⟩
     go_wp2
     go_ret
     exact ⟨g, nn, rfl, cF, rfl⟩
    have d3 : ¬ (lo' : Int) <= (u0 : Int) := by omega
    have cB : hi * B64 + u0 < g * v0 := by rw [HPROD.out]; omega
    have cD : 0 < g := by
     rcases Nat.eq_zero_or_pos g with h0 | h0
     ·subst h0
      rw [Nat.zero_mul] at cB
      omega
     exact h0
    have j0 := Yk HG0.out (.inr cB) cD
    obtain ⟨S, hS⟩ : ∃ S, (hi + v1) % 18446744073709551616 = S := ⟨_, rfl⟩
    obtain ⟨C, hC⟩ : ∃ C, (hi + v1) / 18446744073709551616 = C := ⟨_, rfl⟩
    have p9 : ∀ w, (callFunc 140 #[.int .u64 (hi : Int), .int .u64 (v1 : Int), .int .u64 0]).run Tryz.prog w = .ok (.value (.tuple #[.int .u64 (S : Int), .int .u64 (C : Int)])) w := fun w => by
     have := Zo hi v1 0 (by omega) w
     rw [Nat.add_zero, hS, hC] at this
     exact this
    have o0 : hi + v1 = S + B64 * C := by unfold B64; omega
    rw [o0] at j0
    have cG : S < 18446744073709551616 := by omega
    have cH : C <= 1 := by omega
    have d5 : IntKind.u64.wrap ((g : Int) - 1) = ((g - 1 : Nat) : Int) := by rw [Jc _ (by omega) (by omega)]; omega
    obtain ⟨g', s9⟩ : ∃ g', g - 1 = g' := ⟨_, rfl⟩
    rw [s9] at d5 j0
    have aW : g' < g := by omega
    have HDEC := lh j0
    clear hS hC o0 j0 s9 cB cD
    go_wp2_with fail
    refine (HMUL.out _).mono ?_
    rintro e w5 ⟨rfl, rfl⟩
    go_wp2
    exact ⟨⟨g', S, C, by omega, cG, cH, rfl, rfl, rfl, HDEC⟩, by simp [intOf] <;> omega⟩
   have d2 : ((hi : Int) == (r : Int)) = false := by simp; omega
   have cB : r * B64 + u0 < g * v0 := by rw [HPROD.out]; unfold B64; omega
   have cD : 0 < g := by
    rcases Nat.eq_zero_or_pos g with h0 | h0
    ·subst h0
     rw [Nat.zero_mul] at cB
     omega
    exact h0
   have j0 := Yk HG0.out (.inr cB) cD
   obtain ⟨S, hS⟩ : ∃ S, (r + v1) % 18446744073709551616 = S := ⟨_, rfl⟩
   obtain ⟨C, hC⟩ : ∃ C, (r + v1) / 18446744073709551616 = C := ⟨_, rfl⟩
   have p9 : ∀ w, (callFunc 140 #[.int .u64 (r : Int), .int .u64 (v1 : Int), .int .u64 0]).run Tryz.prog w = .ok (.value (.tuple #[.int .u64 (S : Int), .int .u64 (C : Int)])) w := fun w => by
    have := Zo r v1 0 (by omega) w
    rw [Nat.add_zero, hS, hC] at this
    exact this
   have o0 : r + v1 = S + B64 * C := by unfold B64; omega
   rw [o0] at j0
   have cG : S < 18446744073709551616 := by omega
   have cH : C <= 1 := by omega
   have d5 : IntKind.u64.wrap ((g : Int) - 1) = ((g - 1 : Nat) : Int) := by rw [Jc _ (by omega) (by omega)]; omega
   obtain ⟨g', s9⟩ : ∃ g', g - 1 = g' := ⟨_, rfl⟩
   rw [s9] at d5 j0
   have aW : g' < g := by omega
   have HDEC := lh j0
   clear hS hC o0 j0 s9 cB cD
   go_wp2_with fail
   refine (HMUL.out _).mono ?_
   rintro e w5 ⟨rfl, rfl⟩
   go_wp2
   exact ⟨⟨g', S, C, by omega, cG, cH, rfl, rfl, rfl, HDEC⟩, by simp [intOf] <;> omega⟩
  have bU : ((o : Int) == 0) = false := by simp; omega
  have cF : Kk (u * B64 + u0) (v1 * B64 + v0) g := ⟨by unfold B64; exact j8, Kf HG.out (by unfold B64; exact j8) (by unfold B64; exact o9) (.inl (by unfold B64; omega)), HG.out.2⟩
  go_wp2
  go_ret
  exact ⟨g, nn, rfl, cF, rfl⟩
def Yw (T D : Nat) : Nat := min (B64 - 1) (T / D)
theorem Jfk {T D g : Nat} (hD : 0 < D) (h : Kk T D g) : g = Yw T D := by
 obtain ⟨h1, h2, h3⟩ := h
 unfold Yw
 have h4 : g <= T / D := (Nat.le_div_iff_mul_le hD).2 h2
 by_cases h5 : g + 1 < B64
 ·have h6 := h3 h5
  have h7 : T / D < g + 1 := (Nat.div_lt_iff_lt_mul hD).2 h6
  omega
 omega
theorem Jed {T D : Nat} (hD : 0 < D) : Yw T D < B64 /\ Yw T D * D <= T /\ (Yw T D + 1 < B64 -> T < (Yw T D + 1) * D) := by
 have hB : 0 < B64 := by decide
 unfold Yw
 refine ⟨by omega, ?_, fun h => ?_⟩
 ·have h1 : min (B64 - 1) (T / D) <= T / D := Nat.min_le_right _ _
  exact (Nat.le_div_iff_mul_le hD).1 h1
 have h1 : min (B64 - 1) (T / D) = T / D := by omega
 rw [h1]
 have := Nat.lt_div_mul_add (a := T) hD
 rw [Nat.add_mul]
 omega
theorem Jia {lu lv : List Nat} {j n u2 u1 u0 v1 v0 : Nat} (bF : Dig B64 lu) (bA : Dig B64 lv) (bW : lv.length = n) (hn : 2 <= n) (h2 : lu[j + n]? = some u2) (h1 : lu[j + n - 1]? = some u1) (h0 : lu[j + n - 2]? = some u0)
  (aQ : lv[n - 1]? = some v1) (o9 : lv[n - 2]? = some v0) (cE : 0 < v1) (hX : dv B64 lu < dv B64 lv * B64 ^ (j + 1)) :
  u2 <= v1 /\ dv B64 lu / (dv B64 lv * B64 ^ j) <= Yw ((u2 * B64 + u1) * B64 + u0) (v1 * B64 + v0) /\ Yw ((u2 * B64 + u1) * B64 + u0) (v1 * B64 + v0) <= dv B64 lu / (dv B64 lv * B64 ^ j) + 1 := by
 have hB : 0 < B64 := by decide
 have aG := Xm bA
 rw [bW] at aG
 have bB : dv B64 lu < B64 ^ (j + n + 1) := by
  refine Nat.lt_trans hX ?_
  have e : B64 ^ (j + n + 1) = B64 ^ n * B64 ^ (j + 1) := by rw [<- Nat.pow_add]; congr 1; omega
  rw [e]
  exact Nat.mul_lt_mul_of_pos_right aG (Nat.pow_pos hB)
 have bC := Kg bF hB bB
 have hT : dv B64 lu / B64 ^ (j + n - 2) = (u2 * B64 + u1) * B64 + u0 := by
  rw [Zx bF hB, Qa h0, show j + n - 2 + 1 = j + n - 1 from by omega, Qa h1, show j + n - 1 + 1 = j + n from by omega, Qa h2, bC]
  rw [Nat.mul_zero, Nat.add_zero, Nat.add_mul, Nat.mul_add, Nat.mul_comm u1, Nat.mul_comm (u2 * B64), Nat.mul_comm u2]
  omega
 have hD : dv B64 lv / B64 ^ (n - 2) = v1 * B64 + v0 := by
  rw [Zx bA hB, Qa o9, show n - 2 + 1 = n - 1 from by omega, Qa aQ, Qx (by omega), Nat.mul_zero, Nat.add_zero, Nat.mul_comm]
  omega
 have bX : 0 < v1 * B64 + v0 := by
  have := Nat.mul_pos cE hB
  omega
 obtain ⟨g1, g2, g3⟩ := Jed (T := (u2 * B64 + u1) * B64 + u0) bX
 have hP : B64 ^ (j + n - 2) = B64 ^ (n - 2) * B64 ^ j := by rw [<- Nat.pow_add]; congr 1; omega
 have bG : dv B64 lu / B64 ^ j < B64 * dv B64 lv := by
  rw [Nat.div_lt_iff_lt_mul (Nat.pow_pos hB), Nat.mul_comm B64, Nat.mul_assoc, Nat.mul_comm B64, <- Nat.pow_succ]
  exact hX
 have bH : dv B64 lu / B64 ^ j / B64 ^ (n - 2) = (u2 * B64 + u1) * B64 + u0 := by
  rw [Nat.div_div_eq_div_mul, Nat.mul_comm, <- hP]
  exact hT
 have bY : B64 <= v1 * B64 + v0 + 1 := by
  have := Nat.mul_le_mul_right B64 cE
  omega
 have aH := Jg1 (β := B64) (Nat.pow_pos hB) bH hD bG bY g1 g2 g3
 rw [Nat.div_div_eq_div_mul, Nat.mul_comm (B64 ^ j)] at aH
 refine ⟨?_, aH⟩
 have h4 : (u2 * B64 + u1) * B64 + u0 < B64 * (v1 * B64 + v0 + 1) := by
  rw [<- bH, <- hD, Nat.div_lt_iff_lt_mul (Nat.pow_pos hB)]
  refine Nat.lt_of_lt_of_le bG ?_
  rw [Nat.mul_assoc]
  refine Nat.mul_le_mul_left _ ?_
  rw [Nat.add_mul, Nat.one_mul]
  have := Nat.lt_div_mul_add (a := dv B64 lv) (Nat.pow_pos (n := n - 2) hB)
  exact Nat.le_of_lt this
 rcases Nat.lt_or_ge v1 u2 with h5 | h5
 ·exfalso
  have bZ := bA.get o9
  have h6 : B64 * (v1 * B64 + v0 + 1) <= B64 * (B64 * u2) := by
   refine Nat.mul_le_mul_left _ ?_
   have h7 := Nat.mul_le_mul_left B64 h5
   rw [Nat.mul_succ, Nat.mul_comm B64 v1] at h7
   omega
  have h8 : B64 * (B64 * u2) = u2 * B64 * B64 := by rw [Nat.mul_comm, Nat.mul_comm B64 u2]
  rw [h8] at h6
  rw [Nat.add_mul] at h4
  omega
 exact h5
