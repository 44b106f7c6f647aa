import Derived.Test.YtacbcaebaomglaaGreatDoorDiv64
namespace Go.Proofs.YtacbcaebaomglaaGreatDoor
set_option maxRecDepth 100000
set_option maxHeartbeats 1000000
open Go.RowKit
set_option linter.all false
def B64 : Nat := 18446744073709551616
theorem Jmo {l : List Nat} {k x q r r' d X : Nat} (hx : l[k]? = some x) (hq : r * B64 + x = d * q + r') (he : X = d * dv B64 (l.drop (k + 1)) * B64 ^ (k + 1) + r * B64 ^ (k + 1) + dv B64 (l.take (k + 1))) :
  X = d * dv B64 ((l.set k q).drop k) * B64 ^ k + r' * B64 ^ k + dv B64 ((l.set k q).take k) := by
 have hk : k < l.length := (List.getElem?_eq_some_iff.1 hx).1
 have e1 : (l.set k q).drop k = q :: l.drop (k + 1) := by
  rw [List.drop_eq_getElem_cons (by rw [List.length_set]; exact hk), List.getElem_set_self, List.drop_set_of_lt (by omega)]
 have e2 : (l.set k q).take k = l.take k := List.take_set_of_le (by omega)
 rw [e1, e2, Xw, he, Js hx]
 have h2 := congrArg (· * B64 ^ k) hq
 simp only [Nat.add_mul] at h2
 rw [Nat.pow_succ, Nat.mul_add, Nat.add_mul]
 have e3 : d * dv B64 (l.drop (k + 1)) * (B64 ^ k * B64) = d * (B64 * dv B64 (l.drop (k + 1))) * B64 ^ k := by
  rw [Nat.mul_comm (B64 ^ k) B64, <- Nat.mul_assoc, Nat.mul_assoc d, Nat.mul_comm (dv B64 _) B64]
 have e4 : r * (B64 ^ k * B64) = r * B64 * B64 ^ k := by rw [Nat.mul_comm (B64 ^ k), Nat.mul_assoc]
 rw [e3, e4]
 omega
def Jn4 (w : World) (g c p d X k r : Nat) (wr : World) : Prop :=
 ∃ l : List Nat, l.length = p /\ Own wr 59 Jk (.slice (some ⟨g, 0, none⟩) l.length c) l /\ Dig B64 l /\ X = d * dv B64 (l.drop k) * B64 ^ k + r * B64 ^ k + dv B64 (l.take k) /\ Exc g w wr
def Jos (w : World) (g N d : Nat) (e : Ending) (w' : World) : Prop :=
 ∃ (n c : Nat) (q : List Nat), e = .returned (.tuple #[.slice (some ⟨g, 0, none⟩) n c, .int .u64 ((N % d : Nat) : Int)]) /\ Reads w' w'.heap.size 1 (some ⟨g, 0, none⟩) n (q.map Jk) /\ Dig B64 q /\ dv B64 q = N / d /\ n <= c /\ n <= 17179869185 /\ Exc g w w'
theorem Jh1 (g c d : Nat) (lX : List Nat) (w : World) (ho : Own w 59 Jk (.slice (some ⟨g, 0, none⟩) lX.length c) lX) (hd : Dig B64 lX) (hp : lX.length <= 17179869185) (aC : 0 < d) (bC : d < 18446744073709551616) :
  Calls Tryz.prog 152 #[.slice (some ⟨g, 0, none⟩) lX.length c, .int .u64 (d : Int)] w (Jos w g (dv B64 lX) d) := by
 obtain ⟨p, aG⟩ : ∃ p, lX.length = p := ⟨_, rfl⟩
 have bD : p <= c := by
  obtain ⟨A, c', hv, h1, _⟩ := ho.form
  injection hv with _ _ hv
  omega
 rw [aG] at hp ⊢
 have HP := lh aG
 go_enter Tryz.func152, Tryz.ntmps152
 clear aG
 go_wp2_with fail
 go_loopw [6, 7] (fun r i wr => ∃ k r' : Nat, k <= p /\ r' < d /\ i = .int .i64 ((k : Int) - 1) /\ r = .int .u64 (r' : Int) /\ Jn4 w g c p d (dv B64 lX) k r' wr) (fun _ i _ => (intOf i + 1).toNat)
 case atStart =>
  refine ⟨p, 0, Nat.le_refl _, aC, rfl, rfl, lX, HP.out, ho, hd, ?_, Exc.refl _ _⟩
  rw [Xe (by rw [HP.out]; omega), Qo (by rw [HP.out]; omega)]
  simp
 case round =>
  obtain ⟨k, r, hk, hr, rfl, rfl, l, hl, t8, aD, hX, hx⟩ := hrel
  clear ho
  have HL := lh (And.intro hl hX)
  clear hl hX
  by_cases bE : k = 0
  ·subst bE
   have hX := HL.out.2
   rw [Nat.pow_zero, Nat.mul_one, Nat.mul_one, List.drop_zero, List.take_zero, Up, Nat.add_zero] at hX
   have hq : dv B64 lX / d = dv B64 l := by rw [hX, Nat.mul_comm, Nat.add_comm, Nat.add_mul_div_right _ _ aC, Nat.div_eq_of_lt hr, Nat.zero_add]
   have hm : dv B64 lX % d = r := by rw [hX, Nat.mul_add_mod, Nat.mod_eq_of_lt hr]
   have aH := Own.reads t8
   rw [HL.out.1] at aH
   have HQ := lh (And.intro hq hm)
   clear hX hq hm
   go_wp2_with fail
   refine (Jhz _ p c _ l wr aH (by omega) bD).mono ?_
   rintro e w1 ⟨rfl, rfl⟩
   go_wp2
   go_ret2
   have u4 := Us l
   rw [HL.out.1] at u4
   have aX := Reads.front aH (k := (trimL l).length) u4
   rw [Nat.mul_one, <- List.map_take, <- Zy] at aX
   refine ⟨_, c, trimL l, ?_, aX, aD.trimL, ?_, by omega, by omega, hx⟩
   ·rw [HQ.out.2]; rfl
   rw [Jdi, HQ.out.1]
  obtain ⟨j, rfl⟩ : ∃ j, k = j + 1 := ⟨k - 1, by omega⟩
  obtain ⟨x, aE⟩ : ∃ x, l[j]? = some x := ⟨_, List.getElem?_eq_getElem (by rw [HL.out.1]; omega)⟩
  have aI := aD.get aE
  have bF := t8.cellf aE
  have bT := t8.frozenf j
  have j0 := Jek r x d
  obtain ⟨q, hq⟩ : ∃ q, (r * 18446744073709551616 + x) / d = q := ⟨_, rfl⟩
  obtain ⟨r', aF⟩ : ∃ r', (r * 18446744073709551616 + x) % d = r' := ⟨_, rfl⟩
  rw [hq, aF] at j0
  have aJ : r' < d := by rw [<- aF]; exact Nat.mod_lt _ aC
  have bG : q < B64 := by
   rw [<- hq, Nat.div_lt_iff_lt_mul aC]
   unfold B64 at aI ⊢
   have h1 := Nat.mul_le_mul_right 18446744073709551616 (show r + 1 <= d from hr)
   rw [Nat.mul_comm d] at h1
   omega
  have x7 : r * B64 + x = d * q + r' := by
   rw [<- hq, <- aF]
   exact (Nat.div_add_mod _ d).symm
  have x8 := Jmo aE x7 HL.out.2
  have bH := t8.store j q
  have x9 : ∀ n, Jn4 w g c p d (dv B64 lX) j r' ((wr.drewN n).setCell ⟨g, j, none⟩ (Jk q)) := fun n => by
   refine ⟨l.set j q, by rw [List.length_set]; exact HL.out.1, ?_, aD.set_ j bG, x8, ?_⟩
   ·rw [List.length_set]
    exact (Own.drewN t8 n).store j q
   exact Exc.set_ (⟨hx.os, hx.tape, hx.output, hx.size, hx.block⟩ : Exc g w (wr.drewN n)) j _
  have HFIN := lh x9
  have HD := lh j0
  unfold Jk at bF
  unfold B64 at aI
  have k1 : (((j + 1 : Nat) : Int) - 1) = (j : Int) := by omega
  have k2 : (j : Int) < (p : Int) := by omega
  rw [k1]
  clear hq aF x7 x8 bH x9 j0 aE t8 aD hx k1
  go_wp2_with fail
  refine (HD.out wr aI bC hr).mono ?_
  rintro e w1 ⟨rfl, n, rfl⟩
  go_wp2
  exact ⟨⟨j, r', by omega, aJ, by go_num, rfl, HFIN.out n⟩, by simp [intOf] <;> omega⟩
def Ul (T D g : Nat) : Prop := g < B64 /\ g * D <= T /\ (g + 1 < B64 -> T < (g + 1) * D)
def Jlh (T D : Nat) (w : World) (e : Ending) (w' : World) : Prop := ∃ g n : Nat, e = .returned (.int .u64 (g : Int)) /\ Ul T D g /\ w' = w.drewN n
theorem Jex (u2 u1 u0 v1 v0 : Nat) (w : World) (h2 : u2 <= v1) (bI : u1 < 18446744073709551616) (bJ : u0 < 18446744073709551616) (aK : v1 < 18446744073709551616) (o7 : v0 < 18446744073709551616) (o8 : 0 < v1) :
  Calls Tryz.prog 179 #[.int .u64 (u2 : Int), .int .u64 (u1 : Int), .int .u64 (u0 : Int), .int .u64 (v1 : Int), .int .u64 (v0 : Int)] w (Jlh ((u2 * B64 + u1) * B64 + u0) (v1 * B64 + v0) w) := by
 obtain ⟨u, hu⟩ : ∃ u, u2 * B64 + u1 = u := ⟨_, rfl⟩
 rw [hu]
 have HU := lh hu
 clear hu
 by_cases bK : u2 = v1
 ·subst bK
  have e0 : ((u2 : Int) == (u2 : Int)) = true := by simp
  obtain ⟨S, hS⟩ : ∃ S, (u1 + u2) % 18446744073709551616 = S := ⟨_, rfl⟩
  obtain ⟨C, hC⟩ : ∃ C, (u1 + u2) / 18446744073709551616 = C := ⟨_, rfl⟩
  have o9 : ∀ w, (callFunc 164 #[.int .u64 (u1 : Int), .int .u64 (u2 : Int), .int .u64 0]).run Tryz.prog w = .ok (.value (.tuple #[.int .u64 (S : Int), .int .u64 (C : Int)])) w := fun w => by
   have := Yl u1 u2 0 (by omega) w
   rw [Nat.add_zero, hS, hC] at this
   exact this
  have s9 := Joj (β := B64) (v1 := u2) (v0 := v0) (u := u) (u0 := u0) u1 (by rw [<- HU.out, Nat.mul_comm]) (by decide)
  have o6 : u1 + u2 = S + B64 * C := by unfold B64; omega
  rw [o6] at s9
  have HGI := lh s9
  have p9 : S < 18446744073709551616 := by omega
  have q8 : C <= 1 := by omega
  clear hS hC s9 o6
  go_enter Tryz.func179, Tryz.ntmps179
  go_wp2_with fail
  clear o9 e0
  go_loop [11, 12, 13] (fun a b c => ∃ g r o : Nat, g < 18446744073709551616 /\ r < 18446744073709551616 /\ o <= 1 /\ a = .int .u64 (g : Int) /\ b = .int .u64 (r : Int) /\ c = .int .u64 (o : Int) /\ Hid (GI B64 u2 v0 u u0 g (r + B64 * o))) (fun a _ _ => (intOf a).toNat)
  case atStart => exact ⟨18446744073709551615, S, C, by omega, p9, q8, rfl, rfl, rfl, HGI⟩
  case round =>
   obtain ⟨g, r, o, j6, bL, bM, rfl, rfl, rfl, HG⟩ := hrel
   clear HGI
   by_cases ho : o = 0
   ·subst ho
    have j8 := Tryz.bits_Mul64 g v0 j6 o7
    obtain ⟨hi, t7⟩ : ∃ hi, g * v0 / 18446744073709551616 = hi := ⟨_, rfl⟩
    obtain ⟨lo', y8⟩ : ∃ lo', g * v0 % 18446744073709551616 = lo' := ⟨_, rfl⟩
    rw [t7, y8] at j8
    have HMUL := lh j8
    have e9 : g * v0 = hi * B64 + lo' := by unfold B64; omega
    have aL : lo' < 18446744073709551616 := by omega
    have aM : hi < 18446744073709551616 := by
     rw [<- t7, Nat.div_lt_iff_lt_mul (by omega)]
     exact Nat.mul_lt_mul'' j6 o7
    have hG := HG.out
    rw [Nat.mul_zero, Nat.add_zero] at hG
    have HG0 := lh hG
    clear j8 t7 y8 hG
    have j7 : (hi < r \/ (hi = r /\ lo' <= u0)) ↔ g * v0 <= r * B64 + u0 := by
     rw [e9]
     unfold B64
     constructor
     ·rintro (h | ⟨rfl, h⟩) <;> omega
     intro h
     by_cases h1 : hi < r
     ·exact .inl h1
     exact .inr ⟨by omega, by omega⟩
    have HTEST := lh j7
    have HPROD := lh e9
    clear j7 e9
    by_cases aN : hi < r
    ·have d1 : (hi : Int) < (r : Int) := by omega
     have p7 : Ul (u * B64 + u0) (u2 * B64 + v0) g := ⟨by unfold B64; exact j6, Uh HG0.out (by unfold B64; exact j6) (by unfold B64; exact o7) (.inr (HTEST.out.1 (.inl aN))), HG0.out.2⟩
     go_wp2_with fail
     refine (HMUL.out _).mono ?_
     rintro e w5 ⟨rfl, rfl⟩
     go_wp2
     go_ret
     exact ⟨g, 0, rfl, p7, rfl⟩
    have d1 : ¬ (hi : Int) < (r : Int) := by omega
    by_cases aO : hi = r
    ·subst aO
     have d2 : ((hi : Int) == (hi : Int)) = true := by simp
     by_cases aP : lo' <= u0
     ·have d3 : (lo' : Int) <= (u0 : Int) := by omega
      have p7 : Ul (u * B64 + u0) (u2 * B64 + v0) g := ⟨by unfold B64; exact j6, Uh HG0.out (by unfold B64; exact j6) (by unfold B64; exact o7) (.inr (HTEST.out.1 (.inr ⟨rfl, aP⟩))), HG0.out.2⟩
      go_wp2_with fail
      refine (HMUL.out _).mono ?_
      rintro e w5 ⟨rfl, rfl⟩
      go_wp2
      go_ret
      exact ⟨g, 0, rfl, p7, rfl⟩
     have d3 : ¬ (lo' : Int) <= (u0 : Int) := by omega
     have j9 : hi * B64 + u0 < g * v0 := by rw [HPROD.out]; omega
     have o0 : 0 < g := by
      rcases Nat.eq_zero_or_pos g with h0 | h0
      ·subst h0
       rw [Nat.zero_mul] at j9
       omega
      exact h0
     have e8 := Kj HG0.out (.inr j9) o0
     obtain ⟨S, hS⟩ : ∃ S, (hi + u2) % 18446744073709551616 = S := ⟨_, rfl⟩
     obtain ⟨C, hC⟩ : ∃ C, (hi + u2) / 18446744073709551616 = C := ⟨_, rfl⟩
     have o9 : ∀ w, (callFunc 164 #[.int .u64 (hi : Int), .int .u64 (u2 : Int), .int .u64 0]).run Tryz.prog w = .ok (.value (.tuple #[.int .u64 (S : Int), .int .u64 (C : Int)])) w := fun w => by
      have := Yl hi u2 0 (by omega) w
      rw [Nat.add_zero, hS, hC] at this
      exact this
     have o6 : hi + u2 = S + B64 * C := by unfold B64; omega
     rw [o6] at e8
     have p9 : S < 18446744073709551616 := by omega
     have q8 : C <= 1 := by omega
     have d5 : IntKind.u64.wrap ((g : Int) - 1) = ((g - 1 : Nat) : Int) := by rw [Jd _ (by omega) (by omega)]; omega
     obtain ⟨g', p8⟩ : ∃ g', g - 1 = g' := ⟨_, rfl⟩
     rw [p8] at d5 e8
     have aQ : g' < g := by omega
     have HDEC := lh e8
     clear hS hC o6 e8 p8 j9 o0
     go_wp2_with fail
     refine (HMUL.out _).mono ?_
     rintro e w5 ⟨rfl, rfl⟩
     go_wp2
     exact ⟨⟨g', S, C, by omega, p9, q8, rfl, rfl, rfl, HDEC⟩, by simp [intOf] <;> omega⟩
    have d2 : ((hi : Int) == (r : Int)) = false := by simp; omega
    have j9 : r * B64 + u0 < g * v0 := by rw [HPROD.out]; unfold B64; omega
    have o0 : 0 < g := by
     rcases Nat.eq_zero_or_pos g with h0 | h0
     ·subst h0
      rw [Nat.zero_mul] at j9
      omega
     exact h0
    have e8 := Kj HG0.out (.inr j9) o0
    obtain ⟨S, hS⟩ : ∃ S, (r + u2) % 18446744073709551616 = S := ⟨_, rfl⟩
    obtain ⟨C, hC⟩ : ∃ C, (r + u2) / 18446744073709551616 = C := ⟨_, rfl⟩
    have o9 : ∀ w, (callFunc 164 #[.int .u64 (r : Int), .int .u64 (u2 : Int), .int .u64 0]).run Tryz.prog w = .ok (.value (.tuple #[.int .u64 (S : Int), .int .u64 (C : Int)])) w := fun w => by
     have := Yl r u2 0 (by omega) w
     rw [Nat.add_zero, hS, hC] at this
     exact this
    have o6 : r + u2 = S + B64 * C := by unfold B64; omega
    rw [o6] at e8
    have p9 : S < 18446744073709551616 := by omega
    have q8 : C <= 1 := by omega
    have d5 : IntKind.u64.wrap ((g : Int) - 1) = ((g - 1 : Nat) : Int) := by rw [Jd _ (by omega) (by omega)]; omega
    obtain ⟨g', p8⟩ : ∃ g', g - 1 = g' := ⟨_, rfl⟩
    rw [p8] at d5 e8
    have aQ : g' < g := by omega
    have HDEC := lh e8
    clear hS hC o6 e8 p8 j9 o0
    go_wp2_with fail
    refine (HMUL.out _).mono ?_
    rintro e w5 ⟨rfl, rfl⟩
    go_wp2
    exact ⟨⟨g', S, C, by omega, p9, q8, rfl, rfl, rfl, HDEC⟩, by simp [intOf] <;> omega⟩
   have bN : ((o : Int) == 0) = false := by simp; omega
   have p7 : Ul (u * B64 + u0) (u2 * B64 + v0) g := ⟨by unfold B64; exact j6, Uh HG.out (by unfold B64; exact j6) (by unfold B64; exact o7) (.inl (by unfold B64; omega)), HG.out.2⟩
   go_wp2
   go_ret
   exact ⟨g, 0, rfl, p7, rfl⟩
 have e0 : ((u2 : Int) == (v1 : Int)) = false := by simp; omega
 have aY : u2 < v1 := by omega
 have j0 := Jek u2 u1 v1 w bI aK aY
 have s9 := Jgv (β := B64) (v1 := v1) (v0 := v0) (u := u) (u0 := u0) o8 (by unfold B64; exact bJ)
 have aR : u2 * 18446744073709551616 + u1 = u := by rw [<- HU.out]; rfl
 rw [aR] at j0
 obtain ⟨g0, o0⟩ : ∃ g0, u / v1 = g0 := ⟨_, rfl⟩
 obtain ⟨r0, aS⟩ : ∃ r0, u % v1 = r0 := ⟨_, rfl⟩
 rw [o0, aS] at j0 s9
 have bO : r0 < v1 := by rw [<- aS]; exact Nat.mod_lt _ o8
 have aT : g0 < 18446744073709551616 := by
  rw [<- o0, Nat.div_lt_iff_lt_mul o8, <- aR, Nat.mul_comm 18446744073709551616 v1]
  have h1 := Nat.mul_le_mul_right 18446744073709551616 (show u2 + 1 <= v1 from aY)
  omega
 have HDIV := lh j0
 have y9 : GI B64 v1 v0 u u0 g0 (r0 + B64 * 0) := by rw [Nat.mul_zero, Nat.add_zero]; exact s9
 have HGI := lh y9
 clear j0 s9 y9 o0 aS aR
 go_enter Tryz.func179, Tryz.ntmps179
 go_wp2_with fail
 refine HDIV.out.mono ?_
 rintro e w1 ⟨rfl, nn, rfl⟩
 clear HDIV
 go_wp2_with fail
 clear e0
 go_loop [11, 12, 13] (fun a b c => ∃ g r o : Nat, g < 18446744073709551616 /\ r < 18446744073709551616 /\ o <= 1 /\ a = .int .u64 (g : Int) /\ b = .int .u64 (r : Int) /\ c = .int .u64 (o : Int) /\ Hid (GI B64 v1 v0 u u0 g (r + B64 * o))) (fun a _ _ => (intOf a).toNat)
 case atStart => exact ⟨g0, r0, 0, aT, by omega, by omega, rfl, rfl, rfl, HGI⟩
 case round =>
  obtain ⟨g, r, o, j6, bL, bM, rfl, rfl, rfl, HG⟩ := hrel
  clear HGI
  by_cases ho : o = 0
  ·subst ho
   have j8 := Tryz.bits_Mul64 g v0 j6 o7
   obtain ⟨hi, t7⟩ : ∃ hi, g * v0 / 18446744073709551616 = hi := ⟨_, rfl⟩
   obtain ⟨lo', y8⟩ : ∃ lo', g * v0 % 18446744073709551616 = lo' := ⟨_, rfl⟩
   rw [t7, y8] at j8
   have HMUL := lh j8
   have e9 : g * v0 = hi * B64 + lo' := by unfold B64; omega
   have aL : lo' < 18446744073709551616 := by omega
   have aM : hi < 18446744073709551616 := by
    rw [<- t7, Nat.div_lt_iff_lt_mul (by omega)]
    exact Nat.mul_lt_mul'' j6 o7
   have hG := HG.out
   rw [Nat.mul_zero, Nat.add_zero] at hG
   have HG0 := lh hG
   clear j8 t7 y8 hG
   have j7 : (hi < r \/ (hi = r /\ lo' <= u0)) ↔ g * v0 <= r * B64 + u0 := by
    rw [e9]
    unfold B64
    constructor
    ·rintro (h | ⟨rfl, h⟩) <;> omega
    intro h
    by_cases h1 : hi < r
    ·exact .inl h1
    exact .inr ⟨by omega, by omega⟩
   have HTEST := lh j7
   have HPROD := lh e9
   clear j7 e9
   by_cases aN : hi < r
   ·have d1 : (hi : Int) < (r : Int) := by omega
    have p7 : Ul (u * B64 + u0) (v1 * B64 + v0) g := ⟨by unfold B64; exact j6, Uh HG0.out (by unfold B64; exact j6) (by unfold B64; exact o7) (.inr (HTEST.out.1 (.inl aN))), HG0.out.2⟩
    go_wp2_with fail
    refine (HMUL.out _).mono ?_
    rintro e w5 ⟨rfl, rfl⟩
    go_wp2
    go_ret
    exact ⟨g, nn, rfl, p7, rfl⟩
   have d1 : ¬ (hi : Int) < (r : Int) := by omega
   by_cases aO : hi = r
   ·subst aO
    have d2 : ((hi : Int) == (hi : Int)) = true := by simp
    by_cases aP : lo' <= u0
    ·have d3 : (lo' : Int) <= (u0 : Int) := by omega
     have p7 : Ul (u * B64 + u0) (v1 * B64 + v0) g := ⟨by unfold B64; exact j6, Uh HG0.out (by unfold B64; exact j6) (by unfold B64; exact o7) (.inr (HTEST.out.1 (.inr ⟨rfl, aP⟩))), HG0.out.2⟩
     go_wp2_with fail
     refine (HMUL.out _).mono ?_
     rintro e w5 ⟨rfl, rfl⟩
     go_wp2
     go_ret
     exact ⟨g, nn, rfl, p7, rfl⟩
    have d3 : ¬ (lo' : Int) <= (u0 : Int) := by omega
    have j9 : hi * B64 + u0 < g * v0 := by rw [HPROD.out]; omega
    have o0 : 0 < g := by
     rcases Nat.eq_zero_or_pos g with h0 | h0
     ·subst h0
      rw [Nat.zero_mul] at j9
      omega
     exact h0
    have e8 := Kj HG0.out (.inr j9) o0
    obtain ⟨S, hS⟩ : ∃ S, (hi + v1) % 18446744073709551616 = S := ⟨_, rfl⟩
    obtain ⟨C, hC⟩ : ∃ C, (hi + v1) / 18446744073709551616 = C := ⟨_, rfl⟩
    have o9 : ∀ w, (callFunc 164 #[.int .u64 (hi : Int), .int .u64 (v1 : Int), .int .u64 0]).run Tryz.prog w = .ok (.value (.tuple #[.int .u64 (S : Int), .int .u64 (C : Int)])) w := fun w => by
     have := Yl hi v1 0 (by omega) w
     rw [Nat.add_zero, hS, hC] at this
     exact this
    have o6 : hi + v1 = S + B64 * C := by unfold B64; omega
    rw [o6] at e8
    have p9 : S < 18446744073709551616 := by omega
    have q8 : C <= 1 := by omega
    have d5 : IntKind.u64.wrap ((g : Int) - 1) = ((g - 1 : Nat) : Int) := by rw [Jd _ (by omega) (by omega)]; omega
    obtain ⟨g', p8⟩ : ∃ g', g - 1 = g' := ⟨_, rfl⟩
    rw [p8] at d5 e8
    have aQ : g' < g := by omega
    have HDEC := lh e8
    clear hS hC o6 e8 p8 j9 o0
    go_wp2_with fail
    refine (HMUL.out _).mono ?_
    rintro e w5 ⟨rfl, rfl⟩
    go_wp2
    exact ⟨⟨g', S, C, by omega, p9, q8, rfl, rfl, rfl, HDEC⟩, by simp [intOf] <;> omega⟩
   have d2 : ((hi : Int) == (r : Int)) = false := by simp; omega
   have j9 : r * B64 + u0 < g * v0 := by rw [HPROD.out]; unfold B64; omega
   have o0 : 0 < g := by
    rcases Nat.eq_zero_or_pos g with h0 | h0
    ·subst h0
     rw [Nat.zero_mul] at j9
     omega
    exact h0
   have e8 := Kj HG0.out (.inr j9) o0
   obtain ⟨S, hS⟩ : ∃ S, (r + v1) % 18446744073709551616 = S := ⟨_, rfl⟩
   obtain ⟨C, hC⟩ : ∃ C, (r + v1) / 18446744073709551616 = C := ⟨_, rfl⟩
   have o9 : ∀ w, (callFunc 164 #[.int .u64 (r : Int), .int .u64 (v1 : Int), .int .u64 0]).run Tryz.prog w = .ok (.value (.tuple #[.int .u64 (S : Int), .int .u64 (C : Int)])) w := fun w => by
    have := Yl r v1 0 (by omega) w
    rw [Nat.add_zero, hS, hC] at this
    exact this
   have o6 : r + v1 = S + B64 * C := by unfold B64; omega
   rw [o6] at e8
   have p9 : S < 18446744073709551616 := by omega
   have q8 : C <= 1 := by omega
   have d5 : IntKind.u64.wrap ((g : Int) - 1) = ((g - 1 : Nat) : Int) := by rw [Jd _ (by omega) (by omega)]; omega
   obtain ⟨g', p8⟩ : ∃ g', g - 1 = g' := ⟨_, rfl⟩
   rw [p8] at d5 e8
   have aQ : g' < g := by omega
   have HDEC := lh e8
   clear hS hC o6 e8 p8 j9 o0
   go_wp2_with fail
   refine (HMUL.out _).mono ?_
   rintro e w5 ⟨rfl, rfl⟩
   go_wp2
   exact ⟨⟨g', S, C, by omega, p9, q8, rfl, rfl, rfl, HDEC⟩, by simp [intOf] <;> omega⟩
  have bN : ((o : Int) == 0) = false := by simp; omega
  have p7 : Ul (u * B64 + u0) (v1 * B64 + v0) g := ⟨by unfold B64; exact j6, Uh HG.out (by unfold B64; exact j6) (by unfold B64; exact o7) (.inl (by unfold B64; omega)), HG.out.2⟩
  go_wp2
  go_ret
  exact ⟨g, nn, rfl, p7, rfl⟩
def Kv (T D : Nat) : Nat := min (B64 - 1) (T / D)
theorem Jgu {T D g : Nat} (hD : 0 < D) (h : Ul T D g) : g = Kv T D := by
 obtain ⟨h1, h2, h3⟩ := h
 unfold Kv
 have h4 : g <= T / D := (Nat.le_div_iff_mul_le hD).2 h2
 by_cases h5 : g + 1 < B64
 ·have h6 := h3 h5
  have h7 : T / D < g + 1 := (Nat.div_lt_iff_lt_mul hD).2 h6
  omega
 omega
theorem Jfo {T D : Nat} (hD : 0 < D) : Kv T D < B64 /\ Kv T D * D <= T /\ (Kv T D + 1 < B64 -> T < (Kv T D + 1) * D) := by
 have hB : 0 < B64 := by decide
 unfold Kv
 refine ⟨by omega, ?_, fun h => ?_⟩
 ·have h1 : min (B64 - 1) (T / D) <= T / D := Nat.min_le_right _ _
  exact (Nat.le_div_iff_mul_le hD).1 h1
 have h1 : min (B64 - 1) (T / D) = T / D := by omega
 rw [h1]
 have := Nat.lt_div_mul_add (a := T) hD
 rw [Nat.add_mul]
 omega
theorem Jjf {lu lv : List Nat} {j n u2 u1 u0 v1 v0 : Nat} (aZ : Dig B64 lu) (aU : Dig B64 lv) (bP : lv.length = n) (hn : 2 <= n) (h2 : lu[j + n]? = some u2) (h1 : lu[j + n - 1]? = some u1) (h0 : lu[j + n - 2]? = some u0)
  (aK : lv[n - 1]? = some v1) (o7 : lv[n - 2]? = some v0) (o8 : 0 < v1) (hX : dv B64 lu < dv B64 lv * B64 ^ (j + 1)) :
  u2 <= v1 /\ dv B64 lu / (dv B64 lv * B64 ^ j) <= Kv ((u2 * B64 + u1) * B64 + u0) (v1 * B64 + v0) /\ Kv ((u2 * B64 + u1) * B64 + u0) (v1 * B64 + v0) <= dv B64 lu / (dv B64 lv * B64 ^ j) + 1 := by
 have hB : 0 < B64 := by decide
 have aA := Xm aU
 rw [bP] at aA
 have aV : dv B64 lu < B64 ^ (j + n + 1) := by
  refine Nat.lt_trans hX ?_
  have e : B64 ^ (j + n + 1) = B64 ^ n * B64 ^ (j + 1) := by rw [<- Nat.pow_add]; congr 1; omega
  rw [e]
  exact Nat.mul_lt_mul_of_pos_right aA (Nat.pow_pos hB)
 have aW := Km aZ hB aV
 have hT : dv B64 lu / B64 ^ (j + n - 2) = (u2 * B64 + u1) * B64 + u0 := by
  rw [Yr aZ hB, Qb h0, show j + n - 2 + 1 = j + n - 1 from by omega, Qb h1, show j + n - 1 + 1 = j + n from by omega, Qb h2, aW]
  rw [Nat.mul_zero, Nat.add_zero, Nat.add_mul, Nat.mul_add, Nat.mul_comm u1, Nat.mul_comm (u2 * B64), Nat.mul_comm u2]
  omega
 have hD : dv B64 lv / B64 ^ (n - 2) = v1 * B64 + v0 := by
  rw [Yr aU hB, Qb o7, show n - 2 + 1 = n - 1 from by omega, Qb aK, Xe (by omega), Nat.mul_zero, Nat.add_zero, Nat.mul_comm]
  omega
 have bQ : 0 < v1 * B64 + v0 := by
  have := Nat.mul_pos o8 hB
  omega
 obtain ⟨g1, g2, g3⟩ := Jfo (T := (u2 * B64 + u1) * B64 + u0) bQ
 have hP : B64 ^ (j + n - 2) = B64 ^ (n - 2) * B64 ^ j := by rw [<- Nat.pow_add]; congr 1; omega
 have bA : dv B64 lu / B64 ^ j < B64 * dv B64 lv := by
  rw [Nat.div_lt_iff_lt_mul (Nat.pow_pos hB), Nat.mul_comm B64, Nat.mul_assoc, Nat.mul_comm B64, <- Nat.pow_succ]
  exact hX
 have bB : dv B64 lu / B64 ^ j / B64 ^ (n - 2) = (u2 * B64 + u1) * B64 + u0 := by
  rw [Nat.div_div_eq_div_mul, Nat.mul_comm, <- hP]
  exact hT
 have bR : B64 <= v1 * B64 + v0 + 1 := by
  have := Nat.mul_le_mul_right B64 o8
  omega
 have aB := Jic (β := B64) (Nat.pow_pos hB) bB hD bA bR g1 g2 g3
 rw [Nat.div_div_eq_div_mul, Nat.mul_comm (B64 ^ j)] at aB
 refine ⟨?_, aB⟩
 have h4 : (u2 * B64 + u1) * B64 + u0 < B64 * (v1 * B64 + v0 + 1) := by
  rw [<- bB, <- hD, Nat.div_lt_iff_lt_mul (Nat.pow_pos hB)]
  refine Nat.lt_of_lt_of_le bA ?_
  rw [Nat.mul_assoc]
  refine Nat.mul_le_mul_left _ ?_
  rw [Nat.add_mul, Nat.one_mul]
  have := Nat.lt_div_mul_add (a := dv B64 lv) (Nat.pow_pos (n := n - 2) hB)
  exact Nat.le_of_lt this
 rcases Nat.lt_or_ge v1 u2 with h5 | h5
 ·exfalso
  have bS := aU.get o7
  have h6 : B64 * (v1 * B64 + v0 + 1) <= B64 * (B64 * u2) := by
   refine Nat.mul_le_mul_left _ ?_
   have h7 := Nat.mul_le_mul_left B64 h5
   rw [Nat.mul_succ, Nat.mul_comm B64 v1] at h7
   omega
  have h8 : B64 * (B64 * u2) = u2 * B64 * B64 := by rw [Nat.mul_comm, Nat.mul_comm B64 u2]
  rw [h8] at h6
  rw [Nat.add_mul] at h4
  omega
 exact h5
