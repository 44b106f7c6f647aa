import Derived.Test.YtecnjlcfoobepaaGreatDoorDiv64
import Derived.Test.YtecnjlcfoobepaaGreatDoorOctet
namespace Go.Proofs.YtecnjlcfoobepaaGreatDoor
set_option maxRecDepth 100000
set_option maxHeartbeats 1000000
open Go.RowKit
set_option linter.unusedSimpArgs false
set_option linter.unusedVariables false
def B64 : Nat := 18446744073709551616
theorem div_step {l : List Nat} {k x q r r' d X : Nat} (hx : l[k]? = some x) (hq : r * B64 + x = d * q + r') (he : X = d * dv B64 (l.drop (k + 1)) * B64 ^ (k + 1) + r * B64 ^ (k + 1) + dv B64 (l.take (k + 1))) :
  X = d * dv B64 ((l.set k q).drop k) * B64 ^ k + r' * B64 ^ k + dv B64 ((l.set k q).take k) := by
 have hk : k < l.length := (List.getElem?_eq_some_iff.1 hx).1
 have e1 : (l.set k q).drop k = q :: l.drop (k + 1) := by
  rw [List.drop_eq_getElem_cons (by rw [List.length_set]; exact hk), List.getElem_set_self, List.drop_set_of_lt (by omega)]
 have e2 : (l.set k q).take k = l.take k := List.take_set_of_le (by omega)
 rw [e1, e2, dv_cons, he, dv_take_succ hx]
 have h2 := congrArg (· * B64 ^ k) hq
 simp only [Nat.add_mul] at h2
 rw [Nat.pow_succ, Nat.mul_add, Nat.add_mul]
 have e3 : d * dv B64 (l.drop (k + 1)) * (B64 ^ k * B64) = d * (B64 * dv B64 (l.drop (k + 1))) * B64 ^ k := by
  rw [Nat.mul_comm (B64 ^ k) B64, <- Nat.mul_assoc, Nat.mul_assoc d, Nat.mul_comm (dv B64 _) B64]
 have e4 : r * (B64 ^ k * B64) = r * B64 * B64 ^ k := by rw [Nat.mul_comm (B64 ^ k), Nat.mul_assoc]
 rw [e3, e4]
 omega
def DwRel (w : World) (g c p d X k r : Nat) (wr : World) : Prop :=
 ∃ l : List Nat, l.length = p /\ Own wr 50 u64v (.slice (some ⟨g, 0, none⟩) l.length c) l /\ Dig B64 l /\ X = d * dv B64 (l.drop k) * B64 ^ k + r * B64 ^ k + dv B64 (l.take k) /\ Exc g w wr
def DwPost (w : World) (g N d : Nat) (e : Ending) (w' : World) : Prop :=
 ∃ (n c : Nat) (q : List Nat), e = .returned (.tuple #[.slice (some ⟨g, 0, none⟩) n c, .int .u64 ((N % d : Nat) : Int)]) /\ Reads w' w'.heap.size 1 (some ⟨g, 0, none⟩) n (q.map u64v) /\ Dig B64 q /\ dv B64 q = N / d /\ n <= c /\ n <= 17179869185 /\ Exc g w w'
theorem nat_divWord (g c d : Nat) (lX : List Nat) (w : World) (ho : Own w 50 u64v (.slice (some ⟨g, 0, none⟩) lX.length c) lX) (hd : Dig B64 lX) (hp : lX.length <= 17179869185) (hd0 : 0 < d) (hdb : d < 18446744073709551616) :
  Calls Tryz.prog 142 #[.slice (some ⟨g, 0, none⟩) lX.length c, .int .u64 (d : Int)] w (DwPost w g (dv B64 lX) d) := by
 obtain ⟨p, hpp⟩ : ∃ p, lX.length = p := ⟨_, rfl⟩
 have hcp : p <= c := by
  obtain ⟨A, c', hv, h1, _⟩ := ho.form
  injection hv with _ _ hv
  omega
 rw [hpp] at hp ⊢
 have HP := lh hpp
 go_enter Tryz.func142, Tryz.ntmps142
 clear hpp
 go_wp2_with fail
 go_loopw [6, 7] (fun r i wr => ∃ k r' : Nat, k <= p /\ r' < d /\ i = .int .i64 ((k : Int) - 1) /\ r = .int .u64 (r' : Int) /\ DwRel w g c p d (dv B64 lX) k r' wr) (fun _ i _ => (intOf i + 1).toNat)
 case atStart =>
  refine ⟨p, 0, Nat.le_refl _, hd0, rfl, rfl, lX, HP.out, ho, hd, ?_, Exc.refl _ _⟩
  rw [dv_drop_out (by rw [HP.out]; omega), dv_take_out (by rw [HP.out]; omega)]
  simp
 case round =>
  obtain ⟨k, r, hk, hr, rfl, rfl, l, hl, hol, hdl, hX, hx⟩ := hrel
  clear ho
  have HL := lh (And.intro hl hX)
  clear hl hX
  by_cases hk0 : k = 0
  ·subst hk0
   have hX := HL.out.2
   rw [Nat.pow_zero, Nat.mul_one, Nat.mul_one, List.drop_zero, List.take_zero, dv_nil, Nat.add_zero] at hX
   have hq : dv B64 lX / d = dv B64 l := by rw [hX, Nat.mul_comm, Nat.add_comm, Nat.add_mul_div_right _ _ hd0, Nat.div_eq_of_lt hr, Nat.zero_add]
   have hm : dv B64 lX % d = r := by rw [hX, Nat.mul_add_mod, Nat.mod_eq_of_lt hr]
   have hrd := Own.reads hol
   rw [HL.out.1] at hrd
   have HQ := lh (And.intro hq hm)
   clear hX hq hm
   go_wp2_with fail
   refine (nat_trim _ p c _ l wr hrd (by omega) hcp).mono ?_
   rintro e w1 ⟨rfl, rfl⟩
   go_wp2
   go_ret2
   have hlen := trimL_len l
   rw [HL.out.1] at hlen
   have hrt := Reads.front hrd (k := (trimL l).length) hlen
   rw [Nat.mul_one, <- List.map_take, <- trimL_take] at hrt
   refine ⟨_, c, trimL l, ?_, hrt, hdl.trimL, ?_, by omega, by omega, hx⟩
   ·rw [HQ.out.2]; rfl
   rw [trimL_dv, HQ.out.1]
  obtain ⟨j, rfl⟩ : ∃ j, k = j + 1 := ⟨k - 1, by omega⟩
  obtain ⟨x, hx1⟩ : ∃ x, l[j]? = some x := ⟨_, List.getElem?_eq_getElem (by rw [HL.out.1]; omega)⟩
  have hxl := hdl.get hx1
  have hcx := hol.cellf hx1
  have hfx := hol.frozenf j
  have hdiv := bits_Div64 r x d
  obtain ⟨q, hq⟩ : ∃ q, (r * 18446744073709551616 + x) / d = q := ⟨_, rfl⟩
  obtain ⟨r', hr'⟩ : ∃ r', (r * 18446744073709551616 + x) % d = r' := ⟨_, rfl⟩
  rw [hq, hr'] at hdiv
  have hr'l : r' < d := by rw [<- hr']; exact Nat.mod_lt _ hd0
  have hql : q < B64 := by
   rw [<- hq, Nat.div_lt_iff_lt_mul hd0]
   unfold B64 at hxl ⊢
   have h1 := Nat.mul_le_mul_right 18446744073709551616 (show r + 1 <= d from hr)
   rw [Nat.mul_comm d] at h1
   omega
  have hkey : r * B64 + x = d * q + r' := by
   rw [<- hq, <- hr']
   exact (Nat.div_add_mod _ d).symm
  have hnew := div_step hx1 hkey HL.out.2
  have hst := hol.store j q
  have hfin : ∀ n, DwRel w g c p d (dv B64 lX) j r' ((wr.drewN n).setCell ⟨g, j, none⟩ (u64v q)) := fun n => by
   refine ⟨l.set j q, by rw [List.length_set]; exact HL.out.1, ?_, hdl.set_ j hql, hnew, ?_⟩
   ·rw [List.length_set]
    exact (Own.drewN hol n).store j q
   exact Exc.set_ (⟨hx.os, hx.tape, hx.output, hx.size, hx.block⟩ : Exc g w (wr.drewN n)) j _
  have HFIN := lh hfin
  have HD := lh hdiv
  unfold u64v at hcx
  unfold B64 at hxl
  have k1 : (((j + 1 : Nat) : Int) - 1) = (j : Int) := by omega
  have k2 : (j : Int) < (p : Int) := by omega
  rw [k1]
  clear hq hr' hkey hnew hst hfin hdiv hx1 hol hdl hx k1
  go_wp2_with fail
  refine (HD.out wr hxl hdb hr).mono ?_
  rintro e w1 ⟨rfl, n, rfl⟩
  go_wp2
  exact ⟨⟨j, r', by omega, hr'l, by go_num, rfl, HFIN.out n⟩, by simp [intOf] <;> omega⟩
def GuessOK (T D g : Nat) : Prop := g < B64 /\ g * D <= T /\ (g + 1 < B64 -> T < (g + 1) * D)
def GuessPost (T D : Nat) (w : World) (e : Ending) (w' : World) : Prop := ∃ g n : Nat, e = .returned (.int .u64 (g : Int)) /\ GuessOK T D g /\ w' = w.drewN n
theorem nat_guessWord (u2 u1 u0 v1 v0 : Nat) (w : World) (h2 : u2 <= v1) (hu1 : u1 < 18446744073709551616) (hu0 : u0 < 18446744073709551616) (hv1 : v1 < 18446744073709551616) (hv0 : v0 < 18446744073709551616) (hpos : 0 < v1) :
  Calls Tryz.prog 165 #[.int .u64 (u2 : Int), .int .u64 (u1 : Int), .int .u64 (u0 : Int), .int .u64 (v1 : Int), .int .u64 (v0 : Int)] w (GuessPost ((u2 * B64 + u1) * B64 + u0) (v1 * B64 + v0) w) := by
 obtain ⟨u, hu⟩ : ∃ u, u2 * B64 + u1 = u := ⟨_, rfl⟩
 rw [hu]
 have HU := lh hu
 clear hu
 by_cases heq : u2 = v1
 ·subst heq
  have e0 : ((u2 : Int) == (u2 : Int)) = true := by simp
  obtain ⟨S, hS⟩ : ∃ S, (u1 + u2) % 18446744073709551616 = S := ⟨_, rfl⟩
  obtain ⟨C, hC⟩ : ∃ C, (u1 + u2) / 18446744073709551616 = C := ⟨_, rfl⟩
  have hadd : ∀ w, (callFunc 155 #[.int .u64 (u1 : Int), .int .u64 (u2 : Int), .int .u64 0]).run Tryz.prog w = .ok (.value (.tuple #[.int .u64 (S : Int), .int .u64 (C : Int)])) w := fun w => by
   have := run_add u1 u2 0 (by omega) w
   rw [Nat.add_zero, hS, hC] at this
   exact this
  have hgi := gi_max (β := B64) (v1 := u2) (v0 := v0) (u := u) (u0 := u0) u1 (by rw [<- HU.out, Nat.mul_comm]) (by decide)
  have hSC : u1 + u2 = S + B64 * C := by unfold B64; omega
  rw [hSC] at hgi
  have HGI := lh hgi
  have hSl : S < 18446744073709551616 := by omega
  have hC1 : C <= 1 := by omega
  clear hS hC hgi hSC
  go_enter Tryz.func165, Tryz.ntmps165
  go_wp2_with fail
  clear hadd e0
  go_loop [11, 12, 13] (fun a b c => ∃ g r o : Nat, g < 18446744073709551616 /\ r < 18446744073709551616 /\ o <= 1 /\ a = .int .u64 (g : Int) /\ b = .int .u64 (r : Int) /\ c = .int .u64 (o : Int) /\ Hid (GI B64 u2 v0 u u0 g (r + B64 * o))) (fun a _ _ => (intOf a).toNat)
  case atStart => exact ⟨18446744073709551615, S, C, by omega, hSl, hC1, rfl, rfl, rfl, HGI⟩
  case round =>
   obtain ⟨g, r, o, hgb, hrb, hob, rfl, rfl, rfl, HG⟩ := hrel
   clear HGI
   by_cases ho : o = 0
   ·subst ho
    have hmul := Tryz.bits_Mul64 g v0 hgb hv0
    obtain ⟨hi, hhi⟩ : ∃ hi, g * v0 / 18446744073709551616 = hi := ⟨_, rfl⟩
    obtain ⟨lo', hlo⟩ : ∃ lo', g * v0 % 18446744073709551616 = lo' := ⟨_, rfl⟩
    rw [hhi, hlo] at hmul
    have HMUL := lh hmul
    have hprod : g * v0 = hi * B64 + lo' := by unfold B64; omega
    have hlol : lo' < 18446744073709551616 := by omega
    have hhil : hi < 18446744073709551616 := by
     rw [<- hhi, Nat.div_lt_iff_lt_mul (by omega)]
     exact Nat.mul_lt_mul'' hgb hv0
    have hG := HG.out
    rw [Nat.mul_zero, Nat.add_zero] at hG
    have HG0 := lh hG
    clear hmul hhi hlo hG
    have htest : (hi < r \/ (hi = r /\ lo' <= u0)) ↔ g * v0 <= r * B64 + u0 := by
     rw [hprod]
     unfold B64
     constructor
     ·rintro (h | ⟨rfl, h⟩) <;> omega
     intro h
     by_cases h1 : hi < r
     ·exact .inl h1
     exact .inr ⟨by omega, by omega⟩
    have HTEST := lh htest
    have HPROD := lh hprod
    clear htest hprod
    by_cases hb1 : hi < r
    ·have d1 : (hi : Int) < (r : Int) := by omega
     have hok : GuessOK (u * B64 + u0) (u2 * B64 + v0) g := ⟨by unfold B64; exact hgb, gi_done HG0.out (by unfold B64; exact hgb) (by unfold B64; exact hv0) (.inr (HTEST.out.1 (.inl hb1))), HG0.out.2⟩
     go_wp2_with fail
     refine (HMUL.out _).mono ?_
     rintro e w5 ⟨rfl, rfl⟩
     go_wp2
     go_ret
     exact ⟨g, 0, rfl, hok, rfl⟩
    have d1 : ¬ (hi : Int) < (r : Int) := by omega
    by_cases hb2 : hi = r
    ·subst hb2
     have d2 : ((hi : Int) == (hi : Int)) = true := by simp
     by_cases hb3 : lo' <= u0
     ·have d3 : (lo' : Int) <= (u0 : Int) := by omega
      have hok : GuessOK (u * B64 + u0) (u2 * B64 + v0) g := ⟨by unfold B64; exact hgb, gi_done HG0.out (by unfold B64; exact hgb) (by unfold B64; exact hv0) (.inr (HTEST.out.1 (.inr ⟨rfl, hb3⟩))), HG0.out.2⟩
      go_wp2_with fail
      refine (HMUL.out _).mono ?_
      rintro e w5 ⟨rfl, rfl⟩
      go_wp2
      go_ret
      exact ⟨g, 0, rfl, hok, rfl⟩
     have d3 : ¬ (lo' : Int) <= (u0 : Int) := by omega
     have hgt : hi * B64 + u0 < g * v0 := by rw [HPROD.out]; omega
     have hg0 : 0 < g := by
      rcases Nat.eq_zero_or_pos g with h0 | h0
      ·subst h0
       rw [Nat.zero_mul] at hgt
       omega
      exact h0
     have hdec := gi_dec HG0.out (.inr hgt) hg0
     obtain ⟨S, hS⟩ : ∃ S, (hi + u2) % 18446744073709551616 = S := ⟨_, rfl⟩
     obtain ⟨C, hC⟩ : ∃ C, (hi + u2) / 18446744073709551616 = C := ⟨_, rfl⟩
     have hadd : ∀ w, (callFunc 155 #[.int .u64 (hi : Int), .int .u64 (u2 : Int), .int .u64 0]).run Tryz.prog w = .ok (.value (.tuple #[.int .u64 (S : Int), .int .u64 (C : Int)])) w := fun w => by
      have := run_add hi u2 0 (by omega) w
      rw [Nat.add_zero, hS, hC] at this
      exact this
     have hSC : hi + u2 = S + B64 * C := by unfold B64; omega
     rw [hSC] at hdec
     have hSl : S < 18446744073709551616 := by omega
     have hC1 : C <= 1 := by omega
     have d5 : IntKind.u64.wrap ((g : Int) - 1) = ((g - 1 : Nat) : Int) := by rw [wrap_u64_of _ (by omega) (by omega)]; omega
     obtain ⟨g', hg'⟩ : ∃ g', g - 1 = g' := ⟨_, rfl⟩
     rw [hg'] at d5 hdec
     have hgg : g' < g := by omega
     have HDEC := lh hdec
     clear hS hC hSC hdec hg' hgt hg0
     go_wp2_with fail
     refine (HMUL.out _).mono ?_
     rintro e w5 ⟨rfl, rfl⟩
     go_wp2
     exact ⟨⟨g', S, C, by omega, hSl, hC1, rfl, rfl, rfl, HDEC⟩, by simp [intOf] <;> omega⟩
    have d2 : ((hi : Int) == (r : Int)) = false := by simp; omega
    have hgt : r * B64 + u0 < g * v0 := by rw [HPROD.out]; unfold B64; omega
    have hg0 : 0 < g := by
     rcases Nat.eq_zero_or_pos g with h0 | h0
     ·subst h0
      rw [Nat.zero_mul] at hgt
      omega
     exact h0
    have hdec := gi_dec HG0.out (.inr hgt) hg0
    obtain ⟨S, hS⟩ : ∃ S, (r + u2) % 18446744073709551616 = S := ⟨_, rfl⟩
    obtain ⟨C, hC⟩ : ∃ C, (r + u2) / 18446744073709551616 = C := ⟨_, rfl⟩
    have hadd : ∀ w, (callFunc 155 #[.int .u64 (r : Int), .int .u64 (u2 : Int), .int .u64 0]).run Tryz.prog w = .ok (.value (.tuple #[.int .u64 (S : Int), .int .u64 (C : Int)])) w := fun w => by
     have := run_add r u2 0 (by omega) w
     rw [Nat.add_zero, hS, hC] at this
     exact this
    have hSC : r + u2 = S + B64 * C := by unfold B64; omega
    rw [hSC] at hdec
    have hSl : S < 18446744073709551616 := by omega
    have hC1 : C <= 1 := by omega
    have d5 : IntKind.u64.wrap ((g : Int) - 1) = ((g - 1 : Nat) : Int) := by rw [wrap_u64_of _ (by omega) (by omega)]; omega
    obtain ⟨g', hg'⟩ : ∃ g', g - 1 = g' := ⟨_, rfl⟩
    rw [hg'] at d5 hdec
    have hgg : g' < g := by omega
    have HDEC := lh hdec
    clear hS hC hSC hdec hg' hgt hg0
    go_wp2_with fail
    refine (HMUL.out _).mono ?_
    rintro e w5 ⟨rfl, rfl⟩
    go_wp2
    exact ⟨⟨g', S, C, by omega, hSl, hC1, rfl, rfl, rfl, HDEC⟩, by simp [intOf] <;> omega⟩
   have hb0 : ((o : Int) == 0) = false := by simp; omega
   have hok : GuessOK (u * B64 + u0) (u2 * B64 + v0) g := ⟨by unfold B64; exact hgb, gi_done HG.out (by unfold B64; exact hgb) (by unfold B64; exact hv0) (.inl (by unfold B64; omega)), HG.out.2⟩
   go_wp2
   go_ret
   exact ⟨g, 0, rfl, hok, rfl⟩
 have e0 : ((u2 : Int) == (v1 : Int)) = false := by simp; omega
 have hlt : u2 < v1 := by omega
 have hdiv := bits_Div64 u2 u1 v1 w hu1 hv1 hlt
 have hgi := gi_div (β := B64) (v1 := v1) (v0 := v0) (u := u) (u0 := u0) hpos (by unfold B64; exact hu0)
 have hu' : u2 * 18446744073709551616 + u1 = u := by rw [<- HU.out]; rfl
 rw [hu'] at hdiv
 obtain ⟨g0, hg0⟩ : ∃ g0, u / v1 = g0 := ⟨_, rfl⟩
 obtain ⟨r0, hr0⟩ : ∃ r0, u % v1 = r0 := ⟨_, rfl⟩
 rw [hg0, hr0] at hdiv hgi
 have hr0l : r0 < v1 := by rw [<- hr0]; exact Nat.mod_lt _ hpos
 have hg0l : g0 < 18446744073709551616 := by
  rw [<- hg0, Nat.div_lt_iff_lt_mul hpos, <- hu', Nat.mul_comm 18446744073709551616 v1]
  have h1 := Nat.mul_le_mul_right 18446744073709551616 (show u2 + 1 <= v1 from hlt)
  omega
 have HDIV := lh hdiv
 have hgi2 : GI B64 v1 v0 u u0 g0 (r0 + B64 * 0) := by rw [Nat.mul_zero, Nat.add_zero]; exact hgi
 have HGI := lh hgi2
 clear hdiv hgi hgi2 hg0 hr0 hu'
 go_enter Tryz.func165, Tryz.ntmps165
 go_wp2_with fail
 refine HDIV.out.mono ?_
 rintro e w1 ⟨rfl, nn, rfl⟩
 clear HDIV
 go_wp2_with fail
 clear e0
 go_loop [11, 12, 13] (fun a b c => ∃ g r o : Nat, g < 18446744073709551616 /\ r < 18446744073709551616 /\ o <= 1 /\ a = .int .u64 (g : Int) /\ b = .int .u64 (r : Int) /\ c = .int .u64 (o : Int) /\ Hid (GI B64 v1 v0 u u0 g (r + B64 * o))) (fun a _ _ => (intOf a).toNat)
 case atStart => exact ⟨g0, r0, 0, hg0l, by omega, by omega, rfl, rfl, rfl, HGI⟩
 case round =>
  obtain ⟨g, r, o, hgb, hrb, hob, rfl, rfl, rfl, HG⟩ := hrel
  clear HGI
  by_cases ho : o = 0
  ·subst ho
   have hmul := Tryz.bits_Mul64 g v0 hgb hv0
   obtain ⟨hi, hhi⟩ : ∃ hi, g * v0 / 18446744073709551616 = hi := ⟨_, rfl⟩
   obtain ⟨lo', hlo⟩ : ∃ lo', g * v0 % 18446744073709551616 = lo' := ⟨_, rfl⟩
   rw [hhi, hlo] at hmul
   have HMUL := lh hmul
   have hprod : g * v0 = hi * B64 + lo' := by unfold B64; omega
   have hlol : lo' < 18446744073709551616 := by omega
   have hhil : hi < 18446744073709551616 := by
    rw [<- hhi, Nat.div_lt_iff_lt_mul (by omega)]
    exact Nat.mul_lt_mul'' hgb hv0
   have hG := HG.out
   rw [Nat.mul_zero, Nat.add_zero] at hG
   have HG0 := lh hG
   clear hmul hhi hlo hG
   have htest : (hi < r \/ (hi = r /\ lo' <= u0)) ↔ g * v0 <= r * B64 + u0 := by
    rw [hprod]
    unfold B64
    constructor
    ·rintro (h | ⟨rfl, h⟩) <;> omega
    intro h
    by_cases h1 : hi < r
    ·exact .inl h1
    exact .inr ⟨by omega, by omega⟩
   have HTEST := lh htest
   have HPROD := lh hprod
   clear htest hprod
   by_cases hb1 : hi < r
   ·have d1 : (hi : Int) < (r : Int) := by omega
    have hok : GuessOK (u * B64 + u0) (v1 * B64 + v0) g := ⟨by unfold B64; exact hgb, gi_done HG0.out (by unfold B64; exact hgb) (by unfold B64; exact hv0) (.inr (HTEST.out.1 (.inl hb1))), HG0.out.2⟩
    go_wp2_with fail
    refine (HMUL.out _).mono ?_
    rintro e w5 ⟨rfl, rfl⟩
    go_wp2
    go_ret
    exact ⟨g, nn, rfl, hok, rfl⟩
   have d1 : ¬ (hi : Int) < (r : Int) := by omega
   by_cases hb2 : hi = r
   ·subst hb2
    have d2 : ((hi : Int) == (hi : Int)) = true := by simp
    by_cases hb3 : lo' <= u0
    ·have d3 : (lo' : Int) <= (u0 : Int) := by omega
     have hok : GuessOK (u * B64 + u0) (v1 * B64 + v0) g := ⟨by unfold B64; exact hgb, gi_done HG0.out (by unfold B64; exact hgb) (by unfold B64; exact hv0) (.inr (HTEST.out.1 (.inr ⟨rfl, hb3⟩))), HG0.out.2⟩
     go_wp2_with fail
     refine (HMUL.out _).mono ?_
     rintro e w5 ⟨rfl, rfl⟩
     go_wp2
     go_ret
     exact ⟨g, nn, rfl, hok, rfl⟩
    have d3 : ¬ (lo' : Int) <= (u0 : Int) := by omega
    have hgt : hi * B64 + u0 < g * v0 := by rw [HPROD.out]; omega
    have hg0 : 0 < g := by
     rcases Nat.eq_zero_or_pos g with h0 | h0
     ·subst h0
      rw [Nat.zero_mul] at hgt
      omega
     exact h0
    have hdec := gi_dec HG0.out (.inr hgt) hg0
    obtain ⟨S, hS⟩ : ∃ S, (hi + v1) % 18446744073709551616 = S := ⟨_, rfl⟩
    obtain ⟨C, hC⟩ : ∃ C, (hi + v1) / 18446744073709551616 = C := ⟨_, rfl⟩
    have hadd : ∀ w, (callFunc 155 #[.int .u64 (hi : Int), .int .u64 (v1 : Int), .int .u64 0]).run Tryz.prog w = .ok (.value (.tuple #[.int .u64 (S : Int), .int .u64 (C : Int)])) w := fun w => by
     have := run_add hi v1 0 (by omega) w
     rw [Nat.add_zero, hS, hC] at this
     exact this
    have hSC : hi + v1 = S + B64 * C := by unfold B64; omega
    rw [hSC] at hdec
    have hSl : S < 18446744073709551616 := by omega
    have hC1 : C <= 1 := by omega
    have d5 : IntKind.u64.wrap ((g : Int) - 1) = ((g - 1 : Nat) : Int) := by rw [wrap_u64_of _ (by omega) (by omega)]; omega
    obtain ⟨g', hg'⟩ : ∃ g', g - 1 = g' := ⟨_, rfl⟩
    rw [hg'] at d5 hdec
    have hgg : g' < g := by omega
    have HDEC := lh hdec
    clear hS hC hSC hdec hg' hgt hg0
    go_wp2_with fail
    refine (HMUL.out _).mono ?_
    rintro e w5 ⟨rfl, rfl⟩
    go_wp2
    exact ⟨⟨g', S, C, by omega, hSl, hC1, rfl, rfl, rfl, HDEC⟩, by simp [intOf] <;> omega⟩
   have d2 : ((hi : Int) == (r : Int)) = false := by simp; omega
   have hgt : r * B64 + u0 < g * v0 := by rw [HPROD.out]; unfold B64; omega
   have hg0 : 0 < g := by
    rcases Nat.eq_zero_or_pos g with h0 | h0
    ·subst h0
     rw [Nat.zero_mul] at hgt
     omega
    exact h0
   have hdec := gi_dec HG0.out (.inr hgt) hg0
   obtain ⟨S, hS⟩ : ∃ S, (r + v1) % 18446744073709551616 = S := ⟨_, rfl⟩
   obtain ⟨C, hC⟩ : ∃ C, (r + v1) / 18446744073709551616 = C := ⟨_, rfl⟩
   have hadd : ∀ w, (callFunc 155 #[.int .u64 (r : Int), .int .u64 (v1 : Int), .int .u64 0]).run Tryz.prog w = .ok (.value (.tuple #[.int .u64 (S : Int), .int .u64 (C : Int)])) w := fun w => by
    have := run_add r v1 0 (by omega) w
    rw [Nat.add_zero, hS, hC] at this
    exact this
   have hSC : r + v1 = S + B64 * C := by unfold B64; omega
   rw [hSC] at hdec
   have hSl : S < 18446744073709551616 := by omega
   have hC1 : C <= 1 := by omega
   have d5 : IntKind.u64.wrap ((g : Int) - 1) = ((g - 1 : Nat) : Int) := by rw [wrap_u64_of _ (by omega) (by omega)]; omega
   obtain ⟨g', hg'⟩ : ∃ g', g - 1 = g' := ⟨_, rfl⟩
   rw [hg'] at d5 hdec
   have hgg : g' < g := by omega
   have HDEC := lh hdec
   clear hS hC hSC hdec hg' hgt hg0
   go_wp2_with fail
   refine (HMUL.out _).mono ?_
   rintro e w5 ⟨rfl, rfl⟩
   go_wp2
   exact ⟨⟨g', S, C, by omega, hSl, hC1, rfl, rfl, rfl, HDEC⟩, by simp [intOf] <;> omega⟩
  have hb0 : ((o : Int) == 0) = false := by simp; omega
  have hok : GuessOK (u * B64 + u0) (v1 * B64 + v0) g := ⟨by unfold B64; exact hgb, gi_done HG.out (by unfold B64; exact hgb) (by unfold B64; exact hv0) (.inl (by unfold B64; omega)), HG.out.2⟩
  go_wp2
  go_ret
  exact ⟨g, nn, rfl, hok, rfl⟩
def guessF (T D : Nat) : Nat := min (B64 - 1) (T / D)
theorem guess_unique {T D g : Nat} (hD : 0 < D) (h : GuessOK T D g) : g = guessF T D := by
 obtain ⟨h1, h2, h3⟩ := h
 unfold guessF
 have h4 : g <= T / D := (Nat.le_div_iff_mul_le hD).2 h2
 by_cases h5 : g + 1 < B64
 ·have h6 := h3 h5
  have h7 : T / D < g + 1 := (Nat.div_lt_iff_lt_mul hD).2 h6
  omega
 omega
theorem guessF_ok {T D : Nat} (hD : 0 < D) : guessF T D < B64 /\ guessF T D * D <= T /\ (guessF T D + 1 < B64 -> T < (guessF T D + 1) * D) := by
 have hB : 0 < B64 := by decide
 unfold guessF
 refine ⟨by omega, ?_, fun h => ?_⟩
 ·have h1 : min (B64 - 1) (T / D) <= T / D := Nat.min_le_right _ _
  exact (Nat.le_div_iff_mul_le hD).1 h1
 have h1 : min (B64 - 1) (T / D) = T / D := by omega
 rw [h1]
 have := Nat.lt_div_mul_add (a := T) hD
 rw [Nat.add_mul]
 omega
theorem guess_fits {lu lv : List Nat} {j n u2 u1 u0 v1 v0 : Nat} (hdu : Dig B64 lu) (hdv : Dig B64 lv) (hln : lv.length = n) (hn : 2 <= n) (h2 : lu[j + n]? = some u2) (h1 : lu[j + n - 1]? = some u1) (h0 : lu[j + n - 2]? = some u0)
  (hv1 : lv[n - 1]? = some v1) (hv0 : lv[n - 2]? = some v0) (hpos : 0 < v1) (hX : dv B64 lu < dv B64 lv * B64 ^ (j + 1)) :
  u2 <= v1 /\ dv B64 lu / (dv B64 lv * B64 ^ j) <= guessF ((u2 * B64 + u1) * B64 + u0) (v1 * B64 + v0) /\ guessF ((u2 * B64 + u1) * B64 + u0) (v1 * B64 + v0) <= dv B64 lu / (dv B64 lv * B64 ^ j) + 1 := by
 have hB : 0 < B64 := by decide
 have hVlt := dv_lt hdv
 rw [hln] at hVlt
 have hXlt : dv B64 lu < B64 ^ (j + n + 1) := by
  refine Nat.lt_trans hX ?_
  have e : B64 ^ (j + n + 1) = B64 ^ n * B64 ^ (j + 1) := by rw [<- Nat.pow_add]; congr 1; omega
  rw [e]
  exact Nat.mul_lt_mul_of_pos_right hVlt (Nat.pow_pos hB)
 have htop := dv_high hdu hB hXlt
 have hT : dv B64 lu / B64 ^ (j + n - 2) = (u2 * B64 + u1) * B64 + u0 := by
  rw [dv_div hdu hB, dv_drop h0, show j + n - 2 + 1 = j + n - 1 from by omega, dv_drop h1, show j + n - 1 + 1 = j + n from by omega, dv_drop h2, htop]
  rw [Nat.mul_zero, Nat.add_zero, Nat.add_mul, Nat.mul_add, Nat.mul_comm u1, Nat.mul_comm (u2 * B64), Nat.mul_comm u2]
  omega
 have hD : dv B64 lv / B64 ^ (n - 2) = v1 * B64 + v0 := by
  rw [dv_div hdv hB, dv_drop hv0, show n - 2 + 1 = n - 1 from by omega, dv_drop hv1, dv_drop_out (by omega), Nat.mul_zero, Nat.add_zero, Nat.mul_comm]
  omega
 have hDp : 0 < v1 * B64 + v0 := by
  have := Nat.mul_pos hpos hB
  omega
 obtain ⟨g1, g2, g3⟩ := guessF_ok (T := (u2 * B64 + u1) * B64 + u0) hDp
 have hP : B64 ^ (j + n - 2) = B64 ^ (n - 2) * B64 ^ j := by rw [<- Nat.pow_add]; congr 1; omega
 have hX2 : dv B64 lu / B64 ^ j < B64 * dv B64 lv := by
  rw [Nat.div_lt_iff_lt_mul (Nat.pow_pos hB), Nat.mul_comm B64, Nat.mul_assoc, Nat.mul_comm B64, <- Nat.pow_succ]
  exact hX
 have hT2 : dv B64 lu / B64 ^ j / B64 ^ (n - 2) = (u2 * B64 + u1) * B64 + u0 := by
  rw [Nat.div_div_eq_div_mul, Nat.mul_comm, <- hP]
  exact hT
 have hDb : B64 <= v1 * B64 + v0 + 1 := by
  have := Nat.mul_le_mul_right B64 hpos
  omega
 have hres := guess_ok (β := B64) (Nat.pow_pos hB) hT2 hD hX2 hDb g1 g2 g3
 rw [Nat.div_div_eq_div_mul, Nat.mul_comm (B64 ^ j)] at hres
 refine ⟨?_, hres⟩
 have h4 : (u2 * B64 + u1) * B64 + u0 < B64 * (v1 * B64 + v0 + 1) := by
  rw [<- hT2, <- hD, Nat.div_lt_iff_lt_mul (Nat.pow_pos hB)]
  refine Nat.lt_of_lt_of_le hX2 ?_
  rw [Nat.mul_assoc]
  refine Nat.mul_le_mul_left _ ?_
  rw [Nat.add_mul, Nat.one_mul]
  have := Nat.lt_div_mul_add (a := dv B64 lv) (Nat.pow_pos (n := n - 2) hB)
  exact Nat.le_of_lt this
 rcases Nat.lt_or_ge v1 u2 with h5 | h5
 ·exfalso
  have hv0l := hdv.get hv0
  have h6 : B64 * (v1 * B64 + v0 + 1) <= B64 * (B64 * u2) := by
   refine Nat.mul_le_mul_left _ ?_
   have h7 := Nat.mul_le_mul_left B64 h5
   rw [Nat.mul_succ, Nat.mul_comm B64 v1] at h7
   omega
  have h8 : B64 * (B64 * u2) = u2 * B64 * B64 := by rw [Nat.mul_comm, Nat.mul_comm B64 u2]
  rw [h8] at h6
  rw [Nat.add_mul] at h4
  omega
 exact h5
end Go.Proofs.YtecnjlcfoobepaaGreatDoor
