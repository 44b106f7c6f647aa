import Derived.Test.YtecnjlcfoobepaaGreatDoorRefDivMath
import Derived.Test.YtecnjlcfoobepaaGreatDoorRefDown
import Derived.Deep.DeepCutAuto
import Derived.Deep.CutBlock
namespace Go.Proofs.YtecnjlcfoobepaaGreatDoor
set_option maxHeartbeats 20000000
open Go.RowKit
set_option linter.unusedSimpArgs false
set_option linter.unusedVariables false
def RetNN (q r : Nat) (w : World) (e : Ending) (w' : World) : Prop := ∃ v v', e = .returned (.tuple #[v, v']) /\ IsN w' w'.heap.size v q /\ IsN w' w'.heap.size v' r /\ Below w.heap.size w w'
def DS (w : World) (gx cx N gq m By n : Nat) (Ay : Option Addr) (lv lx lq : List Nat) (wr : World) : Prop :=
 Own wr 155 u32v (.slice (some ⟨gx, 0, none⟩) lx.length cx) lx /\ lx.length = N /\ Dig 4294967296 lx /\ Row wr gq 155 u32v lq /\ lq.length = m /\ Dig 4294967296 lq /\ Reads wr By 1 Ay n (lv.map u32v) /\ Below w.heap.size w wr
def DRel (w : World) (gx cx N gq m By n : Nat) (Ay : Option Addr) (lv : List Nat) (U V k : Nat) (wr : World) : Prop :=
 ∃ lx lq : List Nat, DS w gx cx N gq m By n Ay lv lx lq wr /\ U = V * dv 4294967296 lq + dv 4294967296 lx /\ dv 4294967296 lx < V * 4294967296 ^ k /\ dv 4294967296 (lq.take k) = 0
theorem DS.drewN {w wr : World} {gx cx N gq m By n : Nat} {Ay : Option Addr} {lv lx lq : List Nat} (h : DS w gx cx N gq m By n Ay lv lx lq wr) (d : Nat) : DS w gx cx N gq m By n Ay lv lx lq (wr.drewN d) := by
 obtain ⟨h1, h2, h3, h4, h5, h6, h7, h8⟩ := h
 exact ⟨h1.drewN d, h2, h3, h4.drewN d, h5, h6, h7.drewN d, bdrewN h8 d⟩
theorem DS.setX {w wr : World} {gx cx N gq m By n : Nat} {Ay : Option Addr} {lv lx lq : List Nat} (h : DS w gx cx N gq m By n Ay lv lx lq wr) (k x : Nat) (hx : x < 4294967296) (h1 : gx ≠ gq) (h2 : By <= gx) (h3 : w.heap.size <= gx) :
  DS w gx cx N gq m By n Ay lv (lx.set k x) lq (wr.setCell ⟨gx, k, none⟩ (u32v x)) := by
 obtain ⟨a1, a2, a3, a4, a5, a6, a7, a8⟩ := h
 refine ⟨?_, by rw [List.length_set]; exact a2, a3.set_ k hx, a4.far (Ne.symm h1) _, a5, a6, a7.setCell h2 _, a8.setCell h3 _⟩
 rw [List.length_set]
 exact a1.store k x
theorem DS.setQ {w wr : World} {gx cx N gq m By n : Nat} {Ay : Option Addr} {lv lx lq : List Nat} (h : DS w gx cx N gq m By n Ay lv lx lq wr) (k x : Nat) (hx : x < 4294967296) (h1 : gx ≠ gq) (h2 : By <= gq) (h3 : w.heap.size <= gq) :
  DS w gx cx N gq m By n Ay lv lx (lq.set k x) (wr.setCell ⟨gq, k, none⟩ (u32v x)) := by
 obtain ⟨a1, a2, a3, a4, a5, a6, a7, a8⟩ := h
 refine ⟨?_, a2, a3, a4.set_ k x, by rw [List.length_set]; exact a5, a6.set_ k hx, a7.setCell h2 _, a8.setCell h3 _⟩
 have hlt := a1.lt gx rfl
 exact a1.exc (b := gq) (Exc.set_ (Exc.refl gq wr) k (u32v x)) (by simp [Value.ownBlock]; exact h1)
def MsR (w : World) (gx cx N gq m By n : Nat) (Ay : Option Addr) (lv lq : List Nat) (X G j i c b : Nat) (wr : World) : Prop :=
 ∃ lx : List Nat, DS w gx cx N gq m By n Ay lv lx lq wr /\ dv 4294967296 lx + G * dv 4294967296 (lv.take i) * 4294967296 ^ j = X + (c + b) * 4294967296 ^ (j + i) /\ dv 4294967296 (lx.drop (j + n + 1)) = 0
def AbR (w : World) (gx cx N gq m By n : Nat) (Ay : Option Addr) (lv lq : List Nat) (X j i c : Nat) (wr : World) : Prop :=
 ∃ lx : List Nat, DS w gx cx N gq m By n Ay lv lx lq wr /\ dv 4294967296 lx + c * 4294967296 ^ (j + i) = X + dv 4294967296 (lv.take i) * 4294967296 ^ j /\ dv 4294967296 (lx.drop (j + n + 1)) = 0
def DgR (w : World) (gx cx N gq m By n : Nat) (Ay : Option Addr) (lv lq : List Nat) (X V j : Nat) (v : Value) (wr : World) : Prop :=
 ∃ (G : Nat) (lx : List Nat), v = .int .u64 (G : Int) /\ DS w gx cx N gq m By n Ay lv lx lq wr /\ G = X / (V * 4294967296 ^ j) /\ dv 4294967296 lx = X % (V * 4294967296 ^ j)
theorem and_limb (C : Nat) (h : C < 18446744073709551616) : bits .and .u64 (C : Int) 4294967295 = ((C % 4294967296 : Nat) : Int) := by
 have e := and_u64 C 4294967295 h (by omega)
 rw [show (4294967295 : Int) = ((4294967295 : Nat) : Int) from rfl, e]
 congr 1
 exact Nat.and_two_pow_sub_one_eq_mod C 32
theorem sub_limb (x l b D1 D S b' : Nat) (hx : x < 4294967296) (hl : l < 4294967296) (hb : b <= 1) (h1 : (x + 18446744073709551616 - l) % 18446744073709551616 = D1) (h2 : (D1 + 18446744073709551616 - b) % 18446744073709551616 = D) (h3 : D % 4294967296 = S) (h4 : D / 9223372036854775808 = b') :
  D < 18446744073709551616 /\ S < 4294967296 /\ b' <= 1 /\ S + l + b = x + 4294967296 * b' /\ IntKind.u64.wrap ((x : Int) - (l : Int)) = (D1 : Int) /\ IntKind.u64.wrap ((D1 : Int) - (b : Int)) = (D : Int) /\ IntKind.u32.wrap (D : Int) = (S : Int) /\ (D : Int) / 9223372036854775808 = (b' : Int) := by
 have e1 : IntKind.u64.wrap ((x : Int) - (l : Int)) = (D1 : Int) := by
  have h : ((x : Int) - (l : Int)) % 18446744073709551616 = (D1 : Int) := by omega
  exact h
 have e2 : IntKind.u64.wrap ((D1 : Int) - (b : Int)) = (D : Int) := by
  have h : ((D1 : Int) - (b : Int)) % 18446744073709551616 = (D : Int) := by omega
  exact h
 refine ⟨by omega, by omega, by omega, by omega, e1, e2, by rw [wrap_u32_nat, h3], by omega⟩
theorem norm_top (b s V n t : Nat) (hV : b * 2 ^ s = V) (hn : (limbs V).length = n) (hs : 32 * n - blen b = s) (hb : b ≠ 0) (hbl : blen b <= 32 * n) (h : (limbs V)[n - 1]? = some t) : 2147483648 <= t := by
 have hlen : n - 1 < n := by rw [<- hn]; rw [<- hn] at h; exact (List.getElem?_eq_some_iff.1 h).1
 have h1 := dv_split (β := 4294967296) (l := limbs V) (n - 1) (by omega)
 have h2 := dv_drop (β := 4294967296) h
 rw [show n - 1 + 1 = n by omega, dv_drop_out (l := limbs V) (k := n) (by omega), Nat.mul_zero, Nat.add_zero] at h2
 rw [dv_limbs, h2] at h1
 have h3 := dv_lt ((limbs_dig V).take (n - 1))
 rw [List.length_take, Nat.min_eq_left (by omega)] at h3
 have h4 := (blen_bounds b hb)
 have h5 := Nat.mul_le_mul_right (2 ^ s) h4.2.1
 rw [<- Nat.pow_add, hV, show blen b - 1 + s = 32 * (n - 1) + 31 by omega, Nat.pow_add, Nat.pow_mul] at h5
 have h6 : (4294967296 : Nat) ^ (n - 1) * 2147483648 < 4294967296 ^ (n - 1) * (t + 1) := by
  rw [Nat.mul_add, Nat.mul_one]
  have : (2 : Nat) ^ 32 = 4294967296 := rfl
  rw [this] at h5
  have e31 : (2 : Nat) ^ 31 = 2147483648 := rfl
  rw [e31] at h5
  omega
 have := Nat.lt_of_mul_lt_mul_left h6
 omega
theorem norm_limbs (b s : Nat) (hb : b ≠ 0) (hs : 32 * (limbs b).length - blen b = s) : s < 32 /\ (limbs (b * 2 ^ s)).length = (limbs b).length := by
 obtain ⟨t, ht, ht0, htl⟩ := limbs_top b hb
 have hbt := blen_top ht ht0
 have h1 := (blen_bounds t ht0).1
 have h2 := blen_le t 32 htl
 have hlen : (limbs b).length - 1 < (limbs b).length := (List.getElem?_eq_some_iff.1 ht).1
 refine ⟨by omega, Nat.le_antisymm ?_ ?_⟩
 ·apply limbs_le
  rw [pow32]
  have h3 := lt_of_blen (Nat.le_refl (blen b))
  have h4 := Nat.mul_lt_mul_of_pos_right h3 (show 0 < 2 ^ s from Nat.pow_pos (by omega))
  rw [<- Nat.pow_add, show blen b + s = 32 * (limbs b).length by omega] at h4
  exact h4
 apply limbs_mono
 exact Nat.le_mul_of_pos_right _ (Nat.pow_pos (by omega))
set_option maxRecDepth 1000000 in
theorem ref_div_big (a b B B' : Nat) (va vb : Value) (w : World) (ha : IsN w B va a) (hb : IsN w B' vb b) (hB : B <= w.heap.size) (hB' : B' <= w.heap.size) (hla : (limbs a).length <= 17179869184) (hab : b <= a) (hn : 2 <= (limbs b).length) :
  Calls Tryz.prog 114 #[va, vb] w (RetNN (a / b) (a % b) w) := by
 have hlb : (limbs b).length <= 17179869184 := nt (limbs_mono hab) hla
 have hb0 : b ≠ 0 := fun e => by rw [e, limbs_zero] at hn; simp at hn
 have hcmp := ref_cmp a b B B' va vb w ha hb (by omega) (by omega)
 obtain ⟨cv, hcv⟩ : ∃ cv, cmpI a b = cv := ⟨_, rfl⟩
 have hcv0 : ¬ cv < 0 := by
  rw [<- hcv]
  unfold cmpI
  rw [if_neg (by omega)]
  split <;> decide
 rw [hcv] at hcmp
 have hbits := fun w h => ref_bits b B' vb w h (by omega)
 obtain ⟨s, hs⟩ : ∃ s, 32 * (limbs b).length - blen b = s := ⟨_, rfl⟩
 have hnl := norm_limbs b s hb0 hs
 have hbl := blen_limbs b
 have hup1 := fun w h hB => ref_shift_up b s B' vb w h hB (by omega) (by omega)
 have hup2 := fun w h hB => ref_shift_up a s B va w h hB (by omega) (by omega)
 obtain ⟨V, hV⟩ : ∃ V, b * 2 ^ s = V := ⟨_, rfl⟩
 obtain ⟨U, hU⟩ : ∃ U, a * 2 ^ s = U := ⟨_, rfl⟩
 rw [hV] at hup1 hnl
 rw [hU] at hup2
 have HA := lh ha
 have HB := lh hb
 obtain ⟨A, c, rfl, hac, hac2, hra, _⟩ := ha
 obtain ⟨A', c', rfl, hbc, hbc2, hrb, _⟩ := hb
 obtain ⟨n, hnn⟩ : ∃ n, (limbs b).length = n := ⟨_, rfl⟩
 obtain ⟨p, hpp⟩ : ∃ p, (limbs a).length = p := ⟨_, rfl⟩
 rw [hnn] at hcmp hbits hup1 HB hbc hlb hn hs hnl hbl
 rw [hpp] at hcmp hup2 HA hac hla
 rw [hnn, hpp]
 have c1 : (32 : Int) * (n : Int) - (blen b : Int) = (s : Int) := by omega
 have c2 : ((n : Int) == 1) = false := by simp; omega
 have c3 : (n == 1) = false := by simp; omega
 have hs32 := hnl.1
 have HNL := lh (And.intro hnl.2 (And.intro hV (And.intro hU (And.intro hnn hpp))))
 have HC := lh hcmp
 have HBI := lh hbits
 have HU1 := lh hup1
 have HU2 := lh hup2
 have hbb : blen b <= 32 * n := hbl
 have HS := lh hs
 clear hnl hV hU hnn hpp hcmp hbits hup1 hup2 hra hrb hs hcv hbl
 go_enter Tryz.func114, Tryz.ntmps114
 go_wp2_with fail
 refine HC.out.mono ?_
 rintro e w1 ⟨rfl, hw1⟩
 have HA1 := lh (HA.out.next hB hw1)
 have HB1 := lh (HB.out.next hB' hw1)
 clear HA HB HC
 go_wp2_with fail
 refine (HBI.out w1 HB1.out).mono ?_
 rintro e w2 ⟨rfl, rfl⟩
 clear HBI
 go_wp2_with fail
 refine (HU1.out w1 HB1.out (nt hB' hw1.size)).mono ?_
 rintro e w2 ⟨vy, rfl, hy, hw2⟩
 obtain ⟨Ay, cy, rfl, hyc, hyc2, hy, _⟩ := hy
 rw [HNL.out.1] at hy hyc
 rw [HNL.out.1]
 clear HU1 HB1
 have hb2 := bthen hw1 hw2
 have HA2 := lh ((HA1.out.next (nt hB hw1.size) hw2).next (nt hB hb2.size) (balloc1 w2 (.cells #[] 155)))
 have hb3 := bthen hb2 (balloc1 w2 (.cells #[] 155))
 have HY := lh hy
 have ho3 : Own (w2.alloc (.cells #[] 155)) 155 u32v (.slice (some ⟨w2.heap.size, 0, none⟩) 0 0) [] := Own.lit w2 155 u32v [] (by unfold maxLen; simp)
 have hwy : w2.heap.size <= (w2.alloc (.cells #[] 155)).heap.size := by simp
 have HY3 := lh (HY.out.below (balloc1 w2 (.cells #[] 155)))
 clear HA1 hy hw1 hw2 c1 HY
 go_wp2_with fail
 refine (HU2.out _ HA2.out (by have := hb2.size; simp; omega)).mono ?_
 rintro e w4 ⟨vs, rfl, hs4, hw4⟩
 have hb4 := bthen hb3 hw4
 have ho4 := ho3.below hw4 ho3.lt
 have hy4 := HY3.out.below (hw4.mono hwy)
 have hz4 : w2.heap.size < w4.heap.size := by have := hw4.size; simp at this; omega
 obtain ⟨As, cs, rfl, hsc1, hsc2, hrs, _⟩ := hs4
 obtain ⟨L, hL⟩ : ∃ L, (limbs U).length = L := ⟨_, rfl⟩
 have hLb : L <= p + 1 := by
  rw [<- hL]
  apply limbs_le
  rw [<- HNL.out.2.2.1, Nat.pow_succ]
  have h1 := limbs_lt a
  rw [HNL.out.2.2.2.2] at h1
  exact Nat.mul_lt_mul'' h1 (Nat.pow_lt_pow_right (by omega) (show s < 32 by omega))
 rw [hL] at hrs hsc1
 rw [hL]
 have HL := lh hL
 have HY4 := lh hy4
 clear hL hy4 HA2 HU2 ho3 hw4 HY3 hb3 hwy
 have e1 : (([] : List Nat).length + L <= maxLen) := by unfold maxLen; simp; omega
 have e2 : (([] : List Nat).length + L) * 4 <= 140737488355328 := by simp; omega
 have HE := lh (And.intro e1 e2)
 clear e1 e2
 have hr2 : ∀ w5 : World, Reads (w5.alloc (.cells #[.int .u32 0, .int .u32 0] 155)) (w5.heap.size + 1) 1 (some ⟨w5.heap.size, 0, none⟩) 2 (([0, 0] : List Nat).map u32v) := fun w5 => (Row.new w5 155 u32v [0, 0]).reads
 have HR2 := lh hr2
 have e1 : (limbs U).length + 2 <= maxLen := by unfold maxLen; rw [HL.out]; omega
 have e2 : ((limbs U).length + 2) * 4 <= 140737488355328 := by rw [HL.out]; omega
 have HE2 := lh (And.intro e1 e2)
 clear e1 e2 hr2
 go_upto_region 9 with (first | (at_builtin; refine appN Tryz.eltRN rfl (.tmp 54) (.tmp 57) rfl w4 _ [] w4.heap.size As L cs (limbs U) rfl ho4 rfl hrs u32v_one HE.out.1 HE.out.2 ?_; intro v5 w5 hown5 hgr5) | (at_builtin; refine appN Tryz.eltRN rfl (.tmp 58) (.tmp 59) rfl (w5.alloc (.cells #[.int .u32 0, .int .u32 0] 155)) _ (limbs U) (w5.heap.size + 1) (some ⟨w5.heap.size, 0, none⟩) 2 2 [0, 0] rfl (Own.alloc hown5 _) rfl (HR2.out w5) u32v_one HE2.out.1 HE2.out.2 ?_; intro v6 w6 hown6 hgr6))
 have hg5 : Grew w4 w5 (.slice (some ⟨w2.heap.size, 0, none⟩) 0 0) v5 := hgr5
 have hg6 : Grew (w5.alloc (.cells #[.int .u32 0, .int .u32 0] 155)) w6 v5 v6 := hgr6
 clear hgr5 hgr6
 have f0 : ∀ k, (Value.slice (some ⟨w2.heap.size, 0, none⟩) 0 0).ownBlock = some k -> w2.heap.size <= k := fun k hk => by simp [Value.ownBlock] at hk; omega
 have b5 := hg5.below (B := w2.heap.size) (by omega) f0
 have f5 := hg5.fresh (B := w2.heap.size) (by omega) f0
 have b5' := b5.alloc (by have := b5.size; omega) (.cells #[.int .u32 0, .int .u32 0] 155)
 have b6 := b5'.trans (hg6.below (B := w2.heap.size) (nt (by omega) b5'.size) f5)
 have f6 := hg6.fresh (B := w2.heap.size) (nt (by omega) b5'.size) f5
 have hz2 := hb2.size
 have hb6 := hb4.trans (b6.mono hz2)
 have hy6 := HY4.out.below b6
 have hz6 := b6.size
 obtain ⟨N, hN⟩ : ∃ N, L + 2 = N := ⟨_, rfl⟩
 have hlx : (limbs U ++ [0, 0]).length = N := by rw [List.length_append, HL.out]; exact hN
 obtain ⟨A6, cx, hv6, hcx1, hcx2⟩ := hown6.form
 rw [hv6] at hown6 f6
 rw [hv6]
 obtain ⟨gx, rfl⟩ := hown6.addr (by omega)
 have hgx : w2.heap.size <= gx := f6 gx rfl
 have hgxl : gx < w6.heap.size := hown6.lt gx rfl
 rw [hlx] at hcx1
 have HOWN := lh hown6
 rw [hlx]
 clear hg5 hg6 f0 b5 f5 b5' b6 f6 hown5 hown6 hv6 ho4 hrs HE HE2 HR2 HY4 hb4
 have hnN : n <= L := by
  rw [<- HNL.out.1, <- HL.out]
  apply limbs_mono
  rw [<- HNL.out.2.1, <- HNL.out.2.2.1]
  exact Nat.mul_le_mul_right _ hab
 obtain ⟨ad, t1, hA, hbl1, ht1, hc1⟩ := hy6.atf (show n - 1 < n by omega)
 obtain ⟨ad', t0, hA', hbl0, ht0, hc0⟩ := hy6.atf (show n - 2 < n by omega)
 obtain rfl : ad = ad' := by rw [hA] at hA'; exact Option.some.inj hA'
 have htop : 2147483648 <= t1 := norm_top b s V n t1 HNL.out.2.1 HNL.out.1 HS.out hb0 hbb ht1
 have ht1l := (limbs_dig V).get ht1
 have ht0l := (limbs_dig V).get ht0
 obtain ⟨m, hm⟩ : ∃ m, N - n = m := ⟨_, rfl⟩
 have hmk := make_row (P := Tryz.prog) u32v 0 66 155 4 Tryz.underlying66 Tryz.infoU32 rfl .i64 .i64 m (by omega) (by omega)
 subst hA
 unfold u32v at hc1 hc0
 have HTT := lh (And.intro ht1 ht0)
 have HN := lh (And.intro hN (And.intro hlx hm))
 have k1 : ((n : Int) - 1).toNat = n - 1 := by omega
 have k2 : ((n : Int) - 2).toNat = n - 2 := by omega
 have k3 : (0 : Int) <= (n : Int) - 1 := by omega
 have k4 : (0 : Int) <= (n : Int) - 2 := by omega
 have k5 : (n : Int) - 1 < (n : Int) := by omega
 have k6 : (n : Int) - 2 < (n : Int) := by omega
 have k7 : (N : Int) - (n : Int) = (m : Int) := by omega
 have k8 : IntKind.u64.wrap (t1 : Int) = (t1 : Int) := by rw [wrap_u64_nat, Nat.mod_eq_of_lt (by omega)]
 have k9 : IntKind.u64.wrap (t0 : Int) = (t0 : Int) := by rw [wrap_u64_nat, Nat.mod_eq_of_lt (by omega)]
 have hNb : N <= 17179869188 := by omega
 have hmN : m <= N := by omega
 have hm1 : 1 <= m := by omega
 have hmn : m + n = N := by omega
 clear ht1 ht0 hN hlx hm hA'
 have HY6 := lh hy6
 clear hy6
 go_wp2_with fail
 clear hmk k1 k2 k3 k4 k5 k6 k7 k8 k9 hc1 hc0
 have hrow := Row.rep w6 155 u32v 0 m
 have b7 := balloc1 w6 (.cells (Array.replicate m (u32v 0)) 155)
 have hown7 := HOWN.out.below b7 HOWN.out.lt
 have hy7 := HY6.out.below (b7.mono (by omega))
 have hb7 := bthen hb6 b7
 obtain ⟨gq, hgq⟩ : ∃ gq, w6.heap.size = gq := ⟨_, rfl⟩
 rw [hgq] at hrow hgxl hz6
 rw [hgq]
 have hd7 : DS w gx cx N gq m w2.heap.size n (some ad) (limbs V) (limbs U ++ [0, 0]) (List.replicate m 0) (w6.alloc (.cells (Array.replicate m (u32v 0)) 155)) :=
  ⟨hown7, HN.out.2.1, (limbs_dig U).append (Dig.cons (by omega) (Dig.cons (by omega) Dig.nil)), hrow, by simp, Dig.rep (by omega) _, hy7, hb7⟩
 have hdU : dv 4294967296 (limbs U ++ [0, 0]) = U := by
  rw [dv_append, dv_limbs]
  simp [dv]
 have hr7 : DRel w gx cx N gq m w2.heap.size n (some ad) (limbs V) U V m (w6.alloc (.cells (Array.replicate m (u32v 0)) 155)) := by
  refine ⟨_, _, hd7, ?_, ?_, ?_⟩
  ·rw [dv_rep, hdU]; simp
  ·rw [hdU]
   have h1 := limbs_lt U
   rw [HL.out] at h1
   have h2 := limbs_ge V (fun e => by have := HNL.out.1; rw [e, limbs_zero] at this; simp at this; omega)
   rw [HNL.out.1] at h2
   refine Nat.lt_of_lt_of_le h1 (nt ?_ (Nat.mul_le_mul_right _ h2))
   rw [<- Nat.pow_add]
   exact Nat.pow_le_pow_right (by omega) (by have := HN.out.1; omega)
  rw [List.take_of_length_le (by simp), dv_rep]
 clear hrow b7 hown7 hy7 hb7 hd7 hdU HOWN HY6 hb6 hgq
 have hg1 : w2.heap.size <= gq := by omega
 have hg2 : gx ≠ gq := by omega
 have hg3 : w.heap.size <= gx := by omega
 have hg4 : w.heap.size <= gq := by omega
 obtain ⟨By, hBy⟩ : ∃ By, w2.heap.size = By := ⟨_, rfl⟩
 rw [hBy] at hr7 hg1 hgx hbl1
 clear hBy hbl0 hz2 hz4 hz6 hgxl hb2 hsc1 hsc2 hac hac2 hbc hbc2 hbb hcv0 hyc hyc2 hcx1 hLb hnN
 generalize w6.alloc (.cells (Array.replicate m (u32v 0)) 155) = w7 at *
 go_loopw [15] (fun i wr => ∃ k : Nat, k <= m /\ i = .int .i64 ((k : Int) - 1) /\ DRel w gx cx N gq m By n (some ad) (limbs V) U V k wr) (fun i _ => (intOf i + 1).toNat)
 case atStart => exact ⟨m, Nat.le_refl _, rfl, hr7⟩
 case round =>
  obtain ⟨k, hk, rfl, lx, lq, hds, hU, hlt, hq0⟩ := hrel
  clear hr7
  rename World => wr
  have HDS := lh hds
  have HX := lh (And.intro hU (And.intro hlt hq0))
  clear hds hU hlt hq0
  by_cases h0 : k = 0
  ·subst h0
   obtain ⟨s1, s2, s3, s4, s5, s6, s7, s8⟩ := HDS.out
   have hx := HX.out
   rw [Nat.pow_zero, Nat.mul_one] at hx
   have hps : 0 < 2 ^ s := Nat.pow_pos (by omega)
   have hV0 : 0 < V := by omega
   have hq : dv 4294967296 lq = a / b /\ dv 4294967296 lx = a % b * 2 ^ s := by
    have h1 : U / V = dv 4294967296 lq := by
     rw [hx.1, Nat.mul_comm, Nat.add_comm, Nat.add_mul_div_right _ _ hV0, Nat.div_eq_of_lt hx.2.1, Nat.zero_add]
    have h2 : U % V = dv 4294967296 lx := by
     rw [hx.1, Nat.mul_comm, Nat.add_comm, Nat.add_mul_mod_self_right, Nat.mod_eq_of_lt hx.2.1]
    rw [<- h1, <- h2, <- HNL.out.2.1, <- HNL.out.2.2.1]
    exact ⟨Nat.mul_div_mul_right _ _ hps, Nat.mul_mod_mul_right _ _ _⟩
   have hrq := s4.reads
   rw [s5] at hrq
   have hrx := s1.reads
   rw [s2] at hrx
   have hlq := s4.lt
   have HQ := lh hq
   have hNN : (-1 : Int) < 0 := by omega
   unfold maxLen at hcx2
   have hcN : N <= cx := by
    obtain ⟨_, _, h1, h2, _⟩ := s1.form
    injection h1 with _ _ h1
    omega
   have isx := IsN.trim hrx hcN hcx2 s3 HQ.out.2 s1.ty
   have isq := IsN.trim hrq zd (by omega) s6 HQ.out.1 s4.ty
   have hrl : (limbs (a % b * 2 ^ s)).length <= 34359738368 := by
    refine nt (limbs_mono (show a % b * 2 ^ s <= V from ?_)) (by rw [HNL.out.1]; omega)
    rw [<- HNL.out.2.1]
    exact Nat.mul_le_mul_right _ (Nat.le_of_lt (Nat.mod_lt _ (by omega)))
   clear hq hx
   go_wp2_with fail
   refine (ref_trim _ m m _ lq wr hrq (by omega) zd).mono ?_
   rintro e w8 ⟨rfl, rfl⟩
   go_wp2_with fail
   refine (ref_trim _ N cx _ lx wr hrx (by omega) hcN).mono ?_
   rintro e w8 ⟨rfl, rfl⟩
   by_cases hs0 : s = 0
   ·subst hs0
    have hsh := ref_shift_up (a % b * 2 ^ 0) 0 wr.heap.size _ wr isx zd hrl (by omega)
    rw [Nat.pow_zero, Nat.mul_one, Nat.mul_one] at hsh
    have HSH := lh hsh
    clear hsh
    go_wp2_with fail
    refine HSH.out.mono ?_
    rintro e w9 ⟨vr, rfl, hvr, hw9⟩
    go_wp2
    go_ret2
    exact ⟨_, _, rfl, (isq.below (hw9.mono (by omega))).more (by have := hw9.size; omega), hvr, bthen s8 hw9⟩
   have hsh := ref_shift_down (a % b * 2 ^ s) s wr.heap.size _ wr isx zd hrl (by omega) (by omega)
   rw [Nat.mul_div_cancel _ hps] at hsh
   have HSH := lh hsh
   clear hsh
   go_wp2_with fail
   refine HSH.out.mono ?_
   rintro e w9 ⟨vr, rfl, hvr, hw9⟩
   go_wp2
   go_ret2
   exact ⟨_, _, rfl, (isq.below (hw9.mono (by omega))).more (by have := hw9.size; omega), hvr, bthen s8 hw9⟩
  obtain ⟨j, rfl⟩ : ∃ j, k = j + 1 := ⟨k - 1, by omega⟩
  clear h0
  obtain ⟨s1, s2, s3, s4, s5, s6, s7, s8⟩ := HDS.out
  obtain ⟨u2, hu2⟩ : ∃ x, lx[j + n]? = some x := ⟨_, List.getElem?_eq_getElem (by omega)⟩
  obtain ⟨u1, hu1⟩ : ∃ x, lx[j + n - 1]? = some x := ⟨_, List.getElem?_eq_getElem (by omega)⟩
  obtain ⟨u0, hu0⟩ : ∃ x, lx[j + n - 2]? = some x := ⟨_, List.getElem?_eq_getElem (by omega)⟩
  have hgn := guess_near (β := 4294967296) (by omega) s3 (limbs_dig V) (HNL.out.1) hn hu2 hu1 hu0 HTT.out.1 HTT.out.2 (by omega) (by rw [dv_limbs]; exact HX.out.2.1)
  rw [dv_limbs] at hgn
  have hu2l := s3.get hu2
  have hu1l := s3.get hu1
  have hu0l := s3.get hu0
  have cu2 := s1.cellf hu2
  have cu1 := s1.cellf hu1
  have cu0 := s1.cellf hu0
  obtain ⟨a1, ha1⟩ : ∃ a1, j + n = a1 := ⟨_, rfl⟩
  obtain ⟨a2, ha2⟩ : ∃ a2, a1 - 1 = a2 := ⟨_, rfl⟩
  obtain ⟨a3, ha3⟩ : ∃ a3, a1 - 2 = a3 := ⟨_, rfl⟩
  rw [ha1] at cu2 cu1 cu0
  rw [ha2] at cu1
  rw [ha3] at cu0
  have r1 : (j : Int) + (n : Int) = (a1 : Int) := by omega
  have r2 : (a1 : Int) - 1 = (a2 : Int) := by omega
  have r3 : (a1 : Int) - 2 = (a3 : Int) := by omega
  have r4 : (a1 : Int) < (N : Int) := by omega
  have r5 : (a2 : Int) < (N : Int) := by omega
  have r6 : (a3 : Int) < (N : Int) := by omega
  have r7 : IntKind.i64.wrap (a1 : Int) = (a1 : Int) := IntWalk.i64_in _ (by omega)
  have r8 : IntKind.i64.wrap (a2 : Int) = (a2 : Int) := IntWalk.i64_in _ (by omega)
  have r9 : IntKind.i64.wrap (a3 : Int) = (a3 : Int) := IntWalk.i64_in _ (by omega)
  have q2 : IntKind.u64.wrap (u2 : Int) = (u2 : Int) := by rw [wrap_u64_nat, Nat.mod_eq_of_lt (by omega)]
  have q1 : IntKind.u64.wrap (u1 : Int) = (u1 : Int) := by rw [wrap_u64_nat, Nat.mod_eq_of_lt (by omega)]
  have q0 : IntKind.u64.wrap (u0 : Int) = (u0 : Int) := by rw [wrap_u64_nat, Nat.mod_eq_of_lt (by omega)]
  have hor := or_u64_limb u2 u1 hu2l hu1l
  obtain ⟨two, htwo⟩ : ∃ two, u2 * 4294967296 + u1 = two := ⟨_, rfl⟩
  rw [htwo] at hor hgn
  have q3 : IntKind.u64.wrap ((u2 : Int) * 4294967296) = (u2 : Int) * 4294967296 := wrap_u64_of _ (by omega) (by omega)
  have htwol : two < 18446744073709551616 := by omega
  obtain ⟨g0, hg0⟩ : ∃ g0, two / t1 = g0 := ⟨_, rfl⟩
  obtain ⟨R0, hR0⟩ : ∃ R0, two % t1 = R0 := ⟨_, rfl⟩
  have q4 : (two : Int) / (t1 : Int) = (g0 : Int) := by rw [<- hg0, Int.natCast_ediv]
  have q5 : (two : Int) % (t1 : Int) = (R0 : Int) := by rw [<- hR0, Int.natCast_emod]
  have q6 : 0 < (t1 : Int) := by omega
  have q7 : ((t1 : Int) == 0) = false := by simp; omega
  have hgi : GI 4294967296 t1 t0 two u0 g0 R0 := by
   rw [<- hg0, <- hR0]
   exact gi_div (by omega) hu0l
  have hg0l : g0 < 18446744073709551616 := by rw [<- hg0]; exact Nat.lt_of_le_of_lt (Nat.div_le_self _ _) htwol
  have hR0l : R0 < 4294967296 := by rw [<- hR0]; exact Nat.lt_trans (Nat.mod_lt _ (by omega)) ht1l
  have htwob : two < (t1 + 1) * 4294967296 := by have := hgn.1; omega
  have HGI := lh hgi
  have HGN := lh hgn.2
  have HA := lh (And.intro ha1 (And.intro ha2 (And.intro ha3 (And.intro hu2 (And.intro hu1 (And.intro hu0 htwo))))))
  unfold u32v at cu2 cu1 cu0
  have k1 : (((j + 1 : Nat) : Int) - 1) = (j : Int) := by omega
  rw [k1]
  clear hgi hgn ha1 ha2 ha3 hu2 hu1 hu0 htwo hg0 hR0 s1 s2 s3 s4 s5 s6 s7 s8 k1
  obtain ⟨X, hXX⟩ : ∃ X, dv 4294967296 lx = X := ⟨_, rfl⟩
  have hXlt := HX.out.2.1
  rw [hXX] at HGN hXlt
  have HXX := lh (And.intro hXX hXlt)
  clear hXX hXlt
  go_wp2_with fail
  go_region
  go_upto_block 2 with fail
  rw [q5]
  have HDS1 := lh (HDS.out.drewN 1)
  have cu0' : wr.drew.cell? ⟨gx, a3, none⟩ = some (.int .u32 (u0 : Int)) := cu0
  clear cu0 cu1 cu2 q1 q2 q3 q4 q5 q6 q7 hor HDS
  have hwd : wr.drewN 1 = wr.drew := rfl
  rw [hwd] at HDS1
  clear hwd
  generalize wr.drew = wd at *
  go_cut [17] (fun v wc => wc = wd /\ ∃ G : Nat, v = .int .u64 (G : Int) /\ G < 4294967296 /\ Hid (X / (V * 4294967296 ^ j) <= G /\ G <= X / (V * 4294967296 ^ j) + 1))
  case first =>
   have hfin : ∀ g R, GI 4294967296 t1 t0 two u0 g R -> g < 4294967296 -> (4294967296 <= R \/ g * t0 <= R * 4294967296 + u0) -> Hid (X / (V * 4294967296 ^ j) <= g /\ g <= X / (V * 4294967296 ^ j) + 1) := fun g R h1 h2 h3 =>
    lh (HGN.out g h2 (gi_done h1 h2 ht0l h3) h1.2)
   have HFIN := lh hfin
   clear hfin
   go_wp2_with fail
   go_loop [17, 18] (fun a b => ∃ g R : Nat, g < 18446744073709551616 /\ R < 4294967296 /\ a = .int .u64 (g : Int) /\ b = .int .u64 (R : Int) /\ Hid (GI 4294967296 t1 t0 two u0 g R)) (fun a _ => (intOf a).toNat)
   case atStart => exact ⟨_, _, hg0l, hR0l, rfl, rfl, HGI⟩
   case round =>
    obtain ⟨g, R, hgb, hRb, rfl, rfl, HG⟩ := hrel
    clear HGI HGN
    have hdec : (4294967296 <= g \/ R * 4294967296 + u0 < g * t0) -> 0 < g := by
     intro hc
     rcases hc with h | h
     ·omega
     rcases Nat.eq_zero_or_pos g with h0 | h0
     ·subst h0
      rw [Nat.zero_mul] at h
      omega
     exact h0
    by_cases hc : 4294967296 <= g
    ·have hg0 := hdec (.inl hc)
     have hG2 := gi_dec HG.out (.inl hc) hg0
     have d1 : (4294967296 : Int) <= (g : Int) := by omega
     have d2 : IntKind.u64.wrap ((g : Int) - 1) = ((g - 1 : Nat) : Int) := by rw [wrap_u64_of _ (by omega) (by omega)]; omega
     have d3 : IntKind.u64.wrap ((R : Int) + (t1 : Int)) = ((R + t1 : Nat) : Int) := by rw [wrap_u64_of _ (by omega) (by omega)]; omega
     obtain ⟨g', hg'⟩ : ∃ g', g - 1 = g' := ⟨_, rfl⟩
     obtain ⟨R', hR'⟩ : ∃ R', R + t1 = R' := ⟨_, rfl⟩
     rw [hg'] at d2 hG2
     rw [hR'] at d3 hG2
     have hgg : g' < g := by omega
     have HG2 := lh hG2
     clear hg' hR' hG2 hdec
     by_cases hR : 4294967296 <= R'
     ·have d4 : (4294967296 : Int) <= (R' : Int) := by omega
      have hlt := gi_lt HG2.out hR htwob
      have hres := HFIN.out g' R' HG2.out hlt (.inl hR)
      go_wp2
      go_meet
      exact ⟨rfl, g', rfl, hlt, hres⟩
     have d4 : ¬ (4294967296 : Int) <= (R' : Int) := by omega
     go_wp2
     exact ⟨⟨g', R', by omega, by omega, rfl, rfl, HG2⟩, by simp [intOf]; omega⟩
    have d1 : ¬ (4294967296 : Int) <= (g : Int) := by omega
    obtain ⟨P, hP⟩ : ∃ P, g * t0 = P := ⟨_, rfl⟩
    have hPb : P < 18446744073709551616 := by
     rw [<- hP]
     exact Nat.lt_of_le_of_lt (Nat.mul_le_mul (show g <= 4294967295 by omega) (show t0 <= 4294967295 by omega)) (by decide)
    have d2 : IntKind.u64.wrap ((g : Int) * (t0 : Int)) = (P : Int) := by
     rw [show (g : Int) * (t0 : Int) = ((g * t0 : Nat) : Int) from by rw [Int.natCast_mul], hP, wrap_u64_of _ (by omega) (by omega)]
    obtain ⟨K, hK⟩ : ∃ K, R * 4294967296 + u0 = K := ⟨_, rfl⟩
    have d3 : IntKind.u64.wrap ((R : Int) * 4294967296) = (R : Int) * 4294967296 := wrap_u64_of _ (by omega) (by omega)
    have d4 := or_u64_limb R u0 hRb hu0l
    rw [hK] at d4
    have d8 : (R : Int) < 4294967296 := by omega
    by_cases hc2 : K < P
    ·have hcc : R * 4294967296 + u0 < g * t0 := by rw [hP, hK]; exact hc2
     have hg0 := hdec (.inr hcc)
     have hG2 := gi_dec HG.out (.inr hcc) hg0
     have d5 : (K : Int) < (P : Int) := by omega
     have d6 : IntKind.u64.wrap ((g : Int) - 1) = ((g - 1 : Nat) : Int) := by rw [wrap_u64_of _ (by omega) (by omega)]; omega
     have d7 : IntKind.u64.wrap ((R : Int) + (t1 : Int)) = ((R + t1 : Nat) : Int) := by rw [wrap_u64_of _ (by omega) (by omega)]; omega
     obtain ⟨g', hg'⟩ : ∃ g', g - 1 = g' := ⟨_, rfl⟩
     obtain ⟨R', hR'⟩ : ∃ R', R + t1 = R' := ⟨_, rfl⟩
     rw [hg'] at d6 hG2
     rw [hR'] at d7 hG2
     have hgg : g' < g := by omega
     have HG2 := lh hG2
     clear hg' hR' hG2 hdec hP hK hcc
     by_cases hR : 4294967296 <= R'
     ·have d9 : (4294967296 : Int) <= (R' : Int) := by omega
      have hlt := gi_lt HG2.out hR htwob
      have hres := HFIN.out g' R' HG2.out hlt (.inl hR)
      go_wp2
      go_meet
      exact ⟨rfl, g', rfl, hlt, hres⟩
     have d9 : ¬ (4294967296 : Int) <= (R' : Int) := by omega
     go_wp2
     exact ⟨⟨g', R', by omega, by omega, rfl, rfl, HG2⟩, by simp [intOf]; omega⟩
    have d5 : ¬ (K : Int) < (P : Int) := by omega
    have hres := HFIN.out g R HG.out (by omega) (.inr (by rw [hP, hK]; omega))
    clear hP hK hdec
    go_wp2
    go_meet
    exact ⟨rfl, g, rfl, by omega, hres⟩
  case rest =>
   obtain ⟨rfl, G, rfl, hGl, hGX⟩ := hcut
   clear HGI HGN cu0' htwob hg0l hR0l
   go_wp2_with fail
   go_loopw [19, 20, 21, 22] (fun cc bb i _ wx => ∃ t c b : Nat, t <= n /\ c < 4294967296 /\ b <= 1 /\ i = .int .i64 (t : Int) /\ cc = .int .u64 (c : Int) /\ bb = .int .u64 (b : Int) /\ MsR w gx cx N gq m By n (some ad) (limbs V) lq X G j t c b wx) (fun _ _ i _ _ => n - (intOf i).toNat)
   case atStart =>
    refine ⟨0, 0, 0, Nat.zero_le _, by omega, by omega, rfl, rfl, rfl, lx, HDS1.out, ?_, ?_⟩
    ·rw [HXX.out.1, List.take_zero, dv_nil]
     simp
    obtain ⟨_, _, s3, _⟩ := HDS1.out
    apply dv_high s3 (by omega)
    rw [HXX.out.1]
    refine Nat.lt_of_lt_of_le HXX.out.2 ?_
    have h1 := limbs_lt V
    rw [HNL.out.1] at h1
    have h2 := Nat.mul_le_mul_right (4294967296 ^ (j + 1)) (Nat.le_of_lt h1)
    rw [<- Nat.pow_add, show n + (j + 1) = j + n + 1 by omega] at h2
    exact h2
   case round =>
    obtain ⟨t, c0, b0, ht, hc0, hb0, rfl, rfl, rfl, ly, hSy, hms, htp⟩ := hrel
    rename World => wx
    clear HDS1
    obtain ⟨s1, s2, s3, s4, s5, s6, s7, s8⟩ := hSy
    have HSY : Hid (DS w gx cx N gq m By n (some ad) (limbs V) ly lq wx) := lh ⟨s1, s2, s3, s4, s5, s6, s7, s8⟩
    by_cases htn : t < n
    ·obtain ⟨ad', y, hA, hyb, hy, cy⟩ := s7.atf htn
     obtain rfl : ad = ad' := Option.some.inj hA
     have hyl := (limbs_dig V).get hy
     obtain ⟨x, hx⟩ : ∃ x, ly[j + t]? = some x := ⟨_, List.getElem?_eq_getElem (by omega)⟩
     have hxl := s3.get hx
     have cx' := s1.cellf hx
     have fx := s1.frozenf (j + t)
     obtain ⟨P, hP⟩ : ∃ P, G * y = P := ⟨_, rfl⟩
     have hPb : P <= 4294967295 * 4294967295 := by rw [<- hP]; exact Nat.mul_le_mul (by omega) (by omega)
     obtain ⟨C, hC⟩ : ∃ C, c0 + P = C := ⟨_, rfl⟩
     have hCb : C < 18446744073709551616 := by omega
     obtain ⟨l, hl⟩ : ∃ l, C % 4294967296 = l := ⟨_, rfl⟩
     obtain ⟨c', hc'⟩ : ∃ c', C / 4294967296 = c' := ⟨_, rfl⟩
     have hll : l < 4294967296 := by omega
     have hc'l : c' < 4294967296 := by omega
     have hand := and_limb C hCb
     rw [hl] at hand
     obtain ⟨D1, hD1⟩ : ∃ D1, (x + 18446744073709551616 - l) % 18446744073709551616 = D1 := ⟨_, rfl⟩
     obtain ⟨D, hD⟩ : ∃ D, (D1 + 18446744073709551616 - b0) % 18446744073709551616 = D := ⟨_, rfl⟩
     obtain ⟨S, hS⟩ : ∃ S, D % 4294967296 = S := ⟨_, rfl⟩
     obtain ⟨b', hb'⟩ : ∃ b', D / 9223372036854775808 = b' := ⟨_, rfl⟩
     obtain ⟨z1, z2, z3, z4, z5, z6, z7, z8⟩ := sub_limb x l b0 D1 D S b' hxl hll hb0 hD1 hD hS hb'
     have hsb : S + (G * y) + (c0 + b0) = x + 4294967296 * (c' + b') := by
      rw [hP]
      omega
     have hnew := sub_step (β := 4294967296) (l := ly) hx hsb hms
     have hfin : MsR w gx cx N gq m By n (some ad) (limbs V) lq X G j (t + 1) c' b' (wx.setCell ⟨gx, j + t, none⟩ (u32v S)) := by
      refine ⟨_, HSY.out.setX (j + t) S z2 hg2 hgx hg3, ?_, by rw [List.drop_set_of_lt (by omega)]; exact htp⟩
      rw [dv_take_succ hy, Nat.mul_add, Nat.add_mul, show j + (t + 1) = j + t + 1 by omega]
      have e1 : G * (y * 4294967296 ^ t) * 4294967296 ^ j = G * y * 4294967296 ^ (j + t) := by
       rw [Nat.pow_add, <- Nat.mul_assoc, Nat.mul_assoc (G * y), Nat.mul_comm (4294967296 ^ t)]
      rw [e1]
      exact hnew
     have HFIN := lh hfin
     obtain ⟨a, ha⟩ : ∃ a, j + t = a := ⟨_, rfl⟩
     have ra : (j : Int) + (t : Int) = (a : Int) := by omega
     have rb : (a : Int) < (N : Int) := by omega
     have rc : (t : Int) < (n : Int) := by omega
     have rd : IntKind.i64.wrap (a : Int) = (a : Int) := IntWalk.i64_in _ (by omega)
     rw [ha] at cx' fx HFIN
     have y1 : IntKind.u64.wrap ((G : Int) * (y : Int)) = (P : Int) := by
      rw [show (G : Int) * (y : Int) = ((G * y : Nat) : Int) from by rw [Int.natCast_mul], hP, wrap_u64_of _ (by omega) (by omega)]
     have y2 : IntKind.u64.wrap ((c0 : Int) + (P : Int)) = (C : Int) := by rw [wrap_u64_of _ (by omega) (by omega)]; omega
     have y3 : IntKind.u64.wrap (y : Int) = (y : Int) := by rw [wrap_u64_nat, Nat.mod_eq_of_lt (by omega)]
     have y4 : IntKind.u64.wrap (x : Int) = (x : Int) := by rw [wrap_u64_nat, Nat.mod_eq_of_lt (by omega)]
     have y5 : (C : Int) / 4294967296 = (c' : Int) := by omega
     unfold u32v at cx' cy
     clear hP hC hl hc' hD1 hD hS hb' z4 hsb hnew hfin hx hy s1 s2 s3 s4 s5 s6 s7 s8 hms htp ha hA HSY
     go_wp2
     exact ⟨⟨t + 1, c', b', by omega, hc'l, z3, by go_num, by first | rfl | rw [y5], by first | rfl | rw [z8], HFIN.out⟩, by simp [intOf]; omega⟩
    obtain rfl : t = n := by omega
    have hVt : dv 4294967296 ((limbs V).take t) = V := by rw [List.take_of_length_le (by rw [HNL.out.1]; omega), dv_limbs]
    rw [hVt] at hms
    obtain ⟨x, hx⟩ : ∃ x, ly[j + t]? = some x := ⟨_, List.getElem?_eq_getElem (by omega)⟩
    have hxl := s3.get hx
    have cx' := s1.cellf hx
    have fx := s1.frozenf (j + t)
    obtain ⟨D1, hD1⟩ : ∃ D1, (x + 18446744073709551616 - c0) % 18446744073709551616 = D1 := ⟨_, rfl⟩
    obtain ⟨D, hD⟩ : ∃ D, (D1 + 18446744073709551616 - b0) % 18446744073709551616 = D := ⟨_, rfl⟩
    obtain ⟨S, hS⟩ : ∃ S, D % 4294967296 = S := ⟨_, rfl⟩
    obtain ⟨b', hb'⟩ : ∃ b', D / 9223372036854775808 = b' := ⟨_, rfl⟩
    obtain ⟨z1, z2, z3, z4, z5, z6, z7, z8⟩ := sub_limb x c0 b0 D1 D S b' hxl hc0 hb0 hD1 hD hS hb'
    have hsb : S + 0 + (c0 + b0) = x + 4294967296 * b' := by omega
    have hnew := sub_step (β := 4294967296) (l := ly) hx hsb hms
    rw [Nat.zero_mul, Nat.add_zero] at hnew
    have hS2 := HSY.out.setX (j + t) S z2 hg2 hgx hg3
    have htp2 : dv 4294967296 ((ly.set (j + t) S).drop (j + t + 1)) = 0 := by rw [List.drop_set_of_lt (by omega)]; exact htp
    obtain ⟨lz, hlz⟩ : ∃ lz, ly.set (j + t) S = lz := ⟨_, rfl⟩
    rw [hlz] at hnew hS2 htp2
    have HS2 := lh (And.intro hS2 (And.intro hnew htp2))
    have e1 := HA.out.1
    rw [e1] at cx' fx HS2
    have y4 : IntKind.u64.wrap (x : Int) = (x : Int) := by rw [wrap_u64_nat, Nat.mod_eq_of_lt (by omega)]
    have rc : ¬ (t : Int) < (t : Int) := by omega
    unfold u32v at cx' HS2
    have hjt : j + t < N := by omega
    clear hD1 hD hS hb' hsb z4 hnew hx s1 s2 s3 s4 s5 s6 s7 s8 hms htp hS2 htp2 hlz e1 HSY
    have hVP : 0 < V * 4294967296 ^ j := Nat.mul_pos (by rcases Nat.eq_zero_or_pos V with h | h; (subst h; have := HXX.out.2; simp at this); exact h) (Nat.pow_pos (by decide))
    go_upto_if 199 with fail
    clear z5 z6 z7 z8 cx' fx y4
    generalize wx.setCell ⟨gx, a1, none⟩ (.int .u32 (S : Int)) = wz at *
    go_cut [17] (fun v wc => DgR w gx cx N gq m By t (some ad) (limbs V) lq X V j v wc)
    case first =>
     by_cases hbb' : b' = 0
     ·have hb2 : ((b' : Int) == 1) = false := by simp [hbb']
      have hfin : DgR w gx cx N gq m By t (some ad) (limbs V) lq X V j (.int .u64 (G : Int)) wz := by
       have h1 := HS2.out.2.1
       rw [hbb', Nat.zero_mul, Nat.add_zero] at h1
       have h2 := digit_fits hVP hGX.out.1 h1
       exact ⟨G, lz, rfl, HS2.out.1, h2.1, h2.2⟩
      have HFIN := lh hfin
      clear hfin hbb'
      go_wp2
      go_meet
      exact HFIN.out
     obtain rfl : b' = 1 := by omega
     clear hbb'
     have hG0 : 0 < G := by
      rcases Nat.eq_zero_or_pos G with h | h
      ·exfalso
       have h1 := HS2.out.2.1
       rw [h, Nat.zero_mul, Nat.zero_mul, Nat.one_mul] at h1
       obtain ⟨_, z2', z3', _⟩ := HS2.out.1
       have h2 := dv_split (β := 4294967296) (l := lz) (a1 + 1) (by have := HA.out.1; omega)
       rw [HS2.out.2.2, Nat.mul_zero, Nat.add_zero] at h2
       have h3 := dv_lt (z3'.take (a1 + 1))
       rw [List.length_take, Nat.min_eq_left (by have := HA.out.1; omega)] at h3
       omega
      exact h
     have hlzM : dv 4294967296 lz < 4294967296 ^ (a1 + 1) := by
      obtain ⟨_, z2', z3', _⟩ := HS2.out.1
      have h2 := dv_split (β := 4294967296) (l := lz) (a1 + 1) (by have := HA.out.1; omega)
      rw [HS2.out.2.2, Nat.mul_zero, Nat.add_zero] at h2
      have h3 := dv_lt (z3'.take (a1 + 1))
      rw [List.length_take, Nat.min_eq_left (by have := HA.out.1; omega)] at h3
      omega
     obtain ⟨X', hX'⟩ : ∃ X', dv 4294967296 lz = X' := ⟨_, rfl⟩
     obtain ⟨G', hG'⟩ : ∃ G', G - 1 = G' := ⟨_, rfl⟩
     have k1 : IntKind.u64.wrap ((G : Int) - 1) = (G' : Int) := by rw [wrap_u64_of _ (by omega) (by omega)]; omega
     have HZ := lh (And.intro hX' (And.intro hlzM hG'))
     clear hlzM hX' hG'
     go_wp2_with fail
     go_loopw [19, 24] (fun cc i wx => ∃ t' c' : Nat, t' <= t /\ c' <= 1 /\ i = .int .i64 (t' : Int) /\ cc = .int .u64 (c' : Int) /\ AbR w gx cx N gq m By t (some ad) (limbs V) lq X' j t' c' wx) (fun _ i _ => t - (intOf i).toNat)
     case atStart =>
      refine ⟨0, 0, Nat.zero_le _, by omega, rfl, rfl, lz, HS2.out.1, ?_, ?_⟩
      ·rw [List.take_zero, dv_nil, HZ.out.1]
       simp
      rw [HA.out.1]; exact HS2.out.2.2
     case round =>
      obtain ⟨t', c', ht', hc', rfl, rfl, lw, hSw, hab', htp⟩ := hrel
      rename World => wy
      obtain ⟨s1, s2, s3, s4, s5, s6, s7, s8⟩ := hSw
      have HSW : Hid (DS w gx cx N gq m By t (some ad) (limbs V) lw lq wy) := lh ⟨s1, s2, s3, s4, s5, s6, s7, s8⟩
      by_cases htn2 : t' < t
      ·obtain ⟨ad', y, hA, hyb, hy, cy⟩ := s7.atf htn2
       obtain rfl : ad = ad' := Option.some.inj hA
       have hyl := (limbs_dig V).get hy
       obtain ⟨x2, hx2⟩ : ∃ x2, lw[j + t']? = some x2 := ⟨_, List.getElem?_eq_getElem (by omega)⟩
       have hx2l := s3.get hx2
       have cx2 := s1.cellf hx2
       have fx2 := s1.frozenf (j + t')
       obtain ⟨C1, hC1⟩ : ∃ C1, c' + x2 = C1 := ⟨_, rfl⟩
       obtain ⟨C2, hC2⟩ : ∃ C2, C1 + y = C2 := ⟨_, rfl⟩
       obtain ⟨S2, hS2'⟩ : ∃ S2, C2 % 4294967296 = S2 := ⟨_, rfl⟩
       obtain ⟨C, hC⟩ : ∃ C, C2 / 4294967296 = C := ⟨_, rfl⟩
       have hS2l : S2 < 4294967296 := by omega
       have hCC : C <= 1 := by omega
       have hkey : S2 + 4294967296 * C = x2 + y + c' := by omega
       have hnew := add_step (β := 4294967296) (l := lw) hx2 hkey hab'
       have hfin : AbR w gx cx N gq m By t (some ad) (limbs V) lq X' j (t' + 1) C ((wy.drewN 1).setCell ⟨gx, j + t', none⟩ (u32v S2)) := by
        refine ⟨_, (HSW.out.drewN 1).setX (j + t') S2 hS2l hg2 hgx hg3, ?_, by rw [List.drop_set_of_lt (by omega)]; exact htp⟩
        rw [dv_take_succ hy, Nat.add_mul, show j + (t' + 1) = j + t' + 1 by omega, <- Nat.add_assoc]
        have e1 : y * 4294967296 ^ t' * 4294967296 ^ j = y * 4294967296 ^ (j + t') := by rw [Nat.pow_add, Nat.mul_assoc, Nat.mul_comm (4294967296 ^ t')]
        rw [e1]
        exact hnew
       have HFIN := lh hfin
       obtain ⟨a, ha⟩ : ∃ a, j + t' = a := ⟨_, rfl⟩
       have ra : (j : Int) + (t' : Int) = (a : Int) := by omega
       have rb : (a : Int) < (N : Int) := by omega
       have rc2 : (t' : Int) < (t : Int) := by omega
       have re : IntKind.i64.wrap (a : Int) = (a : Int) := IntWalk.i64_in _ (by omega)
       rw [ha] at cx2 fx2 HFIN
       have y1 : IntKind.u64.wrap ((c' : Int) + (x2 : Int)) = (C1 : Int) := by rw [wrap_u64_of _ (by omega) (by omega)]; omega
       have y2 : IntKind.u64.wrap ((C1 : Int) + (y : Int)) = (C2 : Int) := by rw [wrap_u64_of _ (by omega) (by omega)]; omega
       have y3 : IntKind.u64.wrap (y : Int) = (y : Int) := by rw [wrap_u64_nat, Nat.mod_eq_of_lt (by omega)]
       have y4 : IntKind.u64.wrap (x2 : Int) = (x2 : Int) := by rw [wrap_u64_nat, Nat.mod_eq_of_lt (by omega)]
       have y5 : (C2 : Int) / 4294967296 = (C : Int) := by omega
       have y6 : IntKind.u32.wrap (C2 : Int) = (S2 : Int) := by rw [wrap_u32_nat, hS2']
       have y7 : C2 < 18446744073709551616 := by omega
       unfold u32v at cx2 cy
       clear hC1 hC2 hS2' hC hkey hnew hfin hx2 hy s1 s2 s3 s4 s5 s6 s7 s8 hab' htp ha hA HSW
       go_wp2_with fail
       go_region
       go_wp2
       exact ⟨⟨t' + 1, C, by omega, hCC, by go_num, by first | rfl | rw [y5], HFIN.out⟩, by simp [intOf]; omega⟩
      obtain rfl : t' = t := by omega
      have hVt : dv 4294967296 ((limbs V).take t') = V := by rw [List.take_of_length_le (by rw [HNL.out.1]; omega), dv_limbs]
      rw [hVt, HA.out.1] at hab'
      rw [HA.out.1] at htp
      obtain ⟨x3, hx3⟩ : ∃ x3, lw[a1]? = some x3 := ⟨_, List.getElem?_eq_getElem (by have := HA.out.1; omega)⟩
      have hx3l := s3.get hx3
      have cx3 := s1.cellf hx3
      have fx3 := s1.frozenf a1
      obtain ⟨C1, hC1⟩ : ∃ C1, x3 + c' = C1 := ⟨_, rfl⟩
      obtain ⟨S3, hS3⟩ : ∃ S3, C1 % 4294967296 = S3 := ⟨_, rfl⟩
      have hS3l : S3 < 4294967296 := by omega
      have hkey : S3 + 4294967296 * (C1 / 4294967296) = x3 + 0 + c' := by omega
      have hnew := add_step (β := 4294967296) (l := lw) hx3 hkey hab'
      rw [Nat.zero_mul, Nat.add_zero] at hnew
      have hYM : dv 4294967296 (lw.set a1 S3) < 4294967296 ^ (a1 + 1) := by
       have h1 := dv_split (β := 4294967296) (l := lw.set a1 S3) (a1 + 1) (by rw [List.length_set]; have := HA.out.1; omega)
       rw [List.drop_set_of_lt (by omega), htp, Nat.mul_zero, Nat.add_zero] at h1
       rw [h1]
       have h2 := dv_lt ((s3.set_ a1 hS3l).take (a1 + 1))
       rw [List.length_take, List.length_set, Nat.min_eq_left (by have := HA.out.1; omega)] at h2
       exact h2
      have hVM : V * 4294967296 ^ j <= 4294967296 ^ (a1 + 1) := by
       have h1 := limbs_lt V
       rw [HNL.out.1] at h1
       have e : (4294967296 : Nat) ^ (a1 + 1) = 4294967296 ^ t' * 4294967296 ^ (j + 1) := by rw [<- Nat.pow_add]; congr 1; have := HA.out.1; omega
       rw [e]
       exact Nat.mul_le_mul (Nat.le_of_lt h1) (Nat.pow_le_pow_right (by decide) (by omega))
      have he := HS2.out.2.1
      rw [HZ.out.1, Nat.one_mul] at he
      have hX'M := HZ.out.2.1
      rw [HZ.out.1] at hX'M
      have hdig := digit_back hVP hVM hGX.out.2 he hX'M hYM hnew
      have hfin : DgR w gx cx N gq m By t' (some ad) (limbs V) lq X V j (.int .u64 (G' : Int)) (wy.setCell ⟨gx, a1, none⟩ (u32v S3)) :=
       ⟨G', lw.set a1 S3, rfl, HSW.out.setX a1 S3 hS3l hg2 hgx hg3, by rw [<- HZ.out.2.2]; exact hdig.2.1, hdig.2.2⟩
      have HFIN := lh hfin
      have rc2 : ¬ (t' : Int) < (t' : Int) := by omega
      have y1 : IntKind.u64.wrap ((x3 : Int) + (c' : Int)) = (C1 : Int) := by rw [wrap_u64_of _ (by omega) (by omega)]; omega
      have y4 : IntKind.u64.wrap (x3 : Int) = (x3 : Int) := by rw [wrap_u64_nat, Nat.mod_eq_of_lt (by omega)]
      have y6 : IntKind.u32.wrap (C1 : Int) = (S3 : Int) := by rw [wrap_u32_nat, hS3]
      unfold u32v at cx3
      clear hC1 hS3 hkey hnew hYM hVM he hX'M hdig hfin hx3 s1 s2 s3 s4 s5 s6 s7 s8 hab' htp hVt HSW
      go_wp2
      go_meet
      exact HFIN.out
    case rest =>
     obtain ⟨G2, lu2, rfl, hS3, hG2, hlu2⟩ := hcut
     obtain ⟨s1, s2, s3, s4, s5, s6, s7, s8⟩ := hS3
     have hS3 : DS w gx cx N gq m By t (some ad) (limbs V) lu2 lq wc := ⟨s1, s2, s3, s4, s5, s6, s7, s8⟩
     obtain ⟨x3, hx3⟩ : ∃ x3, lq[j]? = some x3 := ⟨_, List.getElem?_eq_getElem (by omega)⟩
     have hx30 : x3 = 0 := dv_zero (by decide) HX.out.2.2 (k := j) (by rw [List.getElem?_take, if_pos (by omega)]; exact hx3)
     subst hx30
     have cq := s4.cell hx3
     have fq := s4.frozen j
     have hG2l : G2 < 4294967296 := by
      rw [hG2, Nat.div_lt_iff_lt_mul hVP]
      have := HXX.out.2
      rw [Nat.pow_succ] at this
      rw [Nat.mul_comm 4294967296, Nat.mul_assoc]
      exact this
     have hst := dv_set (β := 4294967296) G2 hx3
     rw [Nat.zero_mul, Nat.add_zero] at hst
     have hdm := Nat.div_add_mod X (V * 4294967296 ^ j)
     rw [<- hG2, <- hlu2] at hdm
     have hfin : DRel w gx cx N gq m By t (some ad) (limbs V) U V j (wc.setCell ⟨gq, j, none⟩ (u32v G2)) := by
      refine ⟨lu2, lq.set j G2, hS3.setQ j G2 hG2l hg2 hg1 hg4, ?_, ?_, ?_⟩
      ·rw [hst, HX.out.1, Nat.mul_add, HXX.out.1]
       have e : V * (G2 * 4294967296 ^ j) = V * 4294967296 ^ j * G2 := by rw [Nat.mul_comm G2, Nat.mul_assoc]
       rw [e]
       omega
      ·rw [hlu2]
       exact Nat.mod_lt _ hVP
      rw [List.take_set_of_le (by omega)]
      have h1 := dv_take_succ (β := 4294967296) hx3
      rw [HX.out.2.2] at h1
      omega
     have HFIN := lh hfin
     unfold u32v at cq HFIN
     have rj : (j : Int) < (m : Int) := by omega
     have y6 : IntKind.u32.wrap (G2 : Int) = (G2 : Int) := by rw [wrap_u32_nat, Nat.mod_eq_of_lt hG2l]
     clear hG2 hlu2 hst hdm hfin hx3 s1 s2 s3 s4 s5 s6 s7 s8 hS3
     go_wp2
     exact ⟨⟨j, by omega, by go_num, HFIN.out⟩, by simp [intOf] <;> omega⟩
end Go.Proofs.YtecnjlcfoobepaaGreatDoor
