import Derived.Test.YtacbcaebaomglaaGreatDoorRefDivMath
import Derived.Test.YtacbcaebaomglaaGreatDoorRefDown
import Derived.Deep.DeepCutAuto
import Derived.Deep.CutBlock
namespace Go.Proofs.YtacbcaebaomglaaGreatDoor
set_option maxHeartbeats 20000000
open Go.RowKit
set_option linter.all false
def Jka (q r : Nat) (w : World) (e : Ending) (w' : World) : Prop := ∃ v v', e = .returned (.tuple #[v, v']) /\ IsN w' w'.heap.size v q /\ IsN w' w'.heap.size v' r /\ Below w.heap.size w w'
def DS (w : World) (gx cx N gq m By n : Nat) (Ay : Option Addr) (lv lx lq : List Nat) (wr : World) : Prop :=
 Own wr 166 Jo (.slice (some ⟨gx, 0, none⟩) lx.length cx) lx /\ lx.length = N /\ Dig 4294967296 lx /\ Row wr gq 166 Jo lq /\ lq.length = m /\ Dig 4294967296 lq /\ Reads wr By 1 Ay n (lv.map Jo) /\ Below w.heap.size w wr
def Jot (w : World) (gx cx N gq m By n : Nat) (Ay : Option Addr) (lv : List Nat) (U V k : Nat) (wr : World) : Prop :=
 ∃ lx lq : List Nat, DS w gx cx N gq m By n Ay lv lx lq wr /\ U = V * dv 4294967296 lq + dv 4294967296 lx /\ dv 4294967296 lx < V * 4294967296 ^ k /\ dv 4294967296 (lq.take k) = 0
theorem DS.drewN {w wr : World} {gx cx N gq m By n : Nat} {Ay : Option Addr} {lv lx lq : List Nat} (h : DS w gx cx N gq m By n Ay lv lx lq wr) (d : Nat) : DS w gx cx N gq m By n Ay lv lx lq (wr.drewN d) := by
 obtain ⟨h1, h2, h3, h4, h5, h6, h7, h8⟩ := h
 exact ⟨h1.drewN d, h2, h3, h4.drewN d, h5, h6, h7.drewN d, Jy h8 d⟩
theorem DS.setX {w wr : World} {gx cx N gq m By n : Nat} {Ay : Option Addr} {lv lx lq : List Nat} (h : DS w gx cx N gq m By n Ay lv lx lq wr) (k x : Nat) (hx : x < 4294967296) (h1 : gx ≠ gq) (h2 : By <= gx) (h3 : w.heap.size <= gx) :
  DS w gx cx N gq m By n Ay lv (lx.set k x) lq (wr.setCell ⟨gx, k, none⟩ (Jo x)) := by
 obtain ⟨a1, a2, a3, a4, a5, a6, a7, a8⟩ := h
 refine ⟨?_, by rw [List.length_set]; exact a2, a3.set_ k hx, a4.far (Ne.symm h1) _, a5, a6, a7.setCell h2 _, a8.setCell h3 _⟩
 rw [List.length_set]
 exact a1.store k x
theorem DS.setQ {w wr : World} {gx cx N gq m By n : Nat} {Ay : Option Addr} {lv lx lq : List Nat} (h : DS w gx cx N gq m By n Ay lv lx lq wr) (k x : Nat) (hx : x < 4294967296) (h1 : gx ≠ gq) (h2 : By <= gq) (h3 : w.heap.size <= gq) :
  DS w gx cx N gq m By n Ay lv lx (lq.set k x) (wr.setCell ⟨gq, k, none⟩ (Jo x)) := by
 obtain ⟨a1, a2, a3, a4, a5, a6, a7, a8⟩ := h
 refine ⟨?_, a2, a3, a4.set_ k x, by rw [List.length_set]; exact a5, a6.set_ k hx, a7.setCell h2 _, a8.setCell h3 _⟩
 have p8 := a1.lt gx rfl
 exact a1.exc (b := gq) (Exc.set_ (Exc.refl gq wr) k (Jo x)) (by simp [Value.ownBlock]; exact h1)
def MsR (w : World) (gx cx N gq m By n : Nat) (Ay : Option Addr) (lv lq : List Nat) (X G j i c b : Nat) (wr : World) : Prop :=
 ∃ lx : List Nat, DS w gx cx N gq m By n Ay lv lx lq wr /\ dv 4294967296 lx + G * dv 4294967296 (lv.take i) * 4294967296 ^ j = X + (c + b) * 4294967296 ^ (j + i) /\ dv 4294967296 (lx.drop (j + n + 1)) = 0
def AbR (w : World) (gx cx N gq m By n : Nat) (Ay : Option Addr) (lv lq : List Nat) (X j i c : Nat) (wr : World) : Prop :=
 ∃ lx : List Nat, DS w gx cx N gq m By n Ay lv lx lq wr /\ dv 4294967296 lx + c * 4294967296 ^ (j + i) = X + dv 4294967296 (lv.take i) * 4294967296 ^ j /\ dv 4294967296 (lx.drop (j + n + 1)) = 0
def DgR (w : World) (gx cx N gq m By n : Nat) (Ay : Option Addr) (lv lq : List Nat) (X V j : Nat) (v : Value) (wr : World) : Prop :=
 ∃ (G : Nat) (lx : List Nat), v = .int .u64 (G : Int) /\ DS w gx cx N gq m By n Ay lv lx lq wr /\ G = X / (V * 4294967296 ^ j) /\ dv 4294967296 lx = X % (V * 4294967296 ^ j)
theorem Jmv (C : Nat) (h : C < 18446744073709551616) : bits .and .u64 (C : Int) 4294967295 = ((C % 4294967296 : Nat) : Int) := by
 have e := Jj8 C 4294967295 h (by omega)
 rw [show (4294967295 : Int) = ((4294967295 : Nat) : Int) from rfl, e]
 congr 1
 exact Nat.and_two_pow_sub_one_eq_mod C 32
theorem Jhf (x l b D1 D S b' : Nat) (hx : x < 4294967296) (hl : l < 4294967296) (hb : b <= 1) (h1 : (x + 18446744073709551616 - l) % 18446744073709551616 = D1) (h2 : (D1 + 18446744073709551616 - b) % 18446744073709551616 = D) (h3 : D % 4294967296 = S) (h4 : D / 9223372036854775808 = b') :
  D < 18446744073709551616 /\ S < 4294967296 /\ b' <= 1 /\ S + l + b = x + 4294967296 * b' /\ IntKind.u64.wrap ((x : Int) - (l : Int)) = (D1 : Int) /\ IntKind.u64.wrap ((D1 : Int) - (b : Int)) = (D : Int) /\ IntKind.u32.wrap (D : Int) = (S : Int) /\ (D : Int) / 9223372036854775808 = (b' : Int) := by
 have e1 : IntKind.u64.wrap ((x : Int) - (l : Int)) = (D1 : Int) := by
  have h : ((x : Int) - (l : Int)) % 18446744073709551616 = (D1 : Int) := by omega
  exact h
 have e2 : IntKind.u64.wrap ((D1 : Int) - (b : Int)) = (D : Int) := by
  have h : ((D1 : Int) - (b : Int)) % 18446744073709551616 = (D : Int) := by omega
  exact h
 refine ⟨by omega, by omega, by omega, by omega, e1, e2, by rw [Jr, h3], by omega⟩
theorem Jly (b s V n t : Nat) (hV : b * 2 ^ s = V) (hn : (Jc V).length = n) (hs : 32 * n - Je b = s) (hb : b ≠ 0) (bL : Je b <= 32 * n) (h : (Jc V)[n - 1]? = some t) : 2147483648 <= t := by
 have bW : n - 1 < n := by rw [<- hn]; rw [<- hn] at h; exact (List.getElem?_eq_some_iff.1 h).1
 have h1 := Xl (β := 4294967296) (l := Jc V) (n - 1) (by omega)
 have h2 := Qb (β := 4294967296) h
 rw [show n - 1 + 1 = n by omega, Xe (l := Jc V) (k := n) (by omega), Nat.mul_zero, Nat.add_zero] at h2
 rw [Qg, h2] at h1
 have h3 := Xm ((Jq V).take (n - 1))
 rw [List.length_take, Nat.min_eq_left (by omega)] at h3
 have h4 := (Xn b hb)
 have h5 := Nat.mul_le_mul_right (2 ^ s) h4.2.1
 rw [<- Nat.pow_add, hV, show Je b - 1 + s = 32 * (n - 1) + 31 by omega, Nat.pow_add, Nat.pow_mul] at h5
 have h6 : (4294967296 : Nat) ^ (n - 1) * 2147483648 < 4294967296 ^ (n - 1) * (t + 1) := by
  rw [Nat.mul_add, Nat.mul_one]
  have : (2 : Nat) ^ 32 = 4294967296 := rfl
  rw [this] at h5
  have e31 : (2 : Nat) ^ 31 = 2147483648 := rfl
  rw [e31] at h5
  omega
 have := Nat.lt_of_mul_lt_mul_left h6
 omega
theorem Ji5 (b s : Nat) (hb : b ≠ 0) (hs : 32 * (Jc b).length - Je b = s) : s < 32 /\ (Jc (b * 2 ^ s)).length = (Jc b).length := by
 obtain ⟨t, ht, aF, eY⟩ := Jci b hb
 have gB := Jil ht aF
 have h1 := (Xn t aF).1
 have h2 := Zw t 32 eY
 have bW : (Jc b).length - 1 < (Jc b).length := (List.getElem?_eq_some_iff.1 ht).1
 refine ⟨by omega, Nat.le_antisymm ?_ ?_⟩
 ·apply Jbx
  rw [Jhu]
  have h3 := Jd3 (Nat.le_refl (Je b))
  have h4 := Nat.mul_lt_mul_of_pos_right h3 (show 0 < 2 ^ s from Nat.pow_pos (by omega))
  rw [<- Nat.pow_add, show Je b + s = 32 * (Jc b).length by omega] at h4
  exact h4
 apply Yc
 exact Nat.le_mul_of_pos_right _ (Nat.pow_pos (by omega))
set_option maxRecDepth 1000000 in
theorem Jhr (a b B B' : Nat) (va vb : Value) (w : World) (ha : IsN w B va a) (hb : IsN w B' vb b) (hB : B <= w.heap.size) (dN : B' <= w.heap.size) (dO : (Jc a).length <= 17179869184) (dP : b <= a) (hn : 2 <= (Jc b).length) :
  Calls Tryz.prog 110 #[va, vb] w (Jka (a / b) (a % b) w) := by
 have eZ : (Jc b).length <= 17179869184 := nt (Yc dP) dO
 have aI : b ≠ 0 := fun e => by rw [e, Ql] at hn; simp at hn
 have j7 := Jav a b B B' va vb w ha hb (by omega) (by omega)
 obtain ⟨cv, bX⟩ : ∃ cv, Qx a b = cv := ⟨_, rfl⟩
 have bY : ¬ cv < 0 := by
  rw [<- bX]
  unfold Qx
  rw [if_neg (by omega)]
  split <;> decide
 rw [bX] at j7
 have j8 := fun w h => Jht b B' vb w h (by omega)
 obtain ⟨s, hs⟩ : ∃ s, 32 * (Jc b).length - Je b = s := ⟨_, rfl⟩
 have aJ := Ji5 b s aI hs
 have bL := Jei b
 have p9 := fun w h hB => Vh b s B' vb w h hB (by omega) (by omega)
 have q8 := fun w h hB => Vh a s B va w h hB (by omega) (by omega)
 obtain ⟨V, hV⟩ : ∃ V, b * 2 ^ s = V := ⟨_, rfl⟩
 obtain ⟨U, hU⟩ : ∃ U, a * 2 ^ s = U := ⟨_, rfl⟩
 rw [hV] at p9 aJ
 rw [hU] at q8
 have HA := lh ha
 have HB := lh hb
 obtain ⟨A, c, rfl, dQ, bZ, fA, _⟩ := ha
 obtain ⟨A', c', rfl, dR, cA, fB, _⟩ := hb
 obtain ⟨n, bM⟩ : ∃ n, (Jc b).length = n := ⟨_, rfl⟩
 obtain ⟨p, bN⟩ : ∃ p, (Jc a).length = p := ⟨_, rfl⟩
 rw [bM] at j7 j8 p9 HB dR eZ hn hs aJ bL
 rw [bN] at j7 q8 HA dQ dO
 rw [bM, bN]
 have c1 : (32 : Int) * (n : Int) - (Je b : Int) = (s : Int) := by omega
 have c2 : ((n : Int) == 1) = false := by simp; omega
 have c3 : (n == 1) = false := by simp; omega
 have fC := aJ.1
 have HNL := lh (And.intro aJ.2 (And.intro hV (And.intro hU (And.intro bM bN))))
 have HC := lh j7
 have HBI := lh j8
 have HU1 := lh p9
 have HU2 := lh q8
 have dS : Je b <= 32 * n := bL
 have HS := lh hs
 clear aJ hV hU bM bN j7 j8 p9 q8 fA fB hs bX bL
 go_enter Tryz.func110, Tryz.ntmps110
 go_wp2_with fail
 refine HC.out.mono ?_
 rintro e w1 ⟨rfl, aG⟩
 have HA1 := lh (HA.out.next hB aG)
 have HB1 := lh (HB.out.next dN aG)
 clear HA HB HC
 go_wp2_with fail
 refine (HBI.out w1 HB1.out).mono ?_
 rintro e w2 ⟨rfl, rfl⟩
 clear HBI
 go_wp2_with fail
 refine (HU1.out w1 HB1.out (nt dN aG.size)).mono ?_
 rintro e w2 ⟨vy, rfl, hy, cB⟩
 obtain ⟨Ay, cy, rfl, dT, cC, hy, _⟩ := hy
 rw [HNL.out.1] at hy dT
 rw [HNL.out.1]
 clear HU1 HB1
 have aH := Ja aG cB
 have HA2 := lh ((HA1.out.next (nt hB aG.size) cB).next (nt hB aH.size) (Jb w2 (.cells #[] 166)))
 have dU := Ja aH (Jb w2 (.cells #[] 166))
 have HY := lh hy
 have cD : Own (w2.alloc (.cells #[] 166)) 166 Jo (.slice (some ⟨w2.heap.size, 0, none⟩) 0 0) [] := Own.lit w2 166 Jo [] (by unfold maxLen; simp)
 have dV : w2.heap.size <= (w2.alloc (.cells #[] 166)).heap.size := by simp
 have HY3 := lh (HY.out.below (Jb w2 (.cells #[] 166)))
 clear HA1 hy aG cB c1 HY
 go_wp2_with fail
 refine (HU2.out _ HA2.out (by have := aH.size; simp; omega)).mono ?_
 rintro e w4 ⟨vs, rfl, fD, aK⟩
 have dW := Ja dU aK
 have dX := cD.below aK cD.lt
 have dY := HY3.out.below (aK.mono dV)
 have fE : w2.heap.size < w4.heap.size := by have := aK.size; simp at this; omega
 obtain ⟨As, cs, rfl, aL, cE, cF, _⟩ := fD
 obtain ⟨L, hL⟩ : ∃ L, (Jc U).length = L := ⟨_, rfl⟩
 have fF : L <= p + 1 := by
  rw [<- hL]
  apply Jbx
  rw [<- HNL.out.2.2.1, Nat.pow_succ]
  have h1 := Xj a
  rw [HNL.out.2.2.2.2] at h1
  exact Nat.mul_lt_mul'' h1 (Nat.pow_lt_pow_right (by omega) (show s < 32 by omega))
 rw [hL] at cF aL
 rw [hL]
 have HL := lh hL
 have HY4 := lh dY
 clear hL dY HA2 HU2 cD aK HY3 dU dV
 have e1 : (([] : List Nat).length + L <= maxLen) := by unfold maxLen; simp; omega
 have e2 : (([] : List Nat).length + L) * 4 <= 140737488355328 := by simp; omega
 have HE := lh (And.intro e1 e2)
 clear e1 e2
 have dZ : ∀ w5 : World, Reads (w5.alloc (.cells #[.int .u32 0, .int .u32 0] 166)) (w5.heap.size + 1) 1 (some ⟨w5.heap.size, 0, none⟩) 2 (([0, 0] : List Nat).map Jo) := fun w5 => (Row.new w5 166 Jo [0, 0]).reads
 have HR2 := lh dZ
 have e1 : (Jc U).length + 2 <= maxLen := by unfold maxLen; rw [HL.out]; omega
 have e2 : ((Jc U).length + 2) * 4 <= 140737488355328 := by rw [HL.out]; omega
 have HE2 := lh (And.intro e1 e2)
 clear e1 e2 dZ
 go_upto_region 9 with (first | (at_builtin; refine Jo9 Tryz.eltRN rfl (.tmp 54) (.tmp 57) rfl w4 _ [] w4.heap.size As L cs (Jc U) rfl dX rfl cF Jhd HE.out.1 HE.out.2 ?_; intro v5 w5 t7 aM) | (at_builtin; refine Jo9 Tryz.eltRN rfl (.tmp 58) (.tmp 59) rfl (w5.alloc (.cells #[.int .u32 0, .int .u32 0] 166)) _ (Jc U) (w5.heap.size + 1) (some ⟨w5.heap.size, 0, none⟩) 2 2 [0, 0] rfl (Own.alloc t7 _) rfl (HR2.out w5) Jhd HE2.out.1 HE2.out.2 ?_; intro v6 w6 j0 aN))
 have cG : Grew w4 w5 (.slice (some ⟨w2.heap.size, 0, none⟩) 0 0) v5 := aM
 have cH : Grew (w5.alloc (.cells #[.int .u32 0, .int .u32 0] 166)) w6 v5 v6 := aN
 clear aM aN
 have f0 : ∀ k, (Value.slice (some ⟨w2.heap.size, 0, none⟩) 0 0).ownBlock = some k -> w2.heap.size <= k := fun k hk => by simp [Value.ownBlock] at hk; omega
 have b5 := cG.below (B := w2.heap.size) (by omega) f0
 have f5 := cG.fresh (B := w2.heap.size) (by omega) f0
 have b5' := b5.alloc (by have := b5.size; omega) (.cells #[.int .u32 0, .int .u32 0] 166)
 have b6 := b5'.trans (cH.below (B := w2.heap.size) (nt (by omega) b5'.size) f5)
 have f6 := cH.fresh (B := w2.heap.size) (nt (by omega) b5'.size) f5
 have eA := aH.size
 have eB := dW.trans (b6.mono eA)
 have bO := HY4.out.below b6
 have eC := b6.size
 obtain ⟨N, hN⟩ : ∃ N, L + 2 = N := ⟨_, rfl⟩
 have hlx : (Jc U ++ [0, 0]).length = N := by rw [List.length_append, HL.out]; exact hN
 obtain ⟨A6, cx, cI, aO, aP⟩ := j0.form
 rw [cI] at j0 f6
 rw [cI]
 obtain ⟨gx, rfl⟩ := j0.addr (by omega)
 have aQ : w2.heap.size <= gx := f6 gx rfl
 have aR : gx < w6.heap.size := j0.lt gx rfl
 rw [hlx] at aO
 have HOWN := lh j0
 rw [hlx]
 clear cG cH f0 b5 f5 b5' b6 f6 t7 j0 cI dX cF HE HE2 HR2 HY4 dW
 have fG : n <= L := by
  rw [<- HNL.out.1, <- HL.out]
  apply Yc
  rw [<- HNL.out.2.1, <- HNL.out.2.2.1]
  exact Nat.mul_le_mul_right _ dP
 obtain ⟨ad, t1, hA, cJ, bP, eD⟩ := bO.atf (show n - 1 < n by omega)
 obtain ⟨ad', t0, cK, cL, aF, bQ⟩ := bO.atf (show n - 2 < n by omega)
 obtain rfl : ad = ad' := by rw [hA] at cK; exact Option.some.inj cK
 have fH : 2147483648 <= t1 := Jly b s V n t1 HNL.out.2.1 HNL.out.1 HS.out aI dS bP
 have cM := (Jq V).get bP
 have cN := (Jq V).get aF
 obtain ⟨m, hm⟩ : ∃ m, N - n = m := ⟨_, rfl⟩
 have fI := Qf (P := Tryz.prog) Jo 0 52 166 4 Tryz.underlying52 Tryz.infoU32 rfl .i64 .i64 m (by omega) (by omega)
 subst hA
 unfold Jo at eD bQ
 have HTT := lh (And.intro bP aF)
 have HN := lh (And.intro hN (And.intro hlx hm))
 have k1 : ((n : Int) - 1).toNat = n - 1 := by omega
 have k2 : ((n : Int) - 2).toNat = n - 2 := by omega
 have k3 : (0 : Int) <= (n : Int) - 1 := by omega
 have k4 : (0 : Int) <= (n : Int) - 2 := by omega
 have k5 : (n : Int) - 1 < (n : Int) := by omega
 have k6 : (n : Int) - 2 < (n : Int) := by omega
 have k7 : (N : Int) - (n : Int) = (m : Int) := by omega
 have k8 : IntKind.u64.wrap (t1 : Int) = (t1 : Int) := by rw [Jg, Nat.mod_eq_of_lt (by omega)]
 have k9 : IntKind.u64.wrap (t0 : Int) = (t0 : Int) := by rw [Jg, Nat.mod_eq_of_lt (by omega)]
 have gC : N <= 17179869188 := by omega
 have gD : m <= N := by omega
 have gE : 1 <= m := by omega
 have gF : m + n = N := by omega
 clear bP aF hN hlx hm cK
 have HY6 := lh bO
 clear bO
 go_wp2_with fail
 clear fI k1 k2 k3 k4 k5 k6 k7 k8 k9 eD bQ
 have x7 := Row.rep w6 166 Jo 0 m
 have b7 := Jb w6 (.cells (Array.replicate m (Jo 0)) 166)
 have t8 := HOWN.out.below b7 HOWN.out.lt
 have eE := HY6.out.below (b7.mono (by omega))
 have eF := Ja eB b7
 obtain ⟨gq, cO⟩ : ∃ gq, w6.heap.size = gq := ⟨_, rfl⟩
 rw [cO] at x7 aR eC
 rw [cO]
 have eG : DS w gx cx N gq m w2.heap.size n (some ad) (Jc V) (Jc U ++ [0, 0]) (List.replicate m 0) (w6.alloc (.cells (Array.replicate m (Jo 0)) 166)) :=
  ⟨t8, HN.out.2.1, (Jq U).append (Dig.cons (by omega) (Dig.cons (by omega) Dig.nil)), x7, by simp, Dig.rep (by omega) _, eE, eF⟩
 have cP : dv 4294967296 (Jc U ++ [0, 0]) = U := by
  rw [Yk, Qg]
  simp [dv]
 have cQ : Jot w gx cx N gq m w2.heap.size n (some ad) (Jc V) U V m (w6.alloc (.cells (Array.replicate m (Jo 0)) 166)) := by
  refine ⟨_, _, eG, ?_, ?_, ?_⟩
  ·rw [Kk, cP]; simp
  ·rw [cP]
   have h1 := Xj U
   rw [HL.out] at h1
   have h2 := Jd4 V (fun e => by have := HNL.out.1; rw [e, Ql] at this; simp at this; omega)
   rw [HNL.out.1] at h2
   refine Nat.lt_of_lt_of_le h1 (nt ?_ (Nat.mul_le_mul_right _ h2))
   rw [<- Nat.pow_add]
   exact Nat.pow_le_pow_right (by omega) (by have := HN.out.1; omega)
  rw [List.take_of_length_le (by simp), Kk]
 clear x7 b7 t8 eE eF eG cP HOWN HY6 eB cO
 have eH : w2.heap.size <= gq := by omega
 have aS : gx ≠ gq := by omega
 have bR : w.heap.size <= gx := by omega
 have fJ : w.heap.size <= gq := by omega
 obtain ⟨By, eI⟩ : ∃ By, w2.heap.size = By := ⟨_, rfl⟩
 rw [eI] at cQ eH aQ cJ
 clear eI cL eA fE eC aR aH aL cE dQ bZ dR cA dS bY dT cC aO fF fG
 generalize w6.alloc (.cells (Array.replicate m (Jo 0)) 166) = w7 at *
 go_loopw [15] (fun i wr => ∃ k : Nat, k <= m /\ i = .int .i64 ((k : Int) - 1) /\ Jot w gx cx N gq m By n (some ad) (Jc V) U V k wr) (fun i _ => (intOf i + 1).toNat)
 case atStart => exact ⟨m, Nat.le_refl _, rfl, cQ⟩
 case round =>
  obtain ⟨k, hk, rfl, lx, lq, eJ, hU, p8, eK⟩ := hrel
  clear cQ
  rename World => wr
  have HDS := lh eJ
  have HX := lh (And.intro hU (And.intro p8 eK))
  clear eJ hU p8 eK
  by_cases h0 : k = 0
  ·subst h0
   obtain ⟨s1, s2, s3, s4, s5, s6, s7, s8⟩ := HDS.out
   have hx := HX.out
   rw [Nat.pow_zero, Nat.mul_one] at hx
   have eL : 0 < 2 ^ s := Nat.pow_pos (by omega)
   have fK : 0 < V := by omega
   have hq : dv 4294967296 lq = a / b /\ dv 4294967296 lx = a % b * 2 ^ s := by
    have h1 : U / V = dv 4294967296 lq := by
     rw [hx.1, Nat.mul_comm, Nat.add_comm, Nat.add_mul_div_right _ _ fK, Nat.div_eq_of_lt hx.2.1, Nat.zero_add]
    have h2 : U % V = dv 4294967296 lx := by
     rw [hx.1, Nat.mul_comm, Nat.add_comm, Nat.add_mul_mod_self_right, Nat.mod_eq_of_lt hx.2.1]
    rw [<- h1, <- h2, <- HNL.out.2.1, <- HNL.out.2.2.1]
    exact ⟨Nat.mul_div_mul_right _ _ eL, Nat.mul_mod_mul_right _ _ _⟩
   have cS := s4.reads
   rw [s5] at cS
   have cT := s1.reads
   rw [s2] at cT
   have gG := s4.lt
   have HQ := lh hq
   have gH : (-1 : Int) < 0 := by omega
   unfold maxLen at aP
   have eM : N <= cx := by
    obtain ⟨_, _, h1, h2, _⟩ := s1.form
    injection h1 with _ _ h1
    omega
   have isx := IsN.trim cT eM aP s3 HQ.out.2 s1.ty
   have isq := IsN.trim cS zd (by omega) s6 HQ.out.1 s4.ty
   have eN : (Jc (a % b * 2 ^ s)).length <= 34359738368 := by
    refine nt (Yc (show a % b * 2 ^ s <= V from ?_)) (by rw [HNL.out.1]; omega)
    rw [<- HNL.out.2.1]
    exact Nat.mul_le_mul_right _ (Nat.le_of_lt (Nat.mod_lt _ (by omega)))
   clear hq hx
   go_wp2_with fail
   refine (Zr _ m m _ lq wr cS (by omega) zd).mono ?_
   rintro e w8 ⟨rfl, rfl⟩
   go_wp2_with fail
   refine (Zr _ N cx _ lx wr cT (by omega) eM).mono ?_
   rintro e w8 ⟨rfl, rfl⟩
   by_cases fL : s = 0
   ·subst fL
    have x8 := Vh (a % b * 2 ^ 0) 0 wr.heap.size _ wr isx zd eN (by omega)
    rw [Nat.pow_zero, Nat.mul_one, Nat.mul_one] at x8
    have HSH := lh x8
    clear x8
    go_wp2_with fail
    refine HSH.out.mono ?_
    rintro e w9 ⟨vr, rfl, cU, x9⟩
    go_wp2
    go_ret2
    exact ⟨_, _, rfl, (isq.below (x9.mono (by omega))).more (by have := x9.size; omega), cU, Ja s8 x9⟩
   have x8 := Jdn (a % b * 2 ^ s) s wr.heap.size _ wr isx zd eN (by omega) (by omega)
   rw [Nat.mul_div_cancel _ eL] at x8
   have HSH := lh x8
   clear x8
   go_wp2_with fail
   refine HSH.out.mono ?_
   rintro e w9 ⟨vr, rfl, cU, x9⟩
   go_wp2
   go_ret2
   exact ⟨_, _, rfl, (isq.below (x9.mono (by omega))).more (by have := x9.size; omega), cU, Ja s8 x9⟩
  obtain ⟨j, rfl⟩ : ∃ j, k = j + 1 := ⟨k - 1, by omega⟩
  clear h0
  obtain ⟨s1, s2, s3, s4, s5, s6, s7, s8⟩ := HDS.out
  obtain ⟨u2, aT⟩ : ∃ x, lx[j + n]? = some x := ⟨_, List.getElem?_eq_getElem (by omega)⟩
  obtain ⟨u1, aU⟩ : ∃ x, lx[j + n - 1]? = some x := ⟨_, List.getElem?_eq_getElem (by omega)⟩
  obtain ⟨u0, aV⟩ : ∃ x, lx[j + n - 2]? = some x := ⟨_, List.getElem?_eq_getElem (by omega)⟩
  have aW := Jje (β := 4294967296) (by omega) s3 (Jq V) (HNL.out.1) hn aT aU aV HTT.out.1 HTT.out.2 (by omega) (by rw [Qg]; exact HX.out.2.1)
  rw [Qg] at aW
  have cV := s3.get aT
  have cW := s3.get aU
  have aX := s3.get aV
  have cu2 := s1.cellf aT
  have cu1 := s1.cellf aU
  have cu0 := s1.cellf aV
  obtain ⟨a1, cZ⟩ : ∃ a1, j + n = a1 := ⟨_, rfl⟩
  obtain ⟨a2, dA⟩ : ∃ a2, a1 - 1 = a2 := ⟨_, rfl⟩
  obtain ⟨a3, dB⟩ : ∃ a3, a1 - 2 = a3 := ⟨_, rfl⟩
  rw [cZ] at cu2 cu1 cu0
  rw [dA] at cu1
  rw [dB] at cu0
  have r1 : (j : Int) + (n : Int) = (a1 : Int) := by omega
  have r2 : (a1 : Int) - 1 = (a2 : Int) := by omega
  have r3 : (a1 : Int) - 2 = (a3 : Int) := by omega
  have r4 : (a1 : Int) < (N : Int) := by omega
  have r5 : (a2 : Int) < (N : Int) := by omega
  have r6 : (a3 : Int) < (N : Int) := by omega
  have r7 : IntKind.i64.wrap (a1 : Int) = (a1 : Int) := IntWalk.i64_in _ (by omega)
  have r8 : IntKind.i64.wrap (a2 : Int) = (a2 : Int) := IntWalk.i64_in _ (by omega)
  have r9 : IntKind.i64.wrap (a3 : Int) = (a3 : Int) := IntWalk.i64_in _ (by omega)
  have q2 : IntKind.u64.wrap (u2 : Int) = (u2 : Int) := by rw [Jg, Nat.mod_eq_of_lt (by omega)]
  have q1 : IntKind.u64.wrap (u1 : Int) = (u1 : Int) := by rw [Jg, Nat.mod_eq_of_lt (by omega)]
  have q0 : IntKind.u64.wrap (u0 : Int) = (u0 : Int) := by rw [Jg, Nat.mod_eq_of_lt (by omega)]
  have eO := Jaa u2 u1 cV cW
  obtain ⟨two, y8⟩ : ∃ two, u2 * 4294967296 + u1 = two := ⟨_, rfl⟩
  rw [y8] at eO aW
  have q3 : IntKind.u64.wrap ((u2 : Int) * 4294967296) = (u2 : Int) * 4294967296 := Jd _ (by omega) (by omega)
  have aY : two < 18446744073709551616 := by omega
  obtain ⟨g0, u4⟩ : ∃ g0, two / t1 = g0 := ⟨_, rfl⟩
  obtain ⟨R0, bS⟩ : ∃ R0, two % t1 = R0 := ⟨_, rfl⟩
  have q4 : (two : Int) / (t1 : Int) = (g0 : Int) := by rw [<- u4, Int.natCast_ediv]
  have q5 : (two : Int) % (t1 : Int) = (R0 : Int) := by rw [<- bS, Int.natCast_emod]
  have q6 : 0 < (t1 : Int) := by omega
  have q7 : ((t1 : Int) == 0) = false := by simp; omega
  have eP : GI 4294967296 t1 t0 two u0 g0 R0 := by
   rw [<- u4, <- bS]
   exact Jgv (by omega) aX
  have aZ : g0 < 18446744073709551616 := by rw [<- u4]; exact Nat.lt_of_le_of_lt (Nat.div_le_self _ _) aY
  have bA : R0 < 4294967296 := by rw [<- bS]; exact Nat.lt_trans (Nat.mod_lt _ (by omega)) cM
  have j9 : two < (t1 + 1) * 4294967296 := by have := aW.1; omega
  have HGI := lh eP
  have HGN := lh aW.2
  have HA := lh (And.intro cZ (And.intro dA (And.intro dB (And.intro aT (And.intro aU (And.intro aV y8))))))
  unfold Jo at cu2 cu1 cu0
  have k1 : (((j + 1 : Nat) : Int) - 1) = (j : Int) := by omega
  rw [k1]
  clear eP aW cZ dA dB aT aU aV y8 u4 bS s1 s2 s3 s4 s5 s6 s7 s8 k1
  obtain ⟨X, dC⟩ : ∃ X, dv 4294967296 lx = X := ⟨_, rfl⟩
  have y9 := HX.out.2.1
  rw [dC] at HGN y9
  have HXX := lh (And.intro dC y9)
  clear dC y9
  go_wp2_with fail
  go_region
  go_upto_block 2 with fail
  rw [q5]
  have HDS1 := lh (HDS.out.drewN 1)
  have cu0' : wr.drew.cell? ⟨gx, a3, none⟩ = some (.int .u32 (u0 : Int)) := cu0
  clear cu0 cu1 cu2 q1 q2 q3 q4 q5 q6 q7 eO HDS
  have hwd : wr.drewN 1 = wr.drew := rfl
  rw [hwd] at HDS1
  clear hwd
  generalize wr.drew = wd at *
  go_cut [17] (fun v wc => wc = wd /\ ∃ G : Nat, v = .int .u64 (G : Int) /\ G < 4294967296 /\ Hid (X / (V * 4294967296 ^ j) <= G /\ G <= X / (V * 4294967296 ^ j) + 1))
  case first =>
   have e8 : ∀ g R, GI 4294967296 t1 t0 two u0 g R -> g < 4294967296 -> (4294967296 <= R \/ g * t0 <= R * 4294967296 + u0) -> Hid (X / (V * 4294967296 ^ j) <= g /\ g <= X / (V * 4294967296 ^ j) + 1) := fun g R h1 h2 h3 =>
    lh (HGN.out g h2 (Uh h1 h2 cN h3) h1.2)
   have HFIN := lh e8
   clear e8
   go_wp2_with fail
   go_loop [17, 18] (fun a b => ∃ g R : Nat, g < 18446744073709551616 /\ R < 4294967296 /\ a = .int .u64 (g : Int) /\ b = .int .u64 (R : Int) /\ Hid (GI 4294967296 t1 t0 two u0 g R)) (fun a _ => (intOf a).toNat)
   case atStart => exact ⟨_, _, aZ, bA, rfl, rfl, HGI⟩
   case round =>
    obtain ⟨g, R, gI, fM, rfl, rfl, HG⟩ := hrel
    clear HGI HGN
    have o0 : (4294967296 <= g \/ R * 4294967296 + u0 < g * t0) -> 0 < g := by
     intro hc
     rcases hc with h | h
     ·omega
     rcases Nat.eq_zero_or_pos g with h0 | h0
     ·subst h0
      rw [Nat.zero_mul] at h
      omega
     exact h0
    by_cases hc : 4294967296 <= g
    ·have u4 := o0 (.inl hc)
     have j6 := Kj HG.out (.inl hc) u4
     have d1 : (4294967296 : Int) <= (g : Int) := by omega
     have d2 : IntKind.u64.wrap ((g : Int) - 1) = ((g - 1 : Nat) : Int) := by rw [Jd _ (by omega) (by omega)]; omega
     have d3 : IntKind.u64.wrap ((R : Int) + (t1 : Int)) = ((R + t1 : Nat) : Int) := by rw [Jd _ (by omega) (by omega)]; omega
     obtain ⟨g', bB⟩ : ∃ g', g - 1 = g' := ⟨_, rfl⟩
     obtain ⟨R', bC⟩ : ∃ R', R + t1 = R' := ⟨_, rfl⟩
     rw [bB] at d2 j6
     rw [bC] at d3 j6
     have fN : g' < g := by omega
     have HG2 := lh j6
     clear bB bC j6 o0
     by_cases hR : 4294967296 <= R'
     ·have d4 : (4294967296 : Int) <= (R' : Int) := by omega
      have p8 := Jj4 HG2.out hR j9
      have o6 := HFIN.out g' R' HG2.out p8 (.inl hR)
      go_wp2
      go_meet
      exact ⟨rfl, g', rfl, p8, o6⟩
     have d4 : ¬ (4294967296 : Int) <= (R' : Int) := by omega
     go_wp2
     exact ⟨⟨g', R', by omega, by omega, rfl, rfl, HG2⟩, by simp [intOf]; omega⟩
    have d1 : ¬ (4294967296 : Int) <= (g : Int) := by omega
    obtain ⟨P, hP⟩ : ∃ P, g * t0 = P := ⟨_, rfl⟩
    have fO : P < 18446744073709551616 := by
     rw [<- hP]
     exact Nat.lt_of_le_of_lt (Nat.mul_le_mul (show g <= 4294967295 by omega) (show t0 <= 4294967295 by omega)) (by decide)
    have d2 : IntKind.u64.wrap ((g : Int) * (t0 : Int)) = (P : Int) := by
     rw [show (g : Int) * (t0 : Int) = ((g * t0 : Nat) : Int) from by rw [Int.natCast_mul], hP, Jd _ (by omega) (by omega)]
    obtain ⟨K, hK⟩ : ∃ K, R * 4294967296 + u0 = K := ⟨_, rfl⟩
    have d3 : IntKind.u64.wrap ((R : Int) * 4294967296) = (R : Int) * 4294967296 := Jd _ (by omega) (by omega)
    have d4 := Jaa R u0 fM aX
    rw [hK] at d4
    have d8 : (R : Int) < 4294967296 := by omega
    by_cases fP : K < P
    ·have dD : R * 4294967296 + u0 < g * t0 := by rw [hP, hK]; exact fP
     have u4 := o0 (.inr dD)
     have j6 := Kj HG.out (.inr dD) u4
     have d5 : (K : Int) < (P : Int) := by omega
     have d6 : IntKind.u64.wrap ((g : Int) - 1) = ((g - 1 : Nat) : Int) := by rw [Jd _ (by omega) (by omega)]; omega
     have d7 : IntKind.u64.wrap ((R : Int) + (t1 : Int)) = ((R + t1 : Nat) : Int) := by rw [Jd _ (by omega) (by omega)]; omega
     obtain ⟨g', bB⟩ : ∃ g', g - 1 = g' := ⟨_, rfl⟩
     obtain ⟨R', bC⟩ : ∃ R', R + t1 = R' := ⟨_, rfl⟩
     rw [bB] at d6 j6
     rw [bC] at d7 j6
     have fN : g' < g := by omega
     have HG2 := lh j6
     clear bB bC j6 o0 hP hK dD
     by_cases hR : 4294967296 <= R'
     ·have d9 : (4294967296 : Int) <= (R' : Int) := by omega
      have p8 := Jj4 HG2.out hR j9
      have o6 := HFIN.out g' R' HG2.out p8 (.inl hR)
      go_wp2
      go_meet
      exact ⟨rfl, g', rfl, p8, o6⟩
     have d9 : ¬ (4294967296 : Int) <= (R' : Int) := by omega
     go_wp2
     exact ⟨⟨g', R', by omega, by omega, rfl, rfl, HG2⟩, by simp [intOf]; omega⟩
    have d5 : ¬ (K : Int) < (P : Int) := by omega
    have o6 := HFIN.out g R HG.out (by omega) (.inr (by rw [hP, hK]; omega))
    clear hP hK o0
    go_wp2
    go_meet
    exact ⟨rfl, g, rfl, by omega, o6⟩
  case rest =>
   obtain ⟨rfl, G, rfl, gJ, eQ⟩ := hcut
   clear HGI HGN cu0' j9 aZ bA
   go_wp2_with fail
   go_loopw [19, 20, 21, 22] (fun cc bb i _ wx => ∃ t c b : Nat, t <= n /\ c < 4294967296 /\ b <= 1 /\ i = .int .i64 (t : Int) /\ cc = .int .u64 (c : Int) /\ bb = .int .u64 (b : Int) /\ MsR w gx cx N gq m By n (some ad) (Jc V) lq X G j t c b wx) (fun _ _ i _ _ => n - (intOf i).toNat)
   case atStart =>
    refine ⟨0, 0, 0, Nat.zero_le _, by omega, by omega, rfl, rfl, rfl, lx, HDS1.out, ?_, ?_⟩
    ·rw [HXX.out.1, List.take_zero, Up]
     simp
    obtain ⟨_, _, s3, _⟩ := HDS1.out
    apply Km s3 (by omega)
    rw [HXX.out.1]
    refine Nat.lt_of_lt_of_le HXX.out.2 ?_
    have h1 := Xj V
    rw [HNL.out.1] at h1
    have h2 := Nat.mul_le_mul_right (4294967296 ^ (j + 1)) (Nat.le_of_lt h1)
    rw [<- Nat.pow_add, show n + (j + 1) = j + n + 1 by omega] at h2
    exact h2
   case round =>
    obtain ⟨t, c0, b0, ht, bQ, aI, rfl, rfl, rfl, ly, fQ, bD, o9⟩ := hrel
    rename World => wx
    clear HDS1
    obtain ⟨s1, s2, s3, s4, s5, s6, s7, s8⟩ := fQ
    have HSY : Hid (DS w gx cx N gq m By n (some ad) (Jc V) ly lq wx) := lh ⟨s1, s2, s3, s4, s5, s6, s7, s8⟩
    by_cases fR : t < n
    ·obtain ⟨ad', y, hA, fS, hy, cy⟩ := s7.atf fR
     obtain rfl : ad = ad' := Option.some.inj hA
     have fT := (Jq V).get hy
     obtain ⟨x, hx⟩ : ∃ x, ly[j + t]? = some x := ⟨_, List.getElem?_eq_getElem (by omega)⟩
     have dE := s3.get hx
     have cx' := s1.cellf hx
     have fx := s1.frozenf (j + t)
     obtain ⟨P, hP⟩ : ∃ P, G * y = P := ⟨_, rfl⟩
     have fO : P <= 4294967295 * 4294967295 := by rw [<- hP]; exact Nat.mul_le_mul (by omega) (by omega)
     obtain ⟨C, hC⟩ : ∃ C, c0 + P = C := ⟨_, rfl⟩
     have fU : C < 18446744073709551616 := by omega
     obtain ⟨l, hl⟩ : ∃ l, C % 4294967296 = l := ⟨_, rfl⟩
     obtain ⟨c', eR⟩ : ∃ c', C / 4294967296 = c' := ⟨_, rfl⟩
     have fV : l < 4294967296 := by omega
     have dF : c' < 4294967296 := by omega
     have dG := Jmv C fU
     rw [hl] at dG
     obtain ⟨D1, bE⟩ : ∃ D1, (x + 18446744073709551616 - l) % 18446744073709551616 = D1 := ⟨_, rfl⟩
     obtain ⟨D, hD⟩ : ∃ D, (D1 + 18446744073709551616 - b0) % 18446744073709551616 = D := ⟨_, rfl⟩
     obtain ⟨S, hS⟩ : ∃ S, D % 4294967296 = S := ⟨_, rfl⟩
     obtain ⟨b', bF⟩ : ∃ b', D / 9223372036854775808 = b' := ⟨_, rfl⟩
     obtain ⟨z1, z2, z3, z4, z5, z6, z7, z8⟩ := Jhf x l b0 D1 D S b' dE fV aI bE hD hS bF
     have bG : S + (G * y) + (c0 + b0) = x + 4294967296 * (c' + b') := by
      rw [hP]
      omega
     have e9 := Ut (β := 4294967296) (l := ly) hx bG bD
     have e8 : MsR w gx cx N gq m By n (some ad) (Jc V) lq X G j (t + 1) c' b' (wx.setCell ⟨gx, j + t, none⟩ (Jo S)) := by
      refine ⟨_, HSY.out.setX (j + t) S z2 aS aQ bR, ?_, by rw [List.drop_set_of_lt (by omega)]; exact o9⟩
      rw [Js hy, Nat.mul_add, Nat.add_mul, show j + (t + 1) = j + t + 1 by omega]
      have e1 : G * (y * 4294967296 ^ t) * 4294967296 ^ j = G * y * 4294967296 ^ (j + t) := by
       rw [Nat.pow_add, <- Nat.mul_assoc, Nat.mul_assoc (G * y), Nat.mul_comm (4294967296 ^ t)]
      rw [e1]
      exact e9
     have HFIN := lh e8
     obtain ⟨a, ha⟩ : ∃ a, j + t = a := ⟨_, rfl⟩
     have ra : (j : Int) + (t : Int) = (a : Int) := by omega
     have rb : (a : Int) < (N : Int) := by omega
     have rc : (t : Int) < (n : Int) := by omega
     have rd : IntKind.i64.wrap (a : Int) = (a : Int) := IntWalk.i64_in _ (by omega)
     rw [ha] at cx' fx HFIN
     have y1 : IntKind.u64.wrap ((G : Int) * (y : Int)) = (P : Int) := by
      rw [show (G : Int) * (y : Int) = ((G * y : Nat) : Int) from by rw [Int.natCast_mul], hP, Jd _ (by omega) (by omega)]
     have y2 : IntKind.u64.wrap ((c0 : Int) + (P : Int)) = (C : Int) := by rw [Jd _ (by omega) (by omega)]; omega
     have y3 : IntKind.u64.wrap (y : Int) = (y : Int) := by rw [Jg, Nat.mod_eq_of_lt (by omega)]
     have y4 : IntKind.u64.wrap (x : Int) = (x : Int) := by rw [Jg, Nat.mod_eq_of_lt (by omega)]
     have y5 : (C : Int) / 4294967296 = (c' : Int) := by omega
     unfold Jo at cx' cy
     clear hP hC hl eR bE hD hS bF z4 bG e9 e8 hx hy s1 s2 s3 s4 s5 s6 s7 s8 bD o9 ha hA HSY
     go_wp2
     exact ⟨⟨t + 1, c', b', by omega, dF, z3, by go_num, by first | rfl | rw [y5], by first | rfl | rw [z8], HFIN.out⟩, by simp [intOf]; omega⟩
    obtain rfl : t = n := by omega
    have bT : dv 4294967296 ((Jc V).take t) = V := by rw [List.take_of_length_le (by rw [HNL.out.1]; omega), Qg]
    rw [bT] at bD
    obtain ⟨x, hx⟩ : ∃ x, ly[j + t]? = some x := ⟨_, List.getElem?_eq_getElem (by omega)⟩
    have dE := s3.get hx
    have cx' := s1.cellf hx
    have fx := s1.frozenf (j + t)
    obtain ⟨D1, bE⟩ : ∃ D1, (x + 18446744073709551616 - c0) % 18446744073709551616 = D1 := ⟨_, rfl⟩
    obtain ⟨D, hD⟩ : ∃ D, (D1 + 18446744073709551616 - b0) % 18446744073709551616 = D := ⟨_, rfl⟩
    obtain ⟨S, hS⟩ : ∃ S, D % 4294967296 = S := ⟨_, rfl⟩
    obtain ⟨b', bF⟩ : ∃ b', D / 9223372036854775808 = b' := ⟨_, rfl⟩
    obtain ⟨z1, z2, z3, z4, z5, z6, z7, z8⟩ := Jhf x c0 b0 D1 D S b' dE bQ aI bE hD hS bF
    have bG : S + 0 + (c0 + b0) = x + 4294967296 * b' := by omega
    have e9 := Ut (β := 4294967296) (l := ly) hx bG bD
    rw [Nat.zero_mul, Nat.add_zero] at e9
    have dH := HSY.out.setX (j + t) S z2 aS aQ bR
    have aA : dv 4294967296 ((ly.set (j + t) S).drop (j + t + 1)) = 0 := by rw [List.drop_set_of_lt (by omega)]; exact o9
    obtain ⟨lz, eS⟩ : ∃ lz, ly.set (j + t) S = lz := ⟨_, rfl⟩
    rw [eS] at e9 dH aA
    have HS2 := lh (And.intro dH (And.intro e9 aA))
    have e1 := HA.out.1
    rw [e1] at cx' fx HS2
    have y4 : IntKind.u64.wrap (x : Int) = (x : Int) := by rw [Jg, Nat.mod_eq_of_lt (by omega)]
    have rc : ¬ (t : Int) < (t : Int) := by omega
    unfold Jo at cx' HS2
    have gK : j + t < N := by omega
    clear bE hD hS bF bG z4 e9 hx s1 s2 s3 s4 s5 s6 s7 s8 bD o9 dH aA eS e1 HSY
    have bU : 0 < V * 4294967296 ^ j := Nat.mul_pos (by rcases Nat.eq_zero_or_pos V with h | h; (subst h; have := HXX.out.2; simp at this); exact h) (Nat.pow_pos (by decide))
    go_upto_if 199 with fail
    clear z5 z6 z7 z8 cx' fx y4
    generalize wx.setCell ⟨gx, a1, none⟩ (.int .u32 (S : Int)) = wz at *
    go_cut [17] (fun v wc => DgR w gx cx N gq m By t (some ad) (Jc V) lq X V j v wc)
    case first =>
     by_cases s9 : b' = 0
     ·have aH : ((b' : Int) == 1) = false := by simp [s9]
      have e8 : DgR w gx cx N gq m By t (some ad) (Jc V) lq X V j (.int .u64 (G : Int)) wz := by
       have h1 := HS2.out.2.1
       rw [s9, Nat.zero_mul, Nat.add_zero] at h1
       have h2 := Jed bU eQ.out.1 h1
       exact ⟨G, lz, rfl, HS2.out.1, h2.1, h2.2⟩
      have HFIN := lh e8
      clear e8 s9
      go_wp2
      go_meet
      exact HFIN.out
     obtain rfl : b' = 1 := by omega
     clear s9
     have gL : 0 < G := by
      rcases Nat.eq_zero_or_pos G with h | h
      ·exfalso
       have h1 := HS2.out.2.1
       rw [h, Nat.zero_mul, Nat.zero_mul, Nat.one_mul] at h1
       obtain ⟨_, z2', z3', _⟩ := HS2.out.1
       have h2 := Xl (β := 4294967296) (l := lz) (a1 + 1) (by have := HA.out.1; omega)
       rw [HS2.out.2.2, Nat.mul_zero, Nat.add_zero] at h2
       have h3 := Xm (z3'.take (a1 + 1))
       rw [List.length_take, Nat.min_eq_left (by have := HA.out.1; omega)] at h3
       omega
      exact h
     have bH : dv 4294967296 lz < 4294967296 ^ (a1 + 1) := by
      obtain ⟨_, z2', z3', _⟩ := HS2.out.1
      have h2 := Xl (β := 4294967296) (l := lz) (a1 + 1) (by have := HA.out.1; omega)
      rw [HS2.out.2.2, Nat.mul_zero, Nat.add_zero] at h2
      have h3 := Xm (z3'.take (a1 + 1))
      rw [List.length_take, Nat.min_eq_left (by have := HA.out.1; omega)] at h3
      omega
     obtain ⟨X', eT⟩ : ∃ X', dv 4294967296 lz = X' := ⟨_, rfl⟩
     obtain ⟨G', eU⟩ : ∃ G', G - 1 = G' := ⟨_, rfl⟩
     have k1 : IntKind.u64.wrap ((G : Int) - 1) = (G' : Int) := by rw [Jd _ (by omega) (by omega)]; omega
     have HZ := lh (And.intro eT (And.intro bH eU))
     clear bH eT eU
     go_wp2_with fail
     go_loopw [19, 24] (fun cc i wx => ∃ t' c' : Nat, t' <= t /\ c' <= 1 /\ i = .int .i64 (t' : Int) /\ cc = .int .u64 (c' : Int) /\ AbR w gx cx N gq m By t (some ad) (Jc V) lq X' j t' c' wx) (fun _ i _ => t - (intOf i).toNat)
     case atStart =>
      refine ⟨0, 0, Nat.zero_le _, by omega, rfl, rfl, lz, HS2.out.1, ?_, ?_⟩
      ·rw [List.take_zero, Up, HZ.out.1]
       simp
      rw [HA.out.1]; exact HS2.out.2.2
     case round =>
      obtain ⟨t', c', gM, eR, rfl, rfl, lw, fW, o7, o9⟩ := hrel
      rename World => wy
      obtain ⟨s1, s2, s3, s4, s5, s6, s7, s8⟩ := fW
      have HSW : Hid (DS w gx cx N gq m By t (some ad) (Jc V) lw lq wy) := lh ⟨s1, s2, s3, s4, s5, s6, s7, s8⟩
      by_cases dI : t' < t
      ·obtain ⟨ad', y, hA, fS, hy, cy⟩ := s7.atf dI
       obtain rfl : ad = ad' := Option.some.inj hA
       have fT := (Jq V).get hy
       obtain ⟨x2, bV⟩ : ∃ x2, lw[j + t']? = some x2 := ⟨_, List.getElem?_eq_getElem (by omega)⟩
       have fX := s3.get bV
       have cx2 := s1.cellf bV
       have fx2 := s1.frozenf (j + t')
       obtain ⟨C1, dJ⟩ : ∃ C1, c' + x2 = C1 := ⟨_, rfl⟩
       obtain ⟨C2, fY⟩ : ∃ C2, C1 + y = C2 := ⟨_, rfl⟩
       obtain ⟨S2, bI⟩ : ∃ S2, C2 % 4294967296 = S2 := ⟨_, rfl⟩
       obtain ⟨C, hC⟩ : ∃ C, C2 / 4294967296 = C := ⟨_, rfl⟩
       have dK : S2 < 4294967296 := by omega
       have fZ : C <= 1 := by omega
       have o8 : S2 + 4294967296 * C = x2 + y + c' := by omega
       have e9 := Ua (β := 4294967296) (l := lw) bV o8 o7
       have e8 : AbR w gx cx N gq m By t (some ad) (Jc V) lq X' j (t' + 1) C ((wy.drewN 1).setCell ⟨gx, j + t', none⟩ (Jo S2)) := by
        refine ⟨_, (HSW.out.drewN 1).setX (j + t') S2 dK aS aQ bR, ?_, by rw [List.drop_set_of_lt (by omega)]; exact o9⟩
        rw [Js hy, Nat.add_mul, show j + (t' + 1) = j + t' + 1 by omega, <- Nat.add_assoc]
        have e1 : y * 4294967296 ^ t' * 4294967296 ^ j = y * 4294967296 ^ (j + t') := by rw [Nat.pow_add, Nat.mul_assoc, Nat.mul_comm (4294967296 ^ t')]
        rw [e1]
        exact e9
       have HFIN := lh e8
       obtain ⟨a, ha⟩ : ∃ a, j + t' = a := ⟨_, rfl⟩
       have ra : (j : Int) + (t' : Int) = (a : Int) := by omega
       have rb : (a : Int) < (N : Int) := by omega
       have rc2 : (t' : Int) < (t : Int) := by omega
       have re : IntKind.i64.wrap (a : Int) = (a : Int) := IntWalk.i64_in _ (by omega)
       rw [ha] at cx2 fx2 HFIN
       have y1 : IntKind.u64.wrap ((c' : Int) + (x2 : Int)) = (C1 : Int) := by rw [Jd _ (by omega) (by omega)]; omega
       have y2 : IntKind.u64.wrap ((C1 : Int) + (y : Int)) = (C2 : Int) := by rw [Jd _ (by omega) (by omega)]; omega
       have y3 : IntKind.u64.wrap (y : Int) = (y : Int) := by rw [Jg, Nat.mod_eq_of_lt (by omega)]
       have y4 : IntKind.u64.wrap (x2 : Int) = (x2 : Int) := by rw [Jg, Nat.mod_eq_of_lt (by omega)]
       have y5 : (C2 : Int) / 4294967296 = (C : Int) := by omega
       have y6 : IntKind.u32.wrap (C2 : Int) = (S2 : Int) := by rw [Jr, bI]
       have y7 : C2 < 18446744073709551616 := by omega
       unfold Jo at cx2 cy
       clear dJ fY bI hC o8 e9 e8 bV hy s1 s2 s3 s4 s5 s6 s7 s8 o7 o9 ha hA HSW
       go_wp2_with fail
       go_region
       go_wp2
       exact ⟨⟨t' + 1, C, by omega, fZ, by go_num, by first | rfl | rw [y5], HFIN.out⟩, by simp [intOf]; omega⟩
      obtain rfl : t' = t := by omega
      have bT : dv 4294967296 ((Jc V).take t') = V := by rw [List.take_of_length_le (by rw [HNL.out.1]; omega), Qg]
      rw [bT, HA.out.1] at o7
      rw [HA.out.1] at o9
      obtain ⟨x3, p7⟩ : ∃ x3, lw[a1]? = some x3 := ⟨_, List.getElem?_eq_getElem (by have := HA.out.1; omega)⟩
      have gA := s3.get p7
      have cx3 := s1.cellf p7
      have fx3 := s1.frozenf a1
      obtain ⟨C1, dJ⟩ : ∃ C1, x3 + c' = C1 := ⟨_, rfl⟩
      obtain ⟨S3, aB⟩ : ∃ S3, C1 % 4294967296 = S3 := ⟨_, rfl⟩
      have bJ : S3 < 4294967296 := by omega
      have o8 : S3 + 4294967296 * (C1 / 4294967296) = x3 + 0 + c' := by omega
      have e9 := Ua (β := 4294967296) (l := lw) p7 o8 o7
      rw [Nat.zero_mul, Nat.add_zero] at e9
      have eV : dv 4294967296 (lw.set a1 S3) < 4294967296 ^ (a1 + 1) := by
       have h1 := Xl (β := 4294967296) (l := lw.set a1 S3) (a1 + 1) (by rw [List.length_set]; have := HA.out.1; omega)
       rw [List.drop_set_of_lt (by omega), o9, Nat.mul_zero, Nat.add_zero] at h1
       rw [h1]
       have h2 := Xm ((s3.set_ a1 bJ).take (a1 + 1))
       rw [List.length_take, List.length_set, Nat.min_eq_left (by have := HA.out.1; omega)] at h2
       exact h2
      have eW : V * 4294967296 ^ j <= 4294967296 ^ (a1 + 1) := by
       have h1 := Xj V
       rw [HNL.out.1] at h1
       have e : (4294967296 : Nat) ^ (a1 + 1) = 4294967296 ^ t' * 4294967296 ^ (j + 1) := by rw [<- Nat.pow_add]; congr 1; have := HA.out.1; omega
       rw [e]
       exact Nat.mul_le_mul (Nat.le_of_lt h1) (Nat.pow_le_pow_right (by decide) (by omega))
      have he := HS2.out.2.1
      rw [HZ.out.1, Nat.one_mul] at he
      have aC := HZ.out.2.1
      rw [HZ.out.1] at aC
      have aD := Jee bU eW eQ.out.2 he aC eV e9
      have e8 : DgR w gx cx N gq m By t' (some ad) (Jc V) lq X V j (.int .u64 (G' : Int)) (wy.setCell ⟨gx, a1, none⟩ (Jo S3)) :=
       ⟨G', lw.set a1 S3, rfl, HSW.out.setX a1 S3 bJ aS aQ bR, by rw [<- HZ.out.2.2]; exact aD.2.1, aD.2.2⟩
      have HFIN := lh e8
      have rc2 : ¬ (t' : Int) < (t' : Int) := by omega
      have y1 : IntKind.u64.wrap ((x3 : Int) + (c' : Int)) = (C1 : Int) := by rw [Jd _ (by omega) (by omega)]; omega
      have y4 : IntKind.u64.wrap (x3 : Int) = (x3 : Int) := by rw [Jg, Nat.mod_eq_of_lt (by omega)]
      have y6 : IntKind.u32.wrap (C1 : Int) = (S3 : Int) := by rw [Jr, aB]
      unfold Jo at cx3
      clear dJ aB o8 e9 eV eW he aC aD e8 p7 s1 s2 s3 s4 s5 s6 s7 s8 o7 o9 bT HSW
      go_wp2
      go_meet
      exact HFIN.out
    case rest =>
     obtain ⟨G2, lu2, rfl, aB, j6, aE⟩ := hcut
     obtain ⟨s1, s2, s3, s4, s5, s6, s7, s8⟩ := aB
     have aB : DS w gx cx N gq m By t (some ad) (Jc V) lu2 lq wc := ⟨s1, s2, s3, s4, s5, s6, s7, s8⟩
     obtain ⟨x3, p7⟩ : ∃ x3, lq[j]? = some x3 := ⟨_, List.getElem?_eq_getElem (by omega)⟩
     have dL : x3 = 0 := Ja2 (by decide) HX.out.2.2 (k := j) (by rw [List.getElem?_take, if_pos (by omega)]; exact p7)
     subst dL
     have cq := s4.cell p7
     have fq := s4.frozen j
     have bK : G2 < 4294967296 := by
      rw [j6, Nat.div_lt_iff_lt_mul bU]
      have := HXX.out.2
      rw [Nat.pow_succ] at this
      rw [Nat.mul_comm 4294967296, Nat.mul_assoc]
      exact this
     have dM := Yx (β := 4294967296) G2 p7
     rw [Nat.zero_mul, Nat.add_zero] at dM
     have eX := Nat.div_add_mod X (V * 4294967296 ^ j)
     rw [<- j6, <- aE] at eX
     have e8 : Jot w gx cx N gq m By t (some ad) (Jc V) U V j (wc.setCell ⟨gq, j, none⟩ (Jo G2)) := by
      refine ⟨lu2, lq.set j G2, aB.setQ j G2 bK aS eH fJ, ?_, ?_, ?_⟩
      ·rw [dM, HX.out.1, Nat.mul_add, HXX.out.1]
       have e : V * (G2 * 4294967296 ^ j) = V * 4294967296 ^ j * G2 := by rw [Nat.mul_comm G2, Nat.mul_assoc]
       rw [e]
       omega
      ·rw [aE]
       exact Nat.mod_lt _ bU
      rw [List.take_set_of_le (by omega)]
      have h1 := Js (β := 4294967296) p7
      rw [HX.out.2.2] at h1
      omega
     have HFIN := lh e8
     unfold Jo at cq HFIN
     have rj : (j : Int) < (m : Int) := by omega
     have y6 : IntKind.u32.wrap (G2 : Int) = (G2 : Int) := by rw [Jr, Nat.mod_eq_of_lt bK]
     clear j6 aE dM eX e8 p7 s1 s2 s3 s4 s5 s6 s7 s8 aB
     go_wp2
     exact ⟨⟨j, by omega, by go_num, HFIN.out⟩, by simp [intOf] <;> omega⟩
