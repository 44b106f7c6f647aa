import Derived.Test.YtcoloflmigcphaaGreatDoorRefDivMath
import Derived.Test.YtcoloflmigcphaaGreatDoorRefDown
import Derived.Deep.DeepCutAuto
import Derived.Deep.CutBlock
namespace Go.Proofs.YtcoloflmigcphaaGreatDoor
set_option maxHeartbeats 20000000
open Go.RowKit
set_option linter.all false
def Jjc (q r : Nat) (w : World) (e : Ending) (w' : World) : Prop := ∃ v v', e = .returned (.tuple #[v, v']) /\ IsN w' w'.heap.size v q /\ IsN w' w'.heap.size v' r /\ Below w.heap.size w w'
def DS (w : World) (gx cx N gq m By n : Nat) (Ay : Option Addr) (lv lx lq : List Nat) (wr : World) : Prop :=
 Own wr 163 Ju (.slice (some ⟨gx, 0, none⟩) lx.length cx) lx /\ lx.length = N /\ Dig 4294967296 lx /\ Row wr gq 163 Ju lq /\ lq.length = m /\ Dig 4294967296 lq /\ Reads wr By 1 Ay n (lv.map Ju) /\ Below w.heap.size w wr
def Jn3 (w : World) (gx cx N gq m By n : Nat) (Ay : Option Addr) (lv : List Nat) (U V k : Nat) (wr : World) : Prop :=
 ∃ lx lq : List Nat, DS w gx cx N gq m By n Ay lv lx lq wr /\ U = V * dv 4294967296 lq + dv 4294967296 lx /\ dv 4294967296 lx < V * 4294967296 ^ k /\ dv 4294967296 (lq.take k) = 0
theorem DS.drewN {w wr : World} {gx cx N gq m By n : Nat} {Ay : Option Addr} {lv lx lq : List Nat} (h : DS w gx cx N gq m By n Ay lv lx lq wr) (d : Nat) : DS w gx cx N gq m By n Ay lv lx lq (wr.drewN d) := by
 obtain ⟨h1, h2, h3, h4, h5, h6, h7, h8⟩ := h
 exact ⟨h1.drewN d, h2, h3, h4.drewN d, h5, h6, h7.drewN d, Jw h8 d⟩
theorem DS.setX {w wr : World} {gx cx N gq m By n : Nat} {Ay : Option Addr} {lv lx lq : List Nat} (h : DS w gx cx N gq m By n Ay lv lx lq wr) (k x : Nat) (hx : x < 4294967296) (h1 : gx ≠ gq) (h2 : By <= gx) (h3 : w.heap.size <= gx) :
  DS w gx cx N gq m By n Ay lv (lx.set k x) lq (wr.setCell ⟨gx, k, none⟩ (Ju x)) := by
 obtain ⟨a1, a2, a3, a4, a5, a6, a7, a8⟩ := h
 refine ⟨?_, by rw [List.length_set]; exact a2, a3.set_ k hx, a4.far (Ne.symm h1) _, a5, a6, a7.setCell h2 _, a8.setCell h3 _⟩
 rw [List.length_set]
 exact a1.store k x
theorem DS.setQ {w wr : World} {gx cx N gq m By n : Nat} {Ay : Option Addr} {lv lx lq : List Nat} (h : DS w gx cx N gq m By n Ay lv lx lq wr) (k x : Nat) (hx : x < 4294967296) (h1 : gx ≠ gq) (h2 : By <= gq) (h3 : w.heap.size <= gq) :
  DS w gx cx N gq m By n Ay lv lx (lq.set k x) (wr.setCell ⟨gq, k, none⟩ (Ju x)) := by
 obtain ⟨a1, a2, a3, a4, a5, a6, a7, a8⟩ := h
 refine ⟨?_, a2, a3, a4.set_ k x, by rw [List.length_set]; exact a5, a6.set_ k hx, a7.setCell h2 _, a8.setCell h3 _⟩
 have s9 := a1.lt gx rfl
 exact a1.exc (b := gq) (Exc.set_ (Exc.refl gq wr) k (Ju x)) (by simp [Value.ownBlock]; exact h1)
def MsR (w : World) (gx cx N gq m By n : Nat) (Ay : Option Addr) (lv lq : List Nat) (X G j i c b : Nat) (wr : World) : Prop :=
 ∃ lx : List Nat, DS w gx cx N gq m By n Ay lv lx lq wr /\ dv 4294967296 lx + G * dv 4294967296 (lv.take i) * 4294967296 ^ j = X + (c + b) * 4294967296 ^ (j + i) /\ dv 4294967296 (lx.drop (j + n + 1)) = 0
def AbR (w : World) (gx cx N gq m By n : Nat) (Ay : Option Addr) (lv lq : List Nat) (X j i c : Nat) (wr : World) : Prop :=
 ∃ lx : List Nat, DS w gx cx N gq m By n Ay lv lx lq wr /\ dv 4294967296 lx + c * 4294967296 ^ (j + i) = X + dv 4294967296 (lv.take i) * 4294967296 ^ j /\ dv 4294967296 (lx.drop (j + n + 1)) = 0
def DgR (w : World) (gx cx N gq m By n : Nat) (Ay : Option Addr) (lv lq : List Nat) (X V j : Nat) (v : Value) (wr : World) : Prop :=
 ∃ (G : Nat) (lx : List Nat), v = .int .u64 (G : Int) /\ DS w gx cx N gq m By n Ay lv lx lq wr /\ G = X / (V * 4294967296 ^ j) /\ dv 4294967296 lx = X % (V * 4294967296 ^ j)
theorem Jlw (C : Nat) (h : C < 18446744073709551616) : bits .and .u64 (C : Int) 4294967295 = ((C % 4294967296 : Nat) : Int) := by
 have e := Jja C 4294967295 h (by omega)
 rw [show (4294967295 : Int) = ((4294967295 : Nat) : Int) from rfl, e]
 congr 1
 exact Nat.and_two_pow_sub_one_eq_mod C 32
theorem Jgb (x l b D1 D S b' : Nat) (hx : x < 4294967296) (hl : l < 4294967296) (hb : b <= 1) (h1 : (x + 18446744073709551616 - l) % 18446744073709551616 = D1) (h2 : (D1 + 18446744073709551616 - b) % 18446744073709551616 = D) (h3 : D % 4294967296 = S) (h4 : D / 9223372036854775808 = b') :
  D < 18446744073709551616 /\ S < 4294967296 /\ b' <= 1 /\ S + l + b = x + 4294967296 * b' /\ IntKind.u64.wrap ((x : Int) - (l : Int)) = (D1 : Int) /\ IntKind.u64.wrap ((D1 : Int) - (b : Int)) = (D : Int) /\ IntKind.u32.wrap (D : Int) = (S : Int) /\ (D : Int) / 9223372036854775808 = (b' : Int) := by
 have e1 : IntKind.u64.wrap ((x : Int) - (l : Int)) = (D1 : Int) := by
  have h : ((x : Int) - (l : Int)) % 18446744073709551616 = (D1 : Int) := by omega
  exact h
 have e2 : IntKind.u64.wrap ((D1 : Int) - (b : Int)) = (D : Int) := by
  have h : ((D1 : Int) - (b : Int)) % 18446744073709551616 = (D : Int) := by omega
  exact h
 refine ⟨by omega, by omega, by omega, by omega, e1, e2, by rw [Qb, h3], by omega⟩
theorem Jk5 (b s V n t : Nat) (hV : b * 2 ^ s = V) (hn : (Jd V).length = n) (hs : 32 * n - Je b = s) (hb : b ≠ 0) (bS : Je b <= 32 * n) (h : (Jd V)[n - 1]? = some t) : 2147483648 <= t := by
 have cE : n - 1 < n := by rw [<- hn]; rw [<- hn] at h; exact (List.getElem?_eq_some_iff.1 h).1
 have h1 := Xd (β := 4294967296) (l := Jd V) (n - 1) (by omega)
 have h2 := Qa (β := 4294967296) h
 rw [show n - 1 + 1 = n by omega, Qx (l := Jd V) (k := n) (by omega), Nat.mul_zero, Nat.add_zero] at h2
 rw [Ql, h2] at h1
 have h3 := Xm ((Jx V).take (n - 1))
 rw [List.length_take, Nat.min_eq_left (by omega)] at h3
 have h4 := (Xe b hb)
 have h5 := Nat.mul_le_mul_right (2 ^ s) h4.2.1
 rw [<- Nat.pow_add, hV, show Je b - 1 + s = 32 * (n - 1) + 31 by omega, Nat.pow_add, Nat.pow_mul] at h5
 have h6 : (4294967296 : Nat) ^ (n - 1) * 2147483648 < 4294967296 ^ (n - 1) * (t + 1) := by
  rw [Nat.mul_add, Nat.mul_one]
  have : (2 : Nat) ^ 32 = 4294967296 := rfl
  rw [this] at h5
  have e31 : (2 : Nat) ^ 31 = 2147483648 := rfl
  rw [e31] at h5
  omega
 have := Nat.lt_of_mul_lt_mul_left h6
 omega
theorem Jhy (b s : Nat) (hb : b ≠ 0) (hs : 32 * (Jd b).length - Je b = s) : s < 32 /\ (Jd (b * 2 ^ s)).length = (Jd b).length := by
 obtain ⟨t, ht, aL, fI⟩ := Jbe b hb
 have gM := Jhd ht aL
 have h1 := (Xe t aL).1
 have h2 := Yb t 32 fI
 have cE : (Jd b).length - 1 < (Jd b).length := (List.getElem?_eq_some_iff.1 ht).1
 refine ⟨by omega, Nat.le_antisymm ?_ ?_⟩
 ·apply Jao
  rw [Jgi]
  have h3 := Jct (Nat.le_refl (Je b))
  have h4 := Nat.mul_lt_mul_of_pos_right h3 (show 0 < 2 ^ s from Nat.pow_pos (by omega))
  rw [<- Nat.pow_add, show Je b + s = 32 * (Jd b).length by omega] at h4
  exact h4
 apply Zv
 exact Nat.le_mul_of_pos_right _ (Nat.pow_pos (by omega))
set_option maxRecDepth 1000000 in
theorem Jgh (a b B B' : Nat) (va vb : Value) (w : World) (ha : IsN w B va a) (hb : IsN w B' vb b) (hB : B <= w.heap.size) (dW : B' <= w.heap.size) (dX : (Jd a).length <= 17179869184) (dY : b <= a) (hn : 2 <= (Jd b).length) :
  Calls Tryz.prog 131 #[va, vb] w (Jjc (a / b) (a % b) w) := by
 have fJ : (Jd b).length <= 17179869184 := nt (Zv dY) dX
 have aO : b ≠ 0 := fun e => by rw [e, Qi] at hn; simp at hn
 have j9 := Jai a b B B' va vb w ha hb (by omega) (by omega)
 obtain ⟨cv, cF⟩ : ∃ cv, Qz a b = cv := ⟨_, rfl⟩
 have cG : ¬ cv < 0 := by
  rw [<- cF]
  unfold Qz
  rw [if_neg (by omega)]
  split <;> decide
 rw [cF] at j9
 have bR := fun w h => Jk3 b B' vb w h (by omega)
 obtain ⟨s, hs⟩ : ∃ s, 32 * (Jd b).length - Je b = s := ⟨_, rfl⟩
 have aP := Jhy b s aO hs
 have bS := Jip b
 have iF := fun w h hB => Uf b s B' vb w h hB (by omega) (by omega)
 have iG := fun w h hB => Uf a s B va w h hB (by omega) (by omega)
 obtain ⟨V, hV⟩ : ∃ V, b * 2 ^ s = V := ⟨_, rfl⟩
 obtain ⟨U, hU⟩ : ∃ U, a * 2 ^ s = U := ⟨_, rfl⟩
 rw [hV] at iF aP
 rw [hU] at iG
 have HA := lh ha
 have HB := lh hb
 obtain ⟨A, c, rfl, dZ, cH, fK, _⟩ := ha
 obtain ⟨A', c', rfl, eA, cI, fL, _⟩ := hb
 obtain ⟨n, bT⟩ : ∃ n, (Jd b).length = n := ⟨_, rfl⟩
 obtain ⟨p, bU⟩ : ∃ p, (Jd a).length = p := ⟨_, rfl⟩
 rw [bT] at j9 bR iF HB eA fJ hn hs aP bS
 rw [bU] at j9 iG HA dZ dX
 rw [bT, bU]
 have c1 : (32 : Int) * (n : Int) - (Je b : Int) = (s : Int) := by omega
 have c2 : ((n : Int) == 1) = false := by simp; omega
 have c3 : (n == 1) = false := by simp; omega
 have fM := aP.1
 have HNL := lh (And.intro aP.2 (And.intro hV (And.intro hU (And.intro bT bU))))
 have HC := lh j9
 have HBI := lh bR
 have HU1 := lh iF
 have HU2 := lh iG
 have eB : Je b <= 32 * n := bS
 have HS := lh hs
 clear aP hV hU bT bU j9 bR iF iG fK fL hs cF bS
 go_enter Tryz.func131, Tryz.ntmps131
 go_wp2_with fail
 refine HC.out.mono ?_
 rintro e w1 ⟨rfl, aM⟩
 have HA1 := lh (HA.out.next hB aM)
 have HB1 := lh (HB.out.next dW aM)
 clear HA HB HC
 go_wp2_with fail
 refine (HBI.out w1 HB1.out).mono ?_
 rintro e w2 ⟨rfl, rfl⟩
 clear HBI
 go_wp2_with fail
 refine (HU1.out w1 HB1.out (nt dW aM.size)).mono ?_
 rintro e w2 ⟨vy, rfl, hy, cJ⟩
 obtain ⟨Ay, cy, rfl, eC, cK, hy, _⟩ := hy
 rw [HNL.out.1] at hy eC
 rw [HNL.out.1]
 clear HU1 HB1
 have aN := Ja aM cJ
 have HA2 := lh ((HA1.out.next (nt hB aM.size) cJ).next (nt hB aN.size) (Jb w2 (.cells #[] 163)))
 have eD := Ja aN (Jb w2 (.cells #[] 163))
 have HY := lh hy
 have cL : Own (w2.alloc (.cells #[] 163)) 163 Ju (.slice (some ⟨w2.heap.size, 0, none⟩) 0 0) [] := Own.lit w2 163 Ju [] (by unfold maxLen; simp)
 have eE : w2.heap.size <= (w2.alloc (.cells #[] 163)).heap.size := by simp
 have HY3 := lh (HY.out.below (Jb w2 (.cells #[] 163)))
 clear HA1 hy aM cJ c1 HY
 go_wp2_with fail
 refine (HU2.out _ HA2.out (by have := aN.size; simp; omega)).mono ?_
 rintro e w4 ⟨vs, rfl, fN, aQ⟩
 have eF := Ja eD aQ
 have eG := cL.below aQ cL.lt
 have eH := HY3.out.below (aQ.mono eE)
 have fO : w2.heap.size < w4.heap.size := by have := aQ.size; simp at this; omega
 obtain ⟨As, cs, rfl, aR, cN, cO, _⟩ := fN
 obtain ⟨L, hL⟩ : ∃ L, (Jd U).length = L := ⟨_, rfl⟩
 have fP : L <= p + 1 := by
  rw [<- hL]
  apply Jao
  rw [<- HNL.out.2.2.1, Nat.pow_succ]
  have h1 := Xz a
  rw [HNL.out.2.2.2.2] at h1
  exact Nat.mul_lt_mul'' h1 (Nat.pow_lt_pow_right (by omega) (show s < 32 by omega))
 rw [hL] at cO aR
 rw [hL]
 have HL := lh hL
 have HY4 := lh eH
 clear hL eH HA2 HU2 cL aQ HY3 eD eE
 have e1 : (([] : List Nat).length + L <= maxLen) := by unfold maxLen; simp; omega
 have e2 : (([] : List Nat).length + L) * 4 <= 140737488355328 := by simp; omega
 have HE := lh (And.intro e1 e2)
 clear e1 e2
 have eI : ∀ w5 : World, Reads (w5.alloc (.cells #[.int .u32 0, .int .u32 0] 163)) (w5.heap.size + 1) 1 (some ⟨w5.heap.size, 0, none⟩) 2 (([0, 0] : List Nat).map Ju) := fun w5 => (Row.new w5 163 Ju [0, 0]).reads
 have HR2 := lh eI
 have e1 : (Jd U).length + 2 <= maxLen := by unfold maxLen; rw [HL.out]; omega
 have e2 : ((Jd U).length + 2) * 4 <= 140737488355328 := by rw [HL.out]; omega
 have HE2 := lh (And.intro e1 e2)
 clear e1 e2 eI
 go_upto_region 9 with (first | (at_builtin; refine Jnx Tryz.eltRN rfl (.tmp 54) (.tmp 57) rfl w4 _ [] w4.heap.size As L cs (Jd U) rfl eG rfl cO Jf5 HE.out.1 HE.out.2 ?_; intro v5 w5 iI aS) | (at_builtin; refine Jnx Tryz.eltRN rfl (.tmp 58) (.tmp 59) rfl (w5.alloc (.cells #[.int .u32 0, .int .u32 0] 163)) _ (Jd U) (w5.heap.size + 1) (some ⟨w5.heap.size, 0, none⟩) 2 2 [0, 0] rfl (Own.alloc iI _) rfl (HR2.out w5) Jf5 HE2.out.1 HE2.out.2 ?_; intro v6 w6 j7 aT))
 have cP : Grew w4 w5 (.slice (some ⟨w2.heap.size, 0, none⟩) 0 0) v5 := aS
 have iK : Grew (w5.alloc (.cells #[.int .u32 0, .int .u32 0] 163)) w6 v5 v6 := aT
 clear aS aT
 have f0 : ∀ k, (Value.slice (some ⟨w2.heap.size, 0, none⟩) 0 0).ownBlock = some k -> w2.heap.size <= k := fun k hk => by simp [Value.ownBlock] at hk; omega
 have b5 := cP.below (B := w2.heap.size) (by omega) f0
 have f5 := cP.fresh (B := w2.heap.size) (by omega) f0
 have b5' := b5.alloc (by have := b5.size; omega) (.cells #[.int .u32 0, .int .u32 0] 163)
 have b6 := b5'.trans (iK.below (B := w2.heap.size) (nt (by omega) b5'.size) f5)
 have f6 := iK.fresh (B := w2.heap.size) (nt (by omega) b5'.size) f5
 have eJ := aN.size
 have eK := eF.trans (b6.mono eJ)
 have bV := HY4.out.below b6
 have eL := b6.size
 obtain ⟨N, hN⟩ : ∃ N, L + 2 = N := ⟨_, rfl⟩
 have bW : (Jd U ++ [0, 0]).length = N := by rw [List.length_append, HL.out]; exact hN
 obtain ⟨A6, cx, cR, aU, aV⟩ := j7.form
 rw [cR] at j7 f6
 rw [cR]
 obtain ⟨gx, rfl⟩ := j7.addr (by omega)
 have aW : w2.heap.size <= gx := f6 gx rfl
 have aX : gx < w6.heap.size := j7.lt gx rfl
 rw [bW] at aU
 have HOWN := lh j7
 rw [bW]
 clear cP iK f0 b5 f5 b5' b6 f6 iI j7 cR eG cO HE HE2 HR2 HY4 eF
 have fQ : n <= L := by
  rw [<- HNL.out.1, <- HL.out]
  apply Zv
  rw [<- HNL.out.2.1, <- HNL.out.2.2.1]
  exact Nat.mul_le_mul_right _ dY
 obtain ⟨ad, t1, hA, iL, bX, eM⟩ := bV.atf (show n - 1 < n by omega)
 obtain ⟨ad', t0, cT, cU, aL, bY⟩ := bV.atf (show n - 2 < n by omega)
 obtain rfl : ad = ad' := by rw [hA] at cT; exact Option.some.inj cT
 have fR : 2147483648 <= t1 := Jk5 b s V n t1 HNL.out.2.1 HNL.out.1 HS.out aO eB bX
 have iM := (Jx V).get bX
 have cZ := (Jx V).get aL
 obtain ⟨m, hm⟩ : ∃ m, N - n = m := ⟨_, rfl⟩
 have fS := Qh (P := Tryz.prog) Ju 0 24 163 4 Tryz.underlying24 Tryz.infoU32 rfl .i64 .i64 m (by omega) (by omega)
 subst hA
 unfold Ju at eM bY
 have HTT := lh (And.intro bX aL)
 have HN := lh (And.intro hN (And.intro bW hm))
 have k1 : ((n : Int) - 1).toNat = n - 1 := by omega
 have k2 : ((n : Int) - 2).toNat = n - 2 := by omega
 have k3 : (0 : Int) <= (n : Int) - 1 := by omega
 have k4 : (0 : Int) <= (n : Int) - 2 := by omega
 have k5 : (n : Int) - 1 < (n : Int) := by omega
 have k6 : (n : Int) - 2 < (n : Int) := by omega
 have k7 : (N : Int) - (n : Int) = (m : Int) := by omega
 have k8 : IntKind.u64.wrap (t1 : Int) = (t1 : Int) := by rw [Jf, Nat.mod_eq_of_lt (by omega)]
 have k9 : IntKind.u64.wrap (t0 : Int) = (t0 : Int) := by rw [Jf, Nat.mod_eq_of_lt (by omega)]
 have gO : N <= 17179869188 := by omega
 have gP : m <= N := by omega
 have iN : 1 <= m := by omega
 have gU : m + n = N := by omega
 clear bX aL hN bW hm cT
 have HY6 := lh bV
 clear bV
 go_wp2_with fail
 clear fS k1 k2 k3 k4 k5 k6 k7 k8 k9 eM bY
 have aB := Row.rep w6 163 Ju 0 m
 have b7 := Jb w6 (.cells (Array.replicate m (Ju 0)) 163)
 have y9 := HOWN.out.below b7 HOWN.out.lt
 have eN := HY6.out.below (b7.mono (by omega))
 have eO := Ja eK b7
 obtain ⟨gq, dA⟩ : ∃ gq, w6.heap.size = gq := ⟨_, rfl⟩
 rw [dA] at aB aX eL
 rw [dA]
 have eP : DS w gx cx N gq m w2.heap.size n (some ad) (Jd V) (Jd U ++ [0, 0]) (List.replicate m 0) (w6.alloc (.cells (Array.replicate m (Ju 0)) 163)) :=
  ⟨y9, HN.out.2.1, (Jx U).append (Dig.cons (by omega) (Dig.cons (by omega) Dig.nil)), aB, by simp, Dig.rep (by omega) _, eN, eO⟩
 have dB : dv 4294967296 (Jd U ++ [0, 0]) = U := by
  rw [Yp, Ql]
  simp [dv]
 have dC : Jn3 w gx cx N gq m w2.heap.size n (some ad) (Jd V) U V m (w6.alloc (.cells (Array.replicate m (Ju 0)) 163)) := by
  refine ⟨_, _, eP, ?_, ?_, ?_⟩
  ·rw [Yx, dB]; simp
  ·rw [dB]
   have h1 := Xz U
   rw [HL.out] at h1
   have h2 := Jcu V (fun e => by have := HNL.out.1; rw [e, Qi] at this; simp at this; omega)
   rw [HNL.out.1] at h2
   refine Nat.lt_of_lt_of_le h1 (nt ?_ (Nat.mul_le_mul_right _ h2))
   rw [<- Nat.pow_add]
   exact Nat.pow_le_pow_right (by omega) (by have := HN.out.1; omega)
  rw [List.take_of_length_le (by simp), Yx]
 clear aB b7 y9 eN eO eP dB HOWN HY6 eK dA
 have eQ : w2.heap.size <= gq := by omega
 have aY : gx ≠ gq := by omega
 have bZ : w.heap.size <= gx := by omega
 have fT : w.heap.size <= gq := by omega
 obtain ⟨By, eR⟩ : ∃ By, w2.heap.size = By := ⟨_, rfl⟩
 rw [eR] at dC eQ aW iL
 clear eR cU eJ fO eL aX aN aR cN dZ cH eA cI eB cG eC cK aU fP fQ
 generalize w6.alloc (.cells (Array.replicate m (Ju 0)) 163) = w7 at *
 go_loopw [15] (fun i wr => ∃ k : Nat, k <= m /\ i = .int .i64 ((k : Int) - 1) /\ Jn3 w gx cx N gq m By n (some ad) (Jd V) U V k wr) (fun i _ => (intOf i + 1).toNat)
 case atStart => exact ⟨m, Nat.le_refl _, rfl, dC⟩
 case round =>
  obtain ⟨k, hk, rfl, lx, lq, eS, hU, s9, eT⟩ := hrel
  clear dC
  rename World => wr
  have HDS := lh eS
  have HX := lh (And.intro hU (And.intro s9 eT))
  clear eS hU s9 eT
  by_cases h0 : k = 0
  ·subst h0
   obtain ⟨s1, s2, s3, s4, s5, s6, s7, s8⟩ := HDS.out
   have hx := HX.out
   rw [Nat.pow_zero, Nat.mul_one] at hx
   have eU : 0 < 2 ^ s := Nat.pow_pos (by omega)
   have fU : 0 < V := by omega
   have hq : dv 4294967296 lq = a / b /\ dv 4294967296 lx = a % b * 2 ^ s := by
    have h1 : U / V = dv 4294967296 lq := by
     rw [hx.1, Nat.mul_comm, Nat.add_comm, Nat.add_mul_div_right _ _ fU, Nat.div_eq_of_lt hx.2.1, Nat.zero_add]
    have h2 : U % V = dv 4294967296 lx := by
     rw [hx.1, Nat.mul_comm, Nat.add_comm, Nat.add_mul_mod_self_right, Nat.mod_eq_of_lt hx.2.1]
    rw [<- h1, <- h2, <- HNL.out.2.1, <- HNL.out.2.2.1]
    exact ⟨Nat.mul_div_mul_right _ _ eU, Nat.mul_mod_mul_right _ _ _⟩
   have dD := s4.reads
   rw [s5] at dD
   have dE := s1.reads
   rw [s2] at dE
   have gV := s4.lt
   have HQ := lh hq
   have gW : (-1 : Int) < 0 := by omega
   unfold maxLen at aV
   have eV : N <= cx := by
    obtain ⟨_, _, h1, h2, _⟩ := s1.form
    injection h1 with _ _ h1
    omega
   have isx := IsN.trim dE eV aV s3 HQ.out.2 s1.ty
   have isq := IsN.trim dD zd (by omega) s6 HQ.out.1 s4.ty
   have eW : (Jd (a % b * 2 ^ s)).length <= 34359738368 := by
    refine nt (Zv (show a % b * 2 ^ s <= V from ?_)) (by rw [HNL.out.1]; omega)
    rw [<- HNL.out.2.1]
    exact Nat.mul_le_mul_right _ (Nat.le_of_lt (Nat.mod_lt _ (by omega)))
   clear hq hx
   go_wp2_with fail
   refine (Yr _ m m _ lq wr dD (by omega) zd).mono ?_
   rintro e w8 ⟨rfl, rfl⟩
   go_wp2_with fail
   refine (Yr _ N cx _ lx wr dE (by omega) eV).mono ?_
   rintro e w8 ⟨rfl, rfl⟩
   by_cases fV : s = 0
   ·subst fV
    have aC := Uf (a % b * 2 ^ 0) 0 wr.heap.size _ wr isx zd eW (by omega)
    rw [Nat.pow_zero, Nat.mul_one, Nat.mul_one] at aC
    have HSH := lh aC
    clear aC
    go_wp2_with fail
    refine HSH.out.mono ?_
    rintro e w9 ⟨vr, rfl, dF, aD⟩
    go_wp2
    go_ret2
    exact ⟨_, _, rfl, (isq.below (aD.mono (by omega))).more (by have := aD.size; omega), dF, Ja s8 aD⟩
   have aC := Jcp (a % b * 2 ^ s) s wr.heap.size _ wr isx zd eW (by omega) (by omega)
   rw [Nat.mul_div_cancel _ eU] at aC
   have HSH := lh aC
   clear aC
   go_wp2_with fail
   refine HSH.out.mono ?_
   rintro e w9 ⟨vr, rfl, dF, aD⟩
   go_wp2
   go_ret2
   exact ⟨_, _, rfl, (isq.below (aD.mono (by omega))).more (by have := aD.size; omega), dF, Ja s8 aD⟩
  obtain ⟨j, rfl⟩ : ∃ j, k = j + 1 := ⟨k - 1, by omega⟩
  clear h0
  obtain ⟨s1, s2, s3, s4, s5, s6, s7, s8⟩ := HDS.out
  obtain ⟨u2, aZ⟩ : ∃ x, lx[j + n]? = some x := ⟨_, List.getElem?_eq_getElem (by omega)⟩
  obtain ⟨u1, bA⟩ : ∃ x, lx[j + n - 1]? = some x := ⟨_, List.getElem?_eq_getElem (by omega)⟩
  obtain ⟨u0, bB⟩ : ∃ x, lx[j + n - 2]? = some x := ⟨_, List.getElem?_eq_getElem (by omega)⟩
  have bC := Jh9 (β := 4294967296) (by omega) s3 (Jx V) (HNL.out.1) hn aZ bA bB HTT.out.1 HTT.out.2 (by omega) (by rw [Ql]; exact HX.out.2.1)
  rw [Ql] at bC
  have dG := s3.get aZ
  have dH := s3.get bA
  have bD := s3.get bB
  have cu2 := s1.cellf aZ
  have cu1 := s1.cellf bA
  have cu0 := s1.cellf bB
  obtain ⟨a1, dI⟩ : ∃ a1, j + n = a1 := ⟨_, rfl⟩
  obtain ⟨a2, dJ⟩ : ∃ a2, a1 - 1 = a2 := ⟨_, rfl⟩
  obtain ⟨a3, dK⟩ : ∃ a3, a1 - 2 = a3 := ⟨_, rfl⟩
  rw [dI] at cu2 cu1 cu0
  rw [dJ] at cu1
  rw [dK] at cu0
  have r1 : (j : Int) + (n : Int) = (a1 : Int) := by omega
  have r2 : (a1 : Int) - 1 = (a2 : Int) := by omega
  have r3 : (a1 : Int) - 2 = (a3 : Int) := by omega
  have r4 : (a1 : Int) < (N : Int) := by omega
  have r5 : (a2 : Int) < (N : Int) := by omega
  have r6 : (a3 : Int) < (N : Int) := by omega
  have r7 : IntKind.i64.wrap (a1 : Int) = (a1 : Int) := IntWalk.i64_in _ (by omega)
  have r8 : IntKind.i64.wrap (a2 : Int) = (a2 : Int) := IntWalk.i64_in _ (by omega)
  have r9 : IntKind.i64.wrap (a3 : Int) = (a3 : Int) := IntWalk.i64_in _ (by omega)
  have q2 : IntKind.u64.wrap (u2 : Int) = (u2 : Int) := by rw [Jf, Nat.mod_eq_of_lt (by omega)]
  have q1 : IntKind.u64.wrap (u1 : Int) = (u1 : Int) := by rw [Jf, Nat.mod_eq_of_lt (by omega)]
  have q0 : IntKind.u64.wrap (u0 : Int) = (u0 : Int) := by rw [Jf, Nat.mod_eq_of_lt (by omega)]
  have eX := Us u2 u1 dG dH
  obtain ⟨two, aE⟩ : ∃ two, u2 * 4294967296 + u1 = two := ⟨_, rfl⟩
  rw [aE] at eX bC
  have q3 : IntKind.u64.wrap ((u2 : Int) * 4294967296) = (u2 : Int) * 4294967296 := Jc _ (by omega) (by omega)
  have bE : two < 18446744073709551616 := by omega
  obtain ⟨g0, aA⟩ : ∃ g0, two / t1 = g0 := ⟨_, rfl⟩
  obtain ⟨R0, cA⟩ : ∃ R0, two % t1 = R0 := ⟨_, rfl⟩
  have q4 : (two : Int) / (t1 : Int) = (g0 : Int) := by rw [<- aA, Int.natCast_ediv]
  have q5 : (two : Int) % (t1 : Int) = (R0 : Int) := by rw [<- cA, Int.natCast_emod]
  have q6 : 0 < (t1 : Int) := by omega
  have q7 : ((t1 : Int) == 0) = false := by simp; omega
  have eY : GI 4294967296 t1 t0 two u0 g0 R0 := by
   rw [<- aA, <- cA]
   exact Jfl (by omega) bD
  have bF : g0 < 18446744073709551616 := by rw [<- aA]; exact Nat.lt_of_le_of_lt (Nat.div_le_self _ _) bE
  have bG : R0 < 4294967296 := by rw [<- cA]; exact Nat.lt_trans (Nat.mod_lt _ (by omega)) iM
  have gQ : two < (t1 + 1) * 4294967296 := by have := bC.1; omega
  have HGI := lh eY
  have HGN := lh bC.2
  have HA := lh (And.intro dI (And.intro dJ (And.intro dK (And.intro aZ (And.intro bA (And.intro bB aE))))))
  unfold Ju at cu2 cu1 cu0
  have k1 : (((j + 1 : Nat) : Int) - 1) = (j : Int) := by omega
  rw [k1]
  clear eY bC dI dJ dK aZ bA bB aE aA cA s1 s2 s3 s4 s5 s6 s7 s8 k1
  obtain ⟨X, dL⟩ : ∃ X, dv 4294967296 lx = X := ⟨_, rfl⟩
  have aF := HX.out.2.1
  rw [dL] at HGN aF
  have HXX := lh (And.intro dL aF)
  clear dL aF
  go_wp2_with fail
  go_region
  go_upto_block 2 with fail
  rw [q5]
  have HDS1 := lh (HDS.out.drewN 1)
  have cu0' : wr.drew.cell? ⟨gx, a3, none⟩ = some (.int .u32 (u0 : Int)) := cu0
  clear cu0 cu1 cu2 q1 q2 q3 q4 q5 q6 q7 eX HDS
  have eZ : wr.drewN 1 = wr.drew := rfl
  rw [eZ] at HDS1
  clear eZ
  generalize wr.drew = wd at *
  go_cut [17] (fun v wc => wc = wd /\ ∃ G : Nat, v = .int .u64 (G : Int) /\ G < 4294967296 /\ Hid (X / (V * 4294967296 ^ j) <= G /\ G <= X / (V * 4294967296 ^ j) + 1))
  case first =>
   have j0 : ∀ g R, GI 4294967296 t1 t0 two u0 g R -> g < 4294967296 -> (4294967296 <= R \/ g * t0 <= R * 4294967296 + u0) -> Hid (X / (V * 4294967296 ^ j) <= g /\ g <= X / (V * 4294967296 ^ j) + 1) := fun g R h1 h2 h3 =>
    lh (HGN.out g h2 (Kf h1 h2 cZ h3) h1.2)
   have HFIN := lh j0
   clear j0
   go_wp2_with fail
   go_loop [17, 18] (fun a b => ∃ g R : Nat, g < 18446744073709551616 /\ R < 4294967296 /\ a = .int .u64 (g : Int) /\ b = .int .u64 (R : Int) /\ Hid (GI 4294967296 t1 t0 two u0 g R)) (fun a _ => (intOf a).toNat)
   case atStart => exact ⟨_, _, bF, bG, rfl, rfl, HGI⟩
   case round =>
    obtain ⟨g, R, gY, fW, rfl, rfl, HG⟩ := hrel
    clear HGI HGN
    have iC : (4294967296 <= g \/ R * 4294967296 + u0 < g * t0) -> 0 < g := by
     intro hc
     rcases hc with h | h
     ·omega
     rcases Nat.eq_zero_or_pos g with h0 | h0
     ·subst h0
      rw [Nat.zero_mul] at h
      omega
     exact h0
    by_cases hc : 4294967296 <= g
    ·have aA := iC (.inl hc)
     have j8 := Yk HG.out (.inl hc) aA
     have d1 : (4294967296 : Int) <= (g : Int) := by omega
     have d2 : IntKind.u64.wrap ((g : Int) - 1) = ((g - 1 : Nat) : Int) := by rw [Jc _ (by omega) (by omega)]; omega
     have d3 : IntKind.u64.wrap ((R : Int) + (t1 : Int)) = ((R + t1 : Nat) : Int) := by rw [Jc _ (by omega) (by omega)]; omega
     obtain ⟨g', bH⟩ : ∃ g', g - 1 = g' := ⟨_, rfl⟩
     obtain ⟨R', bI⟩ : ∃ R', R + t1 = R' := ⟨_, rfl⟩
     rw [bH] at d2 j8
     rw [bI] at d3 j8
     have fX : g' < g := by omega
     have HG2 := lh j8
     clear bH bI j8 iC
     by_cases hR : 4294967296 <= R'
     ·have d4 : (4294967296 : Int) <= (R' : Int) := by omega
      have s9 := Ji5 HG2.out hR gQ
      have o0 := HFIN.out g' R' HG2.out s9 (.inl hR)
      go_wp2
      go_meet
      exact ⟨rfl, g', rfl, s9, o0⟩
     have d4 : ¬ (4294967296 : Int) <= (R' : Int) := by omega
     go_wp2
     exact ⟨⟨g', R', by omega, by omega, rfl, rfl, HG2⟩, by simp [intOf]; omega⟩
    have d1 : ¬ (4294967296 : Int) <= (g : Int) := by omega
    obtain ⟨P, hP⟩ : ∃ P, g * t0 = P := ⟨_, rfl⟩
    have fY : P < 18446744073709551616 := by
     rw [<- hP]
     exact Nat.lt_of_le_of_lt (Nat.mul_le_mul (show g <= 4294967295 by omega) (show t0 <= 4294967295 by omega)) (by decide)
    have d2 : IntKind.u64.wrap ((g : Int) * (t0 : Int)) = (P : Int) := by
     rw [show (g : Int) * (t0 : Int) = ((g * t0 : Nat) : Int) from by rw [Int.natCast_mul], hP, Jc _ (by omega) (by omega)]
    obtain ⟨K, hK⟩ : ∃ K, R * 4294967296 + u0 = K := ⟨_, rfl⟩
    have d3 : IntKind.u64.wrap ((R : Int) * 4294967296) = (R : Int) * 4294967296 := Jc _ (by omega) (by omega)
    have d4 := Us R u0 fW bD
    rw [hK] at d4
    have d8 : (R : Int) < 4294967296 := by omega
    by_cases fZ : K < P
    ·have dM : R * 4294967296 + u0 < g * t0 := by rw [hP, hK]; exact fZ
     have aA := iC (.inr dM)
     have j8 := Yk HG.out (.inr dM) aA
     have d5 : (K : Int) < (P : Int) := by omega
     have d6 : IntKind.u64.wrap ((g : Int) - 1) = ((g - 1 : Nat) : Int) := by rw [Jc _ (by omega) (by omega)]; omega
     have d7 : IntKind.u64.wrap ((R : Int) + (t1 : Int)) = ((R + t1 : Nat) : Int) := by rw [Jc _ (by omega) (by omega)]; omega
     obtain ⟨g', bH⟩ : ∃ g', g - 1 = g' := ⟨_, rfl⟩
     obtain ⟨R', bI⟩ : ∃ R', R + t1 = R' := ⟨_, rfl⟩
     rw [bH] at d6 j8
     rw [bI] at d7 j8
     have fX : g' < g := by omega
     have HG2 := lh j8
     clear bH bI j8 iC hP hK dM
     by_cases hR : 4294967296 <= R'
     ·have d9 : (4294967296 : Int) <= (R' : Int) := by omega
      have s9 := Ji5 HG2.out hR gQ
      have o0 := HFIN.out g' R' HG2.out s9 (.inl hR)
      go_wp2
      go_meet
      exact ⟨rfl, g', rfl, s9, o0⟩
     have d9 : ¬ (4294967296 : Int) <= (R' : Int) := by omega
     go_wp2
     exact ⟨⟨g', R', by omega, by omega, rfl, rfl, HG2⟩, by simp [intOf]; omega⟩
    have d5 : ¬ (K : Int) < (P : Int) := by omega
    have o0 := HFIN.out g R HG.out (by omega) (.inr (by rw [hP, hK]; omega))
    clear hP hK iC
    go_wp2
    go_meet
    exact ⟨rfl, g, rfl, by omega, o0⟩
  case rest =>
   obtain ⟨rfl, G, rfl, gZ, fA⟩ := hcut
   clear HGI HGN cu0' gQ bF bG
   go_wp2_with fail
   go_loopw [19, 20, 21, 22] (fun cc bb i _ wx => ∃ t c b : Nat, t <= n /\ c < 4294967296 /\ b <= 1 /\ i = .int .i64 (t : Int) /\ cc = .int .u64 (c : Int) /\ bb = .int .u64 (b : Int) /\ MsR w gx cx N gq m By n (some ad) (Jd V) lq X G j t c b wx) (fun _ _ i _ _ => n - (intOf i).toNat)
   case atStart =>
    refine ⟨0, 0, 0, Nat.zero_le _, by omega, by omega, rfl, rfl, rfl, lx, HDS1.out, ?_, ?_⟩
    ·rw [HXX.out.1, List.take_zero, Ux]
     simp
    obtain ⟨_, _, s3, _⟩ := HDS1.out
    apply Kg s3 (by omega)
    rw [HXX.out.1]
    refine Nat.lt_of_lt_of_le HXX.out.2 ?_
    have h1 := Xz V
    rw [HNL.out.1] at h1
    have h2 := Nat.mul_le_mul_right (4294967296 ^ (j + 1)) (Nat.le_of_lt h1)
    rw [<- Nat.pow_add, show n + (j + 1) = j + n + 1 by omega] at h2
    exact h2
   case round =>
    obtain ⟨t, c0, b0, ht, bY, aO, rfl, rfl, rfl, ly, gA, bJ, p9⟩ := hrel
    rename World => wx
    clear HDS1
    obtain ⟨s1, s2, s3, s4, s5, s6, s7, s8⟩ := gA
    have HSY : Hid (DS w gx cx N gq m By n (some ad) (Jd V) ly lq wx) := lh ⟨s1, s2, s3, s4, s5, s6, s7, s8⟩
    by_cases gB : t < n
    ·obtain ⟨ad', y, hA, gD, hy, cy⟩ := s7.atf gB
     obtain rfl : ad = ad' := Option.some.inj hA
     have gE := (Jx V).get hy
     obtain ⟨x, hx⟩ : ∃ x, ly[j + t]? = some x := ⟨_, List.getElem?_eq_getElem (by omega)⟩
     have dN := s3.get hx
     have cx' := s1.cellf hx
     have fx := s1.frozenf (j + t)
     obtain ⟨P, hP⟩ : ∃ P, G * y = P := ⟨_, rfl⟩
     have fY : P <= 4294967295 * 4294967295 := by rw [<- hP]; exact Nat.mul_le_mul (by omega) (by omega)
     obtain ⟨C, hC⟩ : ∃ C, c0 + P = C := ⟨_, rfl⟩
     have gF : C < 18446744073709551616 := by omega
     obtain ⟨l, hl⟩ : ∃ l, C % 4294967296 = l := ⟨_, rfl⟩
     obtain ⟨c', fB⟩ : ∃ c', C / 4294967296 = c' := ⟨_, rfl⟩
     have gG : l < 4294967296 := by omega
     have dO : c' < 4294967296 := by omega
     have dP := Jlw C gF
     rw [hl] at dP
     obtain ⟨D1, bK⟩ : ∃ D1, (x + 18446744073709551616 - l) % 18446744073709551616 = D1 := ⟨_, rfl⟩
     obtain ⟨D, hD⟩ : ∃ D, (D1 + 18446744073709551616 - b0) % 18446744073709551616 = D := ⟨_, rfl⟩
     obtain ⟨S, hS⟩ : ∃ S, D % 4294967296 = S := ⟨_, rfl⟩
     obtain ⟨b', bL⟩ : ∃ b', D / 9223372036854775808 = b' := ⟨_, rfl⟩
     obtain ⟨z1, z2, z3, z4, z5, z6, z7, z8⟩ := Jgb x l b0 D1 D S b' dN gG aO bK hD hS bL
     have bM : S + (G * y) + (c0 + b0) = x + 4294967296 * (c' + b') := by
      rw [hP]
      omega
     have j6 := Ko (β := 4294967296) (l := ly) hx bM bJ
     have j0 : MsR w gx cx N gq m By n (some ad) (Jd V) lq X G j (t + 1) c' b' (wx.setCell ⟨gx, j + t, none⟩ (Ju S)) := by
      refine ⟨_, HSY.out.setX (j + t) S z2 aY aW bZ, ?_, by rw [List.drop_set_of_lt (by omega)]; exact p9⟩
      rw [Jv hy, Nat.mul_add, Nat.add_mul, show j + (t + 1) = j + t + 1 by omega]
      have e1 : G * (y * 4294967296 ^ t) * 4294967296 ^ j = G * y * 4294967296 ^ (j + t) := by
       rw [Nat.pow_add, <- Nat.mul_assoc, Nat.mul_assoc (G * y), Nat.mul_comm (4294967296 ^ t)]
      rw [e1]
      exact j6
     have HFIN := lh j0
     obtain ⟨a, ha⟩ : ∃ a, j + t = a := ⟨_, rfl⟩
     have ra : (j : Int) + (t : Int) = (a : Int) := by omega
     have rb : (a : Int) < (N : Int) := by omega
     have rc : (t : Int) < (n : Int) := by omega
     have rd : IntKind.i64.wrap (a : Int) = (a : Int) := IntWalk.i64_in _ (by omega)
     rw [ha] at cx' fx HFIN
     have y1 : IntKind.u64.wrap ((G : Int) * (y : Int)) = (P : Int) := by
      rw [show (G : Int) * (y : Int) = ((G * y : Nat) : Int) from by rw [Int.natCast_mul], hP, Jc _ (by omega) (by omega)]
     have y2 : IntKind.u64.wrap ((c0 : Int) + (P : Int)) = (C : Int) := by rw [Jc _ (by omega) (by omega)]; omega
     have y3 : IntKind.u64.wrap (y : Int) = (y : Int) := by rw [Jf, Nat.mod_eq_of_lt (by omega)]
     have y4 : IntKind.u64.wrap (x : Int) = (x : Int) := by rw [Jf, Nat.mod_eq_of_lt (by omega)]
     have y5 : (C : Int) / 4294967296 = (c' : Int) := by omega
     unfold Ju at cx' cy
     clear hP hC hl fB bK hD hS bL z4 bM j6 j0 hx hy s1 s2 s3 s4 s5 s6 s7 s8 bJ p9 ha hA HSY
     go_wp2
     exact ⟨⟨t + 1, c', b', by omega, dO, z3, by go_num, by first | rfl | rw [y5], by first | rfl | rw [z8], HFIN.out⟩, by simp [intOf]; omega⟩
    obtain rfl : t = n := by omega
    have cB : dv 4294967296 ((Jd V).take t) = V := by rw [List.take_of_length_le (by rw [HNL.out.1]; omega), Ql]
    rw [cB] at bJ
    obtain ⟨x, hx⟩ : ∃ x, ly[j + t]? = some x := ⟨_, List.getElem?_eq_getElem (by omega)⟩
    have dN := s3.get hx
    have cx' := s1.cellf hx
    have fx := s1.frozenf (j + t)
    obtain ⟨D1, bK⟩ : ∃ D1, (x + 18446744073709551616 - c0) % 18446744073709551616 = D1 := ⟨_, rfl⟩
    obtain ⟨D, hD⟩ : ∃ D, (D1 + 18446744073709551616 - b0) % 18446744073709551616 = D := ⟨_, rfl⟩
    obtain ⟨S, hS⟩ : ∃ S, D % 4294967296 = S := ⟨_, rfl⟩
    obtain ⟨b', bL⟩ : ∃ b', D / 9223372036854775808 = b' := ⟨_, rfl⟩
    obtain ⟨z1, z2, z3, z4, z5, z6, z7, z8⟩ := Jgb x c0 b0 D1 D S b' dN bY aO bK hD hS bL
    have bM : S + 0 + (c0 + b0) = x + 4294967296 * b' := by omega
    have j6 := Ko (β := 4294967296) (l := ly) hx bM bJ
    rw [Nat.zero_mul, Nat.add_zero] at j6
    have dQ := HSY.out.setX (j + t) S z2 aY aW bZ
    have aG : dv 4294967296 ((ly.set (j + t) S).drop (j + t + 1)) = 0 := by rw [List.drop_set_of_lt (by omega)]; exact p9
    obtain ⟨lz, fC⟩ : ∃ lz, ly.set (j + t) S = lz := ⟨_, rfl⟩
    rw [fC] at j6 dQ aG
    have HS2 := lh (And.intro dQ (And.intro j6 aG))
    have e1 := HA.out.1
    rw [e1] at cx' fx HS2
    have y4 : IntKind.u64.wrap (x : Int) = (x : Int) := by rw [Jf, Nat.mod_eq_of_lt (by omega)]
    have rc : ¬ (t : Int) < (t : Int) := by omega
    unfold Ju at cx' HS2
    have hJ : j + t < N := by omega
    clear bK hD hS bL bM z4 j6 hx s1 s2 s3 s4 s5 s6 s7 s8 bJ p9 dQ aG fC e1 HSY
    have iJ : 0 < V * 4294967296 ^ j := Nat.mul_pos (by rcases Nat.eq_zero_or_pos V with h | h; (subst h; have := HXX.out.2; simp at this); exact h) (Nat.pow_pos (by decide))
    go_upto_if 199 with fail
    clear z5 z6 z7 z8 cx' fx y4
    generalize wx.setCell ⟨gx, a1, none⟩ (.int .u32 (S : Int)) = wz at *
    go_cut [17] (fun v wc => DgR w gx cx N gq m By t (some ad) (Jd V) lq X V j v wc)
    case first =>
     by_cases iH : b' = 0
     ·have aN : ((b' : Int) == 1) = false := by simp [iH]
      have j0 : DgR w gx cx N gq m By t (some ad) (Jd V) lq X V j (.int .u64 (G : Int)) wz := by
       have h1 := HS2.out.2.1
       rw [iH, Nat.zero_mul, Nat.add_zero] at h1
       have h2 := Jc0 iJ fA.out.1 h1
       exact ⟨G, lz, rfl, HS2.out.1, h2.1, h2.2⟩
      have HFIN := lh j0
      clear j0 iH
      go_wp2
      go_meet
      exact HFIN.out
     obtain rfl : b' = 1 := by omega
     clear iH
     have iA : 0 < G := by
      rcases Nat.eq_zero_or_pos G with h | h
      ·exfalso
       have h1 := HS2.out.2.1
       rw [h, Nat.zero_mul, Nat.zero_mul, Nat.one_mul] at h1
       obtain ⟨_, z2', z3', _⟩ := HS2.out.1
       have h2 := Xd (β := 4294967296) (l := lz) (a1 + 1) (by have := HA.out.1; omega)
       rw [HS2.out.2.2, Nat.mul_zero, Nat.add_zero] at h2
       have h3 := Xm (z3'.take (a1 + 1))
       rw [List.length_take, Nat.min_eq_left (by have := HA.out.1; omega)] at h3
       omega
      exact h
     have bN : dv 4294967296 lz < 4294967296 ^ (a1 + 1) := by
      obtain ⟨_, z2', z3', _⟩ := HS2.out.1
      have h2 := Xd (β := 4294967296) (l := lz) (a1 + 1) (by have := HA.out.1; omega)
      rw [HS2.out.2.2, Nat.mul_zero, Nat.add_zero] at h2
      have h3 := Xm (z3'.take (a1 + 1))
      rw [List.length_take, Nat.min_eq_left (by have := HA.out.1; omega)] at h3
      omega
     obtain ⟨X', fD⟩ : ∃ X', dv 4294967296 lz = X' := ⟨_, rfl⟩
     obtain ⟨G', fE⟩ : ∃ G', G - 1 = G' := ⟨_, rfl⟩
     have k1 : IntKind.u64.wrap ((G : Int) - 1) = (G' : Int) := by rw [Jc _ (by omega) (by omega)]; omega
     have HZ := lh (And.intro fD (And.intro bN fE))
     clear bN fD fE
     go_wp2_with fail
     go_loopw [19, 24] (fun cc i wx => ∃ t' c' : Nat, t' <= t /\ c' <= 1 /\ i = .int .i64 (t' : Int) /\ cc = .int .u64 (c' : Int) /\ AbR w gx cx N gq m By t (some ad) (Jd V) lq X' j t' c' wx) (fun _ i _ => t - (intOf i).toNat)
     case atStart =>
      refine ⟨0, 0, Nat.zero_le _, by omega, rfl, rfl, lz, HS2.out.1, ?_, ?_⟩
      ·rw [List.take_zero, Ux, HZ.out.1]
       simp
      rw [HA.out.1]; exact HS2.out.2.2
     case round =>
      obtain ⟨t', c', iB, fB, rfl, rfl, lw, gH, o9, p9⟩ := hrel
      rename World => wy
      obtain ⟨s1, s2, s3, s4, s5, s6, s7, s8⟩ := gH
      have HSW : Hid (DS w gx cx N gq m By t (some ad) (Jd V) lw lq wy) := lh ⟨s1, s2, s3, s4, s5, s6, s7, s8⟩
      by_cases dR : t' < t
      ·obtain ⟨ad', y, hA, gD, hy, cy⟩ := s7.atf dR
       obtain rfl : ad = ad' := Option.some.inj hA
       have gE := (Jx V).get hy
       obtain ⟨x2, cD⟩ : ∃ x2, lw[j + t']? = some x2 := ⟨_, List.getElem?_eq_getElem (by omega)⟩
       have gI := s3.get cD
       have cx2 := s1.cellf cD
       have fx2 := s1.frozenf (j + t')
       obtain ⟨C1, dS⟩ : ∃ C1, c' + x2 = C1 := ⟨_, rfl⟩
       obtain ⟨C2, gJ⟩ : ∃ C2, C1 + y = C2 := ⟨_, rfl⟩
       obtain ⟨S2, bO⟩ : ∃ S2, C2 % 4294967296 = S2 := ⟨_, rfl⟩
       obtain ⟨C, hC⟩ : ∃ C, C2 / 4294967296 = C := ⟨_, rfl⟩
       have dT : S2 < 4294967296 := by omega
       have gK : C <= 1 := by omega
       have iD : S2 + 4294967296 * C = x2 + y + c' := by omega
       have j6 := Ky (β := 4294967296) (l := lw) cD iD o9
       have j0 : AbR w gx cx N gq m By t (some ad) (Jd V) lq X' j (t' + 1) C ((wy.drewN 1).setCell ⟨gx, j + t', none⟩ (Ju S2)) := by
        refine ⟨_, (HSW.out.drewN 1).setX (j + t') S2 dT aY aW bZ, ?_, by rw [List.drop_set_of_lt (by omega)]; exact p9⟩
        rw [Jv hy, Nat.add_mul, show j + (t' + 1) = j + t' + 1 by omega, <- Nat.add_assoc]
        have e1 : y * 4294967296 ^ t' * 4294967296 ^ j = y * 4294967296 ^ (j + t') := by rw [Nat.pow_add, Nat.mul_assoc, Nat.mul_comm (4294967296 ^ t')]
        rw [e1]
        exact j6
       have HFIN := lh j0
       obtain ⟨a, ha⟩ : ∃ a, j + t' = a := ⟨_, rfl⟩
       have ra : (j : Int) + (t' : Int) = (a : Int) := by omega
       have rb : (a : Int) < (N : Int) := by omega
       have rc2 : (t' : Int) < (t : Int) := by omega
       have re : IntKind.i64.wrap (a : Int) = (a : Int) := IntWalk.i64_in _ (by omega)
       rw [ha] at cx2 fx2 HFIN
       have y1 : IntKind.u64.wrap ((c' : Int) + (x2 : Int)) = (C1 : Int) := by rw [Jc _ (by omega) (by omega)]; omega
       have y2 : IntKind.u64.wrap ((C1 : Int) + (y : Int)) = (C2 : Int) := by rw [Jc _ (by omega) (by omega)]; omega
       have y3 : IntKind.u64.wrap (y : Int) = (y : Int) := by rw [Jf, Nat.mod_eq_of_lt (by omega)]
       have y4 : IntKind.u64.wrap (x2 : Int) = (x2 : Int) := by rw [Jf, Nat.mod_eq_of_lt (by omega)]
       have y5 : (C2 : Int) / 4294967296 = (C : Int) := by omega
       have y6 : IntKind.u32.wrap (C2 : Int) = (S2 : Int) := by rw [Qb, bO]
       have y7 : C2 < 18446744073709551616 := by omega
       unfold Ju at cx2 cy
       clear dS gJ bO hC iD j6 j0 cD hy s1 s2 s3 s4 s5 s6 s7 s8 o9 p9 ha hA HSW
       go_wp2_with fail
       go_region
       go_wp2
       exact ⟨⟨t' + 1, C, by omega, gK, by go_num, by first | rfl | rw [y5], HFIN.out⟩, by simp [intOf]; omega⟩
      obtain rfl : t' = t := by omega
      have cB : dv 4294967296 ((Jd V).take t') = V := by rw [List.take_of_length_le (by rw [HNL.out.1]; omega), Ql]
      rw [cB, HA.out.1] at o9
      rw [HA.out.1] at p9
      obtain ⟨x3, iE⟩ : ∃ x3, lw[a1]? = some x3 := ⟨_, List.getElem?_eq_getElem (by have := HA.out.1; omega)⟩
      have gL := s3.get iE
      have cx3 := s1.cellf iE
      have fx3 := s1.frozenf a1
      obtain ⟨C1, dS⟩ : ∃ C1, x3 + c' = C1 := ⟨_, rfl⟩
      obtain ⟨S3, aH⟩ : ∃ S3, C1 % 4294967296 = S3 := ⟨_, rfl⟩
      have bP : S3 < 4294967296 := by omega
      have iD : S3 + 4294967296 * (C1 / 4294967296) = x3 + 0 + c' := by omega
      have j6 := Ky (β := 4294967296) (l := lw) iE iD o9
      rw [Nat.zero_mul, Nat.add_zero] at j6
      have fF : dv 4294967296 (lw.set a1 S3) < 4294967296 ^ (a1 + 1) := by
       have h1 := Xd (β := 4294967296) (l := lw.set a1 S3) (a1 + 1) (by rw [List.length_set]; have := HA.out.1; omega)
       rw [List.drop_set_of_lt (by omega), p9, Nat.mul_zero, Nat.add_zero] at h1
       rw [h1]
       have h2 := Xm ((s3.set_ a1 bP).take (a1 + 1))
       rw [List.length_take, List.length_set, Nat.min_eq_left (by have := HA.out.1; omega)] at h2
       exact h2
      have fG : V * 4294967296 ^ j <= 4294967296 ^ (a1 + 1) := by
       have h1 := Xz V
       rw [HNL.out.1] at h1
       have e : (4294967296 : Nat) ^ (a1 + 1) = 4294967296 ^ t' * 4294967296 ^ (j + 1) := by rw [<- Nat.pow_add]; congr 1; have := HA.out.1; omega
       rw [e]
       exact Nat.mul_le_mul (Nat.le_of_lt h1) (Nat.pow_le_pow_right (by decide) (by omega))
      have he := HS2.out.2.1
      rw [HZ.out.1, Nat.one_mul] at he
      have aI := HZ.out.2.1
      rw [HZ.out.1] at aI
      have aJ := Jc1 iJ fG fA.out.2 he aI fF j6
      have j0 : DgR w gx cx N gq m By t' (some ad) (Jd V) lq X V j (.int .u64 (G' : Int)) (wy.setCell ⟨gx, a1, none⟩ (Ju S3)) :=
       ⟨G', lw.set a1 S3, rfl, HSW.out.setX a1 S3 bP aY aW bZ, by rw [<- HZ.out.2.2]; exact aJ.2.1, aJ.2.2⟩
      have HFIN := lh j0
      have rc2 : ¬ (t' : Int) < (t' : Int) := by omega
      have y1 : IntKind.u64.wrap ((x3 : Int) + (c' : Int)) = (C1 : Int) := by rw [Jc _ (by omega) (by omega)]; omega
      have y4 : IntKind.u64.wrap (x3 : Int) = (x3 : Int) := by rw [Jf, Nat.mod_eq_of_lt (by omega)]
      have y6 : IntKind.u32.wrap (C1 : Int) = (S3 : Int) := by rw [Qb, aH]
      unfold Ju at cx3
      clear dS aH iD j6 fF fG he aI aJ j0 iE s1 s2 s3 s4 s5 s6 s7 s8 o9 p9 cB HSW
      go_wp2
      go_meet
      exact HFIN.out
    case rest =>
     obtain ⟨G2, lu2, rfl, aH, j8, aK⟩ := hcut
     obtain ⟨s1, s2, s3, s4, s5, s6, s7, s8⟩ := aH
     have aH : DS w gx cx N gq m By t (some ad) (Jd V) lu2 lq wc := ⟨s1, s2, s3, s4, s5, s6, s7, s8⟩
     obtain ⟨x3, iE⟩ : ∃ x3, lq[j]? = some x3 := ⟨_, List.getElem?_eq_getElem (by omega)⟩
     have dU : x3 = 0 := Jaq (by decide) HX.out.2.2 (k := j) (by rw [List.getElem?_take, if_pos (by omega)]; exact iE)
     subst dU
     have cq := s4.cell iE
     have fq := s4.frozen j
     have bQ : G2 < 4294967296 := by
      rw [j8, Nat.div_lt_iff_lt_mul iJ]
      have := HXX.out.2
      rw [Nat.pow_succ] at this
      rw [Nat.mul_comm 4294967296, Nat.mul_assoc]
      exact this
     have dV := Yl (β := 4294967296) G2 iE
     rw [Nat.zero_mul, Nat.add_zero] at dV
     have fH := Nat.div_add_mod X (V * 4294967296 ^ j)
     rw [<- j8, <- aK] at fH
     have j0 : Jn3 w gx cx N gq m By t (some ad) (Jd V) U V j (wc.setCell ⟨gq, j, none⟩ (Ju G2)) := by
      refine ⟨lu2, lq.set j G2, aH.setQ j G2 bQ aY eQ fT, ?_, ?_, ?_⟩
      ·rw [dV, HX.out.1, Nat.mul_add, HXX.out.1]
       have e : V * (G2 * 4294967296 ^ j) = V * 4294967296 ^ j * G2 := by rw [Nat.mul_comm G2, Nat.mul_assoc]
       rw [e]
       omega
      ·rw [aK]
       exact Nat.mod_lt _ iJ
      rw [List.take_set_of_le (by omega)]
      have h1 := Jv (β := 4294967296) iE
      rw [HX.out.2.2] at h1
      omega
     have HFIN := lh j0
     unfold Ju at cq HFIN
     have rj : (j : Int) < (m : Int) := by omega
     have y6 : IntKind.u32.wrap (G2 : Int) = (G2 : Int) := by rw [Qb, Nat.mod_eq_of_lt bQ]
     clear j8 aK dV fH j0 iE s1 s2 s3 s4 s5 s6 s7 s8 aH
     go_wp2
     exact ⟨⟨j, by omega, by go_num, HFIN.out⟩, by simp [intOf] <;> omega⟩
