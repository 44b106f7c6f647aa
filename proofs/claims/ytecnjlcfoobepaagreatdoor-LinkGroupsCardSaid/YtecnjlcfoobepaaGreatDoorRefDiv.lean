import Derived.Test.YtecnjlcfoobepaaGreatDoorRefDivMath
import Derived.Test.YtecnjlcfoobepaaGreatDoorRefDown
import Derived.Deep.DeepCutAuto
import Derived.Deep.CutBlock
namespace Go.Proofs.YtecnjlcfoobepaaGreatDoor
set_option maxHeartbeats 20000000
open Go.RowKit
set_option linter.all false
def Jmq (q r : Nat) (w : World) (e : Ending) (w' : World) : Prop := ∃ v v', e = .returned (.tuple #[v, v']) /\ IsN w' w'.heap.size v q /\ IsN w' w'.heap.size v' r /\ Below w.heap.size w w'
def DS (w : World) (gx cx N gq m By n : Nat) (Ay : Option Addr) (lv lx lq : List Nat) (wr : World) : Prop :=
 Own wr 155 Jr (.slice (some ⟨gx, 0, none⟩) lx.length cx) lx /\ lx.length = N /\ Dig 4294967296 lx /\ Row wr gq 155 Jr lq /\ lq.length = m /\ Dig 4294967296 lq /\ Reads wr By 1 Ay n (lv.map Jr) /\ Below w.heap.size w wr
def Js2 (w : World) (gx cx N gq m By n : Nat) (Ay : Option Addr) (lv : List Nat) (U V k : Nat) (wr : World) : Prop :=
 ∃ lx lq : List Nat, DS w gx cx N gq m By n Ay lv lx lq wr /\ U = V * dv 4294967296 lq + dv 4294967296 lx /\ dv 4294967296 lx < V * 4294967296 ^ k /\ dv 4294967296 (lq.take k) = 0
theorem DS.drewN {w wr : World} {gx cx N gq m By n : Nat} {Ay : Option Addr} {lv lx lq : List Nat} (h : DS w gx cx N gq m By n Ay lv lx lq wr) (d : Nat) : DS w gx cx N gq m By n Ay lv lx lq (wr.drewN d) := by
 obtain ⟨h1, h2, h3, h4, h5, h6, h7, h8⟩ := h
 exact ⟨h1.drewN d, h2, h3, h4.drewN d, h5, h6, h7.drewN d, Jz h8 d⟩
theorem DS.setX {w wr : World} {gx cx N gq m By n : Nat} {Ay : Option Addr} {lv lx lq : List Nat} (h : DS w gx cx N gq m By n Ay lv lx lq wr) (k x : Nat) (hx : x < 4294967296) (h1 : gx ≠ gq) (h2 : By <= gx) (h3 : w.heap.size <= gx) :
  DS w gx cx N gq m By n Ay lv (lx.set k x) lq (wr.setCell ⟨gx, k, none⟩ (Jr x)) := by
 obtain ⟨a1, a2, a3, a4, a5, a6, a7, a8⟩ := h
 refine ⟨?_, by rw [List.length_set]; exact a2, a3.set_ k hx, a4.far (Ne.symm h1) _, a5, a6, a7.setCell h2 _, a8.setCell h3 _⟩
 rw [List.length_set]
 exact a1.store k x
theorem DS.setQ {w wr : World} {gx cx N gq m By n : Nat} {Ay : Option Addr} {lv lx lq : List Nat} (h : DS w gx cx N gq m By n Ay lv lx lq wr) (k x : Nat) (hx : x < 4294967296) (h1 : gx ≠ gq) (h2 : By <= gq) (h3 : w.heap.size <= gq) :
  DS w gx cx N gq m By n Ay lv lx (lq.set k x) (wr.setCell ⟨gq, k, none⟩ (Jr x)) := by
 obtain ⟨a1, a2, a3, a4, a5, a6, a7, a8⟩ := h
 refine ⟨?_, a2, a3, a4.set_ k x, by rw [List.length_set]; exact a5, a6.set_ k hx, a7.setCell h2 _, a8.setCell h3 _⟩
 have aA := a1.lt gx rfl
 exact a1.exc (b := gq) (Exc.set_ (Exc.refl gq wr) k (Jr x)) (by simp [Value.ownBlock]; exact h1)
def MsR (w : World) (gx cx N gq m By n : Nat) (Ay : Option Addr) (lv lq : List Nat) (X G j i c b : Nat) (wr : World) : Prop :=
 ∃ lx : List Nat, DS w gx cx N gq m By n Ay lv lx lq wr /\ dv 4294967296 lx + G * dv 4294967296 (lv.take i) * 4294967296 ^ j = X + (c + b) * 4294967296 ^ (j + i) /\ dv 4294967296 (lx.drop (j + n + 1)) = 0
def AbR (w : World) (gx cx N gq m By n : Nat) (Ay : Option Addr) (lv lq : List Nat) (X j i c : Nat) (wr : World) : Prop :=
 ∃ lx : List Nat, DS w gx cx N gq m By n Ay lv lx lq wr /\ dv 4294967296 lx + c * 4294967296 ^ (j + i) = X + dv 4294967296 (lv.take i) * 4294967296 ^ j /\ dv 4294967296 (lx.drop (j + n + 1)) = 0
def DgR (w : World) (gx cx N gq m By n : Nat) (Ay : Option Addr) (lv lq : List Nat) (X V j : Nat) (v : Value) (wr : World) : Prop :=
 ∃ (G : Nat) (lx : List Nat), v = .int .u64 (G : Int) /\ DS w gx cx N gq m By n Ay lv lx lq wr /\ G = X / (V * 4294967296 ^ j) /\ dv 4294967296 lx = X % (V * 4294967296 ^ j)
theorem Jqj (C : Nat) (h : C < 18446744073709551616) : bits .and .u64 (C : Int) 4294967295 = ((C % 4294967296 : Nat) : Int) := by
 have e := Jmo C 4294967295 h (by omega)
 rw [show (4294967295 : Int) = ((4294967295 : Nat) : Int) from rfl, e]
 congr 1
 exact Nat.and_two_pow_sub_one_eq_mod C 32
theorem Jij (x l b D1 D S b' : Nat) (hx : x < 4294967296) (hl : l < 4294967296) (hb : b <= 1) (h1 : (x + 18446744073709551616 - l) % 18446744073709551616 = D1) (h2 : (D1 + 18446744073709551616 - b) % 18446744073709551616 = D) (h3 : D % 4294967296 = S) (h4 : D / 9223372036854775808 = b') :
  D < 18446744073709551616 /\ S < 4294967296 /\ b' <= 1 /\ S + l + b = x + 4294967296 * b' /\ IntKind.u64.wrap ((x : Int) - (l : Int)) = (D1 : Int) /\ IntKind.u64.wrap ((D1 : Int) - (b : Int)) = (D : Int) /\ IntKind.u32.wrap (D : Int) = (S : Int) /\ (D : Int) / 9223372036854775808 = (b' : Int) := by
 have e1 : IntKind.u64.wrap ((x : Int) - (l : Int)) = (D1 : Int) := by
  have h : ((x : Int) - (l : Int)) % 18446744073709551616 = (D1 : Int) := by omega
  exact h
 have e2 : IntKind.u64.wrap ((D1 : Int) - (b : Int)) = (D : Int) := by
  have h : ((D1 : Int) - (b : Int)) % 18446744073709551616 = (D : Int) := by omega
  exact h
 refine ⟨by omega, by omega, by omega, by omega, e1, e2, by rw [Ju, h3], by omega⟩
theorem Jo7 (b s V n t : Nat) (hV : b * 2 ^ s = V) (hn : (Jc V).length = n) (hs : 32 * n - Je b = s) (hb : b ≠ 0) (bX : Je b <= 32 * n) (h : (Jc V)[n - 1]? = some t) : 2147483648 <= t := by
 have cJ : n - 1 < n := by rw [<- hn]; rw [<- hn] at h; exact (List.getElem?_eq_some_iff.1 h).1
 have h1 := Xm (β := 4294967296) (l := Jc V) (n - 1) (by omega)
 have h2 := Qd (β := 4294967296) h
 rw [show n - 1 + 1 = n by omega, Xg (l := Jc V) (k := n) (by omega), Nat.mul_zero, Nat.add_zero] at h2
 rw [Qm, h2] at h1
 have h3 := Xn ((Jt V).take (n - 1))
 rw [List.length_take, Nat.min_eq_left (by omega)] at h3
 have h4 := (Xo b hb)
 have h5 := Nat.mul_le_mul_right (2 ^ s) h4.2.1
 rw [<- Nat.pow_add, hV, show Je b - 1 + s = 32 * (n - 1) + 31 by omega, Nat.pow_add, Nat.pow_mul] at h5
 have h6 : (4294967296 : Nat) ^ (n - 1) * 2147483648 < 4294967296 ^ (n - 1) * (t + 1) := by
  rw [Nat.mul_add, Nat.mul_one]
  have : (2 : Nat) ^ 32 = 4294967296 := rfl
  rw [this] at h5
  have e31 : (2 : Nat) ^ 31 = 2147483648 := rfl
  rw [e31] at h5
  omega
 have := Nat.lt_of_mul_lt_mul_left h6
 omega
theorem Jkv (b s : Nat) (hb : b ≠ 0) (hs : 32 * (Jc b).length - Je b = s) : s < 32 /\ (Jc (b * 2 ^ s)).length = (Jc b).length := by
 obtain ⟨t, ht, aR, fP⟩ := Jc1 b hb
 have gT := Jj2 ht aR
 have h1 := (Xo t aR).1
 have h2 := Zt t 32 fP
 have cJ : (Jc b).length - 1 < (Jc b).length := (List.getElem?_eq_some_iff.1 ht).1
 refine ⟨by omega, Nat.le_antisymm ?_ ?_⟩
 ·apply Jcg
  rw [Jiv]
  have h3 := Jeu (Nat.le_refl (Je b))
  have h4 := Nat.mul_lt_mul_of_pos_right h3 (show 0 < 2 ^ s from Nat.pow_pos (by omega))
  rw [<- Nat.pow_add, show Je b + s = 32 * (Jc b).length by omega] at h4
  exact h4
 apply Zx
 exact Nat.le_mul_of_pos_right _ (Nat.pow_pos (by omega))
set_option maxRecDepth 1000000 in
theorem Jis (a b B B' : Nat) (va vb : Value) (w : World) (ha : IsN w B va a) (hb : IsN w B' vb b) (hB : B <= w.heap.size) (eA : B' <= w.heap.size) (eB : (Jc a).length <= 17179869184) (eC : b <= a) (hn : 2 <= (Jc b).length) :
  Calls Tryz.prog 114 #[va, vb] w (Jmq (a / b) (a % b) w) := by
 have fQ : (Jc b).length <= 17179869184 := nt (Zx eC) eB
 have aU : b ≠ 0 := fun e => by rw [e, Qt] at hn; simp at hn
 have o0 := Jba a b B B' va vb w ha hb (by omega) (by omega)
 obtain ⟨cv, cK⟩ : ∃ cv, Xd a b = cv := ⟨_, rfl⟩
 have cL : ¬ cv < 0 := by
  rw [<- cK]
  unfold Xd
  rw [if_neg (by omega)]
  split <;> decide
 rw [cK] at o0
 have o5 := fun w h => Jit b B' vb w h (by omega)
 obtain ⟨s, hs⟩ : ∃ s, 32 * (Jc b).length - Je b = s := ⟨_, rfl⟩
 have aV := Jkv b s aU hs
 have bX := Jfd b
 have aB := fun w h hB => Vm b s B' vb w h hB (by omega) (by omega)
 have aC := fun w h hB => Vm a s B va w h hB (by omega) (by omega)
 obtain ⟨V, hV⟩ : ∃ V, b * 2 ^ s = V := ⟨_, rfl⟩
 obtain ⟨U, hU⟩ : ∃ U, a * 2 ^ s = U := ⟨_, rfl⟩
 rw [hV] at aB aV
 rw [hU] at aC
 have HA := lh ha
 have HB := lh hb
 obtain ⟨A, c, rfl, eD, cM, fR, _⟩ := ha
 obtain ⟨A', c', rfl, eE, cN, fS, _⟩ := hb
 obtain ⟨n, bY⟩ : ∃ n, (Jc b).length = n := ⟨_, rfl⟩
 obtain ⟨p, bZ⟩ : ∃ p, (Jc a).length = p := ⟨_, rfl⟩
 rw [bY] at o0 o5 aB HB eE fQ hn hs aV bX
 rw [bZ] at o0 aC HA eD eB
 rw [bY, bZ]
 have c1 : (32 : Int) * (n : Int) - (Je b : Int) = (s : Int) := by omega
 have c2 : ((n : Int) == 1) = false := by simp; omega
 have c3 : (n == 1) = false := by simp; omega
 have fT := aV.1
 have HNL := lh (And.intro aV.2 (And.intro hV (And.intro hU (And.intro bY bZ))))
 have HC := lh o0
 have HBI := lh o5
 have HU1 := lh aB
 have HU2 := lh aC
 have eF : Je b <= 32 * n := bX
 have HS := lh hs
 clear aV hV hU bY bZ o0 o5 aB aC fR fS hs cK bX
 go_enter Tryz.func114, Tryz.ntmps114
 go_wp2_with fail
 refine HC.out.mono ?_
 rintro e w1 ⟨rfl, aS⟩
 have HA1 := lh (HA.out.next hB aS)
 have HB1 := lh (HB.out.next eA aS)
 clear HA HB HC
 go_wp2_with fail
 refine (HBI.out w1 HB1.out).mono ?_
 rintro e w2 ⟨rfl, rfl⟩
 clear HBI
 go_wp2_with fail
 refine (HU1.out w1 HB1.out (nt eA aS.size)).mono ?_
 rintro e w2 ⟨vy, rfl, hy, cO⟩
 obtain ⟨Ay, cy, rfl, eG, cP, hy, _⟩ := hy
 rw [HNL.out.1] at hy eG
 rw [HNL.out.1]
 clear HU1 HB1
 have aT := Ja aS cO
 have HA2 := lh ((HA1.out.next (nt hB aS.size) cO).next (nt hB aT.size) (Jb w2 (.cells #[] 155)))
 have eH := Ja aT (Jb w2 (.cells #[] 155))
 have HY := lh hy
 have cQ : Own (w2.alloc (.cells #[] 155)) 155 Jr (.slice (some ⟨w2.heap.size, 0, none⟩) 0 0) [] := Own.lit w2 155 Jr [] (by unfold maxLen; simp)
 have eI : w2.heap.size <= (w2.alloc (.cells #[] 155)).heap.size := by simp
 have HY3 := lh (HY.out.below (Jb w2 (.cells #[] 155)))
 clear HA1 hy aS cO c1 HY
 go_wp2_with fail
 refine (HU2.out _ HA2.out (by have := aT.size; simp; omega)).mono ?_
 rintro e w4 ⟨vs, rfl, fU, aW⟩
 have eJ := Ja eH aW
 have eK := cQ.below aW cQ.lt
 have eL := HY3.out.below (aW.mono eI)
 have fV : w2.heap.size < w4.heap.size := by have := aW.size; simp at this; omega
 obtain ⟨As, cs, rfl, aX, cR, cS, _⟩ := fU
 obtain ⟨L, hL⟩ : ∃ L, (Jc U).length = L := ⟨_, rfl⟩
 have fW : L <= p + 1 := by
  rw [<- hL]
  apply Jcg
  rw [<- HNL.out.2.2.1, Nat.pow_succ]
  have h1 := Xk a
  rw [HNL.out.2.2.2.2] at h1
  exact Nat.mul_lt_mul'' h1 (Nat.pow_lt_pow_right (by omega) (show s < 32 by omega))
 rw [hL] at cS aX
 rw [hL]
 have HL := lh hL
 have HY4 := lh eL
 clear hL eL HA2 HU2 cQ aW HY3 eH eI
 have e1 : (([] : List Nat).length + L <= maxLen) := by unfold maxLen; simp; omega
 have e2 : (([] : List Nat).length + L) * 4 <= 140737488355328 := by simp; omega
 have HE := lh (And.intro e1 e2)
 clear e1 e2
 have eM : ∀ w5 : World, Reads (w5.alloc (.cells #[.int .u32 0, .int .u32 0] 155)) (w5.heap.size + 1) 1 (some ⟨w5.heap.size, 0, none⟩) 2 (([0, 0] : List Nat).map Jr) := fun w5 => (Row.new w5 155 Jr [0, 0]).reads
 have HR2 := lh eM
 have e1 : (Jc U).length + 2 <= maxLen := by unfold maxLen; rw [HL.out]; omega
 have e2 : ((Jc U).length + 2) * 4 <= 140737488355328 := by rw [HL.out]; omega
 have HE2 := lh (And.intro e1 e2)
 clear e1 e2 eM
 go_upto_region 9 with (first | (at_builtin; refine Jtj Tryz.eltRN rfl (.tmp 54) (.tmp 57) rfl w4 _ [] w4.heap.size As L cs (Jc U) rfl eK rfl cS Jig HE.out.1 HE.out.2 ?_; intro v5 w5 aE aY) | (at_builtin; refine Jtj Tryz.eltRN rfl (.tmp 58) (.tmp 59) rfl (w5.alloc (.cells #[.int .u32 0, .int .u32 0] 155)) _ (Jc U) (w5.heap.size + 1) (some ⟨w5.heap.size, 0, none⟩) 2 2 [0, 0] rfl (Own.alloc aE _) rfl (HR2.out w5) Jig HE2.out.1 HE2.out.2 ?_; intro v6 w6 j8 aZ))
 have cT : Grew w4 w5 (.slice (some ⟨w2.heap.size, 0, none⟩) 0 0) v5 := aY
 have cU : Grew (w5.alloc (.cells #[.int .u32 0, .int .u32 0] 155)) w6 v5 v6 := aZ
 clear aY aZ
 have f0 : ∀ k, (Value.slice (some ⟨w2.heap.size, 0, none⟩) 0 0).ownBlock = some k -> w2.heap.size <= k := fun k hk => by simp [Value.ownBlock] at hk; omega
 have b5 := cT.below (B := w2.heap.size) (by omega) f0
 have f5 := cT.fresh (B := w2.heap.size) (by omega) f0
 have b5' := b5.alloc (by have := b5.size; omega) (.cells #[.int .u32 0, .int .u32 0] 155)
 have b6 := b5'.trans (cU.below (B := w2.heap.size) (nt (by omega) b5'.size) f5)
 have f6 := cU.fresh (B := w2.heap.size) (nt (by omega) b5'.size) f5
 have eO := aT.size
 have eP := eJ.trans (b6.mono eO)
 have cA := HY4.out.below b6
 have eQ := b6.size
 obtain ⟨N, hN⟩ : ∃ N, L + 2 = N := ⟨_, rfl⟩
 have cB : (Jc U ++ [0, 0]).length = N := by rw [List.length_append, HL.out]; exact hN
 obtain ⟨A6, cx, cV, bA, bB⟩ := j8.form
 rw [cV] at j8 f6
 rw [cV]
 obtain ⟨gx, rfl⟩ := j8.addr (by omega)
 have bC : w2.heap.size <= gx := f6 gx rfl
 have bD : gx < w6.heap.size := j8.lt gx rfl
 rw [cB] at bA
 have HOWN := lh j8
 rw [cB]
 clear cT cU f0 b5 f5 b5' b6 f6 aE j8 cV eK cS HE HE2 HR2 HY4 eJ
 have fX : n <= L := by
  rw [<- HNL.out.1, <- HL.out]
  apply Zx
  rw [<- HNL.out.2.1, <- HNL.out.2.2.1]
  exact Nat.mul_le_mul_right _ eC
 obtain ⟨ad, t1, hA, cZ, cC, eR⟩ := cA.atf (show n - 1 < n by omega)
 obtain ⟨ad', t0, dA, dB, aR, cD⟩ := cA.atf (show n - 2 < n by omega)
 obtain rfl : ad = ad' := by rw [hA] at dA; exact Option.some.inj dA
 have fY : 2147483648 <= t1 := Jo7 b s V n t1 HNL.out.2.1 HNL.out.1 HS.out aU eF cC
 have dC := (Jt V).get cC
 have dD := (Jt V).get aR
 obtain ⟨m, hm⟩ : ∃ m, N - n = m := ⟨_, rfl⟩
 have fZ := Ql (P := Tryz.prog) Jr 0 66 155 4 Tryz.underlying66 Tryz.infoU32 rfl .i64 .i64 m (by omega) (by omega)
 subst hA
 unfold Jr at eR cD
 have HTT := lh (And.intro cC aR)
 have HN := lh (And.intro hN (And.intro cB hm))
 have k1 : ((n : Int) - 1).toNat = n - 1 := by omega
 have k2 : ((n : Int) - 2).toNat = n - 2 := by omega
 have k3 : (0 : Int) <= (n : Int) - 1 := by omega
 have k4 : (0 : Int) <= (n : Int) - 2 := by omega
 have k5 : (n : Int) - 1 < (n : Int) := by omega
 have k6 : (n : Int) - 2 < (n : Int) := by omega
 have k7 : (N : Int) - (n : Int) = (m : Int) := by omega
 have k8 : IntKind.u64.wrap (t1 : Int) = (t1 : Int) := by rw [Ji, Nat.mod_eq_of_lt (by omega)]
 have k9 : IntKind.u64.wrap (t0 : Int) = (t0 : Int) := by rw [Ji, Nat.mod_eq_of_lt (by omega)]
 have gU : N <= 17179869188 := by omega
 have gV : m <= N := by omega
 have gW : 1 <= m := by omega
 have gY : m + n = N := by omega
 clear cC aR hN cB hm dA
 have HY6 := lh cA
 clear cA
 go_wp2_with fail
 clear fZ k1 k2 k3 k4 k5 k6 k7 k8 k9 eR cD
 have aH := Row.rep w6 155 Jr 0 m
 have b7 := Jb w6 (.cells (Array.replicate m (Jr 0)) 155)
 have aF := HOWN.out.below b7 HOWN.out.lt
 have eT := HY6.out.below (b7.mono (by omega))
 have eU := Ja eP b7
 obtain ⟨gq, dE⟩ : ∃ gq, w6.heap.size = gq := ⟨_, rfl⟩
 rw [dE] at aH bD eQ
 rw [dE]
 have eV : DS w gx cx N gq m w2.heap.size n (some ad) (Jc V) (Jc U ++ [0, 0]) (List.replicate m 0) (w6.alloc (.cells (Array.replicate m (Jr 0)) 155)) :=
  ⟨aF, HN.out.2.1, (Jt U).append (Dig.cons (by omega) (Dig.cons (by omega) Dig.nil)), aH, by simp, Dig.rep (by omega) _, eT, eU⟩
 have dF : dv 4294967296 (Jc U ++ [0, 0]) = U := by
  rw [Yf, Qm]
  simp [dv]
 have dG : Js2 w gx cx N gq m w2.heap.size n (some ad) (Jc V) U V m (w6.alloc (.cells (Array.replicate m (Jr 0)) 155)) := by
  refine ⟨_, _, eV, ?_, ?_, ?_⟩
  ·rw [Kj, dF]; simp
  ·rw [dF]
   have h1 := Xk U
   rw [HL.out] at h1
   have h2 := Jev V (fun e => by have := HNL.out.1; rw [e, Qt] at this; simp at this; omega)
   rw [HNL.out.1] at h2
   refine Nat.lt_of_lt_of_le h1 (nt ?_ (Nat.mul_le_mul_right _ h2))
   rw [<- Nat.pow_add]
   exact Nat.pow_le_pow_right (by omega) (by have := HN.out.1; omega)
  rw [List.take_of_length_le (by simp), Kj]
 clear aH b7 aF eT eU eV dF HOWN HY6 eP dE
 have eX : w2.heap.size <= gq := by omega
 have bE : gx ≠ gq := by omega
 have cE : w.heap.size <= gx := by omega
 have gA : w.heap.size <= gq := by omega
 obtain ⟨By, eY⟩ : ∃ By, w2.heap.size = By := ⟨_, rfl⟩
 rw [eY] at dG eX bC cZ
 clear eY dB eO fV eQ bD aT aX cR eD cM eE cN eF cL eG cP bA fW fX
 generalize w6.alloc (.cells (Array.replicate m (Jr 0)) 155) = w7 at *
 go_loopw [15] (fun i wr => ∃ k : Nat, k <= m /\ i = .int .i64 ((k : Int) - 1) /\ Js2 w gx cx N gq m By n (some ad) (Jc V) U V k wr) (fun i _ => (intOf i + 1).toNat)
 case atStart => exact ⟨m, Nat.le_refl _, rfl, dG⟩
 case round =>
  obtain ⟨k, hk, rfl, lx, lq, eZ, hU, aA, fA⟩ := hrel
  clear dG
  rename World => wr
  have HDS := lh eZ
  have HX := lh (And.intro hU (And.intro aA fA))
  clear eZ hU aA fA
  by_cases h0 : k = 0
  ·subst h0
   obtain ⟨s1, s2, s3, s4, s5, s6, s7, s8⟩ := HDS.out
   have hx := HX.out
   rw [Nat.pow_zero, Nat.mul_one] at hx
   have fB : 0 < 2 ^ s := Nat.pow_pos (by omega)
   have gB : 0 < V := by omega
   have hq : dv 4294967296 lq = a / b /\ dv 4294967296 lx = a % b * 2 ^ s := by
    have h1 : U / V = dv 4294967296 lq := by
     rw [hx.1, Nat.mul_comm, Nat.add_comm, Nat.add_mul_div_right _ _ gB, Nat.div_eq_of_lt hx.2.1, Nat.zero_add]
    have h2 : U % V = dv 4294967296 lx := by
     rw [hx.1, Nat.mul_comm, Nat.add_comm, Nat.add_mul_mod_self_right, Nat.mod_eq_of_lt hx.2.1]
    rw [<- h1, <- h2, <- HNL.out.2.1, <- HNL.out.2.2.1]
    exact ⟨Nat.mul_div_mul_right _ _ fB, Nat.mul_mod_mul_right _ _ _⟩
   have dH := s4.reads
   rw [s5] at dH
   have dI := s1.reads
   rw [s2] at dI
   have gZ := s4.lt
   have HQ := lh hq
   have iA : (-1 : Int) < 0 := by omega
   unfold maxLen at bB
   have fC : N <= cx := by
    obtain ⟨_, _, h1, h2, _⟩ := s1.form
    injection h1 with _ _ h1
    omega
   have isx := IsN.trim dI fC bB s3 HQ.out.2 s1.ty
   have isq := IsN.trim dH zd (by omega) s6 HQ.out.1 s4.ty
   have fD : (Jc (a % b * 2 ^ s)).length <= 34359738368 := by
    refine nt (Zx (show a % b * 2 ^ s <= V from ?_)) (by rw [HNL.out.1]; omega)
    rw [<- HNL.out.2.1]
    exact Nat.mul_le_mul_right _ (Nat.le_of_lt (Nat.mod_lt _ (by omega)))
   clear hq hx
   go_wp2_with fail
   refine (Zq _ m m _ lq wr dH (by omega) zd).mono ?_
   rintro e w8 ⟨rfl, rfl⟩
   go_wp2_with fail
   refine (Zq _ N cx _ lx wr dI (by omega) fC).mono ?_
   rintro e w8 ⟨rfl, rfl⟩
   by_cases gC : s = 0
   ·subst gC
    have aI := Vm (a % b * 2 ^ 0) 0 wr.heap.size _ wr isx zd fD (by omega)
    rw [Nat.pow_zero, Nat.mul_one, Nat.mul_one] at aI
    have HSH := lh aI
    clear aI
    go_wp2_with fail
    refine HSH.out.mono ?_
    rintro e w9 ⟨vr, rfl, dJ, aJ⟩
    go_wp2
    go_ret2
    exact ⟨_, _, rfl, (isq.below (aJ.mono (by omega))).more (by have := aJ.size; omega), dJ, Ja s8 aJ⟩
   have aI := Jee (a % b * 2 ^ s) s wr.heap.size _ wr isx zd fD (by omega) (by omega)
   rw [Nat.mul_div_cancel _ fB] at aI
   have HSH := lh aI
   clear aI
   go_wp2_with fail
   refine HSH.out.mono ?_
   rintro e w9 ⟨vr, rfl, dJ, aJ⟩
   go_wp2
   go_ret2
   exact ⟨_, _, rfl, (isq.below (aJ.mono (by omega))).more (by have := aJ.size; omega), dJ, Ja s8 aJ⟩
  obtain ⟨j, rfl⟩ : ∃ j, k = j + 1 := ⟨k - 1, by omega⟩
  clear h0
  obtain ⟨s1, s2, s3, s4, s5, s6, s7, s8⟩ := HDS.out
  obtain ⟨u2, bF⟩ : ∃ x, lx[j + n]? = some x := ⟨_, List.getElem?_eq_getElem (by omega)⟩
  obtain ⟨u1, bG⟩ : ∃ x, lx[j + n - 1]? = some x := ⟨_, List.getElem?_eq_getElem (by omega)⟩
  obtain ⟨u0, bH⟩ : ∃ x, lx[j + n - 2]? = some x := ⟨_, List.getElem?_eq_getElem (by omega)⟩
  have bI := Jk7 (β := 4294967296) (by omega) s3 (Jt V) (HNL.out.1) hn bF bG bH HTT.out.1 HTT.out.2 (by omega) (by rw [Qm]; exact HX.out.2.1)
  rw [Qm] at bI
  have dK := s3.get bF
  have dL := s3.get bG
  have bJ := s3.get bH
  have cu2 := s1.cellf bF
  have cu1 := s1.cellf bG
  have cu0 := s1.cellf bH
  obtain ⟨a1, dM⟩ : ∃ a1, j + n = a1 := ⟨_, rfl⟩
  obtain ⟨a2, dN⟩ : ∃ a2, a1 - 1 = a2 := ⟨_, rfl⟩
  obtain ⟨a3, dO⟩ : ∃ a3, a1 - 2 = a3 := ⟨_, rfl⟩
  rw [dM] at cu2 cu1 cu0
  rw [dN] at cu1
  rw [dO] at cu0
  have r1 : (j : Int) + (n : Int) = (a1 : Int) := by omega
  have r2 : (a1 : Int) - 1 = (a2 : Int) := by omega
  have r3 : (a1 : Int) - 2 = (a3 : Int) := by omega
  have r4 : (a1 : Int) < (N : Int) := by omega
  have r5 : (a2 : Int) < (N : Int) := by omega
  have r6 : (a3 : Int) < (N : Int) := by omega
  have r7 : IntKind.i64.wrap (a1 : Int) = (a1 : Int) := IntWalk.i64_in _ (by omega)
  have r8 : IntKind.i64.wrap (a2 : Int) = (a2 : Int) := IntWalk.i64_in _ (by omega)
  have r9 : IntKind.i64.wrap (a3 : Int) = (a3 : Int) := IntWalk.i64_in _ (by omega)
  have q2 : IntKind.u64.wrap (u2 : Int) = (u2 : Int) := by rw [Ji, Nat.mod_eq_of_lt (by omega)]
  have q1 : IntKind.u64.wrap (u1 : Int) = (u1 : Int) := by rw [Ji, Nat.mod_eq_of_lt (by omega)]
  have q0 : IntKind.u64.wrap (u0 : Int) = (u0 : Int) := by rw [Ji, Nat.mod_eq_of_lt (by omega)]
  have fE := Jam u2 u1 dK dL
  obtain ⟨two, aK⟩ : ∃ two, u2 * 4294967296 + u1 = two := ⟨_, rfl⟩
  rw [aK] at fE bI
  have q3 : IntKind.u64.wrap ((u2 : Int) * 4294967296) = (u2 : Int) * 4294967296 := Jd _ (by omega) (by omega)
  have bK : two < 18446744073709551616 := by omega
  obtain ⟨g0, aG⟩ : ∃ g0, two / t1 = g0 := ⟨_, rfl⟩
  obtain ⟨R0, cF⟩ : ∃ R0, two % t1 = R0 := ⟨_, rfl⟩
  have q4 : (two : Int) / (t1 : Int) = (g0 : Int) := by rw [<- aG, Int.natCast_ediv]
  have q5 : (two : Int) % (t1 : Int) = (R0 : Int) := by rw [<- cF, Int.natCast_emod]
  have q6 : 0 < (t1 : Int) := by omega
  have q7 : ((t1 : Int) == 0) = false := by simp; omega
  have fF : GI 4294967296 t1 t0 two u0 g0 R0 := by
   rw [<- aG, <- cF]
   exact Jhw (by omega) bJ
  have bL : g0 < 18446744073709551616 := by rw [<- aG]; exact Nat.lt_of_le_of_lt (Nat.div_le_self _ _) bK
  have bM : R0 < 4294967296 := by rw [<- cF]; exact Nat.lt_trans (Nat.mod_lt _ (by omega)) dC
  have s9 : two < (t1 + 1) * 4294967296 := by have := bI.1; omega
  have HGI := lh fF
  have HGN := lh bI.2
  have HA := lh (And.intro dM (And.intro dN (And.intro dO (And.intro bF (And.intro bG (And.intro bH aK))))))
  unfold Jr at cu2 cu1 cu0
  have k1 : (((j + 1 : Nat) : Int) - 1) = (j : Int) := by omega
  rw [k1]
  clear fF bI dM dN dO bF bG bH aK aG cF s1 s2 s3 s4 s5 s6 s7 s8 k1
  obtain ⟨X, dP⟩ : ∃ X, dv 4294967296 lx = X := ⟨_, rfl⟩
  have aL := HX.out.2.1
  rw [dP] at HGN aL
  have HXX := lh (And.intro dP aL)
  clear dP aL
  go_wp2_with fail
  go_region
  go_upto_block 2 with fail
  rw [q5]
  have HDS1 := lh (HDS.out.drewN 1)
  have cu0' : wr.drew.cell? ⟨gx, a3, none⟩ = some (.int .u32 (u0 : Int)) := cu0
  clear cu0 cu1 cu2 q1 q2 q3 q4 q5 q6 q7 fE HDS
  have fG : wr.drewN 1 = wr.drew := rfl
  rw [fG] at HDS1
  clear fG
  generalize wr.drew = wd at *
  go_cut [17] (fun v wc => wc = wd /\ ∃ G : Nat, v = .int .u64 (G : Int) /\ G < 4294967296 /\ Hid (X / (V * 4294967296 ^ j) <= G /\ G <= X / (V * 4294967296 ^ j) + 1))
  case first =>
   have j6 : ∀ g R, GI 4294967296 t1 t0 two u0 g R -> g < 4294967296 -> (4294967296 <= R \/ g * t0 <= R * 4294967296 + u0) -> Hid (X / (V * 4294967296 ^ j) <= g /\ g <= X / (V * 4294967296 ^ j) + 1) := fun g R h1 h2 h3 =>
    lh (HGN.out g h2 (Uj h1 h2 dD h3) h1.2)
   have HFIN := lh j6
   clear j6
   go_wp2_with fail
   go_loop [17, 18] (fun a b => ∃ g R : Nat, g < 18446744073709551616 /\ R < 4294967296 /\ a = .int .u64 (g : Int) /\ b = .int .u64 (R : Int) /\ Hid (GI 4294967296 t1 t0 two u0 g R)) (fun a _ => (intOf a).toNat)
   case atStart => exact ⟨_, _, bL, bM, rfl, rfl, HGI⟩
   case round =>
    obtain ⟨g, R, iB, gD, rfl, rfl, HG⟩ := hrel
    clear HGI HGN
    have t7 : (4294967296 <= g \/ R * 4294967296 + u0 < g * t0) -> 0 < g := by
     intro hc
     rcases hc with h | h
     ·omega
     rcases Nat.eq_zero_or_pos g with h0 | h0
     ·subst h0
      rw [Nat.zero_mul] at h
      omega
     exact h0
    by_cases hc : 4294967296 <= g
    ·have aG := t7 (.inl hc)
     have j9 := Ki HG.out (.inl hc) aG
     have d1 : (4294967296 : Int) <= (g : Int) := by omega
     have d2 : IntKind.u64.wrap ((g : Int) - 1) = ((g - 1 : Nat) : Int) := by rw [Jd _ (by omega) (by omega)]; omega
     have d3 : IntKind.u64.wrap ((R : Int) + (t1 : Int)) = ((R + t1 : Nat) : Int) := by rw [Jd _ (by omega) (by omega)]; omega
     obtain ⟨g', bN⟩ : ∃ g', g - 1 = g' := ⟨_, rfl⟩
     obtain ⟨R', bO⟩ : ∃ R', R + t1 = R' := ⟨_, rfl⟩
     rw [bN] at d2 j9
     rw [bO] at d3 j9
     have gE : g' < g := by omega
     have HG2 := lh j9
     clear bN bO j9 t7
     by_cases hR : 4294967296 <= R'
     ·have d4 : (4294967296 : Int) <= (R' : Int) := by omega
      have aA := Jmi HG2.out hR s9
      have t8 := HFIN.out g' R' HG2.out aA (.inl hR)
      go_wp2
      go_meet
      exact ⟨rfl, g', rfl, aA, t8⟩
     have d4 : ¬ (4294967296 : Int) <= (R' : Int) := by omega
     go_wp2
     exact ⟨⟨g', R', by omega, by omega, rfl, rfl, HG2⟩, by simp [intOf]; omega⟩
    have d1 : ¬ (4294967296 : Int) <= (g : Int) := by omega
    obtain ⟨P, hP⟩ : ∃ P, g * t0 = P := ⟨_, rfl⟩
    have gG : P < 18446744073709551616 := by
     rw [<- hP]
     exact Nat.lt_of_le_of_lt (Nat.mul_le_mul (show g <= 4294967295 by omega) (show t0 <= 4294967295 by omega)) (by decide)
    have d2 : IntKind.u64.wrap ((g : Int) * (t0 : Int)) = (P : Int) := by
     rw [show (g : Int) * (t0 : Int) = ((g * t0 : Nat) : Int) from by rw [Int.natCast_mul], hP, Jd _ (by omega) (by omega)]
    obtain ⟨K, hK⟩ : ∃ K, R * 4294967296 + u0 = K := ⟨_, rfl⟩
    have d3 : IntKind.u64.wrap ((R : Int) * 4294967296) = (R : Int) * 4294967296 := Jd _ (by omega) (by omega)
    have d4 := Jam R u0 gD bJ
    rw [hK] at d4
    have d8 : (R : Int) < 4294967296 := by omega
    by_cases gH : K < P
    ·have dQ : R * 4294967296 + u0 < g * t0 := by rw [hP, hK]; exact gH
     have aG := t7 (.inr dQ)
     have j9 := Ki HG.out (.inr dQ) aG
     have d5 : (K : Int) < (P : Int) := by omega
     have d6 : IntKind.u64.wrap ((g : Int) - 1) = ((g - 1 : Nat) : Int) := by rw [Jd _ (by omega) (by omega)]; omega
     have d7 : IntKind.u64.wrap ((R : Int) + (t1 : Int)) = ((R + t1 : Nat) : Int) := by rw [Jd _ (by omega) (by omega)]; omega
     obtain ⟨g', bN⟩ : ∃ g', g - 1 = g' := ⟨_, rfl⟩
     obtain ⟨R', bO⟩ : ∃ R', R + t1 = R' := ⟨_, rfl⟩
     rw [bN] at d6 j9
     rw [bO] at d7 j9
     have gE : g' < g := by omega
     have HG2 := lh j9
     clear bN bO j9 t7 hP hK dQ
     by_cases hR : 4294967296 <= R'
     ·have d9 : (4294967296 : Int) <= (R' : Int) := by omega
      have aA := Jmi HG2.out hR s9
      have t8 := HFIN.out g' R' HG2.out aA (.inl hR)
      go_wp2
      go_meet
      exact ⟨rfl, g', rfl, aA, t8⟩
     have d9 : ¬ (4294967296 : Int) <= (R' : Int) := by omega
     go_wp2
     exact ⟨⟨g', R', by omega, by omega, rfl, rfl, HG2⟩, by simp [intOf]; omega⟩
    have d5 : ¬ (K : Int) < (P : Int) := by omega
    have t8 := HFIN.out g R HG.out (by omega) (.inr (by rw [hP, hK]; omega))
    clear hP hK t7
    go_wp2
    go_meet
    exact ⟨rfl, g, rfl, by omega, t8⟩
  case rest =>
   obtain ⟨rfl, G, rfl, iC, fH⟩ := hcut
   clear HGI HGN cu0' s9 bL bM
   go_wp2_with fail
   go_loopw [19, 20, 21, 22] (fun cc bb i _ wx => ∃ t c b : Nat, t <= n /\ c < 4294967296 /\ b <= 1 /\ i = .int .i64 (t : Int) /\ cc = .int .u64 (c : Int) /\ bb = .int .u64 (b : Int) /\ MsR w gx cx N gq m By n (some ad) (Jc V) lq X G j t c b wx) (fun _ _ i _ _ => n - (intOf i).toNat)
   case atStart =>
    refine ⟨0, 0, 0, Nat.zero_le _, by omega, by omega, rfl, rfl, rfl, lx, HDS1.out, ?_, ?_⟩
    ·rw [HXX.out.1, List.take_zero, Ur]
     simp
    obtain ⟨_, _, s3, _⟩ := HDS1.out
    apply Km s3 (by omega)
    rw [HXX.out.1]
    refine Nat.lt_of_lt_of_le HXX.out.2 ?_
    have h1 := Xk V
    rw [HNL.out.1] at h1
    have h2 := Nat.mul_le_mul_right (4294967296 ^ (j + 1)) (Nat.le_of_lt h1)
    rw [<- Nat.pow_add, show n + (j + 1) = j + n + 1 by omega] at h2
    exact h2
   case round =>
    obtain ⟨t, c0, b0, ht, cD, aU, rfl, rfl, rfl, ly, gI, bP, y8⟩ := hrel
    rename World => wx
    clear HDS1
    obtain ⟨s1, s2, s3, s4, s5, s6, s7, s8⟩ := gI
    have HSY : Hid (DS w gx cx N gq m By n (some ad) (Jc V) ly lq wx) := lh ⟨s1, s2, s3, s4, s5, s6, s7, s8⟩
    by_cases gJ : t < n
    ·obtain ⟨ad', y, hA, gK, hy, cy⟩ := s7.atf gJ
     obtain rfl : ad = ad' := Option.some.inj hA
     have gL := (Jt V).get hy
     obtain ⟨x, hx⟩ : ∃ x, ly[j + t]? = some x := ⟨_, List.getElem?_eq_getElem (by omega)⟩
     have dR := s3.get hx
     have cx' := s1.cellf hx
     have fx := s1.frozenf (j + t)
     obtain ⟨P, hP⟩ : ∃ P, G * y = P := ⟨_, rfl⟩
     have gG : P <= 4294967295 * 4294967295 := by rw [<- hP]; exact Nat.mul_le_mul (by omega) (by omega)
     obtain ⟨C, hC⟩ : ∃ C, c0 + P = C := ⟨_, rfl⟩
     have gM : C < 18446744073709551616 := by omega
     obtain ⟨l, hl⟩ : ∃ l, C % 4294967296 = l := ⟨_, rfl⟩
     obtain ⟨c', fI⟩ : ∃ c', C / 4294967296 = c' := ⟨_, rfl⟩
     have gN : l < 4294967296 := by omega
     have dS : c' < 4294967296 := by omega
     have dT := Jqj C gM
     rw [hl] at dT
     obtain ⟨D1, bQ⟩ : ∃ D1, (x + 18446744073709551616 - l) % 18446744073709551616 = D1 := ⟨_, rfl⟩
     obtain ⟨D, hD⟩ : ∃ D, (D1 + 18446744073709551616 - b0) % 18446744073709551616 = D := ⟨_, rfl⟩
     obtain ⟨S, hS⟩ : ∃ S, D % 4294967296 = S := ⟨_, rfl⟩
     obtain ⟨b', bR⟩ : ∃ b', D / 9223372036854775808 = b' := ⟨_, rfl⟩
     obtain ⟨z1, z2, z3, z4, z5, z6, z7, z8⟩ := Jij x l b0 D1 D S b' dR gN aU bQ hD hS bR
     have bS : S + (G * y) + (c0 + b0) = x + 4294967296 * (c' + b') := by
      rw [hP]
      omega
     have j7 := Ux (β := 4294967296) (l := ly) hx bS bP
     have j6 : MsR w gx cx N gq m By n (some ad) (Jc V) lq X G j (t + 1) c' b' (wx.setCell ⟨gx, j + t, none⟩ (Jr S)) := by
      refine ⟨_, HSY.out.setX (j + t) S z2 bE bC cE, ?_, by rw [List.drop_set_of_lt (by omega)]; exact y8⟩
      rw [Jv hy, Nat.mul_add, Nat.add_mul, show j + (t + 1) = j + t + 1 by omega]
      have e1 : G * (y * 4294967296 ^ t) * 4294967296 ^ j = G * y * 4294967296 ^ (j + t) := by
       rw [Nat.pow_add, <- Nat.mul_assoc, Nat.mul_assoc (G * y), Nat.mul_comm (4294967296 ^ t)]
      rw [e1]
      exact j7
     have HFIN := lh j6
     obtain ⟨a, ha⟩ : ∃ a, j + t = a := ⟨_, rfl⟩
     have ra : (j : Int) + (t : Int) = (a : Int) := by omega
     have rb : (a : Int) < (N : Int) := by omega
     have rc : (t : Int) < (n : Int) := by omega
     have rd : IntKind.i64.wrap (a : Int) = (a : Int) := IntWalk.i64_in _ (by omega)
     rw [ha] at cx' fx HFIN
     have y1 : IntKind.u64.wrap ((G : Int) * (y : Int)) = (P : Int) := by
      rw [show (G : Int) * (y : Int) = ((G * y : Nat) : Int) from by rw [Int.natCast_mul], hP, Jd _ (by omega) (by omega)]
     have y2 : IntKind.u64.wrap ((c0 : Int) + (P : Int)) = (C : Int) := by rw [Jd _ (by omega) (by omega)]; omega
     have y3 : IntKind.u64.wrap (y : Int) = (y : Int) := by rw [Ji, Nat.mod_eq_of_lt (by omega)]
     have y4 : IntKind.u64.wrap (x : Int) = (x : Int) := by rw [Ji, Nat.mod_eq_of_lt (by omega)]
     have y5 : (C : Int) / 4294967296 = (c' : Int) := by omega
     unfold Jr at cx' cy
     clear hP hC hl fI bQ hD hS bR z4 bS j7 j6 hx hy s1 s2 s3 s4 s5 s6 s7 s8 bP y8 ha hA HSY
     go_wp2
     exact ⟨⟨t + 1, c', b', by omega, dS, z3, by go_num, by first | rfl | rw [y5], by first | rfl | rw [z8], HFIN.out⟩, by simp [intOf]; omega⟩
    obtain rfl : t = n := by omega
    have cG : dv 4294967296 ((Jc V).take t) = V := by rw [List.take_of_length_le (by rw [HNL.out.1]; omega), Qm]
    rw [cG] at bP
    obtain ⟨x, hx⟩ : ∃ x, ly[j + t]? = some x := ⟨_, List.getElem?_eq_getElem (by omega)⟩
    have dR := s3.get hx
    have cx' := s1.cellf hx
    have fx := s1.frozenf (j + t)
    obtain ⟨D1, bQ⟩ : ∃ D1, (x + 18446744073709551616 - c0) % 18446744073709551616 = D1 := ⟨_, rfl⟩
    obtain ⟨D, hD⟩ : ∃ D, (D1 + 18446744073709551616 - b0) % 18446744073709551616 = D := ⟨_, rfl⟩
    obtain ⟨S, hS⟩ : ∃ S, D % 4294967296 = S := ⟨_, rfl⟩
    obtain ⟨b', bR⟩ : ∃ b', D / 9223372036854775808 = b' := ⟨_, rfl⟩
    obtain ⟨z1, z2, z3, z4, z5, z6, z7, z8⟩ := Jij x c0 b0 D1 D S b' dR cD aU bQ hD hS bR
    have bS : S + 0 + (c0 + b0) = x + 4294967296 * b' := by omega
    have j7 := Ux (β := 4294967296) (l := ly) hx bS bP
    rw [Nat.zero_mul, Nat.add_zero] at j7
    have dU := HSY.out.setX (j + t) S z2 bE bC cE
    have aM : dv 4294967296 ((ly.set (j + t) S).drop (j + t + 1)) = 0 := by rw [List.drop_set_of_lt (by omega)]; exact y8
    obtain ⟨lz, fJ⟩ : ∃ lz, ly.set (j + t) S = lz := ⟨_, rfl⟩
    rw [fJ] at j7 dU aM
    have HS2 := lh (And.intro dU (And.intro j7 aM))
    have e1 := HA.out.1
    rw [e1] at cx' fx HS2
    have y4 : IntKind.u64.wrap (x : Int) = (x : Int) := by rw [Ji, Nat.mod_eq_of_lt (by omega)]
    have rc : ¬ (t : Int) < (t : Int) := by omega
    unfold Jr at cx' HS2
    have iD : j + t < N := by omega
    clear bQ hD hS bR bS z4 j7 hx s1 s2 s3 s4 s5 s6 s7 s8 bP y8 dU aM fJ e1 HSY
    have cH : 0 < V * 4294967296 ^ j := Nat.mul_pos (by rcases Nat.eq_zero_or_pos V with h | h; (subst h; have := HXX.out.2; simp at this); exact h) (Nat.pow_pos (by decide))
    go_upto_if 199 with fail
    clear z5 z6 z7 z8 cx' fx y4
    generalize wx.setCell ⟨gx, a1, none⟩ (.int .u32 (S : Int)) = wz at *
    go_cut [17] (fun v wc => DgR w gx cx N gq m By t (some ad) (Jc V) lq X V j v wc)
    case first =>
     by_cases aD : b' = 0
     ·have aT : ((b' : Int) == 1) = false := by simp [aD]
      have j6 : DgR w gx cx N gq m By t (some ad) (Jc V) lq X V j (.int .u64 (G : Int)) wz := by
       have h1 := HS2.out.2.1
       rw [aD, Nat.zero_mul, Nat.add_zero] at h1
       have h2 := Je6 cH fH.out.1 h1
       exact ⟨G, lz, rfl, HS2.out.1, h2.1, h2.2⟩
      have HFIN := lh j6
      clear j6 aD
      go_wp2
      go_meet
      exact HFIN.out
     obtain rfl : b' = 1 := by omega
     clear aD
     have iE : 0 < G := by
      rcases Nat.eq_zero_or_pos G with h | h
      ·exfalso
       have h1 := HS2.out.2.1
       rw [h, Nat.zero_mul, Nat.zero_mul, Nat.one_mul] at h1
       obtain ⟨_, z2', z3', _⟩ := HS2.out.1
       have h2 := Xm (β := 4294967296) (l := lz) (a1 + 1) (by have := HA.out.1; omega)
       rw [HS2.out.2.2, Nat.mul_zero, Nat.add_zero] at h2
       have h3 := Xn (z3'.take (a1 + 1))
       rw [List.length_take, Nat.min_eq_left (by have := HA.out.1; omega)] at h3
       omega
      exact h
     have bT : dv 4294967296 lz < 4294967296 ^ (a1 + 1) := by
      obtain ⟨_, z2', z3', _⟩ := HS2.out.1
      have h2 := Xm (β := 4294967296) (l := lz) (a1 + 1) (by have := HA.out.1; omega)
      rw [HS2.out.2.2, Nat.mul_zero, Nat.add_zero] at h2
      have h3 := Xn (z3'.take (a1 + 1))
      rw [List.length_take, Nat.min_eq_left (by have := HA.out.1; omega)] at h3
      omega
     obtain ⟨X', fK⟩ : ∃ X', dv 4294967296 lz = X' := ⟨_, rfl⟩
     obtain ⟨G', fL⟩ : ∃ G', G - 1 = G' := ⟨_, rfl⟩
     have k1 : IntKind.u64.wrap ((G : Int) - 1) = (G' : Int) := by rw [Jd _ (by omega) (by omega)]; omega
     have HZ := lh (And.intro fK (And.intro bT fL))
     clear bT fK fL
     go_wp2_with fail
     go_loopw [19, 24] (fun cc i wx => ∃ t' c' : Nat, t' <= t /\ c' <= 1 /\ i = .int .i64 (t' : Int) /\ cc = .int .u64 (c' : Int) /\ AbR w gx cx N gq m By t (some ad) (Jc V) lq X' j t' c' wx) (fun _ i _ => t - (intOf i).toNat)
     case atStart =>
      refine ⟨0, 0, Nat.zero_le _, by omega, rfl, rfl, lz, HS2.out.1, ?_, ?_⟩
      ·rw [List.take_zero, Ur, HZ.out.1]
       simp
      rw [HA.out.1]; exact HS2.out.2.2
     case round =>
      obtain ⟨t', c', iF, fI, rfl, rfl, lw, gO, x8, y8⟩ := hrel
      rename World => wy
      obtain ⟨s1, s2, s3, s4, s5, s6, s7, s8⟩ := gO
      have HSW : Hid (DS w gx cx N gq m By t (some ad) (Jc V) lw lq wy) := lh ⟨s1, s2, s3, s4, s5, s6, s7, s8⟩
      by_cases dV : t' < t
      ·obtain ⟨ad', y, hA, gK, hy, cy⟩ := s7.atf dV
       obtain rfl : ad = ad' := Option.some.inj hA
       have gL := (Jt V).get hy
       obtain ⟨x2, cI⟩ : ∃ x2, lw[j + t']? = some x2 := ⟨_, List.getElem?_eq_getElem (by omega)⟩
       have gP := s3.get cI
       have cx2 := s1.cellf cI
       have fx2 := s1.frozenf (j + t')
       obtain ⟨C1, dW⟩ : ∃ C1, c' + x2 = C1 := ⟨_, rfl⟩
       obtain ⟨C2, gQ⟩ : ∃ C2, C1 + y = C2 := ⟨_, rfl⟩
       obtain ⟨S2, bU⟩ : ∃ S2, C2 % 4294967296 = S2 := ⟨_, rfl⟩
       obtain ⟨C, hC⟩ : ∃ C, C2 / 4294967296 = C := ⟨_, rfl⟩
       have dX : S2 < 4294967296 := by omega
       have gR : C <= 1 := by omega
       have x9 : S2 + 4294967296 * C = x2 + y + c' := by omega
       have j7 := Uc (β := 4294967296) (l := lw) cI x9 x8
       have j6 : AbR w gx cx N gq m By t (some ad) (Jc V) lq X' j (t' + 1) C ((wy.drewN 1).setCell ⟨gx, j + t', none⟩ (Jr S2)) := by
        refine ⟨_, (HSW.out.drewN 1).setX (j + t') S2 dX bE bC cE, ?_, by rw [List.drop_set_of_lt (by omega)]; exact y8⟩
        rw [Jv hy, Nat.add_mul, show j + (t' + 1) = j + t' + 1 by omega, <- Nat.add_assoc]
        have e1 : y * 4294967296 ^ t' * 4294967296 ^ j = y * 4294967296 ^ (j + t') := by rw [Nat.pow_add, Nat.mul_assoc, Nat.mul_comm (4294967296 ^ t')]
        rw [e1]
        exact j7
       have HFIN := lh j6
       obtain ⟨a, ha⟩ : ∃ a, j + t' = a := ⟨_, rfl⟩
       have ra : (j : Int) + (t' : Int) = (a : Int) := by omega
       have rb : (a : Int) < (N : Int) := by omega
       have rc2 : (t' : Int) < (t : Int) := by omega
       have re : IntKind.i64.wrap (a : Int) = (a : Int) := IntWalk.i64_in _ (by omega)
       rw [ha] at cx2 fx2 HFIN
       have y1 : IntKind.u64.wrap ((c' : Int) + (x2 : Int)) = (C1 : Int) := by rw [Jd _ (by omega) (by omega)]; omega
       have y2 : IntKind.u64.wrap ((C1 : Int) + (y : Int)) = (C2 : Int) := by rw [Jd _ (by omega) (by omega)]; omega
       have y3 : IntKind.u64.wrap (y : Int) = (y : Int) := by rw [Ji, Nat.mod_eq_of_lt (by omega)]
       have y4 : IntKind.u64.wrap (x2 : Int) = (x2 : Int) := by rw [Ji, Nat.mod_eq_of_lt (by omega)]
       have y5 : (C2 : Int) / 4294967296 = (C : Int) := by omega
       have y6 : IntKind.u32.wrap (C2 : Int) = (S2 : Int) := by rw [Ju, bU]
       have y7 : C2 < 18446744073709551616 := by omega
       unfold Jr at cx2 cy
       clear dW gQ bU hC x9 j7 j6 cI hy s1 s2 s3 s4 s5 s6 s7 s8 x8 y8 ha hA HSW
       go_wp2_with fail
       go_region
       go_wp2
       exact ⟨⟨t' + 1, C, by omega, gR, by go_num, by first | rfl | rw [y5], HFIN.out⟩, by simp [intOf]; omega⟩
      obtain rfl : t' = t := by omega
      have cG : dv 4294967296 ((Jc V).take t') = V := by rw [List.take_of_length_le (by rw [HNL.out.1]; omega), Qm]
      rw [cG, HA.out.1] at x8
      rw [HA.out.1] at y8
      obtain ⟨x3, y9⟩ : ∃ x3, lw[a1]? = some x3 := ⟨_, List.getElem?_eq_getElem (by have := HA.out.1; omega)⟩
      have gS := s3.get y9
      have cx3 := s1.cellf y9
      have fx3 := s1.frozenf a1
      obtain ⟨C1, dW⟩ : ∃ C1, x3 + c' = C1 := ⟨_, rfl⟩
      obtain ⟨S3, aN⟩ : ∃ S3, C1 % 4294967296 = S3 := ⟨_, rfl⟩
      have bV : S3 < 4294967296 := by omega
      have x9 : S3 + 4294967296 * (C1 / 4294967296) = x3 + 0 + c' := by omega
      have j7 := Uc (β := 4294967296) (l := lw) y9 x9 x8
      rw [Nat.zero_mul, Nat.add_zero] at j7
      have fM : dv 4294967296 (lw.set a1 S3) < 4294967296 ^ (a1 + 1) := by
       have h1 := Xm (β := 4294967296) (l := lw.set a1 S3) (a1 + 1) (by rw [List.length_set]; have := HA.out.1; omega)
       rw [List.drop_set_of_lt (by omega), y8, Nat.mul_zero, Nat.add_zero] at h1
       rw [h1]
       have h2 := Xn ((s3.set_ a1 bV).take (a1 + 1))
       rw [List.length_take, List.length_set, Nat.min_eq_left (by have := HA.out.1; omega)] at h2
       exact h2
      have fN : V * 4294967296 ^ j <= 4294967296 ^ (a1 + 1) := by
       have h1 := Xk V
       rw [HNL.out.1] at h1
       have e : (4294967296 : Nat) ^ (a1 + 1) = 4294967296 ^ t' * 4294967296 ^ (j + 1) := by rw [<- Nat.pow_add]; congr 1; have := HA.out.1; omega
       rw [e]
       exact Nat.mul_le_mul (Nat.le_of_lt h1) (Nat.pow_le_pow_right (by decide) (by omega))
      have he := HS2.out.2.1
      rw [HZ.out.1, Nat.one_mul] at he
      have aO := HZ.out.2.1
      rw [HZ.out.1] at aO
      have aP := Je7 cH fN fH.out.2 he aO fM j7
      have j6 : DgR w gx cx N gq m By t' (some ad) (Jc V) lq X V j (.int .u64 (G' : Int)) (wy.setCell ⟨gx, a1, none⟩ (Jr S3)) :=
       ⟨G', lw.set a1 S3, rfl, HSW.out.setX a1 S3 bV bE bC cE, by rw [<- HZ.out.2.2]; exact aP.2.1, aP.2.2⟩
      have HFIN := lh j6
      have rc2 : ¬ (t' : Int) < (t' : Int) := by omega
      have y1 : IntKind.u64.wrap ((x3 : Int) + (c' : Int)) = (C1 : Int) := by rw [Jd _ (by omega) (by omega)]; omega
      have y4 : IntKind.u64.wrap (x3 : Int) = (x3 : Int) := by rw [Ji, Nat.mod_eq_of_lt (by omega)]
      have y6 : IntKind.u32.wrap (C1 : Int) = (S3 : Int) := by rw [Ju, aN]
      unfold Jr at cx3
      clear dW aN x9 j7 fM fN he aO aP j6 y9 s1 s2 s3 s4 s5 s6 s7 s8 x8 y8 cG HSW
      go_wp2
      go_meet
      exact HFIN.out
    case rest =>
     obtain ⟨G2, lu2, rfl, aN, j9, aQ⟩ := hcut
     obtain ⟨s1, s2, s3, s4, s5, s6, s7, s8⟩ := aN
     have aN : DS w gx cx N gq m By t (some ad) (Jc V) lu2 lq wc := ⟨s1, s2, s3, s4, s5, s6, s7, s8⟩
     obtain ⟨x3, y9⟩ : ∃ x3, lq[j]? = some x3 := ⟨_, List.getElem?_eq_getElem (by omega)⟩
     have dY : x3 = 0 := Jbj (by decide) HX.out.2.2 (k := j) (by rw [List.getElem?_take, if_pos (by omega)]; exact y9)
     subst dY
     have cq := s4.cell y9
     have fq := s4.frozen j
     have bW : G2 < 4294967296 := by
      rw [j9, Nat.div_lt_iff_lt_mul cH]
      have := HXX.out.2
      rw [Nat.pow_succ] at this
      rw [Nat.mul_comm 4294967296, Nat.mul_assoc]
      exact this
     have dZ := Yv (β := 4294967296) G2 y9
     rw [Nat.zero_mul, Nat.add_zero] at dZ
     have fO := Nat.div_add_mod X (V * 4294967296 ^ j)
     rw [<- j9, <- aQ] at fO
     have j6 : Js2 w gx cx N gq m By t (some ad) (Jc V) U V j (wc.setCell ⟨gq, j, none⟩ (Jr G2)) := by
      refine ⟨lu2, lq.set j G2, aN.setQ j G2 bW bE eX gA, ?_, ?_, ?_⟩
      ·rw [dZ, HX.out.1, Nat.mul_add, HXX.out.1]
       have e : V * (G2 * 4294967296 ^ j) = V * 4294967296 ^ j * G2 := by rw [Nat.mul_comm G2, Nat.mul_assoc]
       rw [e]
       omega
      ·rw [aQ]
       exact Nat.mod_lt _ cH
      rw [List.take_set_of_le (by omega)]
      have h1 := Jv (β := 4294967296) y9
      rw [HX.out.2.2] at h1
      omega
     have HFIN := lh j6
     unfold Jr at cq HFIN
     have rj : (j : Int) < (m : Int) := by omega
     have y6 : IntKind.u32.wrap (G2 : Int) = (G2 : Int) := by rw [Ju, Nat.mod_eq_of_lt bW]
     clear j9 aQ dZ fO j6 y9 s1 s2 s3 s4 s5 s6 s7 s8 aN
     go_wp2
     exact ⟨⟨j, by omega, by go_num, HFIN.out⟩, by simp [intOf] <;> omega⟩
