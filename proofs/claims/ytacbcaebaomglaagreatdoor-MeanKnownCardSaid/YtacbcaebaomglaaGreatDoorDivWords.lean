import Derived.Test.YtacbcaebaomglaaGreatDoorDivA
import Derived.Deep.DeepCutAuto
import Derived.Deep.CutBlock
import Derived.RegionTactic
import Derived.BigRegion
import Derived.Deep.DeepMust
namespace Go.Proofs.YtacbcaebaomglaaGreatDoor
set_option maxRecDepth 100000
set_option maxHeartbeats 2000000
open Go.RowKit
set_option linter.all false
theorem Tryz.sizeU64 : (Tryz.prog.info? 59).map (·.size) = some 1 := by kernel_rfl
theorem Jfl (u2 u1 u0 v1 v0 : Nat) (w : World) (h2 : u2 <= v1) (aF : u1 < 18446744073709551616) (aG : u0 < 18446744073709551616) (q8 : v1 < 18446744073709551616) (aH : v0 < 18446744073709551616) (aN : 0 < v1) :
  Calls Tryz.prog 179 #[.int .u64 (u2 : Int), .int .u64 (u1 : Int), .int .u64 (u0 : Int), .int .u64 (v1 : Int), .int .u64 (v0 : Int)] w fun e w' => e = .returned (.int .u64 ((Yn ((u2 * B64 + u1) * B64 + u0) (v1 * B64 + v0) : Nat) : Int)) /\ ∃ n, w' = w.drewN n := by
 refine (Jcr u2 u1 u0 v1 v0 w h2 aF aG q8 aH aN).mono ?_
 rintro e w' ⟨g, n, rfl, hg, rfl⟩
 have hD : 0 < v1 * B64 + v0 := by
  have := Nat.mul_pos aN (show 0 < B64 by decide)
  omega
 exact ⟨by rw [Jed hD hg], n, rfl⟩
def DvS (w : World) (gu gq gv p m : Nat) (lv lu lq : List Nat) (wr : World) : Prop :=
 Row wr gu 59 Jj lu /\ lu.length = p + 1 /\ Dig B64 lu /\ Row wr gq 59 Jj lq /\ lq.length = m /\ Dig B64 lq /\ Row wr gv 59 Jj lv /\ Below w.heap.size w wr
def Jj7 (w : World) (gu gq gv p m : Nat) (lv : List Nat) (U V k : Nat) (wr : World) : Prop :=
 ∃ lu lq : List Nat, DvS w gu gq gv p m lv lu lq wr /\ U = V * dv B64 lq + dv B64 lu /\ dv B64 lu < V * B64 ^ k /\ dv B64 (lq.take k) = 0
theorem DvS.drewN {w wr : World} {gu gq gv p m : Nat} {lv lu lq : List Nat} (h : DvS w gu gq gv p m lv lu lq wr) (n : Nat) : DvS w gu gq gv p m lv lu lq (wr.drewN n) := by
 obtain ⟨h1, h2, h3, h4, h5, h6, h7, h8⟩ := h
 exact ⟨h1.drewN n, h2, h3, h4.drewN n, h5, h6, h7.drewN n, Jx h8 n⟩
theorem DvS.setU {w wr : World} {gu gq gv p m : Nat} {lv lu lq : List Nat} (h : DvS w gu gq gv p m lv lu lq wr) (k x : Nat) (hx : x < B64) (h1 : gq ≠ gu) (h2 : gv ≠ gu) (h3 : w.heap.size <= gu) : DvS w gu gq gv p m lv (lu.set k x) lq (wr.setCell ⟨gu, k, none⟩ (Jj x)) := by
 obtain ⟨a1, a2, a3, a4, a5, a6, a7, a8⟩ := h
 exact ⟨a1.set_ k x, by rw [List.length_set]; exact a2, a3.set_ k hx, a4.far h1 _, a5, a6, a7.far h2 _, a8.setCell h3 _⟩
theorem DvS.setQ {w wr : World} {gu gq gv p m : Nat} {lv lu lq : List Nat} (h : DvS w gu gq gv p m lv lu lq wr) (k x : Nat) (hx : x < B64) (h1 : gu ≠ gq) (h2 : gv ≠ gq) (h3 : w.heap.size <= gq) : DvS w gu gq gv p m lv lu (lq.set k x) (wr.setCell ⟨gq, k, none⟩ (Jj x)) := by
 obtain ⟨a1, a2, a3, a4, a5, a6, a7, a8⟩ := h
 exact ⟨a1.far h1 _, a2, a3, a4.set_ k x, by rw [List.length_set]; exact a5, a6.set_ k hx, a7.far h2 _, a8.setCell h3 _⟩
def Jk0 (w : World) (gu gq gv p m n : Nat) (lv lq : List Nat) (X G j i c b : Nat) (wr : World) : Prop :=
 ∃ lu : List Nat, DvS w gu gq gv p m lv lu lq wr /\ dv B64 lu + G * dv B64 (lv.take i) * B64 ^ j = X + (c + b) * B64 ^ (j + i) /\ dv B64 (lu.drop (j + n + 1)) = 0
def Jk4 (w : World) (gu gq gv p m n : Nat) (lv lq : List Nat) (X j i c : Nat) (wr : World) : Prop :=
 ∃ lu : List Nat, DvS w gu gq gv p m lv lu lq wr /\ dv B64 lu + c * B64 ^ (j + i) = X + dv B64 (lv.take i) * B64 ^ j /\ dv B64 (lu.drop (j + n + 1)) = 0
def Jj8 (w : World) (gu gq gv p m : Nat) (lv lq : List Nat) (X V j : Nat) (v : Value) (wr : World) : Prop :=
 ∃ (G : Nat) (lu : List Nat), v = .int .u64 (G : Int) /\ DvS w gu gq gv p m lv lu lq wr /\ G = X / (V * B64 ^ j) /\ dv B64 lu = X % (V * B64 ^ j)
def Jgu (w : World) (X Y : Nat) (e : Ending) (w' : World) : Prop :=
 ∃ (gq m : Nat) (lq : List Nat) (A : Option Addr) (nr cr : Nat) (lr : List Nat), e = .returned (.tuple #[.slice (some ⟨gq, 0, none⟩) m m, .slice A nr cr]) /\
  Reads w' w'.heap.size 1 (some ⟨gq, 0, none⟩) m (lq.map Jj) /\ Dig B64 lq /\ dv B64 lq = X / Y /\ Reads w' w'.heap.size 1 A nr (lr.map Jj) /\ Dig B64 lr /\ dv B64 lr = X % Y /\ m <= 17179869186 /\ nr <= 17179869186 /\ nr <= cr /\ Below w.heap.size w w'
theorem Jd8 (AX AY : Option Addr) (p n cX cY BX BY : Nat) (lX lY : List Nat) (w : World) (hX : Reads w BX 1 AX p (lX.map Jj)) (hY : Reads w BY 1 AY n (lY.map Jj)) (bZ : BX <= w.heap.size) (fB : BY <= w.heap.size)
  (dP : Dig B64 lX) (cA : Dig B64 lY) (hp : p <= 17179869185) (gB : n <= p) (hn : 2 <= n) (top : Nat) (o9 : lY[n - 1]? = some top) (dQ : 0 < top) :
  Calls Tryz.prog 153 #[.slice AX p cX, .slice AY n cY] w (Jgu w (dv B64 lX) (dv B64 lY)) := by
 have hlx := hX.lenf
 have dR := hY.lenf
 have cB := cA.get o9
 unfold B64 at cB
 have cC := Xa top (by omega)
 have cD := Xz top cB
 obtain ⟨s, hs⟩ : ∃ s, 64 - Je top = s := ⟨_, rfl⟩
 have fC : s < 64 := by omega
 have aO : (64 : Int) - (Lib.bitLen (top : Int).toNat : Int) = (s : Int) := by
  rw [Int.toNat_natCast, Kp top cB]
  omega
 obtain ⟨V, hV⟩ : ∃ V, dv B64 lY * 2 ^ s = V := ⟨_, rfl⟩
 obtain ⟨U, hU⟩ : ∃ U, dv B64 lX * 2 ^ s = U := ⟨_, rfl⟩
 have dS : B64 ^ n = B64 ^ (n - 1) * B64 := by rw [<- Nat.pow_succ]; congr 1; omega
 have j7 : dv B64 lY = dv B64 (lY.take (n - 1)) + B64 ^ (n - 1) * top := by
  have h1 := Qz (β := B64) (l := lY) (n - 1) (by omega)
  rw [Jv o9, Qv (by omega), Nat.mul_zero, Nat.add_zero] at h1
  exact h1
 have cE : dv B64 (lY.take (n - 1)) < B64 ^ (n - 1) := by
  have h1 := Xf (cA.take (n - 1))
  rw [List.length_take, Nat.min_eq_left (by omega)] at h1
  exact h1
 have bJ : 0 < 2 ^ s := Nat.pow_pos (by omega)
 have aP : (top + 1) * 2 ^ s <= B64 := by
  have h1 := Nat.mul_le_mul_right (2 ^ s) (show top + 1 <= 2 ^ Je top from cC.2.2)
  rw [<- Nat.pow_add, show Je top + s = 64 from by omega] at h1
  exact h1
 have aQ : 9223372036854775808 <= top * 2 ^ s := by
  have h1 := Nat.mul_le_mul_right (2 ^ s) cC.2.1
  rw [<- Nat.pow_add, show Je top - 1 + s = 63 from by omega] at h1
  exact h1
 have bK : V < B64 ^ n := by
  rw [<- hV, dS]
  have h1 : dv B64 lY < B64 ^ (n - 1) * (top + 1) := by rw [j7, Nat.mul_add, Nat.mul_one]; omega
  have h2 := Nat.mul_lt_mul_of_pos_right h1 bJ
  refine Nat.lt_of_lt_of_le h2 ?_
  rw [Nat.mul_assoc]
  exact Nat.mul_le_mul_left _ aP
 have cF : B64 ^ (n - 1) * 9223372036854775808 <= V := by
  rw [<- hV, j7, Nat.add_mul, Nat.mul_assoc]
  exact nt (Nat.mul_le_mul_left _ aQ) (Nat.le_add_left _ _)
 have dT : U < V * B64 ^ (p - n + 1) := by
  have h1 := Xf dP
  rw [hlx] at h1
  have h2 := Nat.mul_lt_mul_of_pos_right h1 bJ
  rw [hU] at h2
  have h3 : 2 ^ s <= 9223372036854775808 := Nat.pow_le_pow_right (by omega) (show s <= 63 by omega)
  have h4 : B64 ^ p * 2 ^ s <= B64 ^ p * 9223372036854775808 := Nat.mul_le_mul_left _ h3
  have h5 := Nat.mul_le_mul_right (B64 ^ (p - n + 1)) cF
  have h6 : B64 ^ (n - 1) * 9223372036854775808 * B64 ^ (p - n + 1) = B64 ^ p * 9223372036854775808 := by
   rw [Nat.mul_right_comm, <- Nat.pow_add, show n - 1 + (p - n + 1) = p from by omega]
  rw [h6] at h5
  exact Nat.lt_of_lt_of_le (Nat.lt_of_lt_of_le h2 h4) h5
 have cG : B64 ^ (n - 1) <= V := nt (Nat.le_mul_of_pos_right _ (by omega)) cF
 clear dS j7 cE aP aQ cF
 obtain ⟨adY, t', fD, gC, bL, fE⟩ := hY.atf (show n - 1 < n by omega)
 rw [o9] at bL
 obtain rfl : top = t' := by simpa using bL
 obtain ⟨m, hm⟩ : ∃ m, p - n + 1 = m := ⟨_, rfl⟩
 obtain ⟨p1, dU⟩ : ∃ p1, p + 1 = p1 := ⟨_, rfl⟩
 have cH := Ql (P := Tryz.prog) Jj 0 178 59 8 Tryz.underlying178 Tryz.infoU64 rfl .i64 .i64 p1 (by omega) (by omega)
 have cI := Ql (P := Tryz.prog) Jj 0 178 59 8 Tryz.underlying178 Tryz.infoU64 rfl .i64 .i64 m (by omega) (by omega)
 have c1 : ((p : Int) + 1) = (p1 : Int) := by omega
 have HP1 := lh dU
 have fF : p1 <= 17179869186 := by omega
 have fG : p < p1 := by omega
 have c2 : (p : Int) - (n : Int) + 1 = (m : Int) := by omega
 have c3 : ((n : Int) - 1).toNat = n - 1 := by omega
 have c4 : (n : Int) - 1 < (n : Int) := by omega
 have c5 : (0 : Int) <= (n : Int) - 1 := by omega
 have HL := lh (And.intro hlx (And.intro dR (And.intro hm (And.intro hV hU))))
 have HB := lh aO
 unfold Jj at fE
 subst fD
 clear hlx dR hs cC cD aO hV hU bL o9 dU
 go_enter Tryz.func153, Tryz.ntmps153
 go_wp2_with fail
 refine (Tryz.bits_LeadingZeros64 (top : Int) w (by omega) (by omega)).mono ?_
 rintro e w1 ⟨rfl, rfl⟩
 rw [HB.out]
 go_wp2_with fail
 refine (Um _ n cY BY s lY w1 hY fB cA (by omega) (by omega)).mono ?_
 rintro e w2 ⟨gv, lv, rfl, cJ, bM, q9, dV, bN, gD⟩
 have bO : s / 64 = 0 := by omega
 rw [bO, Nat.add_zero] at cJ ⊢
 have dW := hX.below (bN.mono bZ)
 have cK : ∀ w, (Instr.slice 178 (.slice (some ⟨gv, 0, none⟩) (n + 1) (n + 1)) none (some (.int .i64 (n : Int))) none).run Tryz.prog w = .ok (.slice (some ⟨gv, 0, none⟩) n (n + 1)) w := fun w => by
  have := Jc2 (P := Tryz.prog) Tryz.underlying178 Tryz.infoU64 (some ⟨gv, 0, none⟩) (n + 1) (n + 1) .i64 (n : Int) (by omega) (by omega) w
  simpa using this
 clear HB
 go_wp2_with fail
 have j9 := Row.rep w2 59 Jj 0 p1
 have aR := Jb w2 (.cells (Array.replicate p1 (Jj 0)) 59)
 obtain ⟨w3, bP⟩ : ∃ w3, w2.alloc (.cells (Array.replicate p1 (Jj 0)) 59) = w3 := ⟨_, rfl⟩
 obtain ⟨gu, bQ⟩ : ∃ gu, w2.heap.size = gu := ⟨_, rfl⟩
 have cL : gv < gu := by rw [<- bQ]; exact bM.lt
 rw [bP] at j9 aR
 rw [bP]
 have s9 := bM.below aR bM.lt
 have dX := dW.below (aR.mono (nt bZ bN.size))
 rw [bQ] at j9
 rw [bQ]
 have cM := Ja bN aR
 have l5 : w1.heap.size <= gu := by have := bN.size; omega
 clear bP bQ dW aR cH c1
 refine (Um AX p cX BX s lX w3 dX (nt bZ cM.size) dP (by omega) (by omega)).mono ?_
 rintro e w4 ⟨gs, ls, rfl, t7, dY, fH, dZ, bR, fI⟩
 rw [bO, Nat.add_zero] at t7
 rw [bO, Nat.add_zero, HP1.out]
 rw [HP1.out] at t7
 have aS := j9.below bR j9.lt
 have aT := s9.below bR s9.lt
 have eA := Ja cM bR
 have fJ : gu < gs := Nat.lt_of_lt_of_le j9.lt fI
 clear j9 s9 bR cM dX bM bO
 obtain ⟨w5, fK, p0, cN⟩ : ∃ w5, (Builtin.copy_ #[178, 178] 3 #[.slice (some ⟨gu, 0, none⟩) p1 p1, .slice (some ⟨gs, 0, none⟩) p1 p1]).run Tryz.prog w4 = .ok (.int .i64 (p1 : Int)) w5 /\ Row w5 gu 59 Jj ls /\ Below gu w4 w5 := by
  have hg : w4.heap[gu]? = some (.cells ((List.replicate p1 0).map Jj).toArray 59 (0, 0)) := aS
  have aU := run_copy_row (P := Tryz.prog) w4 178 178 3 59 gu 0 p1 p1 ⟨gs, 0, none⟩ p1 p1 _ 59 (ls.map Jj) Tryz.underlying178 Tryz.sizeU64 hg (by simp [t7]) (fun j v hv => by
   obtain ⟨ad, e, hb, hc⟩ := dY.reads.2 (by
    have := (List.getElem?_eq_some_iff.1 hv).1
    simp at this
    omega)
   injection e with e
   subst e
   exact hc j v hv) (by simp [t7]) (fun u hu => by
   simp at hu
   obtain ⟨x, _, rfl⟩ := hu
   rfl)
  have h2 : (List.map Jj (List.replicate p1 0)).toArray.toList.take 0 ++ ls.map Jj ++ (List.map Jj (List.replicate p1 0)).toArray.toList.drop (0 + (ls.map Jj).length) = ls.map Jj := by
   rw [List.drop_of_length_le (by simp [t7])]
   simp
  rw [h2] at aU
  refine ⟨w4.setRow gu (ls.map Jj).toArray, ?_, setRow_heap w4 gu _ _ 59 _ hg, below_setRow (Below.refl gu w4) zd _⟩
  rw [aU, List.length_map, t7]
  rfl
 have t8 := aT.below cN cL
 have eB : Below w1.heap.size w1 w5 := eA.trans (cN.mono l5)
 clear cN aS aT eA dY
 go_wp2_with fail
 have p7 := Row.rep w5 59 Jj 0 m
 have bS := Jb w5 (.cells (Array.replicate m (Jj 0)) 59)
 have u4 := p0.below bS p0.lt
 have u5 := t8.below bS t8.lt
 have cO := Ja eB bS
 obtain ⟨w6, cP⟩ : ∃ w6, w5.alloc (.cells (Array.replicate m (Jj 0)) 59) = w6 := ⟨_, rfl⟩
 obtain ⟨gq, x7⟩ : ∃ gq, w5.heap.size = gq := ⟨_, rfl⟩
 have fL : gu < gq := by rw [<- x7]; exact p0.lt
 rw [cP] at p7 u4 u5 cO
 rw [cP]
 rw [x7] at p7
 rw [x7]
 have eC : (p : Int) - (n : Int) = (m : Int) - 1 := by have := HL.out.2.2.1; omega
 rw [eC]
 have bT : dv B64 lv = V := by rw [<- HL.out.2.2.2.1]; exact dV
 have cQ : dv B64 ls = U := by rw [<- HL.out.2.2.2.2]; exact dZ
 have aV : p - n + 1 = m := HL.out.2.2.1
 have l7 : dv B64 (lv.drop n) = 0 := Yw q9 (by decide) (by rw [bT]; exact bK)
 have eD : dv B64 (lv.take n) = V := by
  have h1 := Qz (β := B64) (l := lv) n (by omega)
  rw [l7, Nat.mul_zero, Nat.add_zero, bT] at h1
  exact h1.symm
 have bU : gq ≠ gu := by omega
 have bV : gv ≠ gu := by omega
 have fM : gu ≠ gq := by omega
 have fN : gv ≠ gq := by omega
 have cS : w1.heap.size <= gq := by omega
 have HV := lh (And.intro bT (And.intro eD (And.intro aV (And.intro cJ l7))))
 have gE : m <= 17179869186 := by omega
 have o0 : Jj7 w1 gu gq gv p m lv U V m w6 := by
  refine ⟨ls, List.replicate m 0, ⟨u4, by rw [t7]; exact HP1.out.symm, fH, p7, by simp, Dig.rep (by decide) _, u5, cO⟩, ?_, ?_, ?_⟩
  ·rw [Yo, Nat.mul_zero, Nat.zero_add, cQ]
  ·rw [cQ, <- aV]; exact dT
  rw [List.take_of_length_le (by simp), Yo]
 have HST := lh o0
 clear cP x7 eC bT cQ aV eD p7 u4 u5 cO bS p0 t8 eB fK o0 l7 cI c2 dV dZ dT cJ
 go_loopw [10] (fun i wr => ∃ k : Nat, k <= m /\ i = .int .i64 ((k : Int) - 1) /\ Jj7 w1 gu gq gv p m lv U V k wr) (fun i _ => (intOf i + 1).toNat)
 case atStart => exact ⟨m, Nat.le_refl _, rfl, HST.out⟩
 case round =>
  obtain ⟨k, hk, rfl, lu, lq, hS, aW, x8, eE⟩ := hrel
  clear HST
  by_cases fO : k = 0
  ·subst fO
   obtain ⟨s1, s2, s3, s4, s5, s6, s7, s8⟩ := hS
   rw [Nat.pow_zero, Nat.mul_one] at x8
   have gF : 0 < dv B64 lY := by
    rcases Nat.eq_zero_or_pos (dv B64 lY) with h | h
    ·have := HL.out.2.2.2.1
     rw [h, Nat.zero_mul] at this
     omega
    exact h
   have aX : dv B64 lq = dv B64 lX / dv B64 lY := by
    have h1 : U / V = dv B64 lq := by rw [aW, Nat.mul_comm, Nat.add_comm, Nat.add_mul_div_right _ _ (by omega), Nat.div_eq_of_lt x8, Nat.zero_add]
    rw [<- h1, <- HL.out.2.2.2.1, <- HL.out.2.2.2.2, Nat.mul_div_mul_right _ _ bJ]
   have aY : dv B64 lu = dv B64 lX % dv B64 lY * 2 ^ s := by
    have h1 : U % V = dv B64 lu := by rw [aW, Nat.mul_add_mod, Nat.mod_eq_of_lt x8]
    rw [<- h1, <- HL.out.2.2.2.1, <- HL.out.2.2.2.2, Nat.mul_mod_mul_right]
   have eF : dv B64 (lu.take n) = dv B64 lu := by
    rw [<- Jlo s3 (by decide), Nat.mod_eq_of_lt (Nat.lt_trans x8 bK)]
   have x9 := s1.reads
   rw [s2] at x9
   have cT := Reads.front x9 (k := n) (by omega)
   rw [Nat.mul_one, <- List.map_take] at cT
   have fP : ∀ w, (Instr.slice 178 (.slice (some ⟨gu, 0, none⟩) p1 p1) none (some (.int .i64 (n : Int))) none).run Tryz.prog w = .ok (.slice (some ⟨gu, 0, none⟩) n p1) w := fun w => by
    have := Jc2 (P := Tryz.prog) Tryz.underlying178 Tryz.infoU64 (some ⟨gu, 0, none⟩) p1 p1 .i64 (n : Int) (by omega) (by omega) w
    simpa using this
   have eG := Jcp (some ⟨gu, 0, none⟩) n p1 _ s (lu.take n) wr cT s1.lt (s3.take n) (by omega) (by omega) (by omega)
   have HSD := lh eG
   have HQ := lh (And.intro aX (And.intro aY eF))
   clear aX aY eF x9 cT eG aW
   go_wp2_with fail
   refine HSD.out.mono ?_
   rintro e w7 ⟨gr, lr, rfl, eH, eI, fQ, eJ, eK, gG⟩
   have cU := s4.below eK s4.lt
   have cV := cU.reads
   rw [s5] at cV
   have p8 := eI.reads
   rw [eH] at p8
   have fR := Ja s8 eK
   rw [show s / 64 = 0 from by omega, Nat.sub_zero] at p8
   rw [show s / 64 = 0 from by omega, Nat.sub_zero]
   have e8 : Jgu w1 (dv B64 lX) (dv B64 lY) (.returned (.tuple #[.slice (some ⟨gq, 0, none⟩) m m, .slice (some ⟨gr, 0, none⟩) n n])) w7 := by
    refine ⟨gq, m, lq, _, n, n, lr, rfl, cV.more cU.lt, s6, HQ.out.1, p8.more eI.lt, fQ, ?_, by omega, by omega, Nat.le_refl _, fR⟩
    have h1 : dv B64 lr = dv B64 (lu.take n) / 2 ^ s := eJ
    rw [h1, HQ.out.2.2, HQ.out.2.1, Nat.mul_div_cancel _ bJ]
   have HFIN := lh e8
   clear e8 cV p8 cU eJ eH fP
   go_wp2
   go_ret2
   exact HFIN.out
  obtain ⟨j, rfl⟩ : ∃ j, k = j + 1 := ⟨k - 1, by omega⟩
  rw [show (((j + 1 : Nat) : Int) - 1) = (j : Int) from by omega]
  obtain ⟨s1, s2, s3, s4, s5, s6, s7, s8⟩ := hS
  have hS : DvS w1 gu gq gv p m lv lu lq wr := ⟨s1, s2, s3, s4, s5, s6, s7, s8⟩
  have aV := HV.out.2.2.1
  have aZ : j + n <= p := by omega
  obtain ⟨u2, cW⟩ : ∃ u2, lu[j + n]? = some u2 := ⟨_, List.getElem?_eq_getElem (by omega)⟩
  obtain ⟨u1, aF⟩ : ∃ u1, lu[j + n - 1]? = some u1 := ⟨_, List.getElem?_eq_getElem (by omega)⟩
  obtain ⟨u0, aG⟩ : ∃ u0, lu[j + n - 2]? = some u0 := ⟨_, List.getElem?_eq_getElem (by omega)⟩
  have j8 := HV.out.2.2.2.1
  obtain ⟨v1, q8⟩ : ∃ v1, lv[n - 1]? = some v1 := ⟨_, List.getElem?_eq_getElem (by omega)⟩
  obtain ⟨v0, aH⟩ : ∃ v0, lv[n - 2]? = some v0 := ⟨_, List.getElem?_eq_getElem (by omega)⟩
  have y8 : 0 < v1 := by
   have h1 := Zh q9 (by decide) (n - 1)
   have h2 : dv B64 lv / B64 ^ (n - 1) = v1 := by
    have h3 : dv B64 (lv.drop (n - 1)) = v1 := by
     rw [Jv q8, show n - 1 + 1 = n from by omega, HV.out.2.2.2.2, Nat.mul_zero, Nat.add_zero]
    rw [<- h3]
    exact h1
   rw [HV.out.1] at h2
   rw [<- h2]
   exact (Nat.div_pos cG (Nat.pow_pos (by decide)))
  have bA := Jgf (lu := lu) (lv := lv.take n) (j := j) (n := n) s3 (q9.take n) (by rw [List.length_take]; omega) hn cW aF aG (by rw [List.getElem?_take, if_pos (by omega)]; exact q8) (by rw [List.getElem?_take, if_pos (by omega)]; exact aH) y8 (by rw [HV.out.2.1]; exact x8)
  rw [HV.out.2.1] at bA
  obtain ⟨fS, eL, aI⟩ := bA
  have x7 := fun w => Jfl u2 u1 u0 v1 v0 w fS (s3.get aF) (s3.get aG) (q9.get q8) (q9.get aH) y8
  have eM := (Jdc (T := (u2 * B64 + u1) * B64 + u0) (D := v1 * B64 + v0) (by have := Nat.mul_pos y8 (show 0 < B64 by decide); omega)).1
  generalize Yn ((u2 * B64 + u1) * B64 + u0) (v1 * B64 + v0) = G at *
  have cu2 := s1.cell cW
  have cu1 := s1.cell aF
  have cu0 := s1.cell aG
  have cv1 := s7.cell q8
  have cv0 := s7.cell aH
  unfold Jj at cu2 cu1 cu0 cv1 cv0
  have HGQ := lh x7
  have HX := lh (And.intro aW (And.intro x8 (And.intro eE (And.intro eL aI))))
  have HS := lh hS
  obtain ⟨a1, cZ⟩ : ∃ a1, j + n = a1 := ⟨_, rfl⟩
  obtain ⟨a2, eN⟩ : ∃ a2, j + n - 1 = a2 := ⟨_, rfl⟩
  obtain ⟨a3, eO⟩ : ∃ a3, j + n - 2 = a3 := ⟨_, rfl⟩
  obtain ⟨a4, dA⟩ : ∃ a4, n - 1 = a4 := ⟨_, rfl⟩
  obtain ⟨a5, eP⟩ : ∃ a5, n - 2 = a5 := ⟨_, rfl⟩
  rw [cZ] at cu2
  rw [eN] at cu1
  rw [eO] at cu0
  rw [dA] at cv1
  rw [eP] at cv0
  have r1 : (j : Int) + (n : Int) = (a1 : Int) := by omega
  have r2 : (a1 : Int) - 1 = (a2 : Int) := by omega
  have r3 : (a1 : Int) - 2 = (a3 : Int) := by omega
  have r4 : (n : Int) - 1 = (a4 : Int) := by omega
  have r5 : (n : Int) - 2 = (a5 : Int) := by omega
  have i5 : (a1 : Int) < (p1 : Int) := by have := HP1.out; omega
  have i6 : (a2 : Int) < (p1 : Int) := by have := HP1.out; omega
  have i7 : (a3 : Int) < (p1 : Int) := by have := HP1.out; omega
  have i8 : (a4 : Int) < (n : Int) := by omega
  have i9 : (a5 : Int) < (n : Int) := by omega
  have j1 : IntKind.i64.wrap (a1 : Int) = (a1 : Int) := IntWalk.i64_in _ (by omega)
  have j2 : IntKind.i64.wrap (a2 : Int) = (a2 : Int) := IntWalk.i64_in _ (by omega)
  have j3 : IntKind.i64.wrap (a3 : Int) = (a3 : Int) := IntWalk.i64_in _ (by omega)
  have j4 : IntKind.i64.wrap (a4 : Int) = (a4 : Int) := IntWalk.i64_in _ (by omega)
  have j5 : IntKind.i64.wrap (a5 : Int) = (a5 : Int) := IntWalk.i64_in _ (by omega)
  have HA := lh (And.intro cZ (And.intro dA aZ))
  have n5 : a1 < p1 := by omega
  have n6 : a2 < p1 := by omega
  have n7 : a3 < p1 := by omega
  have n8 : a4 < n := by omega
  have n9 : a5 < n := by omega
  clear cZ eN eO dA eP
  clear x7 aW x8 eE eL aI hS s1 s2 s3 s4 s5 s6 s7 s8 cW aF aG q8 aH aV j8
  obtain ⟨X, dB⟩ : ∃ X, dv B64 lu = X := ⟨_, rfl⟩
  have o6 : dv B64 (lu.drop (j + n + 1)) = 0 := by
   apply Yw HS.out.2.2.1 (by decide)
   refine Nat.lt_trans HX.out.2.1 ?_
   have e : B64 ^ (j + n + 1) = B64 ^ n * B64 ^ (j + 1) := by rw [<- Nat.pow_add]; congr 1; omega
   rw [e]
   exact Nat.mul_lt_mul_of_pos_right bK (Nat.pow_pos (by decide))
  rw [dB] at HX
  have HXE := lh (And.intro dB o6)
  clear dB o6
  go_wp2_with fail
  go_quiet ((go_at_call 179; refine Calls.quiet_of (HGQ.out _)))
  go_wp2_with fail
  clear HGQ cu2 cu1 cu0 cv1 cv0 r2 r3 r4 r5 i6 i7 i8 i9 j2 j3 j4 j5 n6 n7 n8 n9
  go_loopw [12, 13, 89] (fun c b i wx => ∃ t c' b' : Nat, t <= n /\ c' < 18446744073709551616 /\ b' <= 1 /\ i = .int .i64 (t : Int) /\ c = .int .u64 (c' : Int) /\ b = .int .u64 (b' : Int) /\ Jk0 w1 gu gq gv p m n lv lq X G j t c' b' wx) (fun _ _ i _ => n - (intOf i).toNat)
  case atStart =>
   refine ⟨0, 0, 0, Nat.zero_le _, by omega, by omega, rfl, rfl, rfl, lu, HS.out.drewN _, ?_, HXE.out.2⟩
   rw [List.take_zero, Ur, HXE.out.1]
   simp
  case round =>
   obtain ⟨t, c, b, ht, fT, eQ, rfl, rfl, rfl, lx, aJ, bB, o7⟩ := hrel
   clear HS HXE
   obtain ⟨s1, s2, s3, s4, s5, s6, s7, s8⟩ := aJ
   have aJ : DvS w1 gu gq gv p m lv lx lq wr := ⟨s1, s2, s3, s4, s5, s6, s7, s8⟩
   have j8 := HV.out.2.2.2.1
   have aZ := HA.out.2.2
   by_cases gH : t < n
   ·obtain ⟨y, hy⟩ : ∃ y, lv[t]? = some y := ⟨_, List.getElem?_eq_getElem (by omega)⟩
    obtain ⟨x, hx⟩ : ∃ x, lx[j + t]? = some x := ⟨_, List.getElem?_eq_getElem (by omega)⟩
    have dC : y < 18446744073709551616 := q9.get hy
    have fU : x < 18446744073709551616 := s3.get hx
    have bC : G < 18446744073709551616 := eM
    have cy := s7.cell hy
    have cx := s1.cell hx
    have fx := s1.frozen (j + t)
    obtain ⟨hi, eR⟩ : ∃ hi, G * y / 18446744073709551616 = hi := ⟨_, rfl⟩
    obtain ⟨lo', eS⟩ : ∃ lo', G * y % 18446744073709551616 = lo' := ⟨_, rfl⟩
    obtain ⟨z1, eT⟩ : ∃ z1, (lo' + c) % 18446744073709551616 = z1 := ⟨_, rfl⟩
    obtain ⟨c1, eU⟩ : ∃ c1, (lo' + c) / 18446744073709551616 = c1 := ⟨_, rfl⟩
    obtain ⟨S, bD⟩ : ∃ S, (x + 18446744073709551616 - z1 - b) % 18446744073709551616 = S := ⟨_, rfl⟩
    obtain ⟨b', p9⟩ : ∃ b', (if x < z1 + b then 1 else 0) = b' := ⟨_, rfl⟩
    obtain ⟨c', dD⟩ : ∃ c', hi + c1 = c' := ⟨_, rfl⟩
    have fV : z1 < 18446744073709551616 := by omega
    have dE : S < 18446744073709551616 := by omega
    have bE : b' <= 1 := by rw [<- p9]; split <;> omega
    have fW : G * y = hi * 18446744073709551616 + lo' := by omega
    have hm2 : z1 + 18446744073709551616 * c' = 0 + G * y + c := by omega
    have dF : c' < 18446744073709551616 := Jfr (β := 18446744073709551616) (by omega) bC dC fT hm2
    have bW : S + z1 + b = x + 18446744073709551616 * b' := by
     rw [<- p9]
     split <;> omega
    have j0 : S + G * y + (c + b) = x + B64 * (c' + b') := by unfold B64; omega
    have e9 := Kh (β := B64) (l := lx) hx j0 bB
    have j6 : dv B64 (lx.set (j + t) S) + G * dv B64 (lv.take (t + 1)) * B64 ^ j = X + (c' + b') * B64 ^ (j + (t + 1)) := by
     rw [Jt hy, Nat.mul_add, Nat.add_mul, <- Nat.add_assoc j t 1]
     have e1 : G * (y * B64 ^ t) * B64 ^ j = G * y * B64 ^ (j + t) := by rw [Nat.pow_add, <- Nat.mul_assoc, Nat.mul_assoc (G * y), Nat.mul_comm (B64 ^ t)]
     rw [e1]
     exact e9
    have e8 : Jk0 w1 gu gq gv p m n lv lq X G j (t + 1) c' b' (wr.setCell ⟨gu, j + t, none⟩ (Jj S)) :=
     ⟨_, aJ.setU (j + t) S dE bU bV l5, j6, by rw [List.drop_set_of_lt (by omega)]; exact o7⟩
    have y9 := Tryz.bits_Mul64 G y bC dC
    rw [eR, eS] at y9
    have dG : ∀ w, (callFunc 164 #[.int .u64 (lo' : Int), .int .u64 (c : Int), .int .u64 0]).run Tryz.prog w = .ok (.value (.tuple #[.int .u64 (z1 : Int), .int .u64 (c1 : Int)])) w := fun w => by
     have := Zg lo' c 0 (by omega) w
     rw [Nat.add_zero, eT, eU] at this
     exact this
    have bF : ∀ w, (callFunc 173 #[.int .u64 (x : Int), .int .u64 (z1 : Int), .int .u64 (b : Int)]).run Tryz.prog w = .ok (.value (.tuple #[.int .u64 (S : Int), .int .u64 (b' : Int)])) w := fun w => by
     have := Jbb x z1 b eQ w
     rw [bD, p9] at this
     exact this
    have gI : IntKind.u64.wrap ((hi : Int) + (c1 : Int)) = (c' : Int) := by rw [Jc _ (by omega) (by omega)]; omega
    have HMUL := lh y9
    have HFIN := lh e8
    obtain ⟨a, ha⟩ : ∃ a, j + t = a := ⟨_, rfl⟩
    have ra : (j : Int) + (t : Int) = (a : Int) := by omega
    have rb : (a : Int) < (p1 : Int) := by have := HP1.out; omega
    have rc : (t : Int) < (n : Int) := by omega
    have rd : a < p1 := by omega
    rw [ha] at cx fx HFIN
    unfold Jj at cx cy
    clear eR eS eT eU bD p9 dD fW hm2 bW j0 e9 j6 e8 y9 hx hy s1 s2 s3 s4 s5 s6 s7 s8 aJ bB o7 ha j8 aZ
    go_wp2_with fail
    refine (HMUL.out _).mono ?_
    rintro e w9 ⟨rfl, rfl⟩
    go_wp2
    exact ⟨⟨t + 1, c', b', by omega, dF, bE, by go_num, rfl, rfl, HFIN.out⟩, by simp [intOf]; omega⟩
   obtain rfl : t = n := by omega
   rw [HV.out.2.1] at bB
   obtain ⟨x, hx⟩ : ∃ x, lx[j + t]? = some x := ⟨_, List.getElem?_eq_getElem (by omega)⟩
   have fU : x < 18446744073709551616 := s3.get hx
   have cx := s1.cell hx
   have fx := s1.frozen (j + t)
   obtain ⟨S, bD⟩ : ∃ S, (x + 18446744073709551616 - c - b) % 18446744073709551616 = S := ⟨_, rfl⟩
   obtain ⟨b', p9⟩ : ∃ b', (if x < c + b then 1 else 0) = b' := ⟨_, rfl⟩
   have dE : S < 18446744073709551616 := by omega
   have bE : b' <= 1 := by rw [<- p9]; split <;> omega
   have bW : S + 0 + (c + b) = x + B64 * b' := by
    unfold B64
    rw [<- p9]
    split <;> omega
   have e9 := Kh (β := B64) (l := lx) hx bW bB
   rw [Nat.zero_mul, Nat.add_zero] at e9
   have bF : ∀ w, (callFunc 173 #[.int .u64 (x : Int), .int .u64 (c : Int), .int .u64 (b : Int)]).run Tryz.prog w = .ok (.value (.tuple #[.int .u64 (S : Int), .int .u64 (b' : Int)])) w := fun w => by
    have := Jbb x c b eQ w
    rw [bD, p9] at this
    exact this
   have aK : DvS w1 gu gq gv p m lv (lx.set (j + t) S) lq (wr.setCell ⟨gu, j + t, none⟩ (Jj S)) := aJ.setU (j + t) S dE bU bV l5
   have aA : dv B64 ((lx.set (j + t) S).drop (j + t + 1)) = 0 := by rw [List.drop_set_of_lt (by omega)]; exact o7
   obtain ⟨lz, eV⟩ : ∃ lz, lx.set (j + t) S = lz := ⟨_, rfl⟩
   rw [eV] at e9 aK aA
   have HS2 := lh (And.intro aK (And.intro e9 aA))
   have e1 := HA.out.1
   rw [e1] at cx fx HS2
   unfold Jj at cx HS2
   have rc : ¬ (t : Int) < (t : Int) := by omega
   clear bD p9 bW e9 hx s1 s2 s3 s4 s5 s6 s7 s8 aJ bB o7 j8 aZ aK aA eV e1
   go_upto_if 146 with fail
   go_cut [11] (fun v wc => Jj8 w1 gu gq gv p m lv lq X V j v wc)
   case first =>
    have bG : 0 < V * B64 ^ j := Nat.mul_pos (by rcases Nat.eq_zero_or_pos V with h | h; (subst h; have := HX.out.2.1; simp at this); exact h) (Nat.pow_pos (by decide))
    by_cases bX : b' = 0
    ·have fX : ((b' : Int) != 0) = false := by simp [bX]
     have e8 : Jj8 w1 gu gq gv p m lv lq X V j (.int .u64 (G : Int)) (wr.setCell ⟨gu, a1, none⟩ (.int .u64 (S : Int))) := by
      have h1 := HS2.out.2.1
      rw [bX, Nat.zero_mul, Nat.add_zero] at h1
      have h2 := Jb8 bG HX.out.2.2.2.1 h1
      exact ⟨G, lz, rfl, HS2.out.1, h2.1, h2.2⟩
     have HFIN := lh e8
     clear e8 bX
     go_wp2
     go_meet
     exact HFIN.out
    have fX : ((b' : Int) != 0) = true := by simp [bne_iff_ne]; omega
    have dH : b' = 1 := by omega
    obtain ⟨z1, z2, z3, z4, z5, z6, z7, z8⟩ := HS2.out.1
    have aZ := HA.out.2.2
    have dI := HA.out.1
    have bH : dv B64 lz < B64 ^ (a1 + 1) := by
     have h1 := Qz (β := B64) (l := lz) (a1 + 1) (by omega)
     rw [HS2.out.2.2, Nat.mul_zero, Nat.add_zero] at h1
     rw [h1]
     have h2 := Xf (z3.take (a1 + 1))
     rw [List.length_take, Nat.min_eq_left (by omega)] at h2
     exact h2
    have gJ : 0 < G := by
     rcases Nat.eq_zero_or_pos G with h | h
     ·have h1 := HS2.out.2.1
      rw [h, dH, Nat.zero_mul, Nat.zero_mul, Nat.one_mul] at h1
      omega
     exact h
    obtain ⟨X', eW⟩ : ∃ X', dv B64 lz = X' := ⟨_, rfl⟩
    have k1 : IntKind.u64.wrap ((G : Int) - 1) = ((G - 1 : Nat) : Int) := by
     have : G < 18446744073709551616 := eM
     rw [Jc _ (by omega) (by omega)]
     omega
    obtain ⟨G', dJ⟩ : ∃ G', G - 1 = G' := ⟨_, rfl⟩
    rw [dJ] at k1
    have HZ := lh (And.intro eW (And.intro bH (And.intro dJ dH)))
    clear z1 z2 z3 z4 z5 z6 z7 z8 bH eW dJ dH bX bF cx fx
    go_wp2_with fail
    go_loopw [19, 150] (fun cc i wx => ∃ t' c' : Nat, t' <= t /\ c' <= 1 /\ i = .int .i64 (t' : Int) /\ cc = .int .u64 (c' : Int) /\ Jk4 w1 gu gq gv p m t lv lq X' j t' c' wx) (fun _ i _ => t - (intOf i).toNat)
    case atStart =>
     refine ⟨0, 0, Nat.zero_le _, by omega, rfl, rfl, lz, HS2.out.1, ?_, ?_⟩
     ·rw [List.take_zero, Ur, HZ.out.1]
      simp
     rw [dI]; exact HS2.out.2.2
    case round =>
     obtain ⟨t', c', bL, dD, rfl, rfl, ly, aL, aM, o7⟩ := hrel
     obtain ⟨s1, s2, s3, s4, s5, s6, s7, s8⟩ := aL
     have aL : DvS w1 gu gq gv p m lv ly lq wr := ⟨s1, s2, s3, s4, s5, s6, s7, s8⟩
     have j8 := HV.out.2.2.2.1
     by_cases dK : t' < t
     ·obtain ⟨y, hy⟩ : ∃ y, lv[t']? = some y := ⟨_, List.getElem?_eq_getElem (by omega)⟩
      obtain ⟨x2, bY⟩ : ∃ x2, ly[j + t']? = some x2 := ⟨_, List.getElem?_eq_getElem (by omega)⟩
      have dC : y < 18446744073709551616 := q9.get hy
      have fY : x2 < 18446744073709551616 := s3.get bY
      have cy := s7.cell hy
      have cx := s1.cell bY
      have fx := s1.frozen (j + t')
      obtain ⟨S2, aK⟩ : ∃ S2, (x2 + y + c') % 18446744073709551616 = S2 := ⟨_, rfl⟩
      obtain ⟨C, hC⟩ : ∃ C, (x2 + y + c') / 18446744073709551616 = C := ⟨_, rfl⟩
      have dL : S2 < 18446744073709551616 := by omega
      have fZ : C <= 1 := by omega
      have j0 : S2 + B64 * C = x2 + y + c' := by unfold B64; omega
      have e9 := Kq (β := B64) (l := ly) bY j0 aM
      have j6 : dv B64 (ly.set (j + t') S2) + C * B64 ^ (j + (t' + 1)) = X' + dv B64 (lv.take (t' + 1)) * B64 ^ j := by
       rw [Jt hy, Nat.add_mul, <- Nat.add_assoc j t' 1, <- Nat.add_assoc]
       have e1 : y * B64 ^ t' * B64 ^ j = y * B64 ^ (j + t') := by rw [Nat.pow_add, Nat.mul_assoc, Nat.mul_comm (B64 ^ t')]
       rw [e1]
       exact e9
      have dG : ∀ w, (callFunc 164 #[.int .u64 (x2 : Int), .int .u64 (y : Int), .int .u64 (c' : Int)]).run Tryz.prog w = .ok (.value (.tuple #[.int .u64 (S2 : Int), .int .u64 (C : Int)])) w := fun w => by
       have := Zg x2 y c' dD w
       rw [aK, hC] at this
       exact this
      have e8 : ∀ nd, Jk4 w1 gu gq gv p m t lv lq X' j (t' + 1) C ((wr.drewN nd).setCell ⟨gu, j + t', none⟩ (Jj S2)) := fun nd =>
       ⟨_, (aL.drewN nd).setU (j + t') S2 dL bU bV l5, j6, by rw [List.drop_set_of_lt (by omega)]; exact o7⟩
      have HFIN := lh e8
      obtain ⟨a, ha⟩ : ∃ a, j + t' = a := ⟨_, rfl⟩
      have ra : (j : Int) + (t' : Int) = (a : Int) := by omega
      have rb : (a : Int) < (p1 : Int) := by have := HP1.out; omega
      have rc2 : (t' : Int) < (t : Int) := by omega
      have rd : a < p1 := by have := HP1.out; omega
      have re : IntKind.i64.wrap (a : Int) = (a : Int) := IntWalk.i64_in _ (by omega)
      have rf : t' < t := dK
      rw [ha] at cx fx HFIN
      unfold Jj at cx cy
      clear aK hC j0 e9 j6 e8 bY hy s1 s2 s3 s4 s5 s6 s7 s8 aL aM o7 ha j8
      go_wp2_with fail
      go_region
      go_wp2
      exact ⟨⟨t' + 1, C, by omega, fZ, by go_num, rfl, HFIN.out 1⟩, by simp [intOf]; omega⟩
     have eX : t' = t := by omega
     rw [eX] at aM
     rw [HV.out.2.1, dI] at aM
     rw [dI] at o7
     obtain ⟨x3, o8⟩ : ∃ x3, ly[a1]? = some x3 := ⟨_, List.getElem?_eq_getElem (by omega)⟩
     have gA : x3 < 18446744073709551616 := s3.get o8
     have cx := s1.cell o8
     have fx := s1.frozen a1
     obtain ⟨S3, aB⟩ : ∃ S3, (x3 + c') % 18446744073709551616 = S3 := ⟨_, rfl⟩
     obtain ⟨C, hC⟩ : ∃ C, (x3 + c') / 18446744073709551616 = C := ⟨_, rfl⟩
     have bI : S3 < 18446744073709551616 := by omega
     have j0 : S3 + B64 * C = x3 + 0 + c' := by unfold B64; omega
     have e9 := Kq (β := B64) (l := ly) o8 j0 aM
     rw [Nat.zero_mul, Nat.add_zero] at e9
     have bP : IntKind.u64.wrap ((x3 : Int) + (c' : Int)) = (S3 : Int) := by
      rw [show (x3 : Int) + (c' : Int) = ((x3 + c' : Nat) : Int) from by omega, Jg, aB]
     have eY : dv B64 (ly.set a1 S3) < B64 ^ (a1 + 1) := by
      have h1 := Qz (β := B64) (l := ly.set a1 S3) (a1 + 1) (by rw [List.length_set]; omega)
      rw [List.drop_set_of_lt (by omega), o7, Nat.mul_zero, Nat.add_zero] at h1
      rw [h1]
      have h2 := Xf ((s3.set_ a1 bI).take (a1 + 1))
      rw [List.length_take, List.length_set, Nat.min_eq_left (by omega)] at h2
      exact h2
     have eZ : V * B64 ^ j <= B64 ^ (a1 + 1) := by
      have e : B64 ^ (a1 + 1) = B64 ^ t * B64 ^ (j + 1) := by rw [<- Nat.pow_add]; congr 1; omega
      rw [e]
      exact Nat.mul_le_mul (Nat.le_of_lt bK) (Nat.pow_le_pow_right (by decide) (by omega))
     have he := HS2.out.2.1
     rw [HZ.out.1, HZ.out.2.2.2, Nat.one_mul] at he
     have aC := HZ.out.2.1
     rw [HZ.out.1] at aC
     have aD := Jb9 bG eZ HX.out.2.2.2.2 he aC eY e9
     have e8 : Jj8 w1 gu gq gv p m lv lq X V j (.int .u64 (G' : Int)) (wr.setCell ⟨gu, a1, none⟩ (Jj S3)) :=
      ⟨G', ly.set a1 S3, rfl, aL.setU a1 S3 bI bU bV l5, by rw [<- HZ.out.2.2.1]; exact aD.2.1, aD.2.2⟩
     have HFIN := lh e8
     have rc2 : ¬ (t' : Int) < (t : Int) := by omega
     unfold Jj at cx
     clear aB hC j0 e9 eY eZ he aC aD e8 o8 s1 s2 s3 s4 s5 s6 s7 s8 aL aM o7 eX j8
     go_wp2
     go_meet
     exact HFIN.out
   case rest =>
    obtain ⟨G2, lu2, rfl, aB, aI, aE⟩ := hcut
    obtain ⟨s1, s2, s3, s4, s5, s6, s7, s8⟩ := aB
    have aB : DvS w1 gu gq gv p m lv lu2 lq wc := ⟨s1, s2, s3, s4, s5, s6, s7, s8⟩
    have bG : 0 < V * B64 ^ j := Nat.mul_pos (by rcases Nat.eq_zero_or_pos V with h | h; (subst h; have := HX.out.2.1; simp at this); exact h) (Nat.pow_pos (by decide))
    obtain ⟨x3, o8⟩ : ∃ x3, lq[j]? = some x3 := ⟨_, List.getElem?_eq_getElem (by omega)⟩
    have dM : x3 = 0 := Jaj (by decide) HX.out.2.2.1 (k := j) (by rw [List.getElem?_take, if_pos (by omega)]; exact o8)
    subst dM
    have cq := s4.cell o8
    have fq := s4.frozen j
    have dN : G2 < 18446744073709551616 := by
     rw [aI]
     have h1 : X / (V * B64 ^ j) < B64 := by
      rw [Nat.div_lt_iff_lt_mul bG]
      have := HX.out.2.1
      rw [Nat.pow_succ] at this
      rw [Nat.mul_comm B64, Nat.mul_assoc]
      exact this
     exact h1
    have dO := Yd (β := B64) G2 o8
    rw [Nat.zero_mul, Nat.add_zero] at dO
    have fA := Nat.div_add_mod X (V * B64 ^ j)
    rw [<- aI, <- aE] at fA
    have e8 : Jj7 w1 gu gq gv p m lv U V j (wc.setCell ⟨gq, j, none⟩ (Jj G2)) := by
     refine ⟨lu2, lq.set j G2, aB.setQ j G2 dN fM fN cS, ?_, ?_, ?_⟩
     ·rw [dO, HX.out.1, Nat.mul_add]
      have e : V * (G2 * B64 ^ j) = V * B64 ^ j * G2 := by rw [Nat.mul_comm G2, Nat.mul_assoc]
      rw [e]
      omega
     ·rw [aE]
      exact Nat.mod_lt _ bG
     rw [List.take_set_of_le (by omega)]
     have h1 := Jt (β := B64) o8
     rw [HX.out.2.2.1] at h1
     omega
    have HFIN := lh e8
    unfold Jj at cq
    have rj : (j : Int) < (m : Int) := by omega
    have rj2 : j < m := by omega
    clear aI aE dO fA e8 o8 s1 s2 s3 s4 s5 s6 s7 s8 aB
    go_wp2
    exact ⟨⟨j, by omega, by go_num, HFIN.out⟩, by simp [intOf] <;> omega⟩
