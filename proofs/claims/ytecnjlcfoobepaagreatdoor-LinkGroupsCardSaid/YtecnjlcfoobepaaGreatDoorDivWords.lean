import Derived.Test.YtecnjlcfoobepaaGreatDoorDivA
import Derived.Deep.DeepCutAuto
import Derived.Deep.CutBlock
import Derived.RegionTactic
import Derived.BigRegion
import Derived.Deep.DeepMust
namespace Go.Proofs.YtecnjlcfoobepaaGreatDoor
set_option maxRecDepth 100000
set_option maxHeartbeats 2000000
open Go.RowKit
set_option linter.all false
theorem Tryz.sizeU64 : (Tryz.prog.info? 50).map (·.size) = some 1 := by kernel_rfl
theorem Jjq (u2 u1 u0 v1 v0 : Nat) (w : World) (h2 : u2 <= v1) (aW : u1 < 18446744073709551616) (aX : u0 < 18446744073709551616) (aF : v1 < 18446744073709551616) (aY : v0 < 18446744073709551616) (bE : 0 < v1) :
  Calls Tryz.prog 165 #[.int .u64 (u2 : Int), .int .u64 (u1 : Int), .int .u64 (u0 : Int), .int .u64 (v1 : Int), .int .u64 (v0 : Int)] w fun e w' => e = .returned (.int .u64 ((Kw ((u2 * B64 + u1) * B64 + u0) (v1 * B64 + v0) : Nat) : Int)) /\ ∃ n, w' = w.drewN n := by
 refine (Jfv u2 u1 u0 v1 v0 w h2 aW aX aF aY bE).mono ?_
 rintro e w' ⟨g, n, rfl, hg, rfl⟩
 have hD : 0 < v1 * B64 + v0 := by
  have := Nat.mul_pos bE (show 0 < B64 by decide)
  omega
 exact ⟨by rw [Jhv hD hg], n, rfl⟩
def DvS (w : World) (gu gq gv p m : Nat) (lv lu lq : List Nat) (wr : World) : Prop :=
 Row wr gu 50 Jm lu /\ lu.length = p + 1 /\ Dig B64 lu /\ Row wr gq 50 Jm lq /\ lq.length = m /\ Dig B64 lq /\ Row wr gv 50 Jm lv /\ Below w.heap.size w wr
def Jqq (w : World) (gu gq gv p m : Nat) (lv : List Nat) (U V k : Nat) (wr : World) : Prop :=
 ∃ lu lq : List Nat, DvS w gu gq gv p m lv lu lq wr /\ U = V * dv B64 lq + dv B64 lu /\ dv B64 lu < V * B64 ^ k /\ dv B64 (lq.take k) = 0
theorem DvS.drewN {w wr : World} {gu gq gv p m : Nat} {lv lu lq : List Nat} (h : DvS w gu gq gv p m lv lu lq wr) (n : Nat) : DvS w gu gq gv p m lv lu lq (wr.drewN n) := by
 obtain ⟨h1, h2, h3, h4, h5, h6, h7, h8⟩ := h
 exact ⟨h1.drewN n, h2, h3, h4.drewN n, h5, h6, h7.drewN n, Jz h8 n⟩
theorem DvS.setU {w wr : World} {gu gq gv p m : Nat} {lv lu lq : List Nat} (h : DvS w gu gq gv p m lv lu lq wr) (k x : Nat) (hx : x < B64) (h1 : gq ≠ gu) (h2 : gv ≠ gu) (h3 : w.heap.size <= gu) : DvS w gu gq gv p m lv (lu.set k x) lq (wr.setCell ⟨gu, k, none⟩ (Jm x)) := by
 obtain ⟨a1, a2, a3, a4, a5, a6, a7, a8⟩ := h
 exact ⟨a1.set_ k x, by rw [List.length_set]; exact a2, a3.set_ k hx, a4.far h1 _, a5, a6, a7.far h2 _, a8.setCell h3 _⟩
theorem DvS.setQ {w wr : World} {gu gq gv p m : Nat} {lv lu lq : List Nat} (h : DvS w gu gq gv p m lv lu lq wr) (k x : Nat) (hx : x < B64) (h1 : gu ≠ gq) (h2 : gv ≠ gq) (h3 : w.heap.size <= gq) : DvS w gu gq gv p m lv lu (lq.set k x) (wr.setCell ⟨gq, k, none⟩ (Jm x)) := by
 obtain ⟨a1, a2, a3, a4, a5, a6, a7, a8⟩ := h
 exact ⟨a1.far h1 _, a2, a3, a4.set_ k x, by rw [List.length_set]; exact a5, a6.set_ k hx, a7.far h2 _, a8.setCell h3 _⟩
def Jr5 (w : World) (gu gq gv p m n : Nat) (lv lq : List Nat) (X G j i c b : Nat) (wr : World) : Prop :=
 ∃ lu : List Nat, DvS w gu gq gv p m lv lu lq wr /\ dv B64 lu + G * dv B64 (lv.take i) * B64 ^ j = X + (c + b) * B64 ^ (j + i) /\ dv B64 (lu.drop (j + n + 1)) = 0
def Jr9 (w : World) (gu gq gv p m n : Nat) (lv lq : List Nat) (X j i c : Nat) (wr : World) : Prop :=
 ∃ lu : List Nat, DvS w gu gq gv p m lv lu lq wr /\ dv B64 lu + c * B64 ^ (j + i) = X + dv B64 (lv.take i) * B64 ^ j /\ dv B64 (lu.drop (j + n + 1)) = 0
def Jqr (w : World) (gu gq gv p m : Nat) (lv lq : List Nat) (X V j : Nat) (v : Value) (wr : World) : Prop :=
 ∃ (G : Nat) (lu : List Nat), v = .int .u64 (G : Int) /\ DvS w gu gq gv p m lv lu lq wr /\ G = X / (V * B64 ^ j) /\ dv B64 lu = X % (V * B64 ^ j)
def Jl0 (w : World) (X Y : Nat) (e : Ending) (w' : World) : Prop :=
 ∃ (gq m : Nat) (lq : List Nat) (A : Option Addr) (nr cr : Nat) (lr : List Nat), e = .returned (.tuple #[.slice (some ⟨gq, 0, none⟩) m m, .slice A nr cr]) /\
  Reads w' w'.heap.size 1 (some ⟨gq, 0, none⟩) m (lq.map Jm) /\ Dig B64 lq /\ dv B64 lq = X / Y /\ Reads w' w'.heap.size 1 A nr (lr.map Jm) /\ Dig B64 lr /\ dv B64 lr = X % Y /\ m <= 17179869186 /\ nr <= 17179869186 /\ nr <= cr /\ Below w.heap.size w w'
theorem Jho (AX AY : Option Addr) (p n cX cY BX BY : Nat) (lX lY : List Nat) (w : World) (hX : Reads w BX 1 AX p (lX.map Jm)) (hY : Reads w BY 1 AY n (lY.map Jm)) (cQ : BX <= w.heap.size) (fX : BY <= w.heap.size)
  (eH : Dig B64 lX) (cR : Dig B64 lY) (hp : p <= 17179869185) (gZ : n <= p) (hn : 2 <= n) (top : Nat) (aA : lY[n - 1]? = some top) (eI : 0 < top) :
  Calls Tryz.prog 143 #[.slice AX p cX, .slice AY n cY] w (Jl0 w (dv B64 lX) (dv B64 lY)) := by
 have cS := hX.lenf
 have eJ := hY.lenf
 have cT := cR.get aA
 unfold B64 at cT
 have cU := Xo top (by omega)
 have cV := Zz top cT
 obtain ⟨s, hs⟩ : ∃ s, 64 - Je top = s := ⟨_, rfl⟩
 have fY : s < 64 := by omega
 have bF : (64 : Int) - (Lib.bitLen (top : Int).toNat : Int) = (s : Int) := by
  rw [Int.toNat_natCast, Vi top cT]
  omega
 obtain ⟨V, hV⟩ : ∃ V, dv B64 lY * 2 ^ s = V := ⟨_, rfl⟩
 obtain ⟨U, hU⟩ : ∃ U, dv B64 lX * 2 ^ s = U := ⟨_, rfl⟩
 have eK : B64 ^ n = B64 ^ (n - 1) * B64 := by rw [<- Nat.pow_succ]; congr 1; omega
 have o0 : dv B64 lY = dv B64 (lY.take (n - 1)) + B64 ^ (n - 1) * top := by
  have h1 := Xm (β := B64) (l := lY) (n - 1) (by omega)
  rw [Qd aA, Xg (by omega), Nat.mul_zero, Nat.add_zero] at h1
  exact h1
 have cZ : dv B64 (lY.take (n - 1)) < B64 ^ (n - 1) := by
  have h1 := Xn (cR.take (n - 1))
  rw [List.length_take, Nat.min_eq_left (by omega)] at h1
  exact h1
 have cA : 0 < 2 ^ s := Nat.pow_pos (by omega)
 have bG : (top + 1) * 2 ^ s <= B64 := by
  have h1 := Nat.mul_le_mul_right (2 ^ s) (show top + 1 <= 2 ^ Je top from cU.2.2)
  rw [<- Nat.pow_add, show Je top + s = 64 from by omega] at h1
  exact h1
 have bH : 9223372036854775808 <= top * 2 ^ s := by
  have h1 := Nat.mul_le_mul_right (2 ^ s) cU.2.1
  rw [<- Nat.pow_add, show Je top - 1 + s = 63 from by omega] at h1
  exact h1
 have cB : V < B64 ^ n := by
  rw [<- hV, eK]
  have h1 : dv B64 lY < B64 ^ (n - 1) * (top + 1) := by rw [o0, Nat.mul_add, Nat.mul_one]; omega
  have h2 := Nat.mul_lt_mul_of_pos_right h1 cA
  refine Nat.lt_of_lt_of_le h2 ?_
  rw [Nat.mul_assoc]
  exact Nat.mul_le_mul_left _ bG
 have dA : B64 ^ (n - 1) * 9223372036854775808 <= V := by
  rw [<- hV, o0, Nat.add_mul, Nat.mul_assoc]
  exact nt (Nat.mul_le_mul_left _ bH) (Nat.le_add_left _ _)
 have eL : U < V * B64 ^ (p - n + 1) := by
  have h1 := Xn eH
  rw [cS] at h1
  have h2 := Nat.mul_lt_mul_of_pos_right h1 cA
  rw [hU] at h2
  have h3 : 2 ^ s <= 9223372036854775808 := Nat.pow_le_pow_right (by omega) (show s <= 63 by omega)
  have h4 : B64 ^ p * 2 ^ s <= B64 ^ p * 9223372036854775808 := Nat.mul_le_mul_left _ h3
  have h5 := Nat.mul_le_mul_right (B64 ^ (p - n + 1)) dA
  have h6 : B64 ^ (n - 1) * 9223372036854775808 * B64 ^ (p - n + 1) = B64 ^ p * 9223372036854775808 := by
   rw [Nat.mul_right_comm, <- Nat.pow_add, show n - 1 + (p - n + 1) = p from by omega]
  rw [h6] at h5
  exact Nat.lt_of_lt_of_le (Nat.lt_of_lt_of_le h2 h4) h5
 have dB : B64 ^ (n - 1) <= V := nt (Nat.le_mul_of_pos_right _ (by omega)) dA
 clear eK o0 cZ bG bH dA
 obtain ⟨adY, t', fZ, iA, cC, gA⟩ := hY.atf (show n - 1 < n by omega)
 rw [aA] at cC
 obtain rfl : top = t' := by simpa using cC
 obtain ⟨m, hm⟩ : ∃ m, p - n + 1 = m := ⟨_, rfl⟩
 obtain ⟨p1, eM⟩ : ∃ p1, p + 1 = p1 := ⟨_, rfl⟩
 have dC := Ql (P := Tryz.prog) Jm 0 170 50 8 Tryz.underlying170 Tryz.infoU64 rfl .i64 .i64 p1 (by omega) (by omega)
 have dD := Ql (P := Tryz.prog) Jm 0 170 50 8 Tryz.underlying170 Tryz.infoU64 rfl .i64 .i64 m (by omega) (by omega)
 have c1 : ((p : Int) + 1) = (p1 : Int) := by omega
 have HP1 := lh eM
 have gB : p1 <= 17179869186 := by omega
 have gC : p < p1 := by omega
 have c2 : (p : Int) - (n : Int) + 1 = (m : Int) := by omega
 have c3 : ((n : Int) - 1).toNat = n - 1 := by omega
 have c4 : (n : Int) - 1 < (n : Int) := by omega
 have c5 : (0 : Int) <= (n : Int) - 1 := by omega
 have HL := lh (And.intro cS (And.intro eJ (And.intro hm (And.intro hV hU))))
 have HB := lh bF
 unfold Jm at gA
 subst fZ
 clear cS eJ hs cU cV bF hV hU cC aA eM
 go_enter Tryz.func143, Tryz.ntmps143
 go_wp2_with fail
 refine (Tryz.bits_LeadingZeros64 (top : Int) w (by omega) (by omega)).mono ?_
 rintro e w1 ⟨rfl, rfl⟩
 rw [HB.out]
 go_wp2_with fail
 refine (Jao _ n cY BY s lY w1 hY fX cR (by omega) (by omega)).mono ?_
 rintro e w2 ⟨gv, lv, rfl, dE, cD, aG, eO, cE, iB⟩
 have cF : s / 64 = 0 := by omega
 rw [cF, Nat.add_zero] at dE ⊢
 have eP := hX.below (cE.mono cQ)
 have dF : ∀ w, (Instr.slice 170 (.slice (some ⟨gv, 0, none⟩) (n + 1) (n + 1)) none (some (.int .i64 (n : Int))) none).run Tryz.prog w = .ok (.slice (some ⟨gv, 0, none⟩) n (n + 1)) w := fun w => by
  have := Jf6 (P := Tryz.prog) Tryz.underlying170 Tryz.infoU64 (some ⟨gv, 0, none⟩) (n + 1) (n + 1) .i64 (n : Int) (by omega) (by omega) w
  simpa using this
 clear HB
 go_wp2_with fail
 have s9 := Row.rep w2 50 Jm 0 p1
 have bI := Jb w2 (.cells (Array.replicate p1 (Jm 0)) 50)
 obtain ⟨w3, cG⟩ : ∃ w3, w2.alloc (.cells (Array.replicate p1 (Jm 0)) 50) = w3 := ⟨_, rfl⟩
 obtain ⟨gu, cH⟩ : ∃ gu, w2.heap.size = gu := ⟨_, rfl⟩
 have dG : gv < gu := by rw [<- cH]; exact cD.lt
 rw [cG] at s9 bI
 rw [cG]
 have aH := cD.below bI cD.lt
 have eQ := eP.below (bI.mono (nt cQ cE.size))
 rw [cH] at s9
 rw [cH]
 have dH := Ja cE bI
 have t7 : w1.heap.size <= gu := by have := cE.size; omega
 clear cG cH eP bI dC c1
 refine (Jao AX p cX BX s lX w3 eQ (nt cQ dH.size) eH (by omega) (by omega)).mono ?_
 rintro e w4 ⟨gs, ls, rfl, aI, eR, gD, eT, cI, gE⟩
 rw [cF, Nat.add_zero] at aI
 rw [cF, Nat.add_zero, HP1.out]
 rw [HP1.out] at aI
 have bJ := s9.below cI s9.lt
 have bK := aH.below cI aH.lt
 have eU := Ja dH cI
 have gG : gu < gs := Nat.lt_of_lt_of_le s9.lt gE
 clear s9 aH cI dH eQ cD cF
 obtain ⟨w5, gH, aB, dI⟩ : ∃ w5, (Builtin.copy_ #[170, 170] 3 #[.slice (some ⟨gu, 0, none⟩) p1 p1, .slice (some ⟨gs, 0, none⟩) p1 p1]).run Tryz.prog w4 = .ok (.int .i64 (p1 : Int)) w5 /\ Row w5 gu 50 Jm ls /\ Below gu w4 w5 := by
  have hg : w4.heap[gu]? = some (.cells ((List.replicate p1 0).map Jm).toArray 50 (0, 0)) := bJ
  have bL := run_copy_row (P := Tryz.prog) w4 170 170 3 50 gu 0 p1 p1 ⟨gs, 0, none⟩ p1 p1 _ 50 (ls.map Jm) Tryz.underlying170 Tryz.sizeU64 hg (by simp [aI]) (fun j v hv => by
   obtain ⟨ad, e, hb, hc⟩ := eR.reads.2 (by
    have := (List.getElem?_eq_some_iff.1 hv).1
    simp at this
    omega)
   injection e with e
   subst e
   exact hc j v hv) (by simp [aI]) (fun u hu => by
   simp at hu
   obtain ⟨x, _, rfl⟩ := hu
   rfl)
  have h2 : (List.map Jm (List.replicate p1 0)).toArray.toList.take 0 ++ ls.map Jm ++ (List.map Jm (List.replicate p1 0)).toArray.toList.drop (0 + (ls.map Jm).length) = ls.map Jm := by
   rw [List.drop_of_length_le (by simp [aI])]
   simp
  rw [h2] at bL
  refine ⟨w4.setRow gu (ls.map Jm).toArray, ?_, setRow_heap w4 gu _ _ 50 _ hg, below_setRow (Below.refl gu w4) zd _⟩
  rw [bL, List.length_map, aI]
  rfl
 have aJ := bK.below dI dG
 have eV : Below w1.heap.size w1 w5 := eU.trans (dI.mono t7)
 clear dI bJ bK eU eR
 go_wp2_with fail
 have aC := Row.rep w5 50 Jm 0 m
 have cJ := Jb w5 (.cells (Array.replicate m (Jm 0)) 50)
 have aK := aB.below cJ aB.lt
 have aL := aJ.below cJ aJ.lt
 have dJ := Ja eV cJ
 obtain ⟨w6, dK⟩ : ∃ w6, w5.alloc (.cells (Array.replicate m (Jm 0)) 50) = w6 := ⟨_, rfl⟩
 obtain ⟨gq, aM⟩ : ∃ gq, w5.heap.size = gq := ⟨_, rfl⟩
 have gI : gu < gq := by rw [<- aM]; exact aB.lt
 rw [dK] at aC aK aL dJ
 rw [dK]
 rw [aM] at aC
 rw [aM]
 have eX : (p : Int) - (n : Int) = (m : Int) - 1 := by have := HL.out.2.2.1; omega
 rw [eX]
 have cK : dv B64 lv = V := by rw [<- HL.out.2.2.2.1]; exact eO
 have dL : dv B64 ls = U := by rw [<- HL.out.2.2.2.2]; exact eT
 have bM : p - n + 1 = m := HL.out.2.2.1
 have t8 : dv B64 (lv.drop n) = 0 := Km aG (by decide) (by rw [cK]; exact cB)
 have eY : dv B64 (lv.take n) = V := by
  have h1 := Xm (β := B64) (l := lv) n (by omega)
  rw [t8, Nat.mul_zero, Nat.add_zero, cK] at h1
  exact h1.symm
 have cL : gq ≠ gu := by omega
 have cM : gv ≠ gu := by omega
 have gJ : gu ≠ gq := by omega
 have gK : gv ≠ gq := by omega
 have dM : w1.heap.size <= gq := by omega
 have HV := lh (And.intro cK (And.intro eY (And.intro bM (And.intro dE t8))))
 have iC : m <= 17179869186 := by omega
 have x8 : Jqq w1 gu gq gv p m lv U V m w6 := by
  refine ⟨ls, List.replicate m 0, ⟨aK, by rw [aI]; exact HP1.out.symm, gD, aC, by simp, Dig.rep (by decide) _, aL, dJ⟩, ?_, ?_, ?_⟩
  ·rw [Kj, Nat.mul_zero, Nat.zero_add, dL]
  ·rw [dL, <- bM]; exact eL
  rw [List.take_of_length_le (by simp), Kj]
 have HST := lh x8
 clear dK aM eX cK dL bM eY aC aK aL dJ cJ aB aJ eV gH x8 t8 dD c2 eO eT eL dE
 go_loopw [10] (fun i wr => ∃ k : Nat, k <= m /\ i = .int .i64 ((k : Int) - 1) /\ Jqq w1 gu gq gv p m lv U V k wr) (fun i _ => (intOf i + 1).toNat)
 case atStart => exact ⟨m, Nat.le_refl _, rfl, HST.out⟩
 case round =>
  obtain ⟨k, hk, rfl, lu, lq, hS, bN, aN, eZ⟩ := hrel
  clear HST
  by_cases gL : k = 0
  ·subst gL
   obtain ⟨s1, s2, s3, s4, s5, s6, s7, s8⟩ := hS
   rw [Nat.pow_zero, Nat.mul_one] at aN
   have iD : 0 < dv B64 lY := by
    rcases Nat.eq_zero_or_pos (dv B64 lY) with h | h
    ·have := HL.out.2.2.2.1
     rw [h, Nat.zero_mul] at this
     omega
    exact h
   have bO : dv B64 lq = dv B64 lX / dv B64 lY := by
    have h1 : U / V = dv B64 lq := by rw [bN, Nat.mul_comm, Nat.add_comm, Nat.add_mul_div_right _ _ (by omega), Nat.div_eq_of_lt aN, Nat.zero_add]
    rw [<- h1, <- HL.out.2.2.2.1, <- HL.out.2.2.2.2, Nat.mul_div_mul_right _ _ cA]
   have bP : dv B64 lu = dv B64 lX % dv B64 lY * 2 ^ s := by
    have h1 : U % V = dv B64 lu := by rw [bN, Nat.mul_add_mod, Nat.mod_eq_of_lt aN]
    rw [<- h1, <- HL.out.2.2.2.1, <- HL.out.2.2.2.2, Nat.mul_mod_mul_right]
   have fA : dv B64 (lu.take n) = dv B64 lu := by
    rw [<- Jst s3 (by decide), Nat.mod_eq_of_lt (Nat.lt_trans aN cB)]
   have aO := s1.reads
   rw [s2] at aO
   have dN := Reads.front aO (k := n) (by omega)
   rw [Nat.mul_one, <- List.map_take] at dN
   have gM : ∀ w, (Instr.slice 170 (.slice (some ⟨gu, 0, none⟩) p1 p1) none (some (.int .i64 (n : Int))) none).run Tryz.prog w = .ok (.slice (some ⟨gu, 0, none⟩) n p1) w := fun w => by
    have := Jf6 (P := Tryz.prog) Tryz.underlying170 Tryz.infoU64 (some ⟨gu, 0, none⟩) p1 p1 .i64 (n : Int) (by omega) (by omega) w
    simpa using this
   have fB := Jft (some ⟨gu, 0, none⟩) n p1 _ s (lu.take n) wr dN s1.lt (s3.take n) (by omega) (by omega) (by omega)
   have HSD := lh fB
   have HQ := lh (And.intro bO (And.intro bP fA))
   clear bO bP fA aO dN fB bN
   go_wp2_with fail
   refine HSD.out.mono ?_
   rintro e w7 ⟨gr, lr, rfl, fC, fD, gN, fE, fF, iE⟩
   have dO := s4.below fF s4.lt
   have dP := dO.reads
   rw [s5] at dP
   have aD := fD.reads
   rw [fC] at aD
   have gO := Ja s8 fF
   rw [show s / 64 = 0 from by omega, Nat.sub_zero] at aD
   rw [show s / 64 = 0 from by omega, Nat.sub_zero]
   have j6 : Jl0 w1 (dv B64 lX) (dv B64 lY) (.returned (.tuple #[.slice (some ⟨gq, 0, none⟩) m m, .slice (some ⟨gr, 0, none⟩) n n])) w7 := by
    refine ⟨gq, m, lq, _, n, n, lr, rfl, dP.more dO.lt, s6, HQ.out.1, aD.more fD.lt, gN, ?_, by omega, by omega, Nat.le_refl _, gO⟩
    have h1 : dv B64 lr = dv B64 (lu.take n) / 2 ^ s := fE
    rw [h1, HQ.out.2.2, HQ.out.2.1, Nat.mul_div_cancel _ cA]
   have HFIN := lh j6
   clear j6 dP aD dO fE fC gM
   go_wp2
   go_ret2
   exact HFIN.out
  obtain ⟨j, rfl⟩ : ∃ j, k = j + 1 := ⟨k - 1, by omega⟩
  rw [show (((j + 1 : Nat) : Int) - 1) = (j : Int) from by omega]
  obtain ⟨s1, s2, s3, s4, s5, s6, s7, s8⟩ := hS
  have hS : DvS w1 gu gq gv p m lv lu lq wr := ⟨s1, s2, s3, s4, s5, s6, s7, s8⟩
  have bM := HV.out.2.2.1
  have bQ : j + n <= p := by omega
  obtain ⟨u2, dQ⟩ : ∃ u2, lu[j + n]? = some u2 := ⟨_, List.getElem?_eq_getElem (by omega)⟩
  obtain ⟨u1, aW⟩ : ∃ u1, lu[j + n - 1]? = some u1 := ⟨_, List.getElem?_eq_getElem (by omega)⟩
  obtain ⟨u0, aX⟩ : ∃ u0, lu[j + n - 2]? = some u0 := ⟨_, List.getElem?_eq_getElem (by omega)⟩
  have o5 := HV.out.2.2.2.1
  obtain ⟨v1, aF⟩ : ∃ v1, lv[n - 1]? = some v1 := ⟨_, List.getElem?_eq_getElem (by omega)⟩
  obtain ⟨v0, aY⟩ : ∃ v0, lv[n - 2]? = some v0 := ⟨_, List.getElem?_eq_getElem (by omega)⟩
  have aP : 0 < v1 := by
   have h1 := Ym aG (by decide) (n - 1)
   have h2 : dv B64 lv / B64 ^ (n - 1) = v1 := by
    have h3 : dv B64 (lv.drop (n - 1)) = v1 := by
     rw [Qd aF, show n - 1 + 1 = n from by omega, HV.out.2.2.2.2, Nat.mul_zero, Nat.add_zero]
    rw [<- h3]
    exact h1
   rw [HV.out.1] at h2
   rw [<- h2]
   exact (Nat.div_pos dB (Nat.pow_pos (by decide)))
  have bR := Jk8 (lu := lu) (lv := lv.take n) (j := j) (n := n) s3 (aG.take n) (by rw [List.length_take]; omega) hn dQ aW aX (by rw [List.getElem?_take, if_pos (by omega)]; exact aF) (by rw [List.getElem?_take, if_pos (by omega)]; exact aY) aP (by rw [HV.out.2.1]; exact aN)
  rw [HV.out.2.1] at bR
  obtain ⟨gP, fG, aZ⟩ := bR
  have aM := fun w => Jjq u2 u1 u0 v1 v0 w gP (s3.get aW) (s3.get aX) (aG.get aF) (aG.get aY) aP
  have fH := (Jge (T := (u2 * B64 + u1) * B64 + u0) (D := v1 * B64 + v0) (by have := Nat.mul_pos aP (show 0 < B64 by decide); omega)).1
  generalize Kw ((u2 * B64 + u1) * B64 + u0) (v1 * B64 + v0) = G at *
  have cu2 := s1.cell dQ
  have cu1 := s1.cell aW
  have cu0 := s1.cell aX
  have cv1 := s7.cell aF
  have cv0 := s7.cell aY
  unfold Jm at cu2 cu1 cu0 cv1 cv0
  have HGQ := lh aM
  have HX := lh (And.intro bN (And.intro aN (And.intro eZ (And.intro fG aZ))))
  have HS := lh hS
  obtain ⟨a1, dR⟩ : ∃ a1, j + n = a1 := ⟨_, rfl⟩
  obtain ⟨a2, fI⟩ : ∃ a2, j + n - 1 = a2 := ⟨_, rfl⟩
  obtain ⟨a3, fJ⟩ : ∃ a3, j + n - 2 = a3 := ⟨_, rfl⟩
  obtain ⟨a4, dS⟩ : ∃ a4, n - 1 = a4 := ⟨_, rfl⟩
  obtain ⟨a5, fK⟩ : ∃ a5, n - 2 = a5 := ⟨_, rfl⟩
  rw [dR] at cu2
  rw [fI] at cu1
  rw [fJ] at cu0
  rw [dS] at cv1
  rw [fK] at cv0
  have r1 : (j : Int) + (n : Int) = (a1 : Int) := by omega
  have r2 : (a1 : Int) - 1 = (a2 : Int) := by omega
  have r3 : (a1 : Int) - 2 = (a3 : Int) := by omega
  have r4 : (n : Int) - 1 = (a4 : Int) := by omega
  have r5 : (n : Int) - 2 = (a5 : Int) := by omega
  have i5 : (a1 : Int) < (p1 : Int) := by have := HP1.out; omega
  have i6 : (a2 : Int) < (p1 : Int) := by have := HP1.out; omega
  have i7 : (a3 : Int) < (p1 : Int) := by have := HP1.out; omega
  have i8 : (a4 : Int) < (n : Int) := by omega
  have i9 : (a5 : Int) < (n : Int) := by omega
  have j1 : IntKind.i64.wrap (a1 : Int) = (a1 : Int) := IntWalk.i64_in _ (by omega)
  have j2 : IntKind.i64.wrap (a2 : Int) = (a2 : Int) := IntWalk.i64_in _ (by omega)
  have j3 : IntKind.i64.wrap (a3 : Int) = (a3 : Int) := IntWalk.i64_in _ (by omega)
  have j4 : IntKind.i64.wrap (a4 : Int) = (a4 : Int) := IntWalk.i64_in _ (by omega)
  have j5 : IntKind.i64.wrap (a5 : Int) = (a5 : Int) := IntWalk.i64_in _ (by omega)
  have HA := lh (And.intro dR (And.intro dS bQ))
  have n5 : a1 < p1 := by omega
  have n6 : a2 < p1 := by omega
  have n7 : a3 < p1 := by omega
  have n8 : a4 < n := by omega
  have n9 : a5 < n := by omega
  clear dR fI fJ dS fK
  clear aM bN aN eZ fG aZ hS s1 s2 s3 s4 s5 s6 s7 s8 dQ aW aX aF aY bM o5
  obtain ⟨X, dT⟩ : ∃ X, dv B64 lu = X := ⟨_, rfl⟩
  have x9 : dv B64 (lu.drop (j + n + 1)) = 0 := by
   apply Km HS.out.2.2.1 (by decide)
   refine Nat.lt_trans HX.out.2.1 ?_
   have e : B64 ^ (j + n + 1) = B64 ^ n * B64 ^ (j + 1) := by rw [<- Nat.pow_add]; congr 1; omega
   rw [e]
   exact Nat.mul_lt_mul_of_pos_right cB (Nat.pow_pos (by decide))
  rw [dT] at HX
  have HXE := lh (And.intro dT x9)
  clear dT x9
  go_wp2_with fail
  go_quiet ((go_at_call 165; refine Calls.quiet_of (HGQ.out _)))
  go_wp2_with fail
  clear HGQ cu2 cu1 cu0 cv1 cv0 r2 r3 r4 r5 i6 i7 i8 i9 j2 j3 j4 j5 n6 n7 n8 n9
  go_loopw [12, 13, 89] (fun c b i wx => ∃ t c' b' : Nat, t <= n /\ c' < 18446744073709551616 /\ b' <= 1 /\ i = .int .i64 (t : Int) /\ c = .int .u64 (c' : Int) /\ b = .int .u64 (b' : Int) /\ Jr5 w1 gu gq gv p m n lv lq X G j t c' b' wx) (fun _ _ i _ => n - (intOf i).toNat)
  case atStart =>
   refine ⟨0, 0, 0, Nat.zero_le _, by omega, by omega, rfl, rfl, rfl, lu, HS.out.drewN _, ?_, HXE.out.2⟩
   rw [List.take_zero, Ur, HXE.out.1]
   simp
  case round =>
   obtain ⟨t, c, b, ht, gQ, fL, rfl, rfl, rfl, lx, bA, bS, y8⟩ := hrel
   clear HS HXE
   obtain ⟨s1, s2, s3, s4, s5, s6, s7, s8⟩ := bA
   have bA : DvS w1 gu gq gv p m lv lx lq wr := ⟨s1, s2, s3, s4, s5, s6, s7, s8⟩
   have o5 := HV.out.2.2.2.1
   have bQ := HA.out.2.2
   by_cases iF : t < n
   ·obtain ⟨y, hy⟩ : ∃ y, lv[t]? = some y := ⟨_, List.getElem?_eq_getElem (by omega)⟩
    obtain ⟨x, hx⟩ : ∃ x, lx[j + t]? = some x := ⟨_, List.getElem?_eq_getElem (by omega)⟩
    have dU : y < 18446744073709551616 := aG.get hy
    have gR : x < 18446744073709551616 := s3.get hx
    have bT : G < 18446744073709551616 := fH
    have cy := s7.cell hy
    have cx := s1.cell hx
    have fx := s1.frozen (j + t)
    obtain ⟨hi, fM⟩ : ∃ hi, G * y / 18446744073709551616 = hi := ⟨_, rfl⟩
    obtain ⟨lo', fN⟩ : ∃ lo', G * y % 18446744073709551616 = lo' := ⟨_, rfl⟩
    obtain ⟨z1, fO⟩ : ∃ z1, (lo' + c) % 18446744073709551616 = z1 := ⟨_, rfl⟩
    obtain ⟨c1, fP⟩ : ∃ c1, (lo' + c) / 18446744073709551616 = c1 := ⟨_, rfl⟩
    obtain ⟨S, bU⟩ : ∃ S, (x + 18446744073709551616 - z1 - b) % 18446744073709551616 = S := ⟨_, rfl⟩
    obtain ⟨b', aE⟩ : ∃ b', (if x < z1 + b then 1 else 0) = b' := ⟨_, rfl⟩
    obtain ⟨c', dV⟩ : ∃ c', hi + c1 = c' := ⟨_, rfl⟩
    have gS : z1 < 18446744073709551616 := by omega
    have dW : S < 18446744073709551616 := by omega
    have bV : b' <= 1 := by rw [<- aE]; split <;> omega
    have gT : G * y = hi * 18446744073709551616 + lo' := by omega
    have fQ : z1 + 18446744073709551616 * c' = 0 + G * y + c := by omega
    have dX : c' < 18446744073709551616 := Jj0 (β := 18446744073709551616) (by omega) bT dU gQ fQ
    have cN : S + z1 + b = x + 18446744073709551616 * b' := by
     rw [<- aE]
     split <;> omega
    have j8 : S + G * y + (c + b) = x + B64 * (c' + b') := by unfold B64; omega
    have j7 := Ux (β := B64) (l := lx) hx j8 bS
    have j9 : dv B64 (lx.set (j + t) S) + G * dv B64 (lv.take (t + 1)) * B64 ^ j = X + (c' + b') * B64 ^ (j + (t + 1)) := by
     rw [Jv hy, Nat.mul_add, Nat.add_mul, <- Nat.add_assoc j t 1]
     have e1 : G * (y * B64 ^ t) * B64 ^ j = G * y * B64 ^ (j + t) := by rw [Nat.pow_add, <- Nat.mul_assoc, Nat.mul_assoc (G * y), Nat.mul_comm (B64 ^ t)]
     rw [e1]
     exact j7
    have j6 : Jr5 w1 gu gq gv p m n lv lq X G j (t + 1) c' b' (wr.setCell ⟨gu, j + t, none⟩ (Jm S)) :=
     ⟨_, bA.setU (j + t) S dW cL cM t7, j9, by rw [List.drop_set_of_lt (by omega)]; exact y8⟩
    have aQ := Tryz.bits_Mul64 G y bT dU
    rw [fM, fN] at aQ
    have dY : ∀ w, (callFunc 155 #[.int .u64 (lo' : Int), .int .u64 (c : Int), .int .u64 0]).run Tryz.prog w = .ok (.value (.tuple #[.int .u64 (z1 : Int), .int .u64 (c1 : Int)])) w := fun w => by
     have := Yh lo' c 0 (by omega) w
     rw [Nat.add_zero, fO, fP] at this
     exact this
    have bW : ∀ w, (callFunc 166 #[.int .u64 (x : Int), .int .u64 (z1 : Int), .int .u64 (b : Int)]).run Tryz.prog w = .ok (.value (.tuple #[.int .u64 (S : Int), .int .u64 (b' : Int)])) w := fun w => by
     have := Jdu x z1 b fL w
     rw [bU, aE] at this
     exact this
    have iG : IntKind.u64.wrap ((hi : Int) + (c1 : Int)) = (c' : Int) := by rw [Jd _ (by omega) (by omega)]; omega
    have HMUL := lh aQ
    have HFIN := lh j6
    obtain ⟨a, ha⟩ : ∃ a, j + t = a := ⟨_, rfl⟩
    have ra : (j : Int) + (t : Int) = (a : Int) := by omega
    have rb : (a : Int) < (p1 : Int) := by have := HP1.out; omega
    have rc : (t : Int) < (n : Int) := by omega
    have rd : a < p1 := by omega
    rw [ha] at cx fx HFIN
    unfold Jm at cx cy
    clear fM fN fO fP bU aE dV gT fQ cN j8 j7 j9 j6 aQ hx hy s1 s2 s3 s4 s5 s6 s7 s8 bA bS y8 ha o5 bQ
    go_wp2_with fail
    refine (HMUL.out _).mono ?_
    rintro e w9 ⟨rfl, rfl⟩
    go_wp2
    exact ⟨⟨t + 1, c', b', by omega, dX, bV, by go_num, rfl, rfl, HFIN.out⟩, by simp [intOf]; omega⟩
   obtain rfl : t = n := by omega
   rw [HV.out.2.1] at bS
   obtain ⟨x, hx⟩ : ∃ x, lx[j + t]? = some x := ⟨_, List.getElem?_eq_getElem (by omega)⟩
   have gR : x < 18446744073709551616 := s3.get hx
   have cx := s1.cell hx
   have fx := s1.frozen (j + t)
   obtain ⟨S, bU⟩ : ∃ S, (x + 18446744073709551616 - c - b) % 18446744073709551616 = S := ⟨_, rfl⟩
   obtain ⟨b', aE⟩ : ∃ b', (if x < c + b then 1 else 0) = b' := ⟨_, rfl⟩
   have dW : S < 18446744073709551616 := by omega
   have bV : b' <= 1 := by rw [<- aE]; split <;> omega
   have cN : S + 0 + (c + b) = x + B64 * b' := by
    unfold B64
    rw [<- aE]
    split <;> omega
   have j7 := Ux (β := B64) (l := lx) hx cN bS
   rw [Nat.zero_mul, Nat.add_zero] at j7
   have bW : ∀ w, (callFunc 166 #[.int .u64 (x : Int), .int .u64 (c : Int), .int .u64 (b : Int)]).run Tryz.prog w = .ok (.value (.tuple #[.int .u64 (S : Int), .int .u64 (b' : Int)])) w := fun w => by
    have := Jdu x c b fL w
    rw [bU, aE] at this
    exact this
   have bB : DvS w1 gu gq gv p m lv (lx.set (j + t) S) lq (wr.setCell ⟨gu, j + t, none⟩ (Jm S)) := bA.setU (j + t) S dW cL cM t7
   have aR : dv B64 ((lx.set (j + t) S).drop (j + t + 1)) = 0 := by rw [List.drop_set_of_lt (by omega)]; exact y8
   obtain ⟨lz, fR⟩ : ∃ lz, lx.set (j + t) S = lz := ⟨_, rfl⟩
   rw [fR] at j7 bB aR
   have HS2 := lh (And.intro bB (And.intro j7 aR))
   have e1 := HA.out.1
   rw [e1] at cx fx HS2
   unfold Jm at cx HS2
   have rc : ¬ (t : Int) < (t : Int) := by omega
   clear bU aE cN j7 hx s1 s2 s3 s4 s5 s6 s7 s8 bA bS y8 o5 bQ bB aR fR e1
   go_upto_if 146 with fail
   go_cut [11] (fun v wc => Jqr w1 gu gq gv p m lv lq X V j v wc)
   case first =>
    have bX : 0 < V * B64 ^ j := Nat.mul_pos (by rcases Nat.eq_zero_or_pos V with h | h; (subst h; have := HX.out.2.1; simp at this); exact h) (Nat.pow_pos (by decide))
    by_cases cO : b' = 0
    ·have gU : ((b' : Int) != 0) = false := by simp [cO]
     have j6 : Jqr w1 gu gq gv p m lv lq X V j (.int .u64 (G : Int)) (wr.setCell ⟨gu, a1, none⟩ (.int .u64 (S : Int))) := by
      have h1 := HS2.out.2.1
      rw [cO, Nat.zero_mul, Nat.add_zero] at h1
      have h2 := Je6 bX HX.out.2.2.2.1 h1
      exact ⟨G, lz, rfl, HS2.out.1, h2.1, h2.2⟩
     have HFIN := lh j6
     clear j6 cO
     go_wp2
     go_meet
     exact HFIN.out
    have gU : ((b' : Int) != 0) = true := by simp [bne_iff_ne]; omega
    have dZ : b' = 1 := by omega
    obtain ⟨z1, z2, z3, z4, z5, z6, z7, z8⟩ := HS2.out.1
    have bQ := HA.out.2.2
    have eA := HA.out.1
    have bY : dv B64 lz < B64 ^ (a1 + 1) := by
     have h1 := Xm (β := B64) (l := lz) (a1 + 1) (by omega)
     rw [HS2.out.2.2, Nat.mul_zero, Nat.add_zero] at h1
     rw [h1]
     have h2 := Xn (z3.take (a1 + 1))
     rw [List.length_take, Nat.min_eq_left (by omega)] at h2
     exact h2
    have iH : 0 < G := by
     rcases Nat.eq_zero_or_pos G with h | h
     ·have h1 := HS2.out.2.1
      rw [h, dZ, Nat.zero_mul, Nat.zero_mul, Nat.one_mul] at h1
      omega
     exact h
    obtain ⟨X', fS⟩ : ∃ X', dv B64 lz = X' := ⟨_, rfl⟩
    have k1 : IntKind.u64.wrap ((G : Int) - 1) = ((G - 1 : Nat) : Int) := by
     have : G < 18446744073709551616 := fH
     rw [Jd _ (by omega) (by omega)]
     omega
    obtain ⟨G', eB⟩ : ∃ G', G - 1 = G' := ⟨_, rfl⟩
    rw [eB] at k1
    have HZ := lh (And.intro fS (And.intro bY (And.intro eB dZ)))
    clear z1 z2 z3 z4 z5 z6 z7 z8 bY fS eB dZ cO bW cx fx
    go_wp2_with fail
    go_loopw [19, 150] (fun cc i wx => ∃ t' c' : Nat, t' <= t /\ c' <= 1 /\ i = .int .i64 (t' : Int) /\ cc = .int .u64 (c' : Int) /\ Jr9 w1 gu gq gv p m t lv lq X' j t' c' wx) (fun _ i _ => t - (intOf i).toNat)
    case atStart =>
     refine ⟨0, 0, Nat.zero_le _, by omega, rfl, rfl, lz, HS2.out.1, ?_, ?_⟩
     ·rw [List.take_zero, Ur, HZ.out.1]
      simp
     rw [eA]; exact HS2.out.2.2
    case round =>
     obtain ⟨t', c', cC, dV, rfl, rfl, ly, bC, bD, y8⟩ := hrel
     obtain ⟨s1, s2, s3, s4, s5, s6, s7, s8⟩ := bC
     have bC : DvS w1 gu gq gv p m lv ly lq wr := ⟨s1, s2, s3, s4, s5, s6, s7, s8⟩
     have o5 := HV.out.2.2.2.1
     by_cases eC : t' < t
     ·obtain ⟨y, hy⟩ : ∃ y, lv[t']? = some y := ⟨_, List.getElem?_eq_getElem (by omega)⟩
      obtain ⟨x2, cP⟩ : ∃ x2, ly[j + t']? = some x2 := ⟨_, List.getElem?_eq_getElem (by omega)⟩
      have dU : y < 18446744073709551616 := aG.get hy
      have gV : x2 < 18446744073709551616 := s3.get cP
      have cy := s7.cell hy
      have cx := s1.cell cP
      have fx := s1.frozen (j + t')
      obtain ⟨S2, bB⟩ : ∃ S2, (x2 + y + c') % 18446744073709551616 = S2 := ⟨_, rfl⟩
      obtain ⟨C, hC⟩ : ∃ C, (x2 + y + c') / 18446744073709551616 = C := ⟨_, rfl⟩
      have eD : S2 < 18446744073709551616 := by omega
      have gW : C <= 1 := by omega
      have j8 : S2 + B64 * C = x2 + y + c' := by unfold B64; omega
      have j7 := Uc (β := B64) (l := ly) cP j8 bD
      have j9 : dv B64 (ly.set (j + t') S2) + C * B64 ^ (j + (t' + 1)) = X' + dv B64 (lv.take (t' + 1)) * B64 ^ j := by
       rw [Jv hy, Nat.add_mul, <- Nat.add_assoc j t' 1, <- Nat.add_assoc]
       have e1 : y * B64 ^ t' * B64 ^ j = y * B64 ^ (j + t') := by rw [Nat.pow_add, Nat.mul_assoc, Nat.mul_comm (B64 ^ t')]
       rw [e1]
       exact j7
      have dY : ∀ w, (callFunc 155 #[.int .u64 (x2 : Int), .int .u64 (y : Int), .int .u64 (c' : Int)]).run Tryz.prog w = .ok (.value (.tuple #[.int .u64 (S2 : Int), .int .u64 (C : Int)])) w := fun w => by
       have := Yh x2 y c' dV w
       rw [bB, hC] at this
       exact this
      have j6 : ∀ nd, Jr9 w1 gu gq gv p m t lv lq X' j (t' + 1) C ((wr.drewN nd).setCell ⟨gu, j + t', none⟩ (Jm S2)) := fun nd =>
       ⟨_, (bC.drewN nd).setU (j + t') S2 eD cL cM t7, j9, by rw [List.drop_set_of_lt (by omega)]; exact y8⟩
      have HFIN := lh j6
      obtain ⟨a, ha⟩ : ∃ a, j + t' = a := ⟨_, rfl⟩
      have ra : (j : Int) + (t' : Int) = (a : Int) := by omega
      have rb : (a : Int) < (p1 : Int) := by have := HP1.out; omega
      have rc2 : (t' : Int) < (t : Int) := by omega
      have rd : a < p1 := by have := HP1.out; omega
      have re : IntKind.i64.wrap (a : Int) = (a : Int) := IntWalk.i64_in _ (by omega)
      have rf : t' < t := eC
      rw [ha] at cx fx HFIN
      unfold Jm at cx cy
      clear bB hC j8 j7 j9 j6 cP hy s1 s2 s3 s4 s5 s6 s7 s8 bC bD y8 ha o5
      go_wp2_with fail
      go_region
      go_wp2
      exact ⟨⟨t' + 1, C, by omega, gW, by go_num, rfl, HFIN.out 1⟩, by simp [intOf]; omega⟩
     have fT : t' = t := by omega
     rw [fT] at bD
     rw [HV.out.2.1, eA] at bD
     rw [eA] at y8
     obtain ⟨x3, y9⟩ : ∃ x3, ly[a1]? = some x3 := ⟨_, List.getElem?_eq_getElem (by omega)⟩
     have gY : x3 < 18446744073709551616 := s3.get y9
     have cx := s1.cell y9
     have fx := s1.frozen a1
     obtain ⟨S3, aS⟩ : ∃ S3, (x3 + c') % 18446744073709551616 = S3 := ⟨_, rfl⟩
     obtain ⟨C, hC⟩ : ∃ C, (x3 + c') / 18446744073709551616 = C := ⟨_, rfl⟩
     have bZ : S3 < 18446744073709551616 := by omega
     have j8 : S3 + B64 * C = x3 + 0 + c' := by unfold B64; omega
     have j7 := Uc (β := B64) (l := ly) y9 j8 bD
     rw [Nat.zero_mul, Nat.add_zero] at j7
     have cG : IntKind.u64.wrap ((x3 : Int) + (c' : Int)) = (S3 : Int) := by
      rw [show (x3 : Int) + (c' : Int) = ((x3 + c' : Nat) : Int) from by omega, Ji, aS]
     have fU : dv B64 (ly.set a1 S3) < B64 ^ (a1 + 1) := by
      have h1 := Xm (β := B64) (l := ly.set a1 S3) (a1 + 1) (by rw [List.length_set]; omega)
      rw [List.drop_set_of_lt (by omega), y8, Nat.mul_zero, Nat.add_zero] at h1
      rw [h1]
      have h2 := Xn ((s3.set_ a1 bZ).take (a1 + 1))
      rw [List.length_take, List.length_set, Nat.min_eq_left (by omega)] at h2
      exact h2
     have fV : V * B64 ^ j <= B64 ^ (a1 + 1) := by
      have e : B64 ^ (a1 + 1) = B64 ^ t * B64 ^ (j + 1) := by rw [<- Nat.pow_add]; congr 1; omega
      rw [e]
      exact Nat.mul_le_mul (Nat.le_of_lt cB) (Nat.pow_le_pow_right (by decide) (by omega))
     have he := HS2.out.2.1
     rw [HZ.out.1, HZ.out.2.2.2, Nat.one_mul] at he
     have aT := HZ.out.2.1
     rw [HZ.out.1] at aT
     have aU := Je7 bX fV HX.out.2.2.2.2 he aT fU j7
     have j6 : Jqr w1 gu gq gv p m lv lq X V j (.int .u64 (G' : Int)) (wr.setCell ⟨gu, a1, none⟩ (Jm S3)) :=
      ⟨G', ly.set a1 S3, rfl, bC.setU a1 S3 bZ cL cM t7, by rw [<- HZ.out.2.2.1]; exact aU.2.1, aU.2.2⟩
     have HFIN := lh j6
     have rc2 : ¬ (t' : Int) < (t : Int) := by omega
     unfold Jm at cx
     clear aS hC j8 j7 fU fV he aT aU j6 y9 s1 s2 s3 s4 s5 s6 s7 s8 bC bD y8 fT o5
     go_wp2
     go_meet
     exact HFIN.out
   case rest =>
    obtain ⟨G2, lu2, rfl, aS, aZ, aV⟩ := hcut
    obtain ⟨s1, s2, s3, s4, s5, s6, s7, s8⟩ := aS
    have aS : DvS w1 gu gq gv p m lv lu2 lq wc := ⟨s1, s2, s3, s4, s5, s6, s7, s8⟩
    have bX : 0 < V * B64 ^ j := Nat.mul_pos (by rcases Nat.eq_zero_or_pos V with h | h; (subst h; have := HX.out.2.1; simp at this); exact h) (Nat.pow_pos (by decide))
    obtain ⟨x3, y9⟩ : ∃ x3, lq[j]? = some x3 := ⟨_, List.getElem?_eq_getElem (by omega)⟩
    have eE : x3 = 0 := Jbj (by decide) HX.out.2.2.1 (k := j) (by rw [List.getElem?_take, if_pos (by omega)]; exact y9)
    subst eE
    have cq := s4.cell y9
    have fq := s4.frozen j
    have eF : G2 < 18446744073709551616 := by
     rw [aZ]
     have h1 : X / (V * B64 ^ j) < B64 := by
      rw [Nat.div_lt_iff_lt_mul bX]
      have := HX.out.2.1
      rw [Nat.pow_succ] at this
      rw [Nat.mul_comm B64, Nat.mul_assoc]
      exact this
     exact h1
    have eG := Yv (β := B64) G2 y9
    rw [Nat.zero_mul, Nat.add_zero] at eG
    have fW := Nat.div_add_mod X (V * B64 ^ j)
    rw [<- aZ, <- aV] at fW
    have j6 : Jqq w1 gu gq gv p m lv U V j (wc.setCell ⟨gq, j, none⟩ (Jm G2)) := by
     refine ⟨lu2, lq.set j G2, aS.setQ j G2 eF gJ gK dM, ?_, ?_, ?_⟩
     ·rw [eG, HX.out.1, Nat.mul_add]
      have e : V * (G2 * B64 ^ j) = V * B64 ^ j * G2 := by rw [Nat.mul_comm G2, Nat.mul_assoc]
      rw [e]
      omega
     ·rw [aV]
      exact Nat.mod_lt _ bX
     rw [List.take_set_of_le (by omega)]
     have h1 := Jv (β := B64) y9
     rw [HX.out.2.2.1] at h1
     omega
    have HFIN := lh j6
    unfold Jm at cq
    have rj : (j : Int) < (m : Int) := by omega
    have rj2 : j < m := by omega
    clear aZ aV eG fW j6 y9 s1 s2 s3 s4 s5 s6 s7 s8 aS
    go_wp2
    exact ⟨⟨j, by omega, by go_num, HFIN.out⟩, by simp [intOf] <;> omega⟩
