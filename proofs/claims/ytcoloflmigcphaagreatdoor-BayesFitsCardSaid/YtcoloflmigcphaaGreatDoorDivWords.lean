import Derived.Test.YtcoloflmigcphaaGreatDoorDivA
import Derived.Deep.DeepCutAuto
import Derived.Deep.CutBlock
import Derived.RegionTactic
import Derived.BigRegion
import Derived.Deep.DeepMust
namespace Go.Proofs.YtcoloflmigcphaaGreatDoor
set_option maxRecDepth 100000
set_option maxHeartbeats 2000000
open Go.RowKit
set_option linter.all false
theorem Tryz.sizeU64 : (Tryz.prog.info? 35).map (·.size) = some 1 := by kernel_rfl
theorem Jg0 (u2 u1 u0 v1 v0 : Nat) (w : World) (h2 : u2 <= v1) (aQ : u1 < 18446744073709551616) (aR : u0 < 18446744073709551616) (y9 : v1 < 18446744073709551616) (aS : v0 < 18446744073709551616) (aY : 0 < v1) :
  Calls Tryz.prog 164 #[.int .u64 (u2 : Int), .int .u64 (u1 : Int), .int .u64 (u0 : Int), .int .u64 (v1 : Int), .int .u64 (v0 : Int)] w fun e w' => e = .returned (.int .u64 ((Yw ((u2 * B64 + u1) * B64 + u0) (v1 * B64 + v0) : Nat) : Int)) /\ ∃ n, w' = w.drewN n := by
 refine (Jdn u2 u1 u0 v1 v0 w h2 aQ aR y9 aS aY).mono ?_
 rintro e w' ⟨g, n, rfl, hg, rfl⟩
 have hD : 0 < v1 * B64 + v0 := by
  have := Nat.mul_pos aY (show 0 < B64 by decide)
  omega
 exact ⟨by rw [Jfk hD hg], n, rfl⟩
def DvS (w : World) (gu gq gv p m : Nat) (lv lu lq : List Nat) (wr : World) : Prop :=
 Row wr gu 35 Jh lu /\ lu.length = p + 1 /\ Dig B64 lu /\ Row wr gq 35 Jh lq /\ lq.length = m /\ Dig B64 lq /\ Row wr gv 35 Jh lv /\ Below w.heap.size w wr
def Jl0 (w : World) (gu gq gv p m : Nat) (lv : List Nat) (U V k : Nat) (wr : World) : Prop :=
 ∃ lu lq : List Nat, DvS w gu gq gv p m lv lu lq wr /\ U = V * dv B64 lq + dv B64 lu /\ dv B64 lu < V * B64 ^ k /\ dv B64 (lq.take k) = 0
theorem DvS.drewN {w wr : World} {gu gq gv p m : Nat} {lv lu lq : List Nat} (h : DvS w gu gq gv p m lv lu lq wr) (n : Nat) : DvS w gu gq gv p m lv lu lq (wr.drewN n) := by
 obtain ⟨h1, h2, h3, h4, h5, h6, h7, h8⟩ := h
 exact ⟨h1.drewN n, h2, h3, h4.drewN n, h5, h6, h7.drewN n, Jw h8 n⟩
theorem DvS.setU {w wr : World} {gu gq gv p m : Nat} {lv lu lq : List Nat} (h : DvS w gu gq gv p m lv lu lq wr) (k x : Nat) (hx : x < B64) (h1 : gq ≠ gu) (h2 : gv ≠ gu) (h3 : w.heap.size <= gu) : DvS w gu gq gv p m lv (lu.set k x) lq (wr.setCell ⟨gu, k, none⟩ (Jh x)) := by
 obtain ⟨a1, a2, a3, a4, a5, a6, a7, a8⟩ := h
 exact ⟨a1.set_ k x, by rw [List.length_set]; exact a2, a3.set_ k hx, a4.far h1 _, a5, a6, a7.far h2 _, a8.setCell h3 _⟩
theorem DvS.setQ {w wr : World} {gu gq gv p m : Nat} {lv lu lq : List Nat} (h : DvS w gu gq gv p m lv lu lq wr) (k x : Nat) (hx : x < B64) (h1 : gu ≠ gq) (h2 : gv ≠ gq) (h3 : w.heap.size <= gq) : DvS w gu gq gv p m lv lu (lq.set k x) (wr.setCell ⟨gq, k, none⟩ (Jh x)) := by
 obtain ⟨a1, a2, a3, a4, a5, a6, a7, a8⟩ := h
 exact ⟨a1.far h1 _, a2, a3, a4.set_ k x, by rw [List.length_set]; exact a5, a6.set_ k hx, a7.far h2 _, a8.setCell h3 _⟩
def Jm3 (w : World) (gu gq gv p m n : Nat) (lv lq : List Nat) (X G j i c b : Nat) (wr : World) : Prop :=
 ∃ lu : List Nat, DvS w gu gq gv p m lv lu lq wr /\ dv B64 lu + G * dv B64 (lv.take i) * B64 ^ j = X + (c + b) * B64 ^ (j + i) /\ dv B64 (lu.drop (j + n + 1)) = 0
def Jm7 (w : World) (gu gq gv p m n : Nat) (lv lq : List Nat) (X j i c : Nat) (wr : World) : Prop :=
 ∃ lu : List Nat, DvS w gu gq gv p m lv lu lq wr /\ dv B64 lu + c * B64 ^ (j + i) = X + dv B64 (lv.take i) * B64 ^ j /\ dv B64 (lu.drop (j + n + 1)) = 0
def Jl1 (w : World) (gu gq gv p m : Nat) (lv lq : List Nat) (X V j : Nat) (v : Value) (wr : World) : Prop :=
 ∃ (G : Nat) (lu : List Nat), v = .int .u64 (G : Int) /\ DvS w gu gq gv p m lv lu lq wr /\ G = X / (V * B64 ^ j) /\ dv B64 lu = X % (V * B64 ^ j)
def Jiw (w : World) (X Y : Nat) (e : Ending) (w' : World) : Prop :=
 ∃ (gq m : Nat) (lq : List Nat) (A : Option Addr) (nr cr : Nat) (lr : List Nat), e = .returned (.tuple #[.slice (some ⟨gq, 0, none⟩) m m, .slice A nr cr]) /\
  Reads w' w'.heap.size 1 (some ⟨gq, 0, none⟩) m (lq.map Jh) /\ Dig B64 lq /\ dv B64 lq = X / Y /\ Reads w' w'.heap.size 1 A nr (lr.map Jh) /\ Dig B64 lr /\ dv B64 lr = X % Y /\ m <= 17179869186 /\ nr <= 17179869186 /\ nr <= cr /\ Below w.heap.size w w'
theorem Jfe (AX AY : Option Addr) (p n cX cY BX BY : Nat) (lX lY : List Nat) (w : World) (hX : Reads w BX 1 AX p (lX.map Jh)) (hY : Reads w BY 1 AY n (lY.map Jh)) (cL : BX <= w.heap.size) (fQ : BY <= w.heap.size)
  (eD : Dig B64 lX) (cN : Dig B64 lY) (hp : p <= 17179869185) (gV : n <= p) (hn : 2 <= n) (top : Nat) (s9 : lY[n - 1]? = some top) (eE : 0 < top) :
  Calls Tryz.prog 144 #[.slice AX p cX, .slice AY n cY] w (Jiw w (dv B64 lX) (dv B64 lY)) := by
 have cO := hX.lenf
 have eF := hY.lenf
 have cP := cN.get s9
 unfold B64 at cP
 have iM := Xe top (by omega)
 have cR := Ze top cP
 obtain ⟨s, hs⟩ : ∃ s, 64 - Je top = s := ⟨_, rfl⟩
 have fR : s < 64 := by omega
 have aZ : (64 : Int) - (Lib.bitLen (top : Int).toNat : Int) = (s : Int) := by
  rw [Int.toNat_natCast, Kx top cP]
  omega
 obtain ⟨V, hV⟩ : ∃ V, dv B64 lY * 2 ^ s = V := ⟨_, rfl⟩
 obtain ⟨U, hU⟩ : ∃ U, dv B64 lX * 2 ^ s = U := ⟨_, rfl⟩
 have eG : B64 ^ n = B64 ^ (n - 1) * B64 := by rw [<- Nat.pow_succ]; congr 1; omega
 have j9 : dv B64 lY = dv B64 (lY.take (n - 1)) + B64 ^ (n - 1) * top := by
  have h1 := Xd (β := B64) (l := lY) (n - 1) (by omega)
  rw [Qa s9, Qx (by omega), Nat.mul_zero, Nat.add_zero] at h1
  exact h1
 have iN : dv B64 (lY.take (n - 1)) < B64 ^ (n - 1) := by
  have h1 := Xm (cN.take (n - 1))
  rw [List.length_take, Nat.min_eq_left (by omega)] at h1
  exact h1
 have bV : 0 < 2 ^ s := Nat.pow_pos (by omega)
 have bA : (top + 1) * 2 ^ s <= B64 := by
  have h1 := Nat.mul_le_mul_right (2 ^ s) (show top + 1 <= 2 ^ Je top from iM.2.2)
  rw [<- Nat.pow_add, show Je top + s = 64 from by omega] at h1
  exact h1
 have bB : 9223372036854775808 <= top * 2 ^ s := by
  have h1 := Nat.mul_le_mul_right (2 ^ s) iM.2.1
  rw [<- Nat.pow_add, show Je top - 1 + s = 63 from by omega] at h1
  exact h1
 have bW : V < B64 ^ n := by
  rw [<- hV, eG]
  have h1 : dv B64 lY < B64 ^ (n - 1) * (top + 1) := by rw [j9, Nat.mul_add, Nat.mul_one]; omega
  have h2 := Nat.mul_lt_mul_of_pos_right h1 bV
  refine Nat.lt_of_lt_of_le h2 ?_
  rw [Nat.mul_assoc]
  exact Nat.mul_le_mul_left _ bA
 have cT : B64 ^ (n - 1) * 9223372036854775808 <= V := by
  rw [<- hV, j9, Nat.add_mul, Nat.mul_assoc]
  exact nt (Nat.mul_le_mul_left _ bB) (Nat.le_add_left _ _)
 have eH : U < V * B64 ^ (p - n + 1) := by
  have h1 := Xm eD
  rw [cO] at h1
  have h2 := Nat.mul_lt_mul_of_pos_right h1 bV
  rw [hU] at h2
  have h3 : 2 ^ s <= 9223372036854775808 := Nat.pow_le_pow_right (by omega) (show s <= 63 by omega)
  have h4 : B64 ^ p * 2 ^ s <= B64 ^ p * 9223372036854775808 := Nat.mul_le_mul_left _ h3
  have h5 := Nat.mul_le_mul_right (B64 ^ (p - n + 1)) cT
  have h6 : B64 ^ (n - 1) * 9223372036854775808 * B64 ^ (p - n + 1) = B64 ^ p * 9223372036854775808 := by
   rw [Nat.mul_right_comm, <- Nat.pow_add, show n - 1 + (p - n + 1) = p from by omega]
  rw [h6] at h5
  exact Nat.lt_of_lt_of_le (Nat.lt_of_lt_of_le h2 h4) h5
 have cU : B64 ^ (n - 1) <= V := nt (Nat.le_mul_of_pos_right _ (by omega)) cT
 clear eG j9 iN bA bB cT
 obtain ⟨adY, t', fS, gW, bX, fT⟩ := hY.atf (show n - 1 < n by omega)
 rw [s9] at bX
 obtain rfl : top = t' := by simpa using bX
 obtain ⟨m, hm⟩ : ∃ m, p - n + 1 = m := ⟨_, rfl⟩
 obtain ⟨p1, eI⟩ : ∃ p1, p + 1 = p1 := ⟨_, rfl⟩
 have iO := Qh (P := Tryz.prog) Jh 0 157 35 8 Tryz.underlying157 Tryz.infoU64 rfl .i64 .i64 p1 (by omega) (by omega)
 have cZ := Qh (P := Tryz.prog) Jh 0 157 35 8 Tryz.underlying157 Tryz.infoU64 rfl .i64 .i64 m (by omega) (by omega)
 have c1 : ((p : Int) + 1) = (p1 : Int) := by omega
 have HP1 := lh eI
 have fU : p1 <= 17179869186 := by omega
 have fV : p < p1 := by omega
 have c2 : (p : Int) - (n : Int) + 1 = (m : Int) := by omega
 have c3 : ((n : Int) - 1).toNat = n - 1 := by omega
 have c4 : (n : Int) - 1 < (n : Int) := by omega
 have c5 : (0 : Int) <= (n : Int) - 1 := by omega
 have HL := lh (And.intro cO (And.intro eF (And.intro hm (And.intro hV hU))))
 have HB := lh aZ
 unfold Jh at fT
 subst fS
 clear cO eF hs iM cR aZ hV hU bX s9 eI
 go_enter Tryz.func144, Tryz.ntmps144
 go_wp2_with fail
 refine (Tryz.bits_LeadingZeros64 (top : Int) w (by omega) (by omega)).mono ?_
 rintro e w1 ⟨rfl, rfl⟩
 rw [HB.out]
 go_wp2_with fail
 refine (Uv _ n cY BY s lY w1 hY fQ cN (by omega) (by omega)).mono ?_
 rintro e w2 ⟨gv, lv, rfl, dA, bY, aA, eJ, bZ, gY⟩
 have cA : s / 64 = 0 := by omega
 rw [cA, Nat.add_zero] at dA ⊢
 have eK := hX.below (bZ.mono cL)
 have dB : ∀ w, (Instr.slice 157 (.slice (some ⟨gv, 0, none⟩) (n + 1) (n + 1)) none (some (.int .i64 (n : Int))) none).run Tryz.prog w = .ok (.slice (some ⟨gv, 0, none⟩) n (n + 1)) w := fun w => by
  have := Jd3 (P := Tryz.prog) Tryz.underlying157 Tryz.infoU64 (some ⟨gv, 0, none⟩) (n + 1) (n + 1) .i64 (n : Int) (by omega) (by omega) w
  simpa using this
 clear HB
 go_wp2_with fail
 have gQ := Row.rep w2 35 Jh 0 p1
 have bC := Jb w2 (.cells (Array.replicate p1 (Jh 0)) 35)
 obtain ⟨w3, cB⟩ : ∃ w3, w2.alloc (.cells (Array.replicate p1 (Jh 0)) 35) = w3 := ⟨_, rfl⟩
 obtain ⟨gu, iL⟩ : ∃ gu, w2.heap.size = gu := ⟨_, rfl⟩
 have dC : gv < gu := by rw [<- iL]; exact bY.lt
 rw [cB] at gQ bC
 rw [cB]
 have aB := bY.below bC bY.lt
 have eL := eK.below (bC.mono (nt cL bZ.size))
 rw [iL] at gQ
 rw [iL]
 have dD := Ja bZ bC
 have iE : w1.heap.size <= gu := by have := bZ.size; omega
 clear cB iL eK bC iO c1
 refine (Uv AX p cX BX s lX w3 eL (nt cL dD.size) eD (by omega) (by omega)).mono ?_
 rintro e w4 ⟨gs, ls, rfl, aC, eM, fW, eN, cD, fX⟩
 rw [cA, Nat.add_zero] at aC
 rw [cA, Nat.add_zero, HP1.out]
 rw [HP1.out] at aC
 have bD := gQ.below cD gQ.lt
 have bE := aB.below cD aB.lt
 have eO := Ja dD cD
 have fY : gu < gs := Nat.lt_of_lt_of_le gQ.lt fX
 clear gQ aB cD dD eL bY cA
 obtain ⟨w5, fZ, iH, dE⟩ : ∃ w5, (Builtin.copy_ #[157, 157] 3 #[.slice (some ⟨gu, 0, none⟩) p1 p1, .slice (some ⟨gs, 0, none⟩) p1 p1]).run Tryz.prog w4 = .ok (.int .i64 (p1 : Int)) w5 /\ Row w5 gu 35 Jh ls /\ Below gu w4 w5 := by
  have hg : w4.heap[gu]? = some (.cells ((List.replicate p1 0).map Jh).toArray 35 (0, 0)) := bD
  have bF := run_copy_row (P := Tryz.prog) w4 157 157 3 35 gu 0 p1 p1 ⟨gs, 0, none⟩ p1 p1 _ 35 (ls.map Jh) Tryz.underlying157 Tryz.sizeU64 hg (by simp [aC]) (fun j v hv => by
   obtain ⟨ad, e, hb, hc⟩ := eM.reads.2 (by
    have := (List.getElem?_eq_some_iff.1 hv).1
    simp at this
    omega)
   injection e with e
   subst e
   exact hc j v hv) (by simp [aC]) (fun u hu => by
   simp at hu
   obtain ⟨x, _, rfl⟩ := hu
   rfl)
  have h2 : (List.map Jh (List.replicate p1 0)).toArray.toList.take 0 ++ ls.map Jh ++ (List.map Jh (List.replicate p1 0)).toArray.toList.drop (0 + (ls.map Jh).length) = ls.map Jh := by
   rw [List.drop_of_length_le (by simp [aC])]
   simp
  rw [h2] at bF
  refine ⟨w4.setRow gu (ls.map Jh).toArray, ?_, setRow_heap w4 gu _ _ 35 _ hg, below_setRow (Below.refl gu w4) zd _⟩
  rw [bF, List.length_map, aC]
  rfl
 have aD := bE.below dE dC
 have eP : Below w1.heap.size w1 w5 := eO.trans (dE.mono iE)
 clear dE bD bE eO eM
 go_wp2_with fail
 have iI := Row.rep w5 35 Jh 0 m
 have cE := Jb w5 (.cells (Array.replicate m (Jh 0)) 35)
 have aE := iH.below cE iH.lt
 have aF := aD.below cE aD.lt
 have dF := Ja eP cE
 obtain ⟨w6, dG⟩ : ∃ w6, w5.alloc (.cells (Array.replicate m (Jh 0)) 35) = w6 := ⟨_, rfl⟩
 obtain ⟨gq, aG⟩ : ∃ gq, w5.heap.size = gq := ⟨_, rfl⟩
 have gA : gu < gq := by rw [<- aG]; exact iH.lt
 rw [dG] at iI aE aF dF
 rw [dG]
 rw [aG] at iI
 rw [aG]
 have eQ : (p : Int) - (n : Int) = (m : Int) - 1 := by have := HL.out.2.2.1; omega
 rw [eQ]
 have cF : dv B64 lv = V := by rw [<- HL.out.2.2.2.1]; exact eJ
 have dH : dv B64 ls = U := by rw [<- HL.out.2.2.2.2]; exact eN
 have bG : p - n + 1 = m := HL.out.2.2.1
 have o0 : dv B64 (lv.drop n) = 0 := Kg aA (by decide) (by rw [cF]; exact bW)
 have eR : dv B64 (lv.take n) = V := by
  have h1 := Xd (β := B64) (l := lv) n (by omega)
  rw [o0, Nat.mul_zero, Nat.add_zero, cF] at h1
  exact h1.symm
 have cG : gq ≠ gu := by omega
 have cH : gv ≠ gu := by omega
 have gB : gu ≠ gq := by omega
 have gD : gv ≠ gq := by omega
 have dI : w1.heap.size <= gq := by omega
 have HV := lh (And.intro cF (And.intro eR (And.intro bG (And.intro dA o0))))
 have gZ : m <= 17179869186 := by omega
 have o9 : Jl0 w1 gu gq gv p m lv U V m w6 := by
  refine ⟨ls, List.replicate m 0, ⟨aE, by rw [aC]; exact HP1.out.symm, fW, iI, by simp, Dig.rep (by decide) _, aF, dF⟩, ?_, ?_, ?_⟩
  ·rw [Yx, Nat.mul_zero, Nat.zero_add, dH]
  ·rw [dH, <- bG]; exact eH
  rw [List.take_of_length_le (by simp), Yx]
 have HST := lh o9
 clear dG aG eQ cF dH bG eR iI aE aF dF cE iH aD eP fZ o9 o0 cZ c2 eJ eN eH dA
 go_loopw [10] (fun i wr => ∃ k : Nat, k <= m /\ i = .int .i64 ((k : Int) - 1) /\ Jl0 w1 gu gq gv p m lv U V k wr) (fun i _ => (intOf i + 1).toNat)
 case atStart => exact ⟨m, Nat.le_refl _, rfl, HST.out⟩
 case round =>
  obtain ⟨k, hk, rfl, lu, lq, hS, bH, aH, eS⟩ := hrel
  clear HST
  by_cases gE : k = 0
  ·subst gE
   obtain ⟨s1, s2, s3, s4, s5, s6, s7, s8⟩ := hS
   rw [Nat.pow_zero, Nat.mul_one] at aH
   have hJ : 0 < dv B64 lY := by
    rcases Nat.eq_zero_or_pos (dv B64 lY) with h | h
    ·have := HL.out.2.2.2.1
     rw [h, Nat.zero_mul] at this
     omega
    exact h
   have bI : dv B64 lq = dv B64 lX / dv B64 lY := by
    have h1 : U / V = dv B64 lq := by rw [bH, Nat.mul_comm, Nat.add_comm, Nat.add_mul_div_right _ _ (by omega), Nat.div_eq_of_lt aH, Nat.zero_add]
    rw [<- h1, <- HL.out.2.2.2.1, <- HL.out.2.2.2.2, Nat.mul_div_mul_right _ _ bV]
   have bJ : dv B64 lu = dv B64 lX % dv B64 lY * 2 ^ s := by
    have h1 : U % V = dv B64 lu := by rw [bH, Nat.mul_add_mod, Nat.mod_eq_of_lt aH]
    rw [<- h1, <- HL.out.2.2.2.1, <- HL.out.2.2.2.2, Nat.mul_mod_mul_right]
   have eT : dv B64 (lu.take n) = dv B64 lu := by
    rw [<- Jnt s3 (by decide), Nat.mod_eq_of_lt (Nat.lt_trans aH bW)]
   have aI := s1.reads
   rw [s2] at aI
   have dJ := Reads.front aI (k := n) (by omega)
   rw [Nat.mul_one, <- List.map_take] at dJ
   have gF : ∀ w, (Instr.slice 157 (.slice (some ⟨gu, 0, none⟩) p1 p1) none (some (.int .i64 (n : Int))) none).run Tryz.prog w = .ok (.slice (some ⟨gu, 0, none⟩) n p1) w := fun w => by
    have := Jd3 (P := Tryz.prog) Tryz.underlying157 Tryz.infoU64 (some ⟨gu, 0, none⟩) p1 p1 .i64 (n : Int) (by omega) (by omega) w
    simpa using this
   have eU := Jdl (some ⟨gu, 0, none⟩) n p1 _ s (lu.take n) wr dJ s1.lt (s3.take n) (by omega) (by omega) (by omega)
   have HSD := lh eU
   have HQ := lh (And.intro bI (And.intro bJ eT))
   clear bI bJ eT aI dJ eU bH
   go_wp2_with fail
   refine HSD.out.mono ?_
   rintro e w7 ⟨gr, lr, rfl, eV, eW, gG, eX, eY, iA⟩
   have dK := s4.below eY s4.lt
   have dL := dK.reads
   rw [s5] at dL
   have iJ := eW.reads
   rw [eV] at iJ
   have gH := Ja s8 eY
   rw [show s / 64 = 0 from by omega, Nat.sub_zero] at iJ
   rw [show s / 64 = 0 from by omega, Nat.sub_zero]
   have j0 : Jiw w1 (dv B64 lX) (dv B64 lY) (.returned (.tuple #[.slice (some ⟨gq, 0, none⟩) m m, .slice (some ⟨gr, 0, none⟩) n n])) w7 := by
    refine ⟨gq, m, lq, _, n, n, lr, rfl, dL.more dK.lt, s6, HQ.out.1, iJ.more eW.lt, gG, ?_, by omega, by omega, Nat.le_refl _, gH⟩
    have h1 : dv B64 lr = dv B64 (lu.take n) / 2 ^ s := eX
    rw [h1, HQ.out.2.2, HQ.out.2.1, Nat.mul_div_cancel _ bV]
   have HFIN := lh j0
   clear j0 dL iJ dK eX eV gF
   go_wp2
   go_ret2
   exact HFIN.out
  obtain ⟨j, rfl⟩ : ∃ j, k = j + 1 := ⟨k - 1, by omega⟩
  rw [show (((j + 1 : Nat) : Int) - 1) = (j : Int) from by omega]
  obtain ⟨s1, s2, s3, s4, s5, s6, s7, s8⟩ := hS
  have hS : DvS w1 gu gq gv p m lv lu lq wr := ⟨s1, s2, s3, s4, s5, s6, s7, s8⟩
  have bG := HV.out.2.2.1
  have bK : j + n <= p := by omega
  obtain ⟨u2, dM⟩ : ∃ u2, lu[j + n]? = some u2 := ⟨_, List.getElem?_eq_getElem (by omega)⟩
  obtain ⟨u1, aQ⟩ : ∃ u1, lu[j + n - 1]? = some u1 := ⟨_, List.getElem?_eq_getElem (by omega)⟩
  obtain ⟨u0, aR⟩ : ∃ u0, lu[j + n - 2]? = some u0 := ⟨_, List.getElem?_eq_getElem (by omega)⟩
  have bR := HV.out.2.2.2.1
  obtain ⟨v1, y9⟩ : ∃ v1, lv[n - 1]? = some v1 := ⟨_, List.getElem?_eq_getElem (by omega)⟩
  obtain ⟨v0, aS⟩ : ∃ v0, lv[n - 2]? = some v0 := ⟨_, List.getElem?_eq_getElem (by omega)⟩
  have aJ : 0 < v1 := by
   have h1 := Zx aA (by decide) (n - 1)
   have h2 : dv B64 lv / B64 ^ (n - 1) = v1 := by
    have h3 : dv B64 (lv.drop (n - 1)) = v1 := by
     rw [Qa y9, show n - 1 + 1 = n from by omega, HV.out.2.2.2.2, Nat.mul_zero, Nat.add_zero]
    rw [<- h3]
    exact h1
   rw [HV.out.1] at h2
   rw [<- h2]
   exact (Nat.div_pos cU (Nat.pow_pos (by decide)))
  have bL := Jia (lu := lu) (lv := lv.take n) (j := j) (n := n) s3 (aA.take n) (by rw [List.length_take]; omega) hn dM aQ aR (by rw [List.getElem?_take, if_pos (by omega)]; exact y9) (by rw [List.getElem?_take, if_pos (by omega)]; exact aS) aJ (by rw [HV.out.2.1]; exact aH)
  rw [HV.out.2.1] at bL
  obtain ⟨gI, eZ, aT⟩ := bL
  have aG := fun w => Jg0 u2 u1 u0 v1 v0 w gI (s3.get aQ) (s3.get aR) (aA.get y9) (aA.get aS) aJ
  have fA := (Jed (T := (u2 * B64 + u1) * B64 + u0) (D := v1 * B64 + v0) (by have := Nat.mul_pos aJ (show 0 < B64 by decide); omega)).1
  generalize Yw ((u2 * B64 + u1) * B64 + u0) (v1 * B64 + v0) = G at *
  have cu2 := s1.cell dM
  have cu1 := s1.cell aQ
  have cu0 := s1.cell aR
  have cv1 := s7.cell y9
  have cv0 := s7.cell aS
  unfold Jh at cu2 cu1 cu0 cv1 cv0
  have HGQ := lh aG
  have HX := lh (And.intro bH (And.intro aH (And.intro eS (And.intro eZ aT))))
  have HS := lh hS
  obtain ⟨a1, dN⟩ : ∃ a1, j + n = a1 := ⟨_, rfl⟩
  obtain ⟨a2, fB⟩ : ∃ a2, j + n - 1 = a2 := ⟨_, rfl⟩
  obtain ⟨a3, fC⟩ : ∃ a3, j + n - 2 = a3 := ⟨_, rfl⟩
  obtain ⟨a4, dO⟩ : ∃ a4, n - 1 = a4 := ⟨_, rfl⟩
  obtain ⟨a5, fD⟩ : ∃ a5, n - 2 = a5 := ⟨_, rfl⟩
  rw [dN] at cu2
  rw [fB] at cu1
  rw [fC] at cu0
  rw [dO] at cv1
  rw [fD] at cv0
  have r1 : (j : Int) + (n : Int) = (a1 : Int) := by omega
  have r2 : (a1 : Int) - 1 = (a2 : Int) := by omega
  have r3 : (a1 : Int) - 2 = (a3 : Int) := by omega
  have r4 : (n : Int) - 1 = (a4 : Int) := by omega
  have r5 : (n : Int) - 2 = (a5 : Int) := by omega
  have i5 : (a1 : Int) < (p1 : Int) := by have := HP1.out; omega
  have i6 : (a2 : Int) < (p1 : Int) := by have := HP1.out; omega
  have i7 : (a3 : Int) < (p1 : Int) := by have := HP1.out; omega
  have i8 : (a4 : Int) < (n : Int) := by omega
  have i9 : (a5 : Int) < (n : Int) := by omega
  have j1 : IntKind.i64.wrap (a1 : Int) = (a1 : Int) := IntWalk.i64_in _ (by omega)
  have j2 : IntKind.i64.wrap (a2 : Int) = (a2 : Int) := IntWalk.i64_in _ (by omega)
  have j3 : IntKind.i64.wrap (a3 : Int) = (a3 : Int) := IntWalk.i64_in _ (by omega)
  have j4 : IntKind.i64.wrap (a4 : Int) = (a4 : Int) := IntWalk.i64_in _ (by omega)
  have j5 : IntKind.i64.wrap (a5 : Int) = (a5 : Int) := IntWalk.i64_in _ (by omega)
  have HA := lh (And.intro dN (And.intro dO bK))
  have n5 : a1 < p1 := by omega
  have n6 : a2 < p1 := by omega
  have n7 : a3 < p1 := by omega
  have n8 : a4 < n := by omega
  have n9 : a5 < n := by omega
  clear dN fB fC dO fD
  clear aG bH aH eS eZ aT hS s1 s2 s3 s4 s5 s6 s7 s8 dM aQ aR y9 aS bG bR
  obtain ⟨X, dP⟩ : ∃ X, dv B64 lu = X := ⟨_, rfl⟩
  have iF : dv B64 (lu.drop (j + n + 1)) = 0 := by
   apply Kg HS.out.2.2.1 (by decide)
   refine Nat.lt_trans HX.out.2.1 ?_
   have e : B64 ^ (j + n + 1) = B64 ^ n * B64 ^ (j + 1) := by rw [<- Nat.pow_add]; congr 1; omega
   rw [e]
   exact Nat.mul_lt_mul_of_pos_right bW (Nat.pow_pos (by decide))
  rw [dP] at HX
  have HXE := lh (And.intro dP iF)
  clear dP iF
  go_wp2_with fail
  go_quiet ((go_at_call 164; refine Calls.quiet_of (HGQ.out _)))
  go_wp2_with fail
  clear HGQ cu2 cu1 cu0 cv1 cv0 r2 r3 r4 r5 i6 i7 i8 i9 j2 j3 j4 j5 n6 n7 n8 n9
  go_loopw [12, 13, 89] (fun c b i wx => ∃ t c' b' : Nat, t <= n /\ c' < 18446744073709551616 /\ b' <= 1 /\ i = .int .i64 (t : Int) /\ c = .int .u64 (c' : Int) /\ b = .int .u64 (b' : Int) /\ Jm3 w1 gu gq gv p m n lv lq X G j t c' b' wx) (fun _ _ i _ => n - (intOf i).toNat)
  case atStart =>
   refine ⟨0, 0, 0, Nat.zero_le _, by omega, by omega, rfl, rfl, rfl, lu, HS.out.drewN _, ?_, HXE.out.2⟩
   rw [List.take_zero, Ux, HXE.out.1]
   simp
  case round =>
   obtain ⟨t, c, b, ht, gJ, fE, rfl, rfl, rfl, lx, aU, bM, p9⟩ := hrel
   clear HS HXE
   obtain ⟨s1, s2, s3, s4, s5, s6, s7, s8⟩ := aU
   have aU : DvS w1 gu gq gv p m lv lx lq wr := ⟨s1, s2, s3, s4, s5, s6, s7, s8⟩
   have bR := HV.out.2.2.2.1
   have bK := HA.out.2.2
   by_cases iB : t < n
   ·obtain ⟨y, hy⟩ : ∃ y, lv[t]? = some y := ⟨_, List.getElem?_eq_getElem (by omega)⟩
    obtain ⟨x, hx⟩ : ∃ x, lx[j + t]? = some x := ⟨_, List.getElem?_eq_getElem (by omega)⟩
    have dQ : y < 18446744073709551616 := aA.get hy
    have gK : x < 18446744073709551616 := s3.get hx
    have bN : G < 18446744073709551616 := fA
    have cy := s7.cell hy
    have cx := s1.cell hx
    have fx := s1.frozen (j + t)
    obtain ⟨hi, fF⟩ : ∃ hi, G * y / 18446744073709551616 = hi := ⟨_, rfl⟩
    obtain ⟨lo', fG⟩ : ∃ lo', G * y % 18446744073709551616 = lo' := ⟨_, rfl⟩
    obtain ⟨z1, fH⟩ : ∃ z1, (lo' + c) % 18446744073709551616 = z1 := ⟨_, rfl⟩
    obtain ⟨c1, fI⟩ : ∃ c1, (lo' + c) / 18446744073709551616 = c1 := ⟨_, rfl⟩
    obtain ⟨S, bO⟩ : ∃ S, (x + 18446744073709551616 - z1 - b) % 18446744073709551616 = S := ⟨_, rfl⟩
    obtain ⟨b', iK⟩ : ∃ b', (if x < z1 + b then 1 else 0) = b' := ⟨_, rfl⟩
    obtain ⟨c', dR⟩ : ∃ c', hi + c1 = c' := ⟨_, rfl⟩
    have gL : z1 < 18446744073709551616 := by omega
    have dS : S < 18446744073709551616 := by omega
    have bP : b' <= 1 := by rw [<- iK]; split <;> omega
    have gM : G * y = hi * 18446744073709551616 + lo' := by omega
    have fJ : z1 + 18446744073709551616 * c' = 0 + G * y + c := by omega
    have dT : c' < 18446744073709551616 := Jg8 (β := 18446744073709551616) (by omega) bN dQ gJ fJ
    have cI : S + z1 + b = x + 18446744073709551616 * b' := by
     rw [<- iK]
     split <;> omega
    have j7 : S + G * y + (c + b) = x + B64 * (c' + b') := by unfold B64; omega
    have j6 := Ko (β := B64) (l := lx) hx j7 bM
    have j8 : dv B64 (lx.set (j + t) S) + G * dv B64 (lv.take (t + 1)) * B64 ^ j = X + (c' + b') * B64 ^ (j + (t + 1)) := by
     rw [Jv hy, Nat.mul_add, Nat.add_mul, <- Nat.add_assoc j t 1]
     have e1 : G * (y * B64 ^ t) * B64 ^ j = G * y * B64 ^ (j + t) := by rw [Nat.pow_add, <- Nat.mul_assoc, Nat.mul_assoc (G * y), Nat.mul_comm (B64 ^ t)]
     rw [e1]
     exact j6
    have j0 : Jm3 w1 gu gq gv p m n lv lq X G j (t + 1) c' b' (wr.setCell ⟨gu, j + t, none⟩ (Jh S)) :=
     ⟨_, aU.setU (j + t) S dS cG cH iE, j8, by rw [List.drop_set_of_lt (by omega)]; exact p9⟩
    have aK := Tryz.bits_Mul64 G y bN dQ
    rw [fF, fG] at aK
    have dU : ∀ w, (callFunc 140 #[.int .u64 (lo' : Int), .int .u64 (c : Int), .int .u64 0]).run Tryz.prog w = .ok (.value (.tuple #[.int .u64 (z1 : Int), .int .u64 (c1 : Int)])) w := fun w => by
     have := Zo lo' c 0 (by omega) w
     rw [Nat.add_zero, fH, fI] at this
     exact this
    have bQ : ∀ w, (callFunc 141 #[.int .u64 (x : Int), .int .u64 (z1 : Int), .int .u64 (b : Int)]).run Tryz.prog w = .ok (.value (.tuple #[.int .u64 (S : Int), .int .u64 (b' : Int)])) w := fun w => by
     have := Jb8 x z1 b fE w
     rw [bO, iK] at this
     exact this
    have iC : IntKind.u64.wrap ((hi : Int) + (c1 : Int)) = (c' : Int) := by rw [Jc _ (by omega) (by omega)]; omega
    have HMUL := lh aK
    have HFIN := lh j0
    obtain ⟨a, ha⟩ : ∃ a, j + t = a := ⟨_, rfl⟩
    have ra : (j : Int) + (t : Int) = (a : Int) := by omega
    have rb : (a : Int) < (p1 : Int) := by have := HP1.out; omega
    have rc : (t : Int) < (n : Int) := by omega
    have rd : a < p1 := by omega
    rw [ha] at cx fx HFIN
    unfold Jh at cx cy
    clear fF fG fH fI bO iK dR gM fJ cI j7 j6 j8 j0 aK hx hy s1 s2 s3 s4 s5 s6 s7 s8 aU bM p9 ha bR bK
    go_wp2_with fail
    refine (HMUL.out _).mono ?_
    rintro e w9 ⟨rfl, rfl⟩
    go_wp2
    exact ⟨⟨t + 1, c', b', by omega, dT, bP, by go_num, rfl, rfl, HFIN.out⟩, by simp [intOf]; omega⟩
   obtain rfl : t = n := by omega
   rw [HV.out.2.1] at bM
   obtain ⟨x, hx⟩ : ∃ x, lx[j + t]? = some x := ⟨_, List.getElem?_eq_getElem (by omega)⟩
   have gK : x < 18446744073709551616 := s3.get hx
   have cx := s1.cell hx
   have fx := s1.frozen (j + t)
   obtain ⟨S, bO⟩ : ∃ S, (x + 18446744073709551616 - c - b) % 18446744073709551616 = S := ⟨_, rfl⟩
   obtain ⟨b', iK⟩ : ∃ b', (if x < c + b then 1 else 0) = b' := ⟨_, rfl⟩
   have dS : S < 18446744073709551616 := by omega
   have bP : b' <= 1 := by rw [<- iK]; split <;> omega
   have cI : S + 0 + (c + b) = x + B64 * b' := by
    unfold B64
    rw [<- iK]
    split <;> omega
   have j6 := Ko (β := B64) (l := lx) hx cI bM
   rw [Nat.zero_mul, Nat.add_zero] at j6
   have bQ : ∀ w, (callFunc 141 #[.int .u64 (x : Int), .int .u64 (c : Int), .int .u64 (b : Int)]).run Tryz.prog w = .ok (.value (.tuple #[.int .u64 (S : Int), .int .u64 (b' : Int)])) w := fun w => by
    have := Jb8 x c b fE w
    rw [bO, iK] at this
    exact this
   have aV : DvS w1 gu gq gv p m lv (lx.set (j + t) S) lq (wr.setCell ⟨gu, j + t, none⟩ (Jh S)) := aU.setU (j + t) S dS cG cH iE
   have aL : dv B64 ((lx.set (j + t) S).drop (j + t + 1)) = 0 := by rw [List.drop_set_of_lt (by omega)]; exact p9
   obtain ⟨lz, fK⟩ : ∃ lz, lx.set (j + t) S = lz := ⟨_, rfl⟩
   rw [fK] at j6 aV aL
   have HS2 := lh (And.intro aV (And.intro j6 aL))
   have e1 := HA.out.1
   rw [e1] at cx fx HS2
   unfold Jh at cx HS2
   have rc : ¬ (t : Int) < (t : Int) := by omega
   clear bO iK cI j6 hx s1 s2 s3 s4 s5 s6 s7 s8 aU bM p9 bR bK aV aL fK e1
   go_upto_if 146 with fail
   go_cut [11] (fun v wc => Jl1 w1 gu gq gv p m lv lq X V j v wc)
   case first =>
    have bS : 0 < V * B64 ^ j := Nat.mul_pos (by rcases Nat.eq_zero_or_pos V with h | h; (subst h; have := HX.out.2.1; simp at this); exact h) (Nat.pow_pos (by decide))
    by_cases cJ : b' = 0
    ·have gO : ((b' : Int) != 0) = false := by simp [cJ]
     have j0 : Jl1 w1 gu gq gv p m lv lq X V j (.int .u64 (G : Int)) (wr.setCell ⟨gu, a1, none⟩ (.int .u64 (S : Int))) := by
      have h1 := HS2.out.2.1
      rw [cJ, Nat.zero_mul, Nat.add_zero] at h1
      have h2 := Jc0 bS HX.out.2.2.2.1 h1
      exact ⟨G, lz, rfl, HS2.out.1, h2.1, h2.2⟩
     have HFIN := lh j0
     clear j0 cJ
     go_wp2
     go_meet
     exact HFIN.out
    have gO : ((b' : Int) != 0) = true := by simp [bne_iff_ne]; omega
    have dV : b' = 1 := by omega
    obtain ⟨z1, z2, z3, z4, z5, z6, z7, z8⟩ := HS2.out.1
    have bK := HA.out.2.2
    have dW := HA.out.1
    have bT : dv B64 lz < B64 ^ (a1 + 1) := by
     have h1 := Xd (β := B64) (l := lz) (a1 + 1) (by omega)
     rw [HS2.out.2.2, Nat.mul_zero, Nat.add_zero] at h1
     rw [h1]
     have h2 := Xm (z3.take (a1 + 1))
     rw [List.length_take, Nat.min_eq_left (by omega)] at h2
     exact h2
    have iD : 0 < G := by
     rcases Nat.eq_zero_or_pos G with h | h
     ·have h1 := HS2.out.2.1
      rw [h, dV, Nat.zero_mul, Nat.zero_mul, Nat.one_mul] at h1
      omega
     exact h
    obtain ⟨X', fL⟩ : ∃ X', dv B64 lz = X' := ⟨_, rfl⟩
    have k1 : IntKind.u64.wrap ((G : Int) - 1) = ((G - 1 : Nat) : Int) := by
     have : G < 18446744073709551616 := fA
     rw [Jc _ (by omega) (by omega)]
     omega
    obtain ⟨G', dX⟩ : ∃ G', G - 1 = G' := ⟨_, rfl⟩
    rw [dX] at k1
    have HZ := lh (And.intro fL (And.intro bT (And.intro dX dV)))
    clear z1 z2 z3 z4 z5 z6 z7 z8 bT fL dX dV cJ bQ cx fx
    go_wp2_with fail
    go_loopw [19, 150] (fun cc i wx => ∃ t' c' : Nat, t' <= t /\ c' <= 1 /\ i = .int .i64 (t' : Int) /\ cc = .int .u64 (c' : Int) /\ Jm7 w1 gu gq gv p m t lv lq X' j t' c' wx) (fun _ i _ => t - (intOf i).toNat)
    case atStart =>
     refine ⟨0, 0, Nat.zero_le _, by omega, rfl, rfl, lz, HS2.out.1, ?_, ?_⟩
     ·rw [List.take_zero, Ux, HZ.out.1]
      simp
     rw [dW]; exact HS2.out.2.2
    case round =>
     obtain ⟨t', c', bX, dR, rfl, rfl, ly, aW, aX, p9⟩ := hrel
     obtain ⟨s1, s2, s3, s4, s5, s6, s7, s8⟩ := aW
     have aW : DvS w1 gu gq gv p m lv ly lq wr := ⟨s1, s2, s3, s4, s5, s6, s7, s8⟩
     have bR := HV.out.2.2.2.1
     by_cases dY : t' < t
     ·obtain ⟨y, hy⟩ : ∃ y, lv[t']? = some y := ⟨_, List.getElem?_eq_getElem (by omega)⟩
      obtain ⟨x2, cK⟩ : ∃ x2, ly[j + t']? = some x2 := ⟨_, List.getElem?_eq_getElem (by omega)⟩
      have dQ : y < 18446744073709551616 := aA.get hy
      have gP : x2 < 18446744073709551616 := s3.get cK
      have cy := s7.cell hy
      have cx := s1.cell cK
      have fx := s1.frozen (j + t')
      obtain ⟨S2, aV⟩ : ∃ S2, (x2 + y + c') % 18446744073709551616 = S2 := ⟨_, rfl⟩
      obtain ⟨C, hC⟩ : ∃ C, (x2 + y + c') / 18446744073709551616 = C := ⟨_, rfl⟩
      have dZ : S2 < 18446744073709551616 := by omega
      have iP : C <= 1 := by omega
      have j7 : S2 + B64 * C = x2 + y + c' := by unfold B64; omega
      have j6 := Ky (β := B64) (l := ly) cK j7 aX
      have j8 : dv B64 (ly.set (j + t') S2) + C * B64 ^ (j + (t' + 1)) = X' + dv B64 (lv.take (t' + 1)) * B64 ^ j := by
       rw [Jv hy, Nat.add_mul, <- Nat.add_assoc j t' 1, <- Nat.add_assoc]
       have e1 : y * B64 ^ t' * B64 ^ j = y * B64 ^ (j + t') := by rw [Nat.pow_add, Nat.mul_assoc, Nat.mul_comm (B64 ^ t')]
       rw [e1]
       exact j6
      have dU : ∀ w, (callFunc 140 #[.int .u64 (x2 : Int), .int .u64 (y : Int), .int .u64 (c' : Int)]).run Tryz.prog w = .ok (.value (.tuple #[.int .u64 (S2 : Int), .int .u64 (C : Int)])) w := fun w => by
       have := Zo x2 y c' dR w
       rw [aV, hC] at this
       exact this
      have j0 : ∀ nd, Jm7 w1 gu gq gv p m t lv lq X' j (t' + 1) C ((wr.drewN nd).setCell ⟨gu, j + t', none⟩ (Jh S2)) := fun nd =>
       ⟨_, (aW.drewN nd).setU (j + t') S2 dZ cG cH iE, j8, by rw [List.drop_set_of_lt (by omega)]; exact p9⟩
      have HFIN := lh j0
      obtain ⟨a, ha⟩ : ∃ a, j + t' = a := ⟨_, rfl⟩
      have ra : (j : Int) + (t' : Int) = (a : Int) := by omega
      have rb : (a : Int) < (p1 : Int) := by have := HP1.out; omega
      have rc2 : (t' : Int) < (t : Int) := by omega
      have rd : a < p1 := by have := HP1.out; omega
      have re : IntKind.i64.wrap (a : Int) = (a : Int) := IntWalk.i64_in _ (by omega)
      have rf : t' < t := dY
      rw [ha] at cx fx HFIN
      unfold Jh at cx cy
      clear aV hC j7 j6 j8 j0 cK hy s1 s2 s3 s4 s5 s6 s7 s8 aW aX p9 ha bR
      go_wp2_with fail
      go_region
      go_wp2
      exact ⟨⟨t' + 1, C, by omega, iP, by go_num, rfl, HFIN.out 1⟩, by simp [intOf]; omega⟩
     have fM : t' = t := by omega
     rw [fM] at aX
     rw [HV.out.2.1, dW] at aX
     rw [dW] at p9
     obtain ⟨x3, iG⟩ : ∃ x3, ly[a1]? = some x3 := ⟨_, List.getElem?_eq_getElem (by omega)⟩
     have gU : x3 < 18446744073709551616 := s3.get iG
     have cx := s1.cell iG
     have fx := s1.frozen a1
     obtain ⟨S3, aM⟩ : ∃ S3, (x3 + c') % 18446744073709551616 = S3 := ⟨_, rfl⟩
     obtain ⟨C, hC⟩ : ∃ C, (x3 + c') / 18446744073709551616 = C := ⟨_, rfl⟩
     have bU : S3 < 18446744073709551616 := by omega
     have j7 : S3 + B64 * C = x3 + 0 + c' := by unfold B64; omega
     have j6 := Ky (β := B64) (l := ly) iG j7 aX
     rw [Nat.zero_mul, Nat.add_zero] at j6
     have cB : IntKind.u64.wrap ((x3 : Int) + (c' : Int)) = (S3 : Int) := by
      rw [show (x3 : Int) + (c' : Int) = ((x3 + c' : Nat) : Int) from by omega, Jf, aM]
     have fN : dv B64 (ly.set a1 S3) < B64 ^ (a1 + 1) := by
      have h1 := Xd (β := B64) (l := ly.set a1 S3) (a1 + 1) (by rw [List.length_set]; omega)
      rw [List.drop_set_of_lt (by omega), p9, Nat.mul_zero, Nat.add_zero] at h1
      rw [h1]
      have h2 := Xm ((s3.set_ a1 bU).take (a1 + 1))
      rw [List.length_take, List.length_set, Nat.min_eq_left (by omega)] at h2
      exact h2
     have fO : V * B64 ^ j <= B64 ^ (a1 + 1) := by
      have e : B64 ^ (a1 + 1) = B64 ^ t * B64 ^ (j + 1) := by rw [<- Nat.pow_add]; congr 1; omega
      rw [e]
      exact Nat.mul_le_mul (Nat.le_of_lt bW) (Nat.pow_le_pow_right (by decide) (by omega))
     have he := HS2.out.2.1
     rw [HZ.out.1, HZ.out.2.2.2, Nat.one_mul] at he
     have aN := HZ.out.2.1
     rw [HZ.out.1] at aN
     have aO := Jc1 bS fO HX.out.2.2.2.2 he aN fN j6
     have j0 : Jl1 w1 gu gq gv p m lv lq X V j (.int .u64 (G' : Int)) (wr.setCell ⟨gu, a1, none⟩ (Jh S3)) :=
      ⟨G', ly.set a1 S3, rfl, aW.setU a1 S3 bU cG cH iE, by rw [<- HZ.out.2.2.1]; exact aO.2.1, aO.2.2⟩
     have HFIN := lh j0
     have rc2 : ¬ (t' : Int) < (t : Int) := by omega
     unfold Jh at cx
     clear aM hC j7 j6 fN fO he aN aO j0 iG s1 s2 s3 s4 s5 s6 s7 s8 aW aX p9 fM bR
     go_wp2
     go_meet
     exact HFIN.out
   case rest =>
    obtain ⟨G2, lu2, rfl, aM, aT, aP⟩ := hcut
    obtain ⟨s1, s2, s3, s4, s5, s6, s7, s8⟩ := aM
    have aM : DvS w1 gu gq gv p m lv lu2 lq wc := ⟨s1, s2, s3, s4, s5, s6, s7, s8⟩
    have bS : 0 < V * B64 ^ j := Nat.mul_pos (by rcases Nat.eq_zero_or_pos V with h | h; (subst h; have := HX.out.2.1; simp at this); exact h) (Nat.pow_pos (by decide))
    obtain ⟨x3, iG⟩ : ∃ x3, lq[j]? = some x3 := ⟨_, List.getElem?_eq_getElem (by omega)⟩
    have eA : x3 = 0 := Jaq (by decide) HX.out.2.2.1 (k := j) (by rw [List.getElem?_take, if_pos (by omega)]; exact iG)
    subst eA
    have cq := s4.cell iG
    have fq := s4.frozen j
    have eB : G2 < 18446744073709551616 := by
     rw [aT]
     have h1 : X / (V * B64 ^ j) < B64 := by
      rw [Nat.div_lt_iff_lt_mul bS]
      have := HX.out.2.1
      rw [Nat.pow_succ] at this
      rw [Nat.mul_comm B64, Nat.mul_assoc]
      exact this
     exact h1
    have eC := Yl (β := B64) G2 iG
    rw [Nat.zero_mul, Nat.add_zero] at eC
    have fP := Nat.div_add_mod X (V * B64 ^ j)
    rw [<- aT, <- aP] at fP
    have j0 : Jl0 w1 gu gq gv p m lv U V j (wc.setCell ⟨gq, j, none⟩ (Jh G2)) := by
     refine ⟨lu2, lq.set j G2, aM.setQ j G2 eB gB gD dI, ?_, ?_, ?_⟩
     ·rw [eC, HX.out.1, Nat.mul_add]
      have e : V * (G2 * B64 ^ j) = V * B64 ^ j * G2 := by rw [Nat.mul_comm G2, Nat.mul_assoc]
      rw [e]
      omega
     ·rw [aP]
      exact Nat.mod_lt _ bS
     rw [List.take_set_of_le (by omega)]
     have h1 := Jv (β := B64) iG
     rw [HX.out.2.2.1] at h1
     omega
    have HFIN := lh j0
    unfold Jh at cq
    have rj : (j : Int) < (m : Int) := by omega
    have rj2 : j < m := by omega
    clear aT aP eC fP j0 iG s1 s2 s3 s4 s5 s6 s7 s8 aM
    go_wp2
    exact ⟨⟨j, by omega, by go_num, HFIN.out⟩, by simp [intOf] <;> omega⟩
