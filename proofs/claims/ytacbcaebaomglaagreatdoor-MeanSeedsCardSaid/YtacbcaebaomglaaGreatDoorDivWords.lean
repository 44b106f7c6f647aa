import Derived.Test.YtacbcaebaomglaaGreatDoorDivA
import Derived.Deep.DeepCutAuto
import Derived.Deep.CutBlock
import Derived.RegionTactic
import Derived.BigRegion
import Derived.Deep.DeepMust
namespace Go.Proofs.YtacbcaebaomglaaGreatDoor
set_option maxRecDepth 100000
set_option maxHeartbeats 2000000
open Go.RowKit
set_option linter.all false
theorem Tryz.sizeU64 : (Tryz.prog.info? 59).map (·.size) = some 1 := by kernel_rfl
theorem Jib (u2 u1 u0 v1 v0 : Nat) (w : World) (h2 : u2 <= v1) (aK : u1 < 18446744073709551616) (aL : u0 < 18446744073709551616) (t8 : v1 < 18446744073709551616) (aM : v0 < 18446744073709551616) (aS : 0 < v1) :
  Calls Tryz.prog 179 #[.int .u64 (u2 : Int), .int .u64 (u1 : Int), .int .u64 (u0 : Int), .int .u64 (v1 : Int), .int .u64 (v0 : Int)] w fun e w' => e = .returned (.int .u64 ((Kv ((u2 * B64 + u1) * B64 + u0) (v1 * B64 + v0) : Nat) : Int)) /\ ∃ n, w' = w.drewN n := by
 refine (Jex u2 u1 u0 v1 v0 w h2 aK aL t8 aM aS).mono ?_
 rintro e w' ⟨g, n, rfl, hg, rfl⟩
 have hD : 0 < v1 * B64 + v0 := by
  have := Nat.mul_pos aS (show 0 < B64 by decide)
  omega
 exact ⟨by rw [Jgu hD hg], n, rfl⟩
def DvS (w : World) (gu gq gv p m : Nat) (lv lu lq : List Nat) (wr : World) : Prop :=
 Row wr gu 59 Jk lu /\ lu.length = p + 1 /\ Dig B64 lu /\ Row wr gq 59 Jk lq /\ lq.length = m /\ Dig B64 lq /\ Row wr gv 59 Jk lv /\ Below w.heap.size w wr
def Jm0 (w : World) (gu gq gv p m : Nat) (lv : List Nat) (U V k : Nat) (wr : World) : Prop :=
 ∃ lu lq : List Nat, DvS w gu gq gv p m lv lu lq wr /\ U = V * dv B64 lq + dv B64 lu /\ dv B64 lu < V * B64 ^ k /\ dv B64 (lq.take k) = 0
theorem DvS.drewN {w wr : World} {gu gq gv p m : Nat} {lv lu lq : List Nat} (h : DvS w gu gq gv p m lv lu lq wr) (n : Nat) : DvS w gu gq gv p m lv lu lq (wr.drewN n) := by
 obtain ⟨h1, h2, h3, h4, h5, h6, h7, h8⟩ := h
 exact ⟨h1.drewN n, h2, h3, h4.drewN n, h5, h6, h7.drewN n, Jy h8 n⟩
theorem DvS.setU {w wr : World} {gu gq gv p m : Nat} {lv lu lq : List Nat} (h : DvS w gu gq gv p m lv lu lq wr) (k x : Nat) (hx : x < B64) (h1 : gq ≠ gu) (h2 : gv ≠ gu) (h3 : w.heap.size <= gu) : DvS w gu gq gv p m lv (lu.set k x) lq (wr.setCell ⟨gu, k, none⟩ (Jk x)) := by
 obtain ⟨a1, a2, a3, a4, a5, a6, a7, a8⟩ := h
 exact ⟨a1.set_ k x, by rw [List.length_set]; exact a2, a3.set_ k hx, a4.far h1 _, a5, a6, a7.far h2 _, a8.setCell h3 _⟩
theorem DvS.setQ {w wr : World} {gu gq gv p m : Nat} {lv lu lq : List Nat} (h : DvS w gu gq gv p m lv lu lq wr) (k x : Nat) (hx : x < B64) (h1 : gu ≠ gq) (h2 : gv ≠ gq) (h3 : w.heap.size <= gq) : DvS w gu gq gv p m lv lu (lq.set k x) (wr.setCell ⟨gq, k, none⟩ (Jk x)) := by
 obtain ⟨a1, a2, a3, a4, a5, a6, a7, a8⟩ := h
 exact ⟨a1.far h1 _, a2, a3, a4.set_ k x, by rw [List.length_set]; exact a5, a6.set_ k hx, a7.far h2 _, a8.setCell h3 _⟩
def Jn1 (w : World) (gu gq gv p m n : Nat) (lv lq : List Nat) (X G j i c b : Nat) (wr : World) : Prop :=
 ∃ lu : List Nat, DvS w gu gq gv p m lv lu lq wr /\ dv B64 lu + G * dv B64 (lv.take i) * B64 ^ j = X + (c + b) * B64 ^ (j + i) /\ dv B64 (lu.drop (j + n + 1)) = 0
def Jn5 (w : World) (gu gq gv p m n : Nat) (lv lq : List Nat) (X j i c : Nat) (wr : World) : Prop :=
 ∃ lu : List Nat, DvS w gu gq gv p m lv lu lq wr /\ dv B64 lu + c * B64 ^ (j + i) = X + dv B64 (lv.take i) * B64 ^ j /\ dv B64 (lu.drop (j + n + 1)) = 0
def Jm1 (w : World) (gu gq gv p m : Nat) (lv lq : List Nat) (X V j : Nat) (v : Value) (wr : World) : Prop :=
 ∃ (G : Nat) (lu : List Nat), v = .int .u64 (G : Int) /\ DvS w gu gq gv p m lv lu lq wr /\ G = X / (V * B64 ^ j) /\ dv B64 lu = X % (V * B64 ^ j)
def Jju (w : World) (X Y : Nat) (e : Ending) (w' : World) : Prop :=
 ∃ (gq m : Nat) (lq : List Nat) (A : Option Addr) (nr cr : Nat) (lr : List Nat), e = .returned (.tuple #[.slice (some ⟨gq, 0, none⟩) m m, .slice A nr cr]) /\
  Reads w' w'.heap.size 1 (some ⟨gq, 0, none⟩) m (lq.map Jk) /\ Dig B64 lq /\ dv B64 lq = X / Y /\ Reads w' w'.heap.size 1 A nr (lr.map Jk) /\ Dig B64 lr /\ dv B64 lr = X % Y /\ m <= 17179869186 /\ nr <= 17179869186 /\ nr <= cr /\ Below w.heap.size w w'
theorem Jgo (AX AY : Option Addr) (p n cX cY BX BY : Nat) (lX lY : List Nat) (w : World) (hX : Reads w BX 1 AX p (lX.map Jk)) (hY : Reads w BY 1 AY n (lY.map Jk)) (cE : BX <= w.heap.size) (fG : BY <= w.heap.size)
  (dU : Dig B64 lX) (cF : Dig B64 lY) (hp : p <= 17179869185) (gG : n <= p) (hn : 2 <= n) (top : Nat) (p8 : lY[n - 1]? = some top) (dV : 0 < top) :
  Calls Tryz.prog 153 #[.slice AX p cX, .slice AY n cY] w (Jju w (dv B64 lX) (dv B64 lY)) := by
 have hlx := hX.lenf
 have dW := hY.lenf
 have cG := cF.get p8
 unfold B64 at cG
 have cH := Xn top (by omega)
 have cI := Yd top cG
 obtain ⟨s, hs⟩ : ∃ s, 64 - Je top = s := ⟨_, rfl⟩
 have fH : s < 64 := by omega
 have aT : (64 : Int) - (Lib.bitLen (top : Int).toNat : Int) = (s : Int) := by
  rw [Int.toNat_natCast, Vb top cG]
  omega
 obtain ⟨V, hV⟩ : ∃ V, dv B64 lY * 2 ^ s = V := ⟨_, rfl⟩
 obtain ⟨U, hU⟩ : ∃ U, dv B64 lX * 2 ^ s = U := ⟨_, rfl⟩
 have dX : B64 ^ n = B64 ^ (n - 1) * B64 := by rw [<- Nat.pow_succ]; congr 1; omega
 have j7 : dv B64 lY = dv B64 (lY.take (n - 1)) + B64 ^ (n - 1) * top := by
  have h1 := Xl (β := B64) (l := lY) (n - 1) (by omega)
  rw [Qb p8, Xe (by omega), Nat.mul_zero, Nat.add_zero] at h1
  exact h1
 have cJ : dv B64 (lY.take (n - 1)) < B64 ^ (n - 1) := by
  have h1 := Xm (cF.take (n - 1))
  rw [List.length_take, Nat.min_eq_left (by omega)] at h1
  exact h1
 have bO : 0 < 2 ^ s := Nat.pow_pos (by omega)
 have aU : (top + 1) * 2 ^ s <= B64 := by
  have h1 := Nat.mul_le_mul_right (2 ^ s) (show top + 1 <= 2 ^ Je top from cH.2.2)
  rw [<- Nat.pow_add, show Je top + s = 64 from by omega] at h1
  exact h1
 have aV : 9223372036854775808 <= top * 2 ^ s := by
  have h1 := Nat.mul_le_mul_right (2 ^ s) cH.2.1
  rw [<- Nat.pow_add, show Je top - 1 + s = 63 from by omega] at h1
  exact h1
 have bP : V < B64 ^ n := by
  rw [<- hV, dX]
  have h1 : dv B64 lY < B64 ^ (n - 1) * (top + 1) := by rw [j7, Nat.mul_add, Nat.mul_one]; omega
  have h2 := Nat.mul_lt_mul_of_pos_right h1 bO
  refine Nat.lt_of_lt_of_le h2 ?_
  rw [Nat.mul_assoc]
  exact Nat.mul_le_mul_left _ aU
 have cK : B64 ^ (n - 1) * 9223372036854775808 <= V := by
  rw [<- hV, j7, Nat.add_mul, Nat.mul_assoc]
  exact nt (Nat.mul_le_mul_left _ aV) (Nat.le_add_left _ _)
 have dY : U < V * B64 ^ (p - n + 1) := by
  have h1 := Xm dU
  rw [hlx] at h1
  have h2 := Nat.mul_lt_mul_of_pos_right h1 bO
  rw [hU] at h2
  have h3 : 2 ^ s <= 9223372036854775808 := Nat.pow_le_pow_right (by omega) (show s <= 63 by omega)
  have h4 : B64 ^ p * 2 ^ s <= B64 ^ p * 9223372036854775808 := Nat.mul_le_mul_left _ h3
  have h5 := Nat.mul_le_mul_right (B64 ^ (p - n + 1)) cK
  have h6 : B64 ^ (n - 1) * 9223372036854775808 * B64 ^ (p - n + 1) = B64 ^ p * 9223372036854775808 := by
   rw [Nat.mul_right_comm, <- Nat.pow_add, show n - 1 + (p - n + 1) = p from by omega]
  rw [h6] at h5
  exact Nat.lt_of_lt_of_le (Nat.lt_of_lt_of_le h2 h4) h5
 have cL : B64 ^ (n - 1) <= V := nt (Nat.le_mul_of_pos_right _ (by omega)) cK
 clear dX j7 cJ aU aV cK
 obtain ⟨adY, t', fI, gH, bQ, fJ⟩ := hY.atf (show n - 1 < n by omega)
 rw [p8] at bQ
 obtain rfl : top = t' := by simpa using bQ
 obtain ⟨m, hm⟩ : ∃ m, p - n + 1 = m := ⟨_, rfl⟩
 obtain ⟨p1, dZ⟩ : ∃ p1, p + 1 = p1 := ⟨_, rfl⟩
 have cM := Qf (P := Tryz.prog) Jk 0 178 59 8 Tryz.underlying178 Tryz.infoU64 rfl .i64 .i64 p1 (by omega) (by omega)
 have cN := Qf (P := Tryz.prog) Jk 0 178 59 8 Tryz.underlying178 Tryz.infoU64 rfl .i64 .i64 m (by omega) (by omega)
 have c1 : ((p : Int) + 1) = (p1 : Int) := by omega
 have HP1 := lh dZ
 have fK : p1 <= 17179869186 := by omega
 have fL : p < p1 := by omega
 have c2 : (p : Int) - (n : Int) + 1 = (m : Int) := by omega
 have c3 : ((n : Int) - 1).toNat = n - 1 := by omega
 have c4 : (n : Int) - 1 < (n : Int) := by omega
 have c5 : (0 : Int) <= (n : Int) - 1 := by omega
 have HL := lh (And.intro hlx (And.intro dW (And.intro hm (And.intro hV hU))))
 have HB := lh aT
 unfold Jk at fJ
 subst fI
 clear hlx dW hs cH cI aT hV hU bQ p8 dZ
 go_enter Tryz.func153, Tryz.ntmps153
 go_wp2_with fail
 refine (Tryz.bits_LeadingZeros64 (top : Int) w (by omega) (by omega)).mono ?_
 rintro e w1 ⟨rfl, rfl⟩
 rw [HB.out]
 go_wp2_with fail
 refine (Jac _ n cY BY s lY w1 hY fG cF (by omega) (by omega)).mono ?_
 rintro e w2 ⟨gv, lv, rfl, cO, bR, u4, eA, bS, gI⟩
 have bT : s / 64 = 0 := by omega
 rw [bT, Nat.add_zero] at cO ⊢
 have eB := hX.below (bS.mono cE)
 have cP : ∀ w, (Instr.slice 178 (.slice (some ⟨gv, 0, none⟩) (n + 1) (n + 1)) none (some (.int .i64 (n : Int))) none).run Tryz.prog w = .ok (.slice (some ⟨gv, 0, none⟩) n (n + 1)) w := fun w => by
  have := Jfd (P := Tryz.prog) Tryz.underlying178 Tryz.infoU64 (some ⟨gv, 0, none⟩) (n + 1) (n + 1) .i64 (n : Int) (by omega) (by omega) w
  simpa using this
 clear HB
 go_wp2_with fail
 have j9 := Row.rep w2 59 Jk 0 p1
 have aW := Jb w2 (.cells (Array.replicate p1 (Jk 0)) 59)
 obtain ⟨w3, bU⟩ : ∃ w3, w2.alloc (.cells (Array.replicate p1 (Jk 0)) 59) = w3 := ⟨_, rfl⟩
 obtain ⟨gu, bV⟩ : ∃ gu, w2.heap.size = gu := ⟨_, rfl⟩
 have cQ : gv < gu := by rw [<- bV]; exact bR.lt
 rw [bU] at j9 aW
 rw [bU]
 have x7 := bR.below aW bR.lt
 have eC := eB.below (aW.mono (nt cE bS.size))
 rw [bV] at j9
 rw [bV]
 have cS := Ja bS aW
 have o0 : w1.heap.size <= gu := by have := bS.size; omega
 clear bU bV eB aW cM c1
 refine (Jac AX p cX BX s lX w3 eC (nt cE cS.size) dU (by omega) (by omega)).mono ?_
 rintro e w4 ⟨gs, ls, rfl, x8, eD, fM, eE, bW, fN⟩
 rw [bT, Nat.add_zero] at x8
 rw [bT, Nat.add_zero, HP1.out]
 rw [HP1.out] at x8
 have aX := j9.below bW j9.lt
 have aY := x7.below bW x7.lt
 have eF := Ja cS bW
 have fO : gu < gs := Nat.lt_of_lt_of_le j9.lt fN
 clear j9 x7 bW cS eC bR bT
 obtain ⟨w5, fP, p9, cT⟩ : ∃ w5, (Builtin.copy_ #[178, 178] 3 #[.slice (some ⟨gu, 0, none⟩) p1 p1, .slice (some ⟨gs, 0, none⟩) p1 p1]).run Tryz.prog w4 = .ok (.int .i64 (p1 : Int)) w5 /\ Row w5 gu 59 Jk ls /\ Below gu w4 w5 := by
  have hg : w4.heap[gu]? = some (.cells ((List.replicate p1 0).map Jk).toArray 59 (0, 0)) := aX
  have aZ := run_copy_row (P := Tryz.prog) w4 178 178 3 59 gu 0 p1 p1 ⟨gs, 0, none⟩ p1 p1 _ 59 (ls.map Jk) Tryz.underlying178 Tryz.sizeU64 hg (by simp [x8]) (fun j v hv => by
   obtain ⟨ad, e, hb, hc⟩ := eD.reads.2 (by
    have := (List.getElem?_eq_some_iff.1 hv).1
    simp at this
    omega)
   injection e with e
   subst e
   exact hc j v hv) (by simp [x8]) (fun u hu => by
   simp at hu
   obtain ⟨x, _, rfl⟩ := hu
   rfl)
  have h2 : (List.map Jk (List.replicate p1 0)).toArray.toList.take 0 ++ ls.map Jk ++ (List.map Jk (List.replicate p1 0)).toArray.toList.drop (0 + (ls.map Jk).length) = ls.map Jk := by
   rw [List.drop_of_length_le (by simp [x8])]
   simp
  rw [h2] at aZ
  refine ⟨w4.setRow gu (ls.map Jk).toArray, ?_, setRow_heap w4 gu _ _ 59 _ hg, below_setRow (Below.refl gu w4) zd _⟩
  rw [aZ, List.length_map, x8]
  rfl
 have x9 := aY.below cT cQ
 have eG : Below w1.heap.size w1 w5 := eF.trans (cT.mono o0)
 clear cT aX aY eF eD
 go_wp2_with fail
 have q8 := Row.rep w5 59 Jk 0 m
 have bX := Jb w5 (.cells (Array.replicate m (Jk 0)) 59)
 have y8 := p9.below bX p9.lt
 have y9 := x9.below bX x9.lt
 have cU := Ja eG bX
 obtain ⟨w6, cV⟩ : ∃ w6, w5.alloc (.cells (Array.replicate m (Jk 0)) 59) = w6 := ⟨_, rfl⟩
 obtain ⟨gq, aA⟩ : ∃ gq, w5.heap.size = gq := ⟨_, rfl⟩
 have fQ : gu < gq := by rw [<- aA]; exact p9.lt
 rw [cV] at q8 y8 y9 cU
 rw [cV]
 rw [aA] at q8
 rw [aA]
 have eH : (p : Int) - (n : Int) = (m : Int) - 1 := by have := HL.out.2.2.1; omega
 rw [eH]
 have bY : dv B64 lv = V := by rw [<- HL.out.2.2.2.1]; exact eA
 have cW : dv B64 ls = U := by rw [<- HL.out.2.2.2.2]; exact eE
 have bA : p - n + 1 = m := HL.out.2.2.1
 have o6 : dv B64 (lv.drop n) = 0 := Km u4 (by decide) (by rw [bY]; exact bP)
 have eI : dv B64 (lv.take n) = V := by
  have h1 := Xl (β := B64) (l := lv) n (by omega)
  rw [o6, Nat.mul_zero, Nat.add_zero, bY] at h1
  exact h1.symm
 have bZ : gq ≠ gu := by omega
 have cA : gv ≠ gu := by omega
 have fR : gu ≠ gq := by omega
 have fS : gv ≠ gq := by omega
 have cZ : w1.heap.size <= gq := by omega
 have HV := lh (And.intro bY (And.intro eI (And.intro bA (And.intro cO o6))))
 have gJ : m <= 17179869186 := by omega
 have o7 : Jm0 w1 gu gq gv p m lv U V m w6 := by
  refine ⟨ls, List.replicate m 0, ⟨y8, by rw [x8]; exact HP1.out.symm, fM, q8, by simp, Dig.rep (by decide) _, y9, cU⟩, ?_, ?_, ?_⟩
  ·rw [Kk, Nat.mul_zero, Nat.zero_add, cW]
  ·rw [cW, <- bA]; exact dY
  rw [List.take_of_length_le (by simp), Kk]
 have HST := lh o7
 clear cV aA eH bY cW bA eI q8 y8 y9 cU bX p9 x9 eG fP o7 o6 cN c2 eA eE dY cO
 go_loopw [10] (fun i wr => ∃ k : Nat, k <= m /\ i = .int .i64 ((k : Int) - 1) /\ Jm0 w1 gu gq gv p m lv U V k wr) (fun i _ => (intOf i + 1).toNat)
 case atStart => exact ⟨m, Nat.le_refl _, rfl, HST.out⟩
 case round =>
  obtain ⟨k, hk, rfl, lu, lq, hS, bB, aB, eJ⟩ := hrel
  clear HST
  by_cases fT : k = 0
  ·subst fT
   obtain ⟨s1, s2, s3, s4, s5, s6, s7, s8⟩ := hS
   rw [Nat.pow_zero, Nat.mul_one] at aB
   have gK : 0 < dv B64 lY := by
    rcases Nat.eq_zero_or_pos (dv B64 lY) with h | h
    ·have := HL.out.2.2.2.1
     rw [h, Nat.zero_mul] at this
     omega
    exact h
   have bC : dv B64 lq = dv B64 lX / dv B64 lY := by
    have h1 : U / V = dv B64 lq := by rw [bB, Nat.mul_comm, Nat.add_comm, Nat.add_mul_div_right _ _ (by omega), Nat.div_eq_of_lt aB, Nat.zero_add]
    rw [<- h1, <- HL.out.2.2.2.1, <- HL.out.2.2.2.2, Nat.mul_div_mul_right _ _ bO]
   have bD : dv B64 lu = dv B64 lX % dv B64 lY * 2 ^ s := by
    have h1 : U % V = dv B64 lu := by rw [bB, Nat.mul_add_mod, Nat.mod_eq_of_lt aB]
    rw [<- h1, <- HL.out.2.2.2.1, <- HL.out.2.2.2.2, Nat.mul_mod_mul_right]
   have eK : dv B64 (lu.take n) = dv B64 lu := by
    rw [<- Jok s3 (by decide), Nat.mod_eq_of_lt (Nat.lt_trans aB bP)]
   have aC := s1.reads
   rw [s2] at aC
   have dA := Reads.front aC (k := n) (by omega)
   rw [Nat.mul_one, <- List.map_take] at dA
   have fU : ∀ w, (Instr.slice 178 (.slice (some ⟨gu, 0, none⟩) p1 p1) none (some (.int .i64 (n : Int))) none).run Tryz.prog w = .ok (.slice (some ⟨gu, 0, none⟩) n p1) w := fun w => by
    have := Jfd (P := Tryz.prog) Tryz.underlying178 Tryz.infoU64 (some ⟨gu, 0, none⟩) p1 p1 .i64 (n : Int) (by omega) (by omega) w
    simpa using this
   have eL := Jev (some ⟨gu, 0, none⟩) n p1 _ s (lu.take n) wr dA s1.lt (s3.take n) (by omega) (by omega) (by omega)
   have HSD := lh eL
   have HQ := lh (And.intro bC (And.intro bD eK))
   clear bC bD eK aC dA eL bB
   go_wp2_with fail
   refine HSD.out.mono ?_
   rintro e w7 ⟨gr, lr, rfl, eM, eN, fV, eO, eP, gL⟩
   have dB := s4.below eP s4.lt
   have dC := dB.reads
   rw [s5] at dC
   have s9 := eN.reads
   rw [eM] at s9
   have fW := Ja s8 eP
   rw [show s / 64 = 0 from by omega, Nat.sub_zero] at s9
   rw [show s / 64 = 0 from by omega, Nat.sub_zero]
   have e8 : Jju w1 (dv B64 lX) (dv B64 lY) (.returned (.tuple #[.slice (some ⟨gq, 0, none⟩) m m, .slice (some ⟨gr, 0, none⟩) n n])) w7 := by
    refine ⟨gq, m, lq, _, n, n, lr, rfl, dC.more dB.lt, s6, HQ.out.1, s9.more eN.lt, fV, ?_, by omega, by omega, Nat.le_refl _, fW⟩
    have h1 : dv B64 lr = dv B64 (lu.take n) / 2 ^ s := eO
    rw [h1, HQ.out.2.2, HQ.out.2.1, Nat.mul_div_cancel _ bO]
   have HFIN := lh e8
   clear e8 dC s9 dB eO eM fU
   go_wp2
   go_ret2
   exact HFIN.out
  obtain ⟨j, rfl⟩ : ∃ j, k = j + 1 := ⟨k - 1, by omega⟩
  rw [show (((j + 1 : Nat) : Int) - 1) = (j : Int) from by omega]
  obtain ⟨s1, s2, s3, s4, s5, s6, s7, s8⟩ := hS
  have hS : DvS w1 gu gq gv p m lv lu lq wr := ⟨s1, s2, s3, s4, s5, s6, s7, s8⟩
  have bA := HV.out.2.2.1
  have bE : j + n <= p := by omega
  obtain ⟨u2, dD⟩ : ∃ u2, lu[j + n]? = some u2 := ⟨_, List.getElem?_eq_getElem (by omega)⟩
  obtain ⟨u1, aK⟩ : ∃ u1, lu[j + n - 1]? = some u1 := ⟨_, List.getElem?_eq_getElem (by omega)⟩
  obtain ⟨u0, aL⟩ : ∃ u0, lu[j + n - 2]? = some u0 := ⟨_, List.getElem?_eq_getElem (by omega)⟩
  have j8 := HV.out.2.2.2.1
  obtain ⟨v1, t8⟩ : ∃ v1, lv[n - 1]? = some v1 := ⟨_, List.getElem?_eq_getElem (by omega)⟩
  obtain ⟨v0, aM⟩ : ∃ v0, lv[n - 2]? = some v0 := ⟨_, List.getElem?_eq_getElem (by omega)⟩
  have aD : 0 < v1 := by
   have h1 := Yr u4 (by decide) (n - 1)
   have h2 : dv B64 lv / B64 ^ (n - 1) = v1 := by
    have h3 : dv B64 (lv.drop (n - 1)) = v1 := by
     rw [Qb t8, show n - 1 + 1 = n from by omega, HV.out.2.2.2.2, Nat.mul_zero, Nat.add_zero]
    rw [<- h3]
    exact h1
   rw [HV.out.1] at h2
   rw [<- h2]
   exact (Nat.div_pos cL (Nat.pow_pos (by decide)))
  have bF := Jjf (lu := lu) (lv := lv.take n) (j := j) (n := n) s3 (u4.take n) (by rw [List.length_take]; omega) hn dD aK aL (by rw [List.getElem?_take, if_pos (by omega)]; exact t8) (by rw [List.getElem?_take, if_pos (by omega)]; exact aM) aD (by rw [HV.out.2.1]; exact aB)
  rw [HV.out.2.1] at bF
  obtain ⟨fX, eQ, aN⟩ := bF
  have aA := fun w => Jib u2 u1 u0 v1 v0 w fX (s3.get aK) (s3.get aL) (u4.get t8) (u4.get aM) aD
  have eR := (Jfo (T := (u2 * B64 + u1) * B64 + u0) (D := v1 * B64 + v0) (by have := Nat.mul_pos aD (show 0 < B64 by decide); omega)).1
  generalize Kv ((u2 * B64 + u1) * B64 + u0) (v1 * B64 + v0) = G at *
  have cu2 := s1.cell dD
  have cu1 := s1.cell aK
  have cu0 := s1.cell aL
  have cv1 := s7.cell t8
  have cv0 := s7.cell aM
  unfold Jk at cu2 cu1 cu0 cv1 cv0
  have HGQ := lh aA
  have HX := lh (And.intro bB (And.intro aB (And.intro eJ (And.intro eQ aN))))
  have HS := lh hS
  obtain ⟨a1, dE⟩ : ∃ a1, j + n = a1 := ⟨_, rfl⟩
  obtain ⟨a2, eS⟩ : ∃ a2, j + n - 1 = a2 := ⟨_, rfl⟩
  obtain ⟨a3, eT⟩ : ∃ a3, j + n - 2 = a3 := ⟨_, rfl⟩
  obtain ⟨a4, dF⟩ : ∃ a4, n - 1 = a4 := ⟨_, rfl⟩
  obtain ⟨a5, eU⟩ : ∃ a5, n - 2 = a5 := ⟨_, rfl⟩
  rw [dE] at cu2
  rw [eS] at cu1
  rw [eT] at cu0
  rw [dF] at cv1
  rw [eU] at cv0
  have r1 : (j : Int) + (n : Int) = (a1 : Int) := by omega
  have r2 : (a1 : Int) - 1 = (a2 : Int) := by omega
  have r3 : (a1 : Int) - 2 = (a3 : Int) := by omega
  have r4 : (n : Int) - 1 = (a4 : Int) := by omega
  have r5 : (n : Int) - 2 = (a5 : Int) := by omega
  have i5 : (a1 : Int) < (p1 : Int) := by have := HP1.out; omega
  have i6 : (a2 : Int) < (p1 : Int) := by have := HP1.out; omega
  have i7 : (a3 : Int) < (p1 : Int) := by have := HP1.out; omega
  have i8 : (a4 : Int) < (n : Int) := by omega
  have i9 : (a5 : Int) < (n : Int) := by omega
  have j1 : IntKind.i64.wrap (a1 : Int) = (a1 : Int) := IntWalk.i64_in _ (by omega)
  have j2 : IntKind.i64.wrap (a2 : Int) = (a2 : Int) := IntWalk.i64_in _ (by omega)
  have j3 : IntKind.i64.wrap (a3 : Int) = (a3 : Int) := IntWalk.i64_in _ (by omega)
  have j4 : IntKind.i64.wrap (a4 : Int) = (a4 : Int) := IntWalk.i64_in _ (by omega)
  have j5 : IntKind.i64.wrap (a5 : Int) = (a5 : Int) := IntWalk.i64_in _ (by omega)
  have HA := lh (And.intro dE (And.intro dF bE))
  have n5 : a1 < p1 := by omega
  have n6 : a2 < p1 := by omega
  have n7 : a3 < p1 := by omega
  have n8 : a4 < n := by omega
  have n9 : a5 < n := by omega
  clear dE eS eT dF eU
  clear aA bB aB eJ eQ aN hS s1 s2 s3 s4 s5 s6 s7 s8 dD aK aL t8 aM bA j8
  obtain ⟨X, dG⟩ : ∃ X, dv B64 lu = X := ⟨_, rfl⟩
  have o8 : dv B64 (lu.drop (j + n + 1)) = 0 := by
   apply Km HS.out.2.2.1 (by decide)
   refine Nat.lt_trans HX.out.2.1 ?_
   have e : B64 ^ (j + n + 1) = B64 ^ n * B64 ^ (j + 1) := by rw [<- Nat.pow_add]; congr 1; omega
   rw [e]
   exact Nat.mul_lt_mul_of_pos_right bP (Nat.pow_pos (by decide))
  rw [dG] at HX
  have HXE := lh (And.intro dG o8)
  clear dG o8
  go_wp2_with fail
  go_quiet ((go_at_call 179; refine Calls.quiet_of (HGQ.out _)))
  go_wp2_with fail
  clear HGQ cu2 cu1 cu0 cv1 cv0 r2 r3 r4 r5 i6 i7 i8 i9 j2 j3 j4 j5 n6 n7 n8 n9
  go_loopw [12, 13, 89] (fun c b i wx => ∃ t c' b' : Nat, t <= n /\ c' < 18446744073709551616 /\ b' <= 1 /\ i = .int .i64 (t : Int) /\ c = .int .u64 (c' : Int) /\ b = .int .u64 (b' : Int) /\ Jn1 w1 gu gq gv p m n lv lq X G j t c' b' wx) (fun _ _ i _ => n - (intOf i).toNat)
  case atStart =>
   refine ⟨0, 0, 0, Nat.zero_le _, by omega, by omega, rfl, rfl, rfl, lu, HS.out.drewN _, ?_, HXE.out.2⟩
   rw [List.take_zero, Up, HXE.out.1]
   simp
  case round =>
   obtain ⟨t, c, b, ht, fY, eV, rfl, rfl, rfl, lx, aO, bG, o9⟩ := hrel
   clear HS HXE
   obtain ⟨s1, s2, s3, s4, s5, s6, s7, s8⟩ := aO
   have aO : DvS w1 gu gq gv p m lv lx lq wr := ⟨s1, s2, s3, s4, s5, s6, s7, s8⟩
   have j8 := HV.out.2.2.2.1
   have bE := HA.out.2.2
   by_cases gM : t < n
   ·obtain ⟨y, hy⟩ : ∃ y, lv[t]? = some y := ⟨_, List.getElem?_eq_getElem (by omega)⟩
    obtain ⟨x, hx⟩ : ∃ x, lx[j + t]? = some x := ⟨_, List.getElem?_eq_getElem (by omega)⟩
    have dH : y < 18446744073709551616 := u4.get hy
    have fZ : x < 18446744073709551616 := s3.get hx
    have bH : G < 18446744073709551616 := eR
    have cy := s7.cell hy
    have cx := s1.cell hx
    have fx := s1.frozen (j + t)
    obtain ⟨hi, eW⟩ : ∃ hi, G * y / 18446744073709551616 = hi := ⟨_, rfl⟩
    obtain ⟨lo', eX⟩ : ∃ lo', G * y % 18446744073709551616 = lo' := ⟨_, rfl⟩
    obtain ⟨z1, eY⟩ : ∃ z1, (lo' + c) % 18446744073709551616 = z1 := ⟨_, rfl⟩
    obtain ⟨c1, eZ⟩ : ∃ c1, (lo' + c) / 18446744073709551616 = c1 := ⟨_, rfl⟩
    obtain ⟨S, bI⟩ : ∃ S, (x + 18446744073709551616 - z1 - b) % 18446744073709551616 = S := ⟨_, rfl⟩
    obtain ⟨b', t7⟩ : ∃ b', (if x < z1 + b then 1 else 0) = b' := ⟨_, rfl⟩
    obtain ⟨c', dI⟩ : ∃ c', hi + c1 = c' := ⟨_, rfl⟩
    have gA : z1 < 18446744073709551616 := by omega
    have dJ : S < 18446744073709551616 := by omega
    have bJ : b' <= 1 := by rw [<- t7]; split <;> omega
    have gB : G * y = hi * 18446744073709551616 + lo' := by omega
    have hm2 : z1 + 18446744073709551616 * c' = 0 + G * y + c := by omega
    have dK : c' < 18446744073709551616 := Jij (β := 18446744073709551616) (by omega) bH dH fY hm2
    have cB : S + z1 + b = x + 18446744073709551616 * b' := by
     rw [<- t7]
     split <;> omega
    have j0 : S + G * y + (c + b) = x + B64 * (c' + b') := by unfold B64; omega
    have e9 := Ut (β := B64) (l := lx) hx j0 bG
    have j6 : dv B64 (lx.set (j + t) S) + G * dv B64 (lv.take (t + 1)) * B64 ^ j = X + (c' + b') * B64 ^ (j + (t + 1)) := by
     rw [Js hy, Nat.mul_add, Nat.add_mul, <- Nat.add_assoc j t 1]
     have e1 : G * (y * B64 ^ t) * B64 ^ j = G * y * B64 ^ (j + t) := by rw [Nat.pow_add, <- Nat.mul_assoc, Nat.mul_assoc (G * y), Nat.mul_comm (B64 ^ t)]
     rw [e1]
     exact e9
    have e8 : Jn1 w1 gu gq gv p m n lv lq X G j (t + 1) c' b' (wr.setCell ⟨gu, j + t, none⟩ (Jk S)) :=
     ⟨_, aO.setU (j + t) S dJ bZ cA o0, j6, by rw [List.drop_set_of_lt (by omega)]; exact o9⟩
    have aE := Tryz.bits_Mul64 G y bH dH
    rw [eW, eX] at aE
    have dL : ∀ w, (callFunc 164 #[.int .u64 (lo' : Int), .int .u64 (c : Int), .int .u64 0]).run Tryz.prog w = .ok (.value (.tuple #[.int .u64 (z1 : Int), .int .u64 (c1 : Int)])) w := fun w => by
     have := Yl lo' c 0 (by omega) w
     rw [Nat.add_zero, eY, eZ] at this
     exact this
    have bK : ∀ w, (callFunc 173 #[.int .u64 (x : Int), .int .u64 (z1 : Int), .int .u64 (b : Int)]).run Tryz.prog w = .ok (.value (.tuple #[.int .u64 (S : Int), .int .u64 (b' : Int)])) w := fun w => by
     have := Jc8 x z1 b eV w
     rw [bI, t7] at this
     exact this
    have gN : IntKind.u64.wrap ((hi : Int) + (c1 : Int)) = (c' : Int) := by rw [Jd _ (by omega) (by omega)]; omega
    have HMUL := lh aE
    have HFIN := lh e8
    obtain ⟨a, ha⟩ : ∃ a, j + t = a := ⟨_, rfl⟩
    have ra : (j : Int) + (t : Int) = (a : Int) := by omega
    have rb : (a : Int) < (p1 : Int) := by have := HP1.out; omega
    have rc : (t : Int) < (n : Int) := by omega
    have rd : a < p1 := by omega
    rw [ha] at cx fx HFIN
    unfold Jk at cx cy
    clear eW eX eY eZ bI t7 dI gB hm2 cB j0 e9 j6 e8 aE hx hy s1 s2 s3 s4 s5 s6 s7 s8 aO bG o9 ha j8 bE
    go_wp2_with fail
    refine (HMUL.out _).mono ?_
    rintro e w9 ⟨rfl, rfl⟩
    go_wp2
    exact ⟨⟨t + 1, c', b', by omega, dK, bJ, by go_num, rfl, rfl, HFIN.out⟩, by simp [intOf]; omega⟩
   obtain rfl : t = n := by omega
   rw [HV.out.2.1] at bG
   obtain ⟨x, hx⟩ : ∃ x, lx[j + t]? = some x := ⟨_, List.getElem?_eq_getElem (by omega)⟩
   have fZ : x < 18446744073709551616 := s3.get hx
   have cx := s1.cell hx
   have fx := s1.frozen (j + t)
   obtain ⟨S, bI⟩ : ∃ S, (x + 18446744073709551616 - c - b) % 18446744073709551616 = S := ⟨_, rfl⟩
   obtain ⟨b', t7⟩ : ∃ b', (if x < c + b then 1 else 0) = b' := ⟨_, rfl⟩
   have dJ : S < 18446744073709551616 := by omega
   have bJ : b' <= 1 := by rw [<- t7]; split <;> omega
   have cB : S + 0 + (c + b) = x + B64 * b' := by
    unfold B64
    rw [<- t7]
    split <;> omega
   have e9 := Ut (β := B64) (l := lx) hx cB bG
   rw [Nat.zero_mul, Nat.add_zero] at e9
   have bK : ∀ w, (callFunc 173 #[.int .u64 (x : Int), .int .u64 (c : Int), .int .u64 (b : Int)]).run Tryz.prog w = .ok (.value (.tuple #[.int .u64 (S : Int), .int .u64 (b' : Int)])) w := fun w => by
    have := Jc8 x c b eV w
    rw [bI, t7] at this
    exact this
   have aP : DvS w1 gu gq gv p m lv (lx.set (j + t) S) lq (wr.setCell ⟨gu, j + t, none⟩ (Jk S)) := aO.setU (j + t) S dJ bZ cA o0
   have aF : dv B64 ((lx.set (j + t) S).drop (j + t + 1)) = 0 := by rw [List.drop_set_of_lt (by omega)]; exact o9
   obtain ⟨lz, fA⟩ : ∃ lz, lx.set (j + t) S = lz := ⟨_, rfl⟩
   rw [fA] at e9 aP aF
   have HS2 := lh (And.intro aP (And.intro e9 aF))
   have e1 := HA.out.1
   rw [e1] at cx fx HS2
   unfold Jk at cx HS2
   have rc : ¬ (t : Int) < (t : Int) := by omega
   clear bI t7 cB e9 hx s1 s2 s3 s4 s5 s6 s7 s8 aO bG o9 j8 bE aP aF fA e1
   go_upto_if 146 with fail
   go_cut [11] (fun v wc => Jm1 w1 gu gq gv p m lv lq X V j v wc)
   case first =>
    have bL : 0 < V * B64 ^ j := Nat.mul_pos (by rcases Nat.eq_zero_or_pos V with h | h; (subst h; have := HX.out.2.1; simp at this); exact h) (Nat.pow_pos (by decide))
    by_cases cC : b' = 0
    ·have gC : ((b' : Int) != 0) = false := by simp [cC]
     have e8 : Jm1 w1 gu gq gv p m lv lq X V j (.int .u64 (G : Int)) (wr.setCell ⟨gu, a1, none⟩ (.int .u64 (S : Int))) := by
      have h1 := HS2.out.2.1
      rw [cC, Nat.zero_mul, Nat.add_zero] at h1
      have h2 := Jed bL HX.out.2.2.2.1 h1
      exact ⟨G, lz, rfl, HS2.out.1, h2.1, h2.2⟩
     have HFIN := lh e8
     clear e8 cC
     go_wp2
     go_meet
     exact HFIN.out
    have gC : ((b' : Int) != 0) = true := by simp [bne_iff_ne]; omega
    have dM : b' = 1 := by omega
    obtain ⟨z1, z2, z3, z4, z5, z6, z7, z8⟩ := HS2.out.1
    have bE := HA.out.2.2
    have dN := HA.out.1
    have bM : dv B64 lz < B64 ^ (a1 + 1) := by
     have h1 := Xl (β := B64) (l := lz) (a1 + 1) (by omega)
     rw [HS2.out.2.2, Nat.mul_zero, Nat.add_zero] at h1
     rw [h1]
     have h2 := Xm (z3.take (a1 + 1))
     rw [List.length_take, Nat.min_eq_left (by omega)] at h2
     exact h2
    have gO : 0 < G := by
     rcases Nat.eq_zero_or_pos G with h | h
     ·have h1 := HS2.out.2.1
      rw [h, dM, Nat.zero_mul, Nat.zero_mul, Nat.one_mul] at h1
      omega
     exact h
    obtain ⟨X', fB⟩ : ∃ X', dv B64 lz = X' := ⟨_, rfl⟩
    have k1 : IntKind.u64.wrap ((G : Int) - 1) = ((G - 1 : Nat) : Int) := by
     have : G < 18446744073709551616 := eR
     rw [Jd _ (by omega) (by omega)]
     omega
    obtain ⟨G', dO⟩ : ∃ G', G - 1 = G' := ⟨_, rfl⟩
    rw [dO] at k1
    have HZ := lh (And.intro fB (And.intro bM (And.intro dO dM)))
    clear z1 z2 z3 z4 z5 z6 z7 z8 bM fB dO dM cC bK cx fx
    go_wp2_with fail
    go_loopw [19, 150] (fun cc i wx => ∃ t' c' : Nat, t' <= t /\ c' <= 1 /\ i = .int .i64 (t' : Int) /\ cc = .int .u64 (c' : Int) /\ Jn5 w1 gu gq gv p m t lv lq X' j t' c' wx) (fun _ i _ => t - (intOf i).toNat)
    case atStart =>
     refine ⟨0, 0, Nat.zero_le _, by omega, rfl, rfl, lz, HS2.out.1, ?_, ?_⟩
     ·rw [List.take_zero, Up, HZ.out.1]
      simp
     rw [dN]; exact HS2.out.2.2
    case round =>
     obtain ⟨t', c', bQ, dI, rfl, rfl, ly, aQ, aR, o9⟩ := hrel
     obtain ⟨s1, s2, s3, s4, s5, s6, s7, s8⟩ := aQ
     have aQ : DvS w1 gu gq gv p m lv ly lq wr := ⟨s1, s2, s3, s4, s5, s6, s7, s8⟩
     have j8 := HV.out.2.2.2.1
     by_cases dP : t' < t
     ·obtain ⟨y, hy⟩ : ∃ y, lv[t']? = some y := ⟨_, List.getElem?_eq_getElem (by omega)⟩
      obtain ⟨x2, cD⟩ : ∃ x2, ly[j + t']? = some x2 := ⟨_, List.getElem?_eq_getElem (by omega)⟩
      have dH : y < 18446744073709551616 := u4.get hy
      have gD : x2 < 18446744073709551616 := s3.get cD
      have cy := s7.cell hy
      have cx := s1.cell cD
      have fx := s1.frozen (j + t')
      obtain ⟨S2, aP⟩ : ∃ S2, (x2 + y + c') % 18446744073709551616 = S2 := ⟨_, rfl⟩
      obtain ⟨C, hC⟩ : ∃ C, (x2 + y + c') / 18446744073709551616 = C := ⟨_, rfl⟩
      have dQ : S2 < 18446744073709551616 := by omega
      have gE : C <= 1 := by omega
      have j0 : S2 + B64 * C = x2 + y + c' := by unfold B64; omega
      have e9 := Ua (β := B64) (l := ly) cD j0 aR
      have j6 : dv B64 (ly.set (j + t') S2) + C * B64 ^ (j + (t' + 1)) = X' + dv B64 (lv.take (t' + 1)) * B64 ^ j := by
       rw [Js hy, Nat.add_mul, <- Nat.add_assoc j t' 1, <- Nat.add_assoc]
       have e1 : y * B64 ^ t' * B64 ^ j = y * B64 ^ (j + t') := by rw [Nat.pow_add, Nat.mul_assoc, Nat.mul_comm (B64 ^ t')]
       rw [e1]
       exact e9
      have dL : ∀ w, (callFunc 164 #[.int .u64 (x2 : Int), .int .u64 (y : Int), .int .u64 (c' : Int)]).run Tryz.prog w = .ok (.value (.tuple #[.int .u64 (S2 : Int), .int .u64 (C : Int)])) w := fun w => by
       have := Yl x2 y c' dI w
       rw [aP, hC] at this
       exact this
      have e8 : ∀ nd, Jn5 w1 gu gq gv p m t lv lq X' j (t' + 1) C ((wr.drewN nd).setCell ⟨gu, j + t', none⟩ (Jk S2)) := fun nd =>
       ⟨_, (aQ.drewN nd).setU (j + t') S2 dQ bZ cA o0, j6, by rw [List.drop_set_of_lt (by omega)]; exact o9⟩
      have HFIN := lh e8
      obtain ⟨a, ha⟩ : ∃ a, j + t' = a := ⟨_, rfl⟩
      have ra : (j : Int) + (t' : Int) = (a : Int) := by omega
      have rb : (a : Int) < (p1 : Int) := by have := HP1.out; omega
      have rc2 : (t' : Int) < (t : Int) := by omega
      have rd : a < p1 := by have := HP1.out; omega
      have re : IntKind.i64.wrap (a : Int) = (a : Int) := IntWalk.i64_in _ (by omega)
      have rf : t' < t := dP
      rw [ha] at cx fx HFIN
      unfold Jk at cx cy
      clear aP hC j0 e9 j6 e8 cD hy s1 s2 s3 s4 s5 s6 s7 s8 aQ aR o9 ha j8
      go_wp2_with fail
      go_region
      go_wp2
      exact ⟨⟨t' + 1, C, by omega, gE, by go_num, rfl, HFIN.out 1⟩, by simp [intOf]; omega⟩
     have fC : t' = t := by omega
     rw [fC] at aR
     rw [HV.out.2.1, dN] at aR
     rw [dN] at o9
     obtain ⟨x3, p7⟩ : ∃ x3, ly[a1]? = some x3 := ⟨_, List.getElem?_eq_getElem (by omega)⟩
     have gF : x3 < 18446744073709551616 := s3.get p7
     have cx := s1.cell p7
     have fx := s1.frozen a1
     obtain ⟨S3, aG⟩ : ∃ S3, (x3 + c') % 18446744073709551616 = S3 := ⟨_, rfl⟩
     obtain ⟨C, hC⟩ : ∃ C, (x3 + c') / 18446744073709551616 = C := ⟨_, rfl⟩
     have bN : S3 < 18446744073709551616 := by omega
     have j0 : S3 + B64 * C = x3 + 0 + c' := by unfold B64; omega
     have e9 := Ua (β := B64) (l := ly) p7 j0 aR
     rw [Nat.zero_mul, Nat.add_zero] at e9
     have bU : IntKind.u64.wrap ((x3 : Int) + (c' : Int)) = (S3 : Int) := by
      rw [show (x3 : Int) + (c' : Int) = ((x3 + c' : Nat) : Int) from by omega, Jg, aG]
     have fD : dv B64 (ly.set a1 S3) < B64 ^ (a1 + 1) := by
      have h1 := Xl (β := B64) (l := ly.set a1 S3) (a1 + 1) (by rw [List.length_set]; omega)
      rw [List.drop_set_of_lt (by omega), o9, Nat.mul_zero, Nat.add_zero] at h1
      rw [h1]
      have h2 := Xm ((s3.set_ a1 bN).take (a1 + 1))
      rw [List.length_take, List.length_set, Nat.min_eq_left (by omega)] at h2
      exact h2
     have fE : V * B64 ^ j <= B64 ^ (a1 + 1) := by
      have e : B64 ^ (a1 + 1) = B64 ^ t * B64 ^ (j + 1) := by rw [<- Nat.pow_add]; congr 1; omega
      rw [e]
      exact Nat.mul_le_mul (Nat.le_of_lt bP) (Nat.pow_le_pow_right (by decide) (by omega))
     have he := HS2.out.2.1
     rw [HZ.out.1, HZ.out.2.2.2, Nat.one_mul] at he
     have aH := HZ.out.2.1
     rw [HZ.out.1] at aH
     have aI := Jee bL fE HX.out.2.2.2.2 he aH fD e9
     have e8 : Jm1 w1 gu gq gv p m lv lq X V j (.int .u64 (G' : Int)) (wr.setCell ⟨gu, a1, none⟩ (Jk S3)) :=
      ⟨G', ly.set a1 S3, rfl, aQ.setU a1 S3 bN bZ cA o0, by rw [<- HZ.out.2.2.1]; exact aI.2.1, aI.2.2⟩
     have HFIN := lh e8
     have rc2 : ¬ (t' : Int) < (t : Int) := by omega
     unfold Jk at cx
     clear aG hC j0 e9 fD fE he aH aI e8 p7 s1 s2 s3 s4 s5 s6 s7 s8 aQ aR o9 fC j8
     go_wp2
     go_meet
     exact HFIN.out
   case rest =>
    obtain ⟨G2, lu2, rfl, aG, aN, aJ⟩ := hcut
    obtain ⟨s1, s2, s3, s4, s5, s6, s7, s8⟩ := aG
    have aG : DvS w1 gu gq gv p m lv lu2 lq wc := ⟨s1, s2, s3, s4, s5, s6, s7, s8⟩
    have bL : 0 < V * B64 ^ j := Nat.mul_pos (by rcases Nat.eq_zero_or_pos V with h | h; (subst h; have := HX.out.2.1; simp at this); exact h) (Nat.pow_pos (by decide))
    obtain ⟨x3, p7⟩ : ∃ x3, lq[j]? = some x3 := ⟨_, List.getElem?_eq_getElem (by omega)⟩
    have dR : x3 = 0 := Ja2 (by decide) HX.out.2.2.1 (k := j) (by rw [List.getElem?_take, if_pos (by omega)]; exact p7)
    subst dR
    have cq := s4.cell p7
    have fq := s4.frozen j
    have dS : G2 < 18446744073709551616 := by
     rw [aN]
     have h1 : X / (V * B64 ^ j) < B64 := by
      rw [Nat.div_lt_iff_lt_mul bL]
      have := HX.out.2.1
      rw [Nat.pow_succ] at this
      rw [Nat.mul_comm B64, Nat.mul_assoc]
      exact this
     exact h1
    have dT := Yx (β := B64) G2 p7
    rw [Nat.zero_mul, Nat.add_zero] at dT
    have fF := Nat.div_add_mod X (V * B64 ^ j)
    rw [<- aN, <- aJ] at fF
    have e8 : Jm0 w1 gu gq gv p m lv U V j (wc.setCell ⟨gq, j, none⟩ (Jk G2)) := by
     refine ⟨lu2, lq.set j G2, aG.setQ j G2 dS fR fS cZ, ?_, ?_, ?_⟩
     ·rw [dT, HX.out.1, Nat.mul_add]
      have e : V * (G2 * B64 ^ j) = V * B64 ^ j * G2 := by rw [Nat.mul_comm G2, Nat.mul_assoc]
      rw [e]
      omega
     ·rw [aJ]
      exact Nat.mod_lt _ bL
     rw [List.take_set_of_le (by omega)]
     have h1 := Js (β := B64) p7
     rw [HX.out.2.2.1] at h1
     omega
    have HFIN := lh e8
    unfold Jk at cq
    have rj : (j : Int) < (m : Int) := by omega
    have rj2 : j < m := by omega
    clear aN aJ dT fF e8 p7 s1 s2 s3 s4 s5 s6 s7 s8 aG
    go_wp2
    exact ⟨⟨j, by omega, by go_num, HFIN.out⟩, by simp [intOf] <;> omega⟩
