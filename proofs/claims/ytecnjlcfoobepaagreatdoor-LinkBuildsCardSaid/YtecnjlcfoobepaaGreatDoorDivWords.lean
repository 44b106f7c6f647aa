import Derived.Test.YtecnjlcfoobepaaGreatDoorDivA
import Derived.Test.YtecnjlcfoobepaaGreatDoorShifts
import Derived.Deep.DeepCutAuto
import Derived.Deep.CutBlock
import Derived.RegionTactic
import Derived.BigRegion
import Derived.Deep.DeepMust
namespace Go.Proofs.YtecnjlcfoobepaaGreatDoor
set_option maxRecDepth 100000
set_option maxHeartbeats 2000000
open Go.RowKit
set_option linter.unusedSimpArgs false
set_option linter.unusedVariables false
theorem Tryz.sizeU64 : (Tryz.prog.info? 50).map (·.size) = some 1 := by kernel_rfl
theorem guess_quiet (u2 u1 u0 v1 v0 : Nat) (w : World) (h2 : u2 <= v1) (hu1 : u1 < 18446744073709551616) (hu0 : u0 < 18446744073709551616) (hv1 : v1 < 18446744073709551616) (hv0 : v0 < 18446744073709551616) (hpos : 0 < v1) :
  Calls Tryz.prog 165 #[.int .u64 (u2 : Int), .int .u64 (u1 : Int), .int .u64 (u0 : Int), .int .u64 (v1 : Int), .int .u64 (v0 : Int)] w fun e w' => e = .returned (.int .u64 ((guessF ((u2 * B64 + u1) * B64 + u0) (v1 * B64 + v0) : Nat) : Int)) /\ ∃ n, w' = w.drewN n := by
 refine (nat_guessWord u2 u1 u0 v1 v0 w h2 hu1 hu0 hv1 hv0 hpos).mono ?_
 rintro e w' ⟨g, n, rfl, hg, rfl⟩
 have hD : 0 < v1 * B64 + v0 := by
  have := Nat.mul_pos hpos (show 0 < B64 by decide)
  omega
 exact ⟨by rw [guess_unique hD hg], n, rfl⟩
def DvS (w : World) (gu gq gv p m : Nat) (lv lu lq : List Nat) (wr : World) : Prop :=
 Row wr gu 50 u64v lu /\ lu.length = p + 1 /\ Dig B64 lu /\ Row wr gq 50 u64v lq /\ lq.length = m /\ Dig B64 lq /\ Row wr gv 50 u64v lv /\ Below w.heap.size w wr
def DvRel (w : World) (gu gq gv p m : Nat) (lv : List Nat) (U V k : Nat) (wr : World) : Prop :=
 ∃ lu lq : List Nat, DvS w gu gq gv p m lv lu lq wr /\ U = V * dv B64 lq + dv B64 lu /\ dv B64 lu < V * B64 ^ k /\ dv B64 (lq.take k) = 0
theorem DvS.drewN {w wr : World} {gu gq gv p m : Nat} {lv lu lq : List Nat} (h : DvS w gu gq gv p m lv lu lq wr) (n : Nat) : DvS w gu gq gv p m lv lu lq (wr.drewN n) := by
 obtain ⟨h1, h2, h3, h4, h5, h6, h7, h8⟩ := h
 exact ⟨h1.drewN n, h2, h3, h4.drewN n, h5, h6, h7.drewN n, bdrewN h8 n⟩
theorem DvS.setU {w wr : World} {gu gq gv p m : Nat} {lv lu lq : List Nat} (h : DvS w gu gq gv p m lv lu lq wr) (k x : Nat) (hx : x < B64) (h1 : gq ≠ gu) (h2 : gv ≠ gu) (h3 : w.heap.size <= gu) : DvS w gu gq gv p m lv (lu.set k x) lq (wr.setCell ⟨gu, k, none⟩ (u64v x)) := by
 obtain ⟨a1, a2, a3, a4, a5, a6, a7, a8⟩ := h
 exact ⟨a1.set_ k x, by rw [List.length_set]; exact a2, a3.set_ k hx, a4.far h1 _, a5, a6, a7.far h2 _, a8.setCell h3 _⟩
theorem DvS.setQ {w wr : World} {gu gq gv p m : Nat} {lv lu lq : List Nat} (h : DvS w gu gq gv p m lv lu lq wr) (k x : Nat) (hx : x < B64) (h1 : gu ≠ gq) (h2 : gv ≠ gq) (h3 : w.heap.size <= gq) : DvS w gu gq gv p m lv lu (lq.set k x) (wr.setCell ⟨gq, k, none⟩ (u64v x)) := by
 obtain ⟨a1, a2, a3, a4, a5, a6, a7, a8⟩ := h
 exact ⟨a1.far h1 _, a2, a3, a4.set_ k x, by rw [List.length_set]; exact a5, a6.set_ k hx, a7.far h2 _, a8.setCell h3 _⟩
def MsRel (w : World) (gu gq gv p m n : Nat) (lv lq : List Nat) (X G j i c b : Nat) (wr : World) : Prop :=
 ∃ lu : List Nat, DvS w gu gq gv p m lv lu lq wr /\ dv B64 lu + G * dv B64 (lv.take i) * B64 ^ j = X + (c + b) * B64 ^ (j + i) /\ dv B64 (lu.drop (j + n + 1)) = 0
def AbRel (w : World) (gu gq gv p m n : Nat) (lv lq : List Nat) (X j i c : Nat) (wr : World) : Prop :=
 ∃ lu : List Nat, DvS w gu gq gv p m lv lu lq wr /\ dv B64 lu + c * B64 ^ (j + i) = X + dv B64 (lv.take i) * B64 ^ j /\ dv B64 (lu.drop (j + n + 1)) = 0
def DgRel (w : World) (gu gq gv p m : Nat) (lv lq : List Nat) (X V j : Nat) (v : Value) (wr : World) : Prop :=
 ∃ (G : Nat) (lu : List Nat), v = .int .u64 (G : Int) /\ DvS w gu gq gv p m lv lu lq wr /\ G = X / (V * B64 ^ j) /\ dv B64 lu = X % (V * B64 ^ j)
def DvPost (w : World) (X Y : Nat) (e : Ending) (w' : World) : Prop :=
 ∃ (gq m : Nat) (lq : List Nat) (A : Option Addr) (nr cr : Nat) (lr : List Nat), e = .returned (.tuple #[.slice (some ⟨gq, 0, none⟩) m m, .slice A nr cr]) /\
  Reads w' w'.heap.size 1 (some ⟨gq, 0, none⟩) m (lq.map u64v) /\ Dig B64 lq /\ dv B64 lq = X / Y /\ Reads w' w'.heap.size 1 A nr (lr.map u64v) /\ Dig B64 lr /\ dv B64 lr = X % Y /\ m <= 17179869186 /\ nr <= 17179869186 /\ nr <= cr /\ Below w.heap.size w w'
theorem nat_divWords (AX AY : Option Addr) (p n cX cY BX BY : Nat) (lX lY : List Nat) (w : World) (hX : Reads w BX 1 AX p (lX.map u64v)) (hY : Reads w BY 1 AY n (lY.map u64v)) (hBX : BX <= w.heap.size) (hBY : BY <= w.heap.size)
  (hdX : Dig B64 lX) (hdY : Dig B64 lY) (hp : p <= 17179869185) (hnp : n <= p) (hn : 2 <= n) (top : Nat) (htop : lY[n - 1]? = some top) (htop0 : 0 < top) :
  Calls Tryz.prog 143 #[.slice AX p cX, .slice AY n cY] w (DvPost w (dv B64 lX) (dv B64 lY)) := by
 have hlx := hX.lenf
 have hly := hY.lenf
 have htl := hdY.get htop
 unfold B64 at htl
 have hbt := blen_bounds top (by omega)
 have hb64 := blen_small top htl
 obtain ⟨s, hs⟩ : ∃ s, 64 - blen top = s := ⟨_, rfl⟩
 have hs64 : s < 64 := by omega
 have hbit : (64 : Int) - (Lib.bitLen (top : Int).toNat : Int) = (s : Int) := by
  rw [Int.toNat_natCast, bitLen_eq top htl]
  omega
 obtain ⟨V, hV⟩ : ∃ V, dv B64 lY * 2 ^ s = V := ⟨_, rfl⟩
 obtain ⟨U, hU⟩ : ∃ U, dv B64 lX * 2 ^ s = U := ⟨_, rfl⟩
 have hBn : B64 ^ n = B64 ^ (n - 1) * B64 := by rw [<- Nat.pow_succ]; congr 1; omega
 have hsplit : dv B64 lY = dv B64 (lY.take (n - 1)) + B64 ^ (n - 1) * top := by
  have h1 := dv_split (β := B64) (l := lY) (n - 1) (by omega)
  rw [dv_drop htop, dv_drop_out (by omega), Nat.mul_zero, Nat.add_zero] at h1
  exact h1
 have hlow : dv B64 (lY.take (n - 1)) < B64 ^ (n - 1) := by
  have h1 := dv_lt (hdY.take (n - 1))
  rw [List.length_take, Nat.min_eq_left (by omega)] at h1
  exact h1
 have hps : 0 < 2 ^ s := Nat.pow_pos (by omega)
 have hts1 : (top + 1) * 2 ^ s <= B64 := by
  have h1 := Nat.mul_le_mul_right (2 ^ s) (show top + 1 <= 2 ^ blen top from hbt.2.2)
  rw [<- Nat.pow_add, show blen top + s = 64 from by omega] at h1
  exact h1
 have hts2 : 9223372036854775808 <= top * 2 ^ s := by
  have h1 := Nat.mul_le_mul_right (2 ^ s) hbt.2.1
  rw [<- Nat.pow_add, show blen top - 1 + s = 63 from by omega] at h1
  exact h1
 have hVl : V < B64 ^ n := by
  rw [<- hV, hBn]
  have h1 : dv B64 lY < B64 ^ (n - 1) * (top + 1) := by rw [hsplit, Nat.mul_add, Nat.mul_one]; omega
  have h2 := Nat.mul_lt_mul_of_pos_right h1 hps
  refine Nat.lt_of_lt_of_le h2 ?_
  rw [Nat.mul_assoc]
  exact Nat.mul_le_mul_left _ hts1
 have hVg : B64 ^ (n - 1) * 9223372036854775808 <= V := by
  rw [<- hV, hsplit, Nat.add_mul, Nat.mul_assoc]
  exact nt (Nat.mul_le_mul_left _ hts2) (Nat.le_add_left _ _)
 have hUl : U < V * B64 ^ (p - n + 1) := by
  have h1 := dv_lt hdX
  rw [hlx] at h1
  have h2 := Nat.mul_lt_mul_of_pos_right h1 hps
  rw [hU] at h2
  have h3 : 2 ^ s <= 9223372036854775808 := Nat.pow_le_pow_right (by omega) (show s <= 63 by omega)
  have h4 : B64 ^ p * 2 ^ s <= B64 ^ p * 9223372036854775808 := Nat.mul_le_mul_left _ h3
  have h5 := Nat.mul_le_mul_right (B64 ^ (p - n + 1)) hVg
  have h6 : B64 ^ (n - 1) * 9223372036854775808 * B64 ^ (p - n + 1) = B64 ^ p * 9223372036854775808 := by
   rw [Nat.mul_right_comm, <- Nat.pow_add, show n - 1 + (p - n + 1) = p from by omega]
  rw [h6] at h5
  exact Nat.lt_of_lt_of_le (Nat.lt_of_lt_of_le h2 h4) h5
 have hVg2 : B64 ^ (n - 1) <= V := nt (Nat.le_mul_of_pos_right _ (by omega)) hVg
 clear hBn hsplit hlow hts1 hts2 hVg
 obtain ⟨adY, t', hAY, hbY, ht', hct⟩ := hY.atf (show n - 1 < n by omega)
 rw [htop] at ht'
 obtain rfl : top = t' := by simpa using ht'
 obtain ⟨m, hm⟩ : ∃ m, p - n + 1 = m := ⟨_, rfl⟩
 obtain ⟨p1, hp1⟩ : ∃ p1, p + 1 = p1 := ⟨_, rfl⟩
 have hmk1 := make_row (P := Tryz.prog) u64v 0 170 50 8 Tryz.underlying170 Tryz.infoU64 rfl .i64 .i64 p1 (by omega) (by omega)
 have hmk2 := make_row (P := Tryz.prog) u64v 0 170 50 8 Tryz.underlying170 Tryz.infoU64 rfl .i64 .i64 m (by omega) (by omega)
 have c1 : ((p : Int) + 1) = (p1 : Int) := by omega
 have HP1 := lh hp1
 have hp1b : p1 <= 17179869186 := by omega
 have hpp1 : p < p1 := by omega
 have c2 : (p : Int) - (n : Int) + 1 = (m : Int) := by omega
 have c3 : ((n : Int) - 1).toNat = n - 1 := by omega
 have c4 : (n : Int) - 1 < (n : Int) := by omega
 have c5 : (0 : Int) <= (n : Int) - 1 := by omega
 have HL := lh (And.intro hlx (And.intro hly (And.intro hm (And.intro hV hU))))
 have HB := lh hbit
 unfold u64v at hct
 subst hAY
 clear hlx hly hs hbt hb64 hbit hV hU ht' htop hp1
 go_enter Tryz.func143, Tryz.ntmps143
 go_wp2_with fail
 refine (Tryz.bits_LeadingZeros64 (top : Int) w (by omega) (by omega)).mono ?_
 rintro e w1 ⟨rfl, rfl⟩
 rw [HB.out]
 go_wp2_with fail
 refine (nat_shiftUp _ n cY BY s lY w1 hY hBY hdY (by omega) (by omega)).mono ?_
 rintro e w2 ⟨gv, lv, rfl, hlv, hrv, hdv, hvv, hbv, hgv⟩
 have hs0 : s / 64 = 0 := by omega
 rw [hs0, Nat.add_zero] at hlv ⊢
 have hX2 := hX.below (hbv.mono hBX)
 have hfront : ∀ w, (Instr.slice 170 (.slice (some ⟨gv, 0, none⟩) (n + 1) (n + 1)) none (some (.int .i64 (n : Int))) none).run Tryz.prog w = .ok (.slice (some ⟨gv, 0, none⟩) n (n + 1)) w := fun w => by
  have := run_front (P := Tryz.prog) Tryz.underlying170 Tryz.infoU64 (some ⟨gv, 0, none⟩) (n + 1) (n + 1) .i64 (n : Int) (by omega) (by omega) w
  simpa using this
 clear HB
 go_wp2_with fail
 have hru0 := Row.rep w2 50 u64v 0 p1
 have hbu := balloc1 w2 (.cells (Array.replicate p1 (u64v 0)) 50)
 obtain ⟨w3, hw3⟩ : ∃ w3, w2.alloc (.cells (Array.replicate p1 (u64v 0)) 50) = w3 := ⟨_, rfl⟩
 obtain ⟨gu, hgu⟩ : ∃ gu, w2.heap.size = gu := ⟨_, rfl⟩
 have hgv2 : gv < gu := by rw [<- hgu]; exact hrv.lt
 rw [hw3] at hru0 hbu
 rw [hw3]
 have hrv3 := hrv.below hbu hrv.lt
 have hX3 := hX2.below (hbu.mono (nt hBX hbv.size))
 rw [hgu] at hru0
 rw [hgu]
 have hB3 := bthen hbv hbu
 have hgu3 : w1.heap.size <= gu := by have := hbv.size; omega
 clear hw3 hgu hX2 hbu hmk1 c1
 refine (nat_shiftUp AX p cX BX s lX w3 hX3 (nt hBX hB3.size) hdX (by omega) (by omega)).mono ?_
 rintro e w4 ⟨gs, ls, rfl, hls, hrs, hds, hvs, hbs, hgs⟩
 rw [hs0, Nat.add_zero] at hls
 rw [hs0, Nat.add_zero, HP1.out]
 rw [HP1.out] at hls
 have hru4 := hru0.below hbs hru0.lt
 have hrv4 := hrv3.below hbs hrv3.lt
 have hB4 := bthen hB3 hbs
 have hgus : gu < gs := Nat.lt_of_lt_of_le hru0.lt hgs
 clear hru0 hrv3 hbs hB3 hX3 hrv hs0
 obtain ⟨w5, hcp, hru5, hb5⟩ : ∃ w5, (Builtin.copy_ #[170, 170] 3 #[.slice (some ⟨gu, 0, none⟩) p1 p1, .slice (some ⟨gs, 0, none⟩) p1 p1]).run Tryz.prog w4 = .ok (.int .i64 (p1 : Int)) w5 /\ Row w5 gu 50 u64v ls /\ Below gu w4 w5 := by
  have hg : w4.heap[gu]? = some (.cells ((List.replicate p1 0).map u64v).toArray 50 (0, 0)) := hru4
  have hrun := run_copy_row (P := Tryz.prog) w4 170 170 3 50 gu 0 p1 p1 ⟨gs, 0, none⟩ p1 p1 _ 50 (ls.map u64v) Tryz.underlying170 Tryz.sizeU64 hg (by simp [hls]) (fun j v hv => by
   obtain ⟨ad, e, hb, hc⟩ := hrs.reads.2 (by
    have := (List.getElem?_eq_some_iff.1 hv).1
    simp at this
    omega)
   injection e with e
   subst e
   exact hc j v hv) (by simp [hls]) (fun u hu => by
   simp at hu
   obtain ⟨x, _, rfl⟩ := hu
   rfl)
  have h2 : (List.map u64v (List.replicate p1 0)).toArray.toList.take 0 ++ ls.map u64v ++ (List.map u64v (List.replicate p1 0)).toArray.toList.drop (0 + (ls.map u64v).length) = ls.map u64v := by
   rw [List.drop_of_length_le (by simp [hls])]
   simp
  rw [h2] at hrun
  refine ⟨w4.setRow gu (ls.map u64v).toArray, ?_, setRow_heap w4 gu _ _ 50 _ hg, below_setRow (Below.refl gu w4) zd _⟩
  rw [hrun, List.length_map, hls]
  rfl
 have hrv5 := hrv4.below hb5 hgv2
 have hB5 : Below w1.heap.size w1 w5 := hB4.trans (hb5.mono hgu3)
 clear hb5 hru4 hrv4 hB4 hrs
 go_wp2_with fail
 have hrq0 := Row.rep w5 50 u64v 0 m
 have hbq := balloc1 w5 (.cells (Array.replicate m (u64v 0)) 50)
 have hru6 := hru5.below hbq hru5.lt
 have hrv6 := hrv5.below hbq hrv5.lt
 have hB6 := bthen hB5 hbq
 obtain ⟨w6, hw6⟩ : ∃ w6, w5.alloc (.cells (Array.replicate m (u64v 0)) 50) = w6 := ⟨_, rfl⟩
 obtain ⟨gq, hgq⟩ : ∃ gq, w5.heap.size = gq := ⟨_, rfl⟩
 have hguq : gu < gq := by rw [<- hgq]; exact hru5.lt
 rw [hw6] at hrq0 hru6 hrv6 hB6
 rw [hw6]
 rw [hgq] at hrq0
 rw [hgq]
 have hpn : (p : Int) - (n : Int) = (m : Int) - 1 := by have := HL.out.2.2.1; omega
 rw [hpn]
 have hVv : dv B64 lv = V := by rw [<- HL.out.2.2.2.1]; exact hvv
 have hUv : dv B64 ls = U := by rw [<- HL.out.2.2.2.2]; exact hvs
 have hmm : p - n + 1 = m := HL.out.2.2.1
 have hvtop : dv B64 (lv.drop n) = 0 := dv_high hdv (by decide) (by rw [hVv]; exact hVl)
 have hvn : dv B64 (lv.take n) = V := by
  have h1 := dv_split (β := B64) (l := lv) n (by omega)
  rw [hvtop, Nat.mul_zero, Nat.add_zero, hVv] at h1
  exact h1.symm
 have hg1 : gq ≠ gu := by omega
 have hg2 : gv ≠ gu := by omega
 have hg3 : gu ≠ gq := by omega
 have hg4 : gv ≠ gq := by omega
 have hgq1 : w1.heap.size <= gq := by omega
 have HV := lh (And.intro hVv (And.intro hvn (And.intro hmm (And.intro hlv hvtop))))
 have hmp : m <= 17179869186 := by omega
 have hstart : DvRel w1 gu gq gv p m lv U V m w6 := by
  refine ⟨ls, List.replicate m 0, ⟨hru6, by rw [hls]; exact HP1.out.symm, hds, hrq0, by simp, Dig.rep (by decide) _, hrv6, hB6⟩, ?_, ?_, ?_⟩
  ·rw [dv_rep, Nat.mul_zero, Nat.zero_add, hUv]
  ·rw [hUv, <- hmm]; exact hUl
  rw [List.take_of_length_le (by simp), dv_rep]
 have HST := lh hstart
 clear hw6 hgq hpn hVv hUv hmm hvn hrq0 hru6 hrv6 hB6 hbq hru5 hrv5 hB5 hcp hstart hvtop hmk2 c2 hvv hvs hUl hlv
 go_loopw [10] (fun i wr => ∃ k : Nat, k <= m /\ i = .int .i64 ((k : Int) - 1) /\ DvRel w1 gu gq gv p m lv U V k wr) (fun i _ => (intOf i + 1).toNat)
 case atStart => exact ⟨m, Nat.le_refl _, rfl, HST.out⟩
 case round =>
  obtain ⟨k, hk, rfl, lu, lq, hS, hUe, hXl, hq0⟩ := hrel
  clear HST
  by_cases hk0 : k = 0
  ·subst hk0
   obtain ⟨s1, s2, s3, s4, s5, s6, s7, s8⟩ := hS
   rw [Nat.pow_zero, Nat.mul_one] at hXl
   have hY0 : 0 < dv B64 lY := by
    rcases Nat.eq_zero_or_pos (dv B64 lY) with h | h
    ·have := HL.out.2.2.2.1
     rw [h, Nat.zero_mul] at this
     omega
    exact h
   have hquo : dv B64 lq = dv B64 lX / dv B64 lY := by
    have h1 : U / V = dv B64 lq := by rw [hUe, Nat.mul_comm, Nat.add_comm, Nat.add_mul_div_right _ _ (by omega), Nat.div_eq_of_lt hXl, Nat.zero_add]
    rw [<- h1, <- HL.out.2.2.2.1, <- HL.out.2.2.2.2, Nat.mul_div_mul_right _ _ hps]
   have hrem : dv B64 lu = dv B64 lX % dv B64 lY * 2 ^ s := by
    have h1 : U % V = dv B64 lu := by rw [hUe, Nat.mul_add_mod, Nat.mod_eq_of_lt hXl]
    rw [<- h1, <- HL.out.2.2.2.1, <- HL.out.2.2.2.2, Nat.mul_mod_mul_right]
   have hlu : dv B64 (lu.take n) = dv B64 lu := by
    rw [<- dv_mod s3 (by decide), Nat.mod_eq_of_lt (Nat.lt_trans hXl hVl)]
   have hrow := s1.reads
   rw [s2] at hrow
   have hrd := Reads.front hrow (k := n) (by omega)
   rw [Nat.mul_one, <- List.map_take] at hrd
   have hfr : ∀ w, (Instr.slice 170 (.slice (some ⟨gu, 0, none⟩) p1 p1) none (some (.int .i64 (n : Int))) none).run Tryz.prog w = .ok (.slice (some ⟨gu, 0, none⟩) n p1) w := fun w => by
    have := run_front (P := Tryz.prog) Tryz.underlying170 Tryz.infoU64 (some ⟨gu, 0, none⟩) p1 p1 .i64 (n : Int) (by omega) (by omega) w
    simpa using this
   have hsd := nat_shiftDown (some ⟨gu, 0, none⟩) n p1 _ s (lu.take n) wr hrd s1.lt (s3.take n) (by omega) (by omega) (by omega)
   have HSD := lh hsd
   have HQ := lh (And.intro hquo (And.intro hrem hlu))
   clear hquo hrem hlu hrow hrd hsd hUe
   go_wp2_with fail
   refine HSD.out.mono ?_
   rintro e w7 ⟨gr, lr, rfl, hlr, hrr, hdr, hvr, hbr, hgr⟩
   have hr4 := s4.below hbr s4.lt
   have hrq := hr4.reads
   rw [s5] at hrq
   have hrr2 := hrr.reads
   rw [hlr] at hrr2
   have hB7 := bthen s8 hbr
   rw [show s / 64 = 0 from by omega, Nat.sub_zero] at hrr2
   rw [show s / 64 = 0 from by omega, Nat.sub_zero]
   have hfin : DvPost w1 (dv B64 lX) (dv B64 lY) (.returned (.tuple #[.slice (some ⟨gq, 0, none⟩) m m, .slice (some ⟨gr, 0, none⟩) n n])) w7 := by
    refine ⟨gq, m, lq, _, n, n, lr, rfl, hrq.more hr4.lt, s6, HQ.out.1, hrr2.more hrr.lt, hdr, ?_, by omega, by omega, Nat.le_refl _, hB7⟩
    have h1 : dv B64 lr = dv B64 (lu.take n) / 2 ^ s := hvr
    rw [h1, HQ.out.2.2, HQ.out.2.1, Nat.mul_div_cancel _ hps]
   have HFIN := lh hfin
   clear hfin hrq hrr2 hr4 hvr hlr hfr
   go_wp2
   go_ret2
   exact HFIN.out
  obtain ⟨j, rfl⟩ : ∃ j, k = j + 1 := ⟨k - 1, by omega⟩
  rw [show (((j + 1 : Nat) : Int) - 1) = (j : Int) from by omega]
  obtain ⟨s1, s2, s3, s4, s5, s6, s7, s8⟩ := hS
  have hS : DvS w1 gu gq gv p m lv lu lq wr := ⟨s1, s2, s3, s4, s5, s6, s7, s8⟩
  have hmm := HV.out.2.2.1
  have hjn : j + n <= p := by omega
  obtain ⟨u2, hu2⟩ : ∃ u2, lu[j + n]? = some u2 := ⟨_, List.getElem?_eq_getElem (by omega)⟩
  obtain ⟨u1, hu1⟩ : ∃ u1, lu[j + n - 1]? = some u1 := ⟨_, List.getElem?_eq_getElem (by omega)⟩
  obtain ⟨u0, hu0⟩ : ∃ u0, lu[j + n - 2]? = some u0 := ⟨_, List.getElem?_eq_getElem (by omega)⟩
  have hlvl := HV.out.2.2.2.1
  obtain ⟨v1, hv1⟩ : ∃ v1, lv[n - 1]? = some v1 := ⟨_, List.getElem?_eq_getElem (by omega)⟩
  obtain ⟨v0, hv0⟩ : ∃ v0, lv[n - 2]? = some v0 := ⟨_, List.getElem?_eq_getElem (by omega)⟩
  have hv1p : 0 < v1 := by
   have h1 := dv_div hdv (by decide) (n - 1)
   have h2 : dv B64 lv / B64 ^ (n - 1) = v1 := by
    have h3 : dv B64 (lv.drop (n - 1)) = v1 := by
     rw [dv_drop hv1, show n - 1 + 1 = n from by omega, HV.out.2.2.2.2, Nat.mul_zero, Nat.add_zero]
    rw [<- h3]
    exact h1
   rw [HV.out.1] at h2
   rw [<- h2]
   exact (Nat.div_pos hVg2 (Nat.pow_pos (by decide)))
  have hfit := guess_fits (lu := lu) (lv := lv.take n) (j := j) (n := n) s3 (hdv.take n) (by rw [List.length_take]; omega) hn hu2 hu1 hu0 (by rw [List.getElem?_take, if_pos (by omega)]; exact hv1) (by rw [List.getElem?_take, if_pos (by omega)]; exact hv0) hv1p (by rw [HV.out.2.1]; exact hXl)
  rw [HV.out.2.1] at hfit
  obtain ⟨hle, hG1, hG2⟩ := hfit
  have hgq := fun w => guess_quiet u2 u1 u0 v1 v0 w hle (s3.get hu1) (s3.get hu0) (hdv.get hv1) (hdv.get hv0) hv1p
  have hGl := (guessF_ok (T := (u2 * B64 + u1) * B64 + u0) (D := v1 * B64 + v0) (by have := Nat.mul_pos hv1p (show 0 < B64 by decide); omega)).1
  generalize guessF ((u2 * B64 + u1) * B64 + u0) (v1 * B64 + v0) = G at *
  have cu2 := s1.cell hu2
  have cu1 := s1.cell hu1
  have cu0 := s1.cell hu0
  have cv1 := s7.cell hv1
  have cv0 := s7.cell hv0
  unfold u64v at cu2 cu1 cu0 cv1 cv0
  have HGQ := lh hgq
  have HX := lh (And.intro hUe (And.intro hXl (And.intro hq0 (And.intro hG1 hG2))))
  have HS := lh hS
  obtain ⟨a1, ha1⟩ : ∃ a1, j + n = a1 := ⟨_, rfl⟩
  obtain ⟨a2, ha2⟩ : ∃ a2, j + n - 1 = a2 := ⟨_, rfl⟩
  obtain ⟨a3, ha3⟩ : ∃ a3, j + n - 2 = a3 := ⟨_, rfl⟩
  obtain ⟨a4, ha4⟩ : ∃ a4, n - 1 = a4 := ⟨_, rfl⟩
  obtain ⟨a5, ha5⟩ : ∃ a5, n - 2 = a5 := ⟨_, rfl⟩
  rw [ha1] at cu2
  rw [ha2] at cu1
  rw [ha3] at cu0
  rw [ha4] at cv1
  rw [ha5] at cv0
  have r1 : (j : Int) + (n : Int) = (a1 : Int) := by omega
  have r2 : (a1 : Int) - 1 = (a2 : Int) := by omega
  have r3 : (a1 : Int) - 2 = (a3 : Int) := by omega
  have r4 : (n : Int) - 1 = (a4 : Int) := by omega
  have r5 : (n : Int) - 2 = (a5 : Int) := by omega
  have i5 : (a1 : Int) < (p1 : Int) := by have := HP1.out; omega
  have i6 : (a2 : Int) < (p1 : Int) := by have := HP1.out; omega
  have i7 : (a3 : Int) < (p1 : Int) := by have := HP1.out; omega
  have i8 : (a4 : Int) < (n : Int) := by omega
  have i9 : (a5 : Int) < (n : Int) := by omega
  have j1 : IntKind.i64.wrap (a1 : Int) = (a1 : Int) := IntWalk.i64_in _ (by omega)
  have j2 : IntKind.i64.wrap (a2 : Int) = (a2 : Int) := IntWalk.i64_in _ (by omega)
  have j3 : IntKind.i64.wrap (a3 : Int) = (a3 : Int) := IntWalk.i64_in _ (by omega)
  have j4 : IntKind.i64.wrap (a4 : Int) = (a4 : Int) := IntWalk.i64_in _ (by omega)
  have j5 : IntKind.i64.wrap (a5 : Int) = (a5 : Int) := IntWalk.i64_in _ (by omega)
  have HA := lh (And.intro ha1 (And.intro ha4 hjn))
  have n5 : a1 < p1 := by omega
  have n6 : a2 < p1 := by omega
  have n7 : a3 < p1 := by omega
  have n8 : a4 < n := by omega
  have n9 : a5 < n := by omega
  clear ha1 ha2 ha3 ha4 ha5
  clear hgq hUe hXl hq0 hG1 hG2 hS s1 s2 s3 s4 s5 s6 s7 s8 hu2 hu1 hu0 hv1 hv0 hmm hlvl
  obtain ⟨X, hXe⟩ : ∃ X, dv B64 lu = X := ⟨_, rfl⟩
  have htop0' : dv B64 (lu.drop (j + n + 1)) = 0 := by
   apply dv_high HS.out.2.2.1 (by decide)
   refine Nat.lt_trans HX.out.2.1 ?_
   have e : B64 ^ (j + n + 1) = B64 ^ n * B64 ^ (j + 1) := by rw [<- Nat.pow_add]; congr 1; omega
   rw [e]
   exact Nat.mul_lt_mul_of_pos_right hVl (Nat.pow_pos (by decide))
  rw [hXe] at HX
  have HXE := lh (And.intro hXe htop0')
  clear hXe htop0'
  go_wp2_with fail
  go_quiet ((go_at_call 165; refine Calls.quiet_of (HGQ.out _)))
  go_wp2_with fail
  clear HGQ cu2 cu1 cu0 cv1 cv0 r2 r3 r4 r5 i6 i7 i8 i9 j2 j3 j4 j5 n6 n7 n8 n9
  go_loopw [12, 13, 89] (fun c b i wx => ∃ t c' b' : Nat, t <= n /\ c' < 18446744073709551616 /\ b' <= 1 /\ i = .int .i64 (t : Int) /\ c = .int .u64 (c' : Int) /\ b = .int .u64 (b' : Int) /\ MsRel w1 gu gq gv p m n lv lq X G j t c' b' wx) (fun _ _ i _ => n - (intOf i).toNat)
  case atStart =>
   refine ⟨0, 0, 0, Nat.zero_le _, by omega, by omega, rfl, rfl, rfl, lu, HS.out.drewN _, ?_, HXE.out.2⟩
   rw [List.take_zero, dv_nil, HXE.out.1]
   simp
  case round =>
   obtain ⟨t, c, b, ht, hcl, hbl, rfl, rfl, rfl, lx, hSx, hms, htp⟩ := hrel
   clear HS HXE
   obtain ⟨s1, s2, s3, s4, s5, s6, s7, s8⟩ := hSx
   have hSx : DvS w1 gu gq gv p m lv lx lq wr := ⟨s1, s2, s3, s4, s5, s6, s7, s8⟩
   have hlvl := HV.out.2.2.2.1
   have hjn := HA.out.2.2
   by_cases htn : t < n
   ·obtain ⟨y, hy⟩ : ∃ y, lv[t]? = some y := ⟨_, List.getElem?_eq_getElem (by omega)⟩
    obtain ⟨x, hx⟩ : ∃ x, lx[j + t]? = some x := ⟨_, List.getElem?_eq_getElem (by omega)⟩
    have hyl : y < 18446744073709551616 := hdv.get hy
    have hxl : x < 18446744073709551616 := s3.get hx
    have hGl' : G < 18446744073709551616 := hGl
    have cy := s7.cell hy
    have cx := s1.cell hx
    have fx := s1.frozen (j + t)
    obtain ⟨hi, hhi⟩ : ∃ hi, G * y / 18446744073709551616 = hi := ⟨_, rfl⟩
    obtain ⟨lo', hlo⟩ : ∃ lo', G * y % 18446744073709551616 = lo' := ⟨_, rfl⟩
    obtain ⟨z1, hz1⟩ : ∃ z1, (lo' + c) % 18446744073709551616 = z1 := ⟨_, rfl⟩
    obtain ⟨c1, hc1⟩ : ∃ c1, (lo' + c) / 18446744073709551616 = c1 := ⟨_, rfl⟩
    obtain ⟨S, hS'⟩ : ∃ S, (x + 18446744073709551616 - z1 - b) % 18446744073709551616 = S := ⟨_, rfl⟩
    obtain ⟨b', hb'⟩ : ∃ b', (if x < z1 + b then 1 else 0) = b' := ⟨_, rfl⟩
    obtain ⟨c', hc'⟩ : ∃ c', hi + c1 = c' := ⟨_, rfl⟩
    have hz1l : z1 < 18446744073709551616 := by omega
    have hSl : S < 18446744073709551616 := by omega
    have hb'l : b' <= 1 := by rw [<- hb']; split <;> omega
    have hm1 : G * y = hi * 18446744073709551616 + lo' := by omega
    have hm2 : z1 + 18446744073709551616 * c' = 0 + G * y + c := by omega
    have hc'l : c' < 18446744073709551616 := carry_lt (β := 18446744073709551616) (by omega) hGl' hyl hcl hm2
    have hsb : S + z1 + b = x + 18446744073709551616 * b' := by
     rw [<- hb']
     split <;> omega
    have hkey : S + G * y + (c + b) = x + B64 * (c' + b') := by unfold B64; omega
    have hnew := sub_step (β := B64) (l := lx) hx hkey hms
    have hnew2 : dv B64 (lx.set (j + t) S) + G * dv B64 (lv.take (t + 1)) * B64 ^ j = X + (c' + b') * B64 ^ (j + (t + 1)) := by
     rw [dv_take_succ hy, Nat.mul_add, Nat.add_mul, <- Nat.add_assoc j t 1]
     have e1 : G * (y * B64 ^ t) * B64 ^ j = G * y * B64 ^ (j + t) := by rw [Nat.pow_add, <- Nat.mul_assoc, Nat.mul_assoc (G * y), Nat.mul_comm (B64 ^ t)]
     rw [e1]
     exact hnew
    have hfin : MsRel w1 gu gq gv p m n lv lq X G j (t + 1) c' b' (wr.setCell ⟨gu, j + t, none⟩ (u64v S)) :=
     ⟨_, hSx.setU (j + t) S hSl hg1 hg2 hgu3, hnew2, by rw [List.drop_set_of_lt (by omega)]; exact htp⟩
    have hmul := Tryz.bits_Mul64 G y hGl' hyl
    rw [hhi, hlo] at hmul
    have hadd : ∀ w, (callFunc 155 #[.int .u64 (lo' : Int), .int .u64 (c : Int), .int .u64 0]).run Tryz.prog w = .ok (.value (.tuple #[.int .u64 (z1 : Int), .int .u64 (c1 : Int)])) w := fun w => by
     have := run_add lo' c 0 (by omega) w
     rw [Nat.add_zero, hz1, hc1] at this
     exact this
    have hsub : ∀ w, (callFunc 166 #[.int .u64 (x : Int), .int .u64 (z1 : Int), .int .u64 (b : Int)]).run Tryz.prog w = .ok (.value (.tuple #[.int .u64 (S : Int), .int .u64 (b' : Int)])) w := fun w => by
     have := run_sub x z1 b hbl w
     rw [hS', hb'] at this
     exact this
    have hw1 : IntKind.u64.wrap ((hi : Int) + (c1 : Int)) = (c' : Int) := by rw [wrap_u64_of _ (by omega) (by omega)]; omega
    have HMUL := lh hmul
    have HFIN := lh hfin
    obtain ⟨a, ha⟩ : ∃ a, j + t = a := ⟨_, rfl⟩
    have ra : (j : Int) + (t : Int) = (a : Int) := by omega
    have rb : (a : Int) < (p1 : Int) := by have := HP1.out; omega
    have rc : (t : Int) < (n : Int) := by omega
    have rd : a < p1 := by omega
    rw [ha] at cx fx HFIN
    unfold u64v at cx cy
    clear hhi hlo hz1 hc1 hS' hb' hc' hm1 hm2 hsb hkey hnew hnew2 hfin hmul hx hy s1 s2 s3 s4 s5 s6 s7 s8 hSx hms htp ha hlvl hjn
    go_wp2_with fail
    refine (HMUL.out _).mono ?_
    rintro e w9 ⟨rfl, rfl⟩
    go_wp2
    exact ⟨⟨t + 1, c', b', by omega, hc'l, hb'l, by go_num, rfl, rfl, HFIN.out⟩, by simp [intOf]; omega⟩
   obtain rfl : t = n := by omega
   rw [HV.out.2.1] at hms
   obtain ⟨x, hx⟩ : ∃ x, lx[j + t]? = some x := ⟨_, List.getElem?_eq_getElem (by omega)⟩
   have hxl : x < 18446744073709551616 := s3.get hx
   have cx := s1.cell hx
   have fx := s1.frozen (j + t)
   obtain ⟨S, hS'⟩ : ∃ S, (x + 18446744073709551616 - c - b) % 18446744073709551616 = S := ⟨_, rfl⟩
   obtain ⟨b', hb'⟩ : ∃ b', (if x < c + b then 1 else 0) = b' := ⟨_, rfl⟩
   have hSl : S < 18446744073709551616 := by omega
   have hb'l : b' <= 1 := by rw [<- hb']; split <;> omega
   have hsb : S + 0 + (c + b) = x + B64 * b' := by
    unfold B64
    rw [<- hb']
    split <;> omega
   have hnew := sub_step (β := B64) (l := lx) hx hsb hms
   rw [Nat.zero_mul, Nat.add_zero] at hnew
   have hsub : ∀ w, (callFunc 166 #[.int .u64 (x : Int), .int .u64 (c : Int), .int .u64 (b : Int)]).run Tryz.prog w = .ok (.value (.tuple #[.int .u64 (S : Int), .int .u64 (b' : Int)])) w := fun w => by
    have := run_sub x c b hbl w
    rw [hS', hb'] at this
    exact this
   have hS2 : DvS w1 gu gq gv p m lv (lx.set (j + t) S) lq (wr.setCell ⟨gu, j + t, none⟩ (u64v S)) := hSx.setU (j + t) S hSl hg1 hg2 hgu3
   have htp2 : dv B64 ((lx.set (j + t) S).drop (j + t + 1)) = 0 := by rw [List.drop_set_of_lt (by omega)]; exact htp
   obtain ⟨lz, hlz⟩ : ∃ lz, lx.set (j + t) S = lz := ⟨_, rfl⟩
   rw [hlz] at hnew hS2 htp2
   have HS2 := lh (And.intro hS2 (And.intro hnew htp2))
   have e1 := HA.out.1
   rw [e1] at cx fx HS2
   unfold u64v at cx HS2
   have rc : ¬ (t : Int) < (t : Int) := by omega
   clear hS' hb' hsb hnew hx s1 s2 s3 s4 s5 s6 s7 s8 hSx hms htp hlvl hjn hS2 htp2 hlz e1
   go_upto_if 146 with fail
   go_cut [11] (fun v wc => DgRel w1 gu gq gv p m lv lq X V j v wc)
   case first =>
    have hVP : 0 < V * B64 ^ j := Nat.mul_pos (by rcases Nat.eq_zero_or_pos V with h | h; (subst h; have := HX.out.2.1; simp at this); exact h) (Nat.pow_pos (by decide))
    by_cases hb0 : b' = 0
    ·have hb2 : ((b' : Int) != 0) = false := by simp [hb0]
     have hfin : DgRel w1 gu gq gv p m lv lq X V j (.int .u64 (G : Int)) (wr.setCell ⟨gu, a1, none⟩ (.int .u64 (S : Int))) := by
      have h1 := HS2.out.2.1
      rw [hb0, Nat.zero_mul, Nat.add_zero] at h1
      have h2 := digit_fits hVP HX.out.2.2.2.1 h1
      exact ⟨G, lz, rfl, HS2.out.1, h2.1, h2.2⟩
     have HFIN := lh hfin
     clear hfin hb0
     go_wp2
     go_meet
     exact HFIN.out
    have hb2 : ((b' : Int) != 0) = true := by simp [bne_iff_ne]; omega
    have hb1 : b' = 1 := by omega
    obtain ⟨z1, z2, z3, z4, z5, z6, z7, z8⟩ := HS2.out.1
    have hjn := HA.out.2.2
    have hja := HA.out.1
    have hlzM : dv B64 lz < B64 ^ (a1 + 1) := by
     have h1 := dv_split (β := B64) (l := lz) (a1 + 1) (by omega)
     rw [HS2.out.2.2, Nat.mul_zero, Nat.add_zero] at h1
     rw [h1]
     have h2 := dv_lt (z3.take (a1 + 1))
     rw [List.length_take, Nat.min_eq_left (by omega)] at h2
     exact h2
    have hG0 : 0 < G := by
     rcases Nat.eq_zero_or_pos G with h | h
     ·have h1 := HS2.out.2.1
      rw [h, hb1, Nat.zero_mul, Nat.zero_mul, Nat.one_mul] at h1
      omega
     exact h
    obtain ⟨X', hX'⟩ : ∃ X', dv B64 lz = X' := ⟨_, rfl⟩
    have k1 : IntKind.u64.wrap ((G : Int) - 1) = ((G - 1 : Nat) : Int) := by
     have : G < 18446744073709551616 := hGl
     rw [wrap_u64_of _ (by omega) (by omega)]
     omega
    obtain ⟨G', hG'⟩ : ∃ G', G - 1 = G' := ⟨_, rfl⟩
    rw [hG'] at k1
    have HZ := lh (And.intro hX' (And.intro hlzM (And.intro hG' hb1)))
    clear z1 z2 z3 z4 z5 z6 z7 z8 hlzM hX' hG' hb1 hb0 hsub cx fx
    go_wp2_with fail
    go_loopw [19, 150] (fun cc i wx => ∃ t' c' : Nat, t' <= t /\ c' <= 1 /\ i = .int .i64 (t' : Int) /\ cc = .int .u64 (c' : Int) /\ AbRel w1 gu gq gv p m t lv lq X' j t' c' wx) (fun _ i _ => t - (intOf i).toNat)
    case atStart =>
     refine ⟨0, 0, Nat.zero_le _, by omega, rfl, rfl, lz, HS2.out.1, ?_, ?_⟩
     ·rw [List.take_zero, dv_nil, HZ.out.1]
      simp
     rw [hja]; exact HS2.out.2.2
    case round =>
     obtain ⟨t', c', ht', hc', rfl, rfl, ly, hSy, hab, htp⟩ := hrel
     obtain ⟨s1, s2, s3, s4, s5, s6, s7, s8⟩ := hSy
     have hSy : DvS w1 gu gq gv p m lv ly lq wr := ⟨s1, s2, s3, s4, s5, s6, s7, s8⟩
     have hlvl := HV.out.2.2.2.1
     by_cases htn2 : t' < t
     ·obtain ⟨y, hy⟩ : ∃ y, lv[t']? = some y := ⟨_, List.getElem?_eq_getElem (by omega)⟩
      obtain ⟨x2, hx2⟩ : ∃ x2, ly[j + t']? = some x2 := ⟨_, List.getElem?_eq_getElem (by omega)⟩
      have hyl : y < 18446744073709551616 := hdv.get hy
      have hx2l : x2 < 18446744073709551616 := s3.get hx2
      have cy := s7.cell hy
      have cx := s1.cell hx2
      have fx := s1.frozen (j + t')
      obtain ⟨S2, hS2⟩ : ∃ S2, (x2 + y + c') % 18446744073709551616 = S2 := ⟨_, rfl⟩
      obtain ⟨C, hC⟩ : ∃ C, (x2 + y + c') / 18446744073709551616 = C := ⟨_, rfl⟩
      have hS2l : S2 < 18446744073709551616 := by omega
      have hC1 : C <= 1 := by omega
      have hkey : S2 + B64 * C = x2 + y + c' := by unfold B64; omega
      have hnew := add_step (β := B64) (l := ly) hx2 hkey hab
      have hnew2 : dv B64 (ly.set (j + t') S2) + C * B64 ^ (j + (t' + 1)) = X' + dv B64 (lv.take (t' + 1)) * B64 ^ j := by
       rw [dv_take_succ hy, Nat.add_mul, <- Nat.add_assoc j t' 1, <- Nat.add_assoc]
       have e1 : y * B64 ^ t' * B64 ^ j = y * B64 ^ (j + t') := by rw [Nat.pow_add, Nat.mul_assoc, Nat.mul_comm (B64 ^ t')]
       rw [e1]
       exact hnew
      have hadd : ∀ w, (callFunc 155 #[.int .u64 (x2 : Int), .int .u64 (y : Int), .int .u64 (c' : Int)]).run Tryz.prog w = .ok (.value (.tuple #[.int .u64 (S2 : Int), .int .u64 (C : Int)])) w := fun w => by
       have := run_add x2 y c' hc' w
       rw [hS2, hC] at this
       exact this
      have hfin : ∀ nd, AbRel w1 gu gq gv p m t lv lq X' j (t' + 1) C ((wr.drewN nd).setCell ⟨gu, j + t', none⟩ (u64v S2)) := fun nd =>
       ⟨_, (hSy.drewN nd).setU (j + t') S2 hS2l hg1 hg2 hgu3, hnew2, by rw [List.drop_set_of_lt (by omega)]; exact htp⟩
      have HFIN := lh hfin
      obtain ⟨a, ha⟩ : ∃ a, j + t' = a := ⟨_, rfl⟩
      have ra : (j : Int) + (t' : Int) = (a : Int) := by omega
      have rb : (a : Int) < (p1 : Int) := by have := HP1.out; omega
      have rc2 : (t' : Int) < (t : Int) := by omega
      have rd : a < p1 := by have := HP1.out; omega
      have re : IntKind.i64.wrap (a : Int) = (a : Int) := IntWalk.i64_in _ (by omega)
      have rf : t' < t := htn2
      rw [ha] at cx fx HFIN
      unfold u64v at cx cy
      clear hS2 hC hkey hnew hnew2 hfin hx2 hy s1 s2 s3 s4 s5 s6 s7 s8 hSy hab htp ha hlvl
      go_wp2_with fail
      go_region
      go_wp2
      exact ⟨⟨t' + 1, C, by omega, hC1, by go_num, rfl, HFIN.out 1⟩, by simp [intOf]; omega⟩
     have htt : t' = t := by omega
     rw [htt] at hab
     rw [HV.out.2.1, hja] at hab
     rw [hja] at htp
     obtain ⟨x3, hx3⟩ : ∃ x3, ly[a1]? = some x3 := ⟨_, List.getElem?_eq_getElem (by omega)⟩
     have hx3l : x3 < 18446744073709551616 := s3.get hx3
     have cx := s1.cell hx3
     have fx := s1.frozen a1
     obtain ⟨S3, hS3⟩ : ∃ S3, (x3 + c') % 18446744073709551616 = S3 := ⟨_, rfl⟩
     obtain ⟨C, hC⟩ : ∃ C, (x3 + c') / 18446744073709551616 = C := ⟨_, rfl⟩
     have hS3l : S3 < 18446744073709551616 := by omega
     have hkey : S3 + B64 * C = x3 + 0 + c' := by unfold B64; omega
     have hnew := add_step (β := B64) (l := ly) hx3 hkey hab
     rw [Nat.zero_mul, Nat.add_zero] at hnew
     have hw3 : IntKind.u64.wrap ((x3 : Int) + (c' : Int)) = (S3 : Int) := by
      rw [show (x3 : Int) + (c' : Int) = ((x3 + c' : Nat) : Int) from by omega, wrap_u64_nat, hS3]
     have hYM : dv B64 (ly.set a1 S3) < B64 ^ (a1 + 1) := by
      have h1 := dv_split (β := B64) (l := ly.set a1 S3) (a1 + 1) (by rw [List.length_set]; omega)
      rw [List.drop_set_of_lt (by omega), htp, Nat.mul_zero, Nat.add_zero] at h1
      rw [h1]
      have h2 := dv_lt ((s3.set_ a1 hS3l).take (a1 + 1))
      rw [List.length_take, List.length_set, Nat.min_eq_left (by omega)] at h2
      exact h2
     have hVM : V * B64 ^ j <= B64 ^ (a1 + 1) := by
      have e : B64 ^ (a1 + 1) = B64 ^ t * B64 ^ (j + 1) := by rw [<- Nat.pow_add]; congr 1; omega
      rw [e]
      exact Nat.mul_le_mul (Nat.le_of_lt hVl) (Nat.pow_le_pow_right (by decide) (by omega))
     have he := HS2.out.2.1
     rw [HZ.out.1, HZ.out.2.2.2, Nat.one_mul] at he
     have hX'M := HZ.out.2.1
     rw [HZ.out.1] at hX'M
     have hdig := digit_back hVP hVM HX.out.2.2.2.2 he hX'M hYM hnew
     have hfin : DgRel w1 gu gq gv p m lv lq X V j (.int .u64 (G' : Int)) (wr.setCell ⟨gu, a1, none⟩ (u64v S3)) :=
      ⟨G', ly.set a1 S3, rfl, hSy.setU a1 S3 hS3l hg1 hg2 hgu3, by rw [<- HZ.out.2.2.1]; exact hdig.2.1, hdig.2.2⟩
     have HFIN := lh hfin
     have rc2 : ¬ (t' : Int) < (t : Int) := by omega
     unfold u64v at cx
     clear hS3 hC hkey hnew hYM hVM he hX'M hdig hfin hx3 s1 s2 s3 s4 s5 s6 s7 s8 hSy hab htp htt hlvl
     go_wp2
     go_meet
     exact HFIN.out
   case rest =>
    obtain ⟨G2, lu2, rfl, hS3, hG2, hlu2⟩ := hcut
    obtain ⟨s1, s2, s3, s4, s5, s6, s7, s8⟩ := hS3
    have hS3 : DvS w1 gu gq gv p m lv lu2 lq wc := ⟨s1, s2, s3, s4, s5, s6, s7, s8⟩
    have hVP : 0 < V * B64 ^ j := Nat.mul_pos (by rcases Nat.eq_zero_or_pos V with h | h; (subst h; have := HX.out.2.1; simp at this); exact h) (Nat.pow_pos (by decide))
    obtain ⟨x3, hx3⟩ : ∃ x3, lq[j]? = some x3 := ⟨_, List.getElem?_eq_getElem (by omega)⟩
    have hx30 : x3 = 0 := dv_zero (by decide) HX.out.2.2.1 (k := j) (by rw [List.getElem?_take, if_pos (by omega)]; exact hx3)
    subst hx30
    have cq := s4.cell hx3
    have fq := s4.frozen j
    have hG2l : G2 < 18446744073709551616 := by
     rw [hG2]
     have h1 : X / (V * B64 ^ j) < B64 := by
      rw [Nat.div_lt_iff_lt_mul hVP]
      have := HX.out.2.1
      rw [Nat.pow_succ] at this
      rw [Nat.mul_comm B64, Nat.mul_assoc]
      exact this
     exact h1
    have hst := dv_set (β := B64) G2 hx3
    rw [Nat.zero_mul, Nat.add_zero] at hst
    have hdm := Nat.div_add_mod X (V * B64 ^ j)
    rw [<- hG2, <- hlu2] at hdm
    have hfin : DvRel w1 gu gq gv p m lv U V j (wc.setCell ⟨gq, j, none⟩ (u64v G2)) := by
     refine ⟨lu2, lq.set j G2, hS3.setQ j G2 hG2l hg3 hg4 hgq1, ?_, ?_, ?_⟩
     ·rw [hst, HX.out.1, Nat.mul_add]
      have e : V * (G2 * B64 ^ j) = V * B64 ^ j * G2 := by rw [Nat.mul_comm G2, Nat.mul_assoc]
      rw [e]
      omega
     ·rw [hlu2]
      exact Nat.mod_lt _ hVP
     rw [List.take_set_of_le (by omega)]
     have h1 := dv_take_succ (β := B64) hx3
     rw [HX.out.2.2.1] at h1
     omega
    have HFIN := lh hfin
    unfold u64v at cq
    have rj : (j : Int) < (m : Int) := by omega
    have rj2 : j < m := by omega
    clear hG2 hlu2 hst hdm hfin hx3 s1 s2 s3 s4 s5 s6 s7 s8 hS3
    go_wp2
    exact ⟨⟨j, by omega, by go_num, HFIN.out⟩, by simp [intOf] <;> omega⟩
end Go.Proofs.YtecnjlcfoobepaaGreatDoor
