import Derived.Test.YtcoloflmigcphaaGreatDoorNatA
import Derived.Deep.RegionWith
import Derived.Deep.DeepCutAuto
import Derived.Deep.RegionHeld3
import Derived.RegionTactic
import Derived.BigRegion
namespace Go.Proofs.YtcoloflmigcphaaGreatDoor
set_option maxRecDepth 100000
set_option maxHeartbeats 1000000
open Go.RowKit
set_option linter.all false
def Qu (n : Nat) : Nat -> List UInt8
 | 0 => []
 | i + 1 => Zr n i :: Qu n i
def Xs (n : Nat) : Nat := (Je n + 7) / 8
def Jgt (n : Nat) : List UInt8 := Qu n (Xs n)
theorem Zp (n i : Nat) : (Qu n i).length = i := by
 induction i with
 | zero => rfl
 | succ i ih => simp [Qu, ih]
theorem Jgs (n : Nat) : (Jgt n).length = Xs n := Zp n _
theorem Ji3 (n N i : Nat) (h : i < N) : (List.replicate (N - i) (0 : UInt8) ++ Qu n i).set (N - 1 - i) (Zr n i) = List.replicate (N - (i + 1)) 0 ++ Qu n (i + 1) := by
 obtain ⟨m, rfl⟩ : ∃ m, N = i + 1 + m := ⟨N - (i + 1), by omega⟩
 rw [show i + 1 + m - i = m + 1 from by omega, show i + 1 + m - 1 - i = m from by omega, show i + 1 + m - (i + 1) = m from by omega]
 rw [List.replicate_succ', List.append_assoc, List.set_append_right _ _ (by simp)]
 simp [Qu]
theorem Jjg (n : Nat) : ∀ (j x : Nat), (words n)[j]? = some x -> x = n / 18446744073709551616 ^ j % 18446744073709551616 := by
 induction n using Nat.strongRecOn with
 | ind n ih =>
  intro j x h
  by_cases h0 : n = 0
  ·subst h0; rw [Qf] at h; simp at h
  rw [Qd n h0] at h
  cases j with
  | zero => simp at h; subst h; simp
  | succ j =>
   rw [List.getElem?_cons_succ] at h
   rw [ih _ (by omega) j x h, Nat.div_div_eq_div_mul, Nat.pow_succ, Nat.mul_comm]
theorem Jen (n i x : Nat) (h : (words n)[i / 8]? = some x) : (x : Int) / 2 ^ (8 * (i % 8)) % 256 = ((Zr n i).toNat : Int) := by
 have e := Jjg n _ _ h
 rw [Jeo x (i % 8)]
 congr 2
 unfold Zr
 congr 1
 have hm : i % 8 < 8 := Nat.mod_lt _ (by omega)
 have p : (18446744073709551616 : Nat) ^ (i / 8) = 256 ^ (8 * (i / 8)) := by rw [Nat.pow_mul]
 have q : (18446744073709551616 : Nat) = 256 ^ (i % 8) * 256 ^ (8 - i % 8) := by rw [<- Nat.pow_add, show i % 8 + (8 - i % 8) = 8 from by omega]
 rw [e, p]
 conv => lhs; rw [show n / 256 ^ (8 * (i / 8)) % 18446744073709551616 = n / 256 ^ (8 * (i / 8)) % (256 ^ (i % 8) * 256 ^ (8 - i % 8)) from by rw [<- q]]
 rw [Nat.mod_mul_right_div_self, Nat.div_div_eq_div_mul, <- Nat.pow_add, show 8 * (i / 8) + i % 8 = i from by omega]
 rw [Nat.mod_mod_of_dvd _ (by rw [show 8 - i % 8 = (7 - i % 8) + 1 from by omega, Nat.pow_succ]; exact Nat.dvd_mul_left _ _)]
def Jl2 (w : World) (n g : Nat) (A : Option Addr) (i : Nat) (wr : World) : Prop :=
 Row wr g 5 u8v (List.replicate (Xs n - i) 0 ++ Qu n i) /\ Below w.heap.size w wr /\ Reads wr wr.heap.size 1 A (words n).length ((words n).map Jh)
theorem Kz (n : Nat) (hn : Je n <= 1125899906842624) : (words n).length <= 17592186044416 := by
 by_cases h0 : n = 0
 ·subst h0; simp [Qf]
 have h1 := Ka n h0
 have h2 := (Qv (top n)).2 (Xj n h0).2.1
 omega
theorem Jd9 (n : Nat) (w : World) (hn : Je n <= 1125899906842624) : Calls Tryz.prog 137 #[Jg n] w fun e w' => ∃ v, e = .returned v /\ NewB w w' v (Jgt n) := by
 have hW := Kz n hn
 obtain ⟨N, hN⟩ : ∃ N, Xs n = N := ⟨_, rfl⟩
 have bZ : ((Je n : Int) + 7) / 8 = (N : Int) := by unfold Xs at hN; omega
 have cA : N <= 140737488355328 := by omega
 have aD := Qh (P := Tryz.prog) u8v 0 135 5 1 Tryz.underlying135 Tryz.infoU8 rfl .i64 .i64 N (by omega) (by omega)
 have HN := lh hN
 clear hN
 unfold Jg
 go_enter Tryz.func137, Tryz.ntmps137
 go_wp2_with fail
 refine (Qn n _ (by omega)).mono ?_
 rintro e w1 ⟨rfl, j6⟩
 have j0 : Blk w1 w.heap.size 37 #[.int .u64 (lo n : Int), .string (mo n)] := (Blk.new _ _ _).below j6 (by simp)
 have o0 : Below w.heap.size w w1 := ((Below.refl _ _).alloc zd _).trans (j6.mono (by simp))
 have bO : w.heap.size < w1.heap.size := j0.lt
 have q0 := j0.cell 0
 have q1 := j0.cell 1
 simp at q0 q1
 clear j6
 go_wp2_with fail
 refine (Xl n _ (by omega) hW).mono ?_
 rintro e w2 ⟨v2, rfl, aB, aE, aF⟩
 have bI : Row w2 w1.heap.size 5 u8v (List.replicate N 0) := (Row.rep w1 5 u8v 0 N).below aE (by simp)
 have bP : Below w.heap.size w w2 := (o0.alloc (by omega) _).trans (aE.mono (by simp; omega))
 obtain ⟨A, c, hv, bQ, cB⟩ := aB.form
 rw [hv] at aB aF
 rw [hv]
 have aC := Own.reads aB
 have bJ : ∀ ad, A = some ad -> w1.heap.size + 1 <= ad.block := fun ad h => by
  have := aF ad.block (by rw [h]; rfl)
  simpa using this
 clear hv aB aF aE q0 q1 j0 o0 aD
 obtain ⟨L, hL⟩ : ∃ L, (words n).length = L := ⟨_, rfl⟩
 obtain ⟨g, hg⟩ : ∃ g, w1.heap.size = g := ⟨_, rfl⟩
 rw [hg] at bI bJ bO
 rw [hg, hL]
 rw [hL] at bQ
 have HL := lh hL
 clear hL
 go_wp2_with fail
 go_loopw [6, 16] (fun x y wr => ∃ i : Nat, i <= N /\ y = .int .i64 i /\ Jl2 w n g A i wr) (fun _ y _ => N - (intOf y).toNat)
 case atStart => exact ⟨0, Nat.zero_le _, rfl, by rw [HN.out]; simpa [Qu] using bI, bP, aC⟩
 case round =>
  obtain ⟨i, hi, rfl, h1, h2, h3⟩ := hrel
  rw [HN.out] at h1
  by_cases aG : i < N
  ·have bS : i / 8 < L := by
    have h5 := HN.out
    have h6 := HL.out
    by_cases h0 : n = 0
    ·subst h0
     have : Xs 0 = 0 := rfl
     omega
    have h7 := Ka n h0
    have h8 : Je (top n) <= 64 := by rw [<- Kx _ (Xj n h0).2.2]; exact Lib.bitLen_le _ 64 (by omega) (Xj n h0).2.2
    have h9 : 1 <= (words n).length := by rw [Qd n h0]; simp
    unfold Xs at h5
    omega
   rw [HL.out] at h3
   obtain ⟨ad, x, hA, hb, hx, hc⟩ := h3.atf bS
   have cU := bJ ad hA
   have e1 := Jen n i x hx
   obtain ⟨y, hy⟩ : ∃ y, Zr n i = y := ⟨_, rfl⟩
   rw [hy] at e1
   have HY := lh hy
   clear hy hx
   subst hA
   unfold Jh at hc
   have o9 := h1.cell (k := N - 1 - i) (x := 0) (by rw [List.getElem?_append_left (by simp; omega), List.getElem?_replicate]; simp; omega)
   have bT := h1.frozen (N - 1 - i)
   have bK := Ji3 n N i aG
   have HNX := lh bK
   unfold u8v at o9
   clear bK
   have k1 : ((N : Int) - 1 - (i : Int)).toNat = N - 1 - i := by omega
   have k2 : (0 : Int) <= (N : Int) - 1 - (i : Int) := by omega
   have k3 : (N : Int) - 1 - (i : Int) < (N : Int) := by omega
   have k4 : ((i : Int) / 8) < (L : Int) := by omega
   go_wp2
   refine ⟨⟨i + 1, by omega, by go_num, ?_, h2.setCell (by simp; omega) _, ?_⟩, by simp [intOf]; omega⟩
   ·have h6 := h1.set_ (N - 1 - i) y
    rw [<- HY.out, HNX.out, HY.out] at h6
    rw [HN.out]
    exact h6
   rw [World.size_setCell, HL.out]
   exact Reads.setFar h3 (fun ad' h => by cases h; simp; omega) _
  obtain rfl : i = N := by omega
  go_wp2
  go_ret
  rw [Nat.sub_self, List.replicate_zero, List.nil_append] at h1
  have h5 : Jgt n = Qu n i := by unfold Jgt; rw [HN.out]
  have ho := Own.ofBlk h1 (by rw [Zp]; unfold maxLen; omega)
  rw [Zp] at ho
  rw [h5]
  exact ⟨_, rfl, ho, h2, fun k hk => by simp [Value.ownBlock] at hk; omega⟩
def Two (W : World) (la lb : List Nat) (va vb : Value) (w' : World) : Prop :=
 Own w' 35 Jh va la /\ Own w' 35 Jh vb lb /\ Below W.heap.size W w' /\ (∀ k, va.ownBlock = some k -> W.heap.size <= k) /\ (∀ k, vb.ownBlock = some k -> W.heap.size <= k) /\ (∀ k, va.ownBlock = some k -> vb.ownBlock ≠ some k)
theorem Two.ab {W w1 w2 : World} {la lb : List Nat} {va vb : Value} (ha : New W.drew w1 35 Jh va la) (hb : New w1 w2 35 Jh vb lb) : Two W la lb va vb w2 := by
 obtain ⟨h1, h2, h3⟩ := ha
 obtain ⟨h4, h5, h6⟩ := hb
 refine ⟨h1.below h5 (fun k hk => h1.lt k hk), h4, Ja (Jaw h2) h5, h3, fun k hk => nt h2.size (h6 k hk), fun k hk e => ?_⟩
 have := h1.lt k hk
 have := h6 k e
 omega
theorem Two.ba {W w1 w2 : World} {la lb : List Nat} {va vb : Value} (hb : New W.drew w1 35 Jh vb lb) (ha : New w1 w2 35 Jh va la) : Two W la lb va vb w2 := by
 obtain ⟨h1, h2, h3, h4, h5, h6⟩ := Two.ab (W := W) hb ha
 exact ⟨h2, h1, h3, h5, h4, fun k hk e => h6 k e hk⟩
def XY (W : World) (s : Nat) (v7 v8 : Value) (wc : World) : Prop :=
 ∃ (gX cX : Nat) (lX : List Nat) (AY : Option Addr) (cY : Nat) (lY : List Nat), v7 = .slice (some ⟨gX, 0, none⟩) lX.length cX /\ Own wc 35 Jh (.slice (some ⟨gX, 0, none⟩) lX.length cX) lX /\ v8 = .slice AY lY.length cY /\ Reads wc wc.heap.size 1 AY lY.length (lY.map Jh) /\ (∀ ad, AY = some ad -> ad.block ≠ gX) /\ lY.length <= lX.length /\ lX.length <= 17179869185 /\ Dig 18446744073709551616 lX /\ Dig 18446744073709551616 lY /\ dv 18446744073709551616 lX + dv 18446744073709551616 lY = s /\ Below W.heap.size W wc /\ W.heap.size <= gX
theorem XY.of {W wc : World} {va vb : Value} {la lb : List Nat} (h : Two W la lb va vb wc) (h1 : lb.length <= la.length) (h2 : 0 < la.length) (h3 : la.length <= 17179869185) (ha : Dig 18446744073709551616 la) (hb : Dig 18446744073709551616 lb) {s : Nat} (hs : dv 18446744073709551616 la + dv 18446744073709551616 lb = s) : XY W s va vb wc := by
 obtain ⟨t1, t2, t3, t4, t5, t6⟩ := h
 obtain ⟨A, c, rfl, _, _⟩ := t1.form
 obtain ⟨A', c', rfl, _, _⟩ := t2.form
 obtain ⟨g, rfl⟩ := t1.addr h2
 refine ⟨g, c, la, A', c', lb, rfl, t1, rfl, Own.reads t2, fun ad he e => ?_, h1, h3, ha, hb, hs, t3, t4 g rfl⟩
 subst he
 exact t6 g rfl (by rw [<- e]; rfl)
theorem Two.swap {W wc : World} {va vb : Value} {la lb : List Nat} (h : Two W la lb va vb wc) : Two W lb la vb va wc := by
 obtain ⟨t1, t2, t3, t4, t5, t6⟩ := h
 exact ⟨t2, t1, t3, t5, t4, fun k hk e => t6 k e hk⟩
theorem Jl (n : Nat) : Dig 18446744073709551616 (words n) := fun x hx => Yq n x hx
theorem Ji (n : Nat) : dv 18446744073709551616 (words n) = n := by rw [<- Jko]; exact Vg n
theorem Xf (n : Nat) (h : n ≠ 0) : 0 < (words n).length := by rw [Qd n h]; simp
theorem Qq (n : Nat) (hn : Je n <= 1099511627776) : (words n).length <= 17179869185 := by
 by_cases h0 : n = 0
 ·subst h0; simp [Qf]
 have h1 := Ka n h0
 have h2 := (Qv (top n)).2 (Xj n h0).2.1
 omega
theorem Yu (n : Nat) (h : n < 18446744073709551616) : (mo n).toList = [] /\ (mo n).toList.isEmpty = true := by
 rw [Jy n h, Lib.toList_data]
 exact ⟨rfl, rfl⟩
theorem Ya (n : Nat) (h : ¬ n < 18446744073709551616) : ¬ (mo n).toList = [] /\ (mo n).toList.isEmpty = false := by
 have d1 := Vh (mo n) (by have := Zf n h; have := Ui n; omega)
 exact ⟨d1, by simpa using d1⟩
def Qj (z : Int) : Value := .agg #[.bool (decide (z < 0)), .int .u64 (lo z.natAbs : Int), .string (mo z.natAbs)]
theorem Jk6 (z : Int) (h0 : -9223372036854775808 <= z) (h1 : z < 0) : IntKind.u64.wrap (-(IntKind.u64.wrap z)) = (z.natAbs : Int) := by
 simp only [IntKind.wrap, IntKind.bits, IntKind.signed]
 simp
 omega
theorem Jjs (z : Int) (h0 : -9223372036854775808 <= z) (h1 : z < 0) : IntKind.u64.wrap (-(z % 18446744073709551616)) = (z.natAbs : Int) := by
 simp only [IntKind.wrap, IntKind.bits, IntKind.signed]
 simp
 omega
theorem Jkn (z : Int) (w : World) (h0 : -9223372036854775808 <= z) (h1 : z <= 9223372036854775807) : Calls Tryz.prog 77 #[.int .i64 z] w (Ret (Qj z) w) := by
 unfold Qj
 by_cases hz : z < 0
 ·have e1 := Jk6 z h0 hz
  have e2 := Jjs z h0 hz
  have hd : decide (z < 0) = true := by simpa using hz
  rw [hd]
  have cD : z.natAbs < 18446744073709551616 := by omega
  generalize z.natAbs = m at *
  go_enter Tryz.func77, Tryz.ntmps77
  go_wp2_with fail
  refine (Je9 m _ (by omega)).mono ?_
  rintro e w1 ⟨rfl, j6⟩
  have j0 := (Blk.new w 39 #[.bool false, .int .u64 0, .string ⟨#[]⟩]).below j6 (by simp)
  have o0 : Below w.heap.size w w1 := ((Below.refl _ _).alloc zd _).trans (j6.mono (by simp))
  have q0 := j0.cell 0
  have q1 := j0.cell 1
  have q2 := j0.cell 2
  have f0 := j0.frozen 0
  have f1 := j0.frozen 1
  have f2 := j0.frozen 2
  have s0 := j0.same0 (by simp)
  have s1 := j0.same1 (by simp)
  have s2 := j0.same2 (by simp)
  simp at q0 q1 q2
  clear j6 j0
  unfold Jg
  go_wp2
  refine bodyPost_ret (v := .agg #[.bool true, .int .u64 (lo m : Int), .string (mo m)]) (by simp [results, Tryz.results77, go_sem, s0, s1, s2]) rfl ?_
  exact ⟨rfl, ((o0.setCell zd _).setCell zd _).setCell zd _⟩
 have hd : decide (z < 0) = false := by simpa using hz
 rw [hd]
 obtain ⟨m, rfl⟩ := Int.eq_ofNat_of_zero_le (show 0 <= z by omega)
 have cE : decide ((m : Int) < 0) = false := by simp
 rw [Int.natAbs_natCast]
 go_enter Tryz.func77, Tryz.ntmps77
 go_wp2_with fail
 refine (Je9 m _ (by omega)).mono ?_
 rintro e w1 ⟨rfl, j6⟩
 have j0 := (Blk.new w 39 #[.bool false, .int .u64 0, .string ⟨#[]⟩]).below j6 (by simp)
 have o0 : Below w.heap.size w w1 := ((Below.refl _ _).alloc zd _).trans (j6.mono (by simp))
 have q0 := j0.cell 0
 have q1 := j0.cell 1
 have q2 := j0.cell 2
 have f0 := j0.frozen 0
 have f1 := j0.frozen 1
 have f2 := j0.frozen 2
 have s0 := j0.same0 (by simp)
 have s1 := j0.same1 (by simp)
 have s2 := j0.same2 (by simp)
 simp at q0 q1 q2
 clear j6 j0
 unfold Jg
 go_wp2
 refine bodyPost_ret (v := .agg #[.bool false, .int .u64 (lo m : Int), .string (mo m)]) (by simp [results, Tryz.results77, go_sem, s0, s1, s2]) rfl ?_
 exact ⟨rfl, ((o0.setCell zd _).setCell zd _).setCell zd _⟩
theorem Ja3 (z : Int) (w : World) : Calls Tryz.prog 101 #[Qj z] w (Ret (Jg z.natAbs) w) := by
 unfold Qj Jg
 go_enter Tryz.func101, Tryz.ntmps101
 go_wp2
 go_returns
 exact ⟨rfl, by go_grown⟩
theorem Vy (z : Int) (w : World) (hz : Je z.natAbs <= 4611686018427387904) : Calls Tryz.prog 65 #[Qj z] w (Ret (.int .i64 z.sign) w) := by
 unfold Qj
 by_cases h : z < 0
 ·have hd : decide (z < 0) = true := by simpa using h
  rw [hd, Int.sign_eq_neg_one_of_neg h]
  go_enter Tryz.func65, Tryz.ntmps65
  go_wp2
  go_ret
  exact ⟨rfl, by go_grown⟩
 have hd : decide (z < 0) = false := by simpa using h
 rw [hd]
 have hp := Qv z.natAbs
 by_cases h0 : z = 0
 ·subst h0
  have e : Je (0 : Int).natAbs = 0 := rfl
  go_enter Tryz.func65, Tryz.ntmps65
  go_wp2_with fail
  refine (Qn _ _ hz).mono ?_
  rintro e1 w1 ⟨rfl, j6⟩
  rw [e]
  go_wp2
  go_ret
  exact ⟨rfl, ((Below.refl _ _).alloc zd _).trans (j6.mono (by simp))⟩
 have e2 : (0 : Int) < (Je z.natAbs : Int) := by have := hp.2 (by omega); omega
 rw [Int.sign_eq_one_of_pos (by omega)]
 clear hp
 go_enter Tryz.func65, Tryz.ntmps65
 go_wp2_with fail
 refine (Qn _ _ hz).mono ?_
 rintro e1 w1 ⟨rfl, j6⟩
 go_wp2
 go_ret
 exact ⟨rfl, ((Below.refl _ _).alloc zd _).trans (j6.mono (by simp))⟩
def signed (neg : Bool) (a : Nat) : Int := if neg then -(a : Int) else (a : Int)
theorem Jcl (neg : Bool) (a : Nat) : (signed neg a).natAbs = a := by unfold signed; cases neg <;> simp
theorem Xc (neg : Bool) (a : Nat) : Qj (signed neg a) = .agg #[.bool (neg && decide (0 < a)), .int .u64 (lo a : Int), .string (mo a)] := by
 unfold Qj
 rw [Jcl]
 have : decide (signed neg a < 0) = (neg && decide (0 < a)) := by unfold signed; cases neg <;> simp
 rw [this]
theorem Qw (neg : Bool) (a : Nat) (w : World) (ha : Je a <= 4611686018427387904) : Calls Tryz.prog 53 #[.bool neg, Jg a] w (Ret (Qj (signed neg a)) w) := by
 rw [Xc]
 have hp : (0 < Je a) ↔ a ≠ 0 := Qv a
 unfold Jg
 have b0 := (Blk.new w 37 #[.int .u64 (lo a : Int), .string (mo a)]).alloc (.cells #[.bool false, .int .u64 0, .string ⟨#[]⟩] 39)
 have b1 := Blk.new2 w (.cells #[.int .u64 (lo a : Int), .string (mo a)] 37) 39 #[.bool false, .int .u64 0, .string ⟨#[]⟩]
 have hB := Jo w (.cells #[.int .u64 (lo a : Int), .string (mo a)] 37) (.cells #[.bool false, .int .u64 0, .string ⟨#[]⟩] 39)
 cases neg with
 | false =>
  go_enter Tryz.func53, Tryz.ntmps53
  go_wp2
  generalize (w.alloc (.cells #[.int .u64 (lo a : Int), .string (mo a)] 37)).alloc (.cells #[.bool false, .int .u64 0, .string ⟨#[]⟩] 39) = W at *
  obtain ⟨aH, aI, aJ, aK, aL, aM⟩ := b0.f2; obtain ⟨aN, aO, aP, aQ, aR, aS, cL, p9, cN⟩ := b1.f3
  go_region
  go_wp2
  refine bodyPost_ret (v := .agg #[.bool false, .int .u64 (lo a : Int), .string (mo a)]) (by simp [results, Tryz.results53, go_sem, cL, p9, cN]) rfl ?_
  exact ⟨rfl, Kw (Jw hB 1) (by omega) _ _ _⟩
 | true =>
  have hd : decide (0 < Je a) = decide (0 < a) := by
   rw [decide_eq_decide]
   omega
  have HD := lh hd
  clear hd hp
  go_enter Tryz.func53, Tryz.ntmps53
  go_wp2_with fail
  generalize (w.alloc (.cells #[.int .u64 (lo a : Int), .string (mo a)] 37)).alloc (.cells #[.bool false, .int .u64 0, .string ⟨#[]⟩] 39) = W at *
  obtain ⟨aH, aI, aJ, aK, aL, aM⟩ := b0.f2; obtain ⟨aN, aO, aP, aQ, aR, aS, cL, p9, cN⟩ := b1.f3
  have c0 := b0.drew
  have c1 := b1.drew
  go_region_with (go_at_call 102; refine (Qn a W.drew ha).mono ?_; rintro e w1 ⟨rfl, j6⟩; (try clear aT aU aV aW aX aY); obtain ⟨c0, aT, aU, aV, aW, aX, aY⟩ := c0.zf2 j6; (try clear aZ bA bB bC bD bE s9 cO cP); obtain ⟨c1, aZ, bA, bB, bC, bD, bE, s9, cO, cP⟩ := c1.zf3 j6)
  all_goals
   go_wp2
   refine bodyPost_ret (v := .agg #[.bool (decide (0 < Je a)), .int .u64 (lo a : Int), .string (mo a)]) (by simp [results, Tryz.results53, go_sem, s9, cO, cP]) rfl ?_
   rw [<- HD.out]
   exact ⟨rfl, Kw (Ja hB (Jaw j6)) (by omega) _ _ _⟩
theorem Jc8 (b : UInt8) (r : List UInt8) : Xh (b :: r) = b.toNat * 256 ^ r.length + Xh r := by
 have : ∀ (l : List UInt8) (a : Nat), l.foldl (fun a b => a * 256 + b.toNat) a = a * 256 ^ l.length + Xh l := by
  intro l
  induction l with
  | nil => intro a; simp [Xh]
  | cons x s ih =>
   intro a
   have h1 := ih (a * 256 + x.toNat)
   have h2 := ih x.toNat
   unfold Xh at *
   simp only [List.foldl_cons, List.length_cons, Nat.zero_mul, Nat.zero_add]
   rw [h1, h2, Nat.pow_succ, Nat.add_mul, Nat.mul_assoc, Nat.mul_comm 256, Nat.add_assoc]
 have h := this r b.toNat
 unfold Xh at *
 simp only [List.foldl_cons, Nat.zero_mul, Nat.zero_add]
 exact h
theorem Jc7 (bs : List UInt8) (i : Nat) (x : UInt8) (hi : i < bs.length) (hx : bs[bs.length - 1 - i]? = some x) : Xh (bs.drop (bs.length - (i + 1))) = x.toNat * 256 ^ i + Xh (bs.drop (bs.length - i)) := by
 have e : bs.drop (bs.length - (i + 1)) = x :: bs.drop (bs.length - i) := by
  rw [show bs.length - (i + 1) = bs.length - 1 - i from by omega]
  have hk : bs.length - 1 - i < bs.length := by omega
  rw [List.drop_eq_getElem_cons hk]
  rw [List.getElem?_eq_getElem hk] at hx
  rw [Option.some.inj hx, show bs.length - 1 - i + 1 = bs.length - i from by omega]
 rw [e, Jc8, List.length_drop, show bs.length - (bs.length - i) = i from by omega]
theorem Ji2 (x b r : Nat) (hx : x < 256 ^ r) (hb : b < 256) (hr : r < 8) : bits .or .u64 (x : Int) (IntKind.u64.wrap ((b : Int) * 2 ^ (8 * r))) = ((x + b * 256 ^ r : Nat) : Int) /\ x + b * 256 ^ r < 18446744073709551616 := by
 have p : (256 : Nat) ^ r = 2 ^ (8 * r) := by rw [Nat.pow_mul]
 have q : (2 : Nat) ^ (8 * r) <= 2 ^ 56 := Nat.pow_le_pow_right (by omega) (by omega)
 have h3 : b * 2 ^ (8 * r) <= 255 * 2 ^ 56 := Nat.mul_le_mul (by omega) q
 rw [p] at hx ⊢
 have e := Ut x (b * 2 ^ (8 * r)) (by omega) (by omega)
 have h4 : x + b * 2 ^ (8 * r) < 18446744073709551616 := by omega
 refine ⟨?_, h4⟩
 rw [show (b : Int) * 2 ^ (8 * r) = ((b * 2 ^ (8 * r) : Nat) : Int) from by rw [Int.natCast_mul, Int.natCast_pow]; rfl, Jf, Nat.mod_eq_of_lt (by omega)]
 rw [e, Nat.add_comm x, Nat.mul_comm b, Nat.two_pow_add_eq_or_of_lt hx, Nat.or_comm]
def Jm5 (w : World) (g L : Nat) (v : Nat) (wr : World) : Prop := ∃ l : List Nat, Row wr g 35 Jh l /\ l.length = L /\ Dig 18446744073709551616 l /\ dv 18446744073709551616 l = v /\ Below g w wr
theorem Jdo (A : Option Addr) (n c B : Nat) (bs : List UInt8) (w : World) (h : Bytes w B A n bs) (hB : B <= w.heap.size) (hn : n <= 1099511627776) :
  Calls Tryz.prog 103 #[.slice A n c] w (Ret (Jg (Xh bs)) w) := by
 have hl := h.len
 obtain ⟨L, hL⟩ : ∃ L, (n + 7) / 8 = L := ⟨_, rfl⟩
 have bU : ((n : Int) + 7) / 8 = (L : Int) := by omega
 have aD := Qh (P := Tryz.prog) Jh 0 157 35 8 Tryz.underlying157 Tryz.infoU64 rfl .i64 .i64 L (by omega) (by omega)
 have HL := lh (And.intro hl hL)
 clear hl
 have cF : L <= 1099511627776 := by omega
 clear hL
 go_enter Tryz.func103, Tryz.ntmps103
 go_wp2_with fail
 clear aD bU
 have j0 := Blk.new w 37 #[.int .u64 0, .string ⟨#[]⟩]
 have j9 := Row.rep (w.alloc (.cells #[.int .u64 0, .string ⟨#[]⟩] 37)) 35 Jh 0 L
 rw [World.size_alloc] at j9
 have j7 := (Below.refl (w.heap.size + 1) (w.alloc (.cells #[.int .u64 0, .string ⟨#[]⟩] 37))).alloc (by simp) (.cells (Array.replicate L (Jh 0)) 35)
 obtain ⟨g, hg⟩ : ∃ g, w.heap.size + 1 = g := ⟨_, rfl⟩
 obtain ⟨w0, bF⟩ : ∃ w0, w.alloc (.cells #[.int .u64 0, .string ⟨#[]⟩] 37) = w0 := ⟨_, rfl⟩
 have bL : Below w.heap.size w w0 := by rw [<- bF]; exact (Below.refl _ _).alloc zd _
 rw [bF] at j0 j9 j7 ⊢
 rw [hg] at j9 j7 ⊢
 have HG := lh hg
 have cG : w.heap.size < g := by omega
 clear hg bF
 go_loopw [4, 12] (fun x i wr => ∃ k : Nat, k <= n /\ i = .int .i64 k /\ Jm5 w0 g L (Xh (bs.drop (n - k))) wr) (fun _ i _ => n - (intOf i).toNat)
 case atStart =>
  refine ⟨0, Nat.zero_le _, rfl, _, j9, by simp, Dig.rep (by omega) _, ?_, j7⟩
  rw [Yx, Nat.sub_zero, List.drop_of_length_le (by rw [HL.out.1]; omega)]
  rfl
 case round =>
  obtain ⟨i, hi, rfl, l, hr, cR, cT, bM, bR⟩ := hrel
  have HLEN := lh cR
  have HDV := lh bM
  clear cR bM j9 j7
  by_cases aG : i < n
  ·have h4 : Bytes wr B A n bs := Reads.below (Reads.below h (bL.mono hB)) (bR.mono (by omega))
   obtain ⟨ad, x, hA, hb, hx, cH⟩ := h4.at_ (show n - 1 - i < n by omega)
   subst hA
   obtain ⟨j, hj⟩ : ∃ j, i / 8 = j := ⟨_, rfl⟩
   obtain ⟨r, cI⟩ : ∃ r, i % 8 = r := ⟨_, rfl⟩
   have bV : j < L := by have := HL.out.2; omega
   obtain ⟨y, hy⟩ : ∃ y, l[j]? = some y := ⟨_, List.getElem?_eq_getElem (by rw [HLEN.out]; exact bV)⟩
   have y9 : y < 256 ^ r := by
    have h5 := Jek (β := 18446744073709551616) hy
    have h6 := Jhg (bs.drop (n - i))
    rw [HDV.out] at h5
    have h8 : (256 : Nat) ^ i = 18446744073709551616 ^ j * 256 ^ r := by rw [show i = 8 * j + r from by omega, Nat.pow_add, Nat.pow_mul]
    rw [List.length_drop, HL.out.1, show n - (n - i) = i from by omega, h8] at h6
    have h7 : y * 18446744073709551616 ^ j < 256 ^ r * 18446744073709551616 ^ j := by
     rw [Nat.mul_comm (256 ^ r)]
     exact Nat.lt_of_le_of_lt h5 h6
    exact Nat.lt_of_mul_lt_mul_right h7
   have bW := Ji2 y x.toNat r y9 (by have := x.toNat_lt; omega) (by omega)
   have aA : dv 18446744073709551616 (l.set j (y + x.toNat * 256 ^ r)) = Xh (bs.drop (n - (i + 1))) := by
    have h5 := Yl (β := 18446744073709551616) (y + x.toNat * 256 ^ r) hy
    have h6 := Jc7 bs i x (by rw [HL.out.1]; exact aG) (by rw [HL.out.1]; exact hx)
    rw [HL.out.1] at h6
    rw [HDV.out, Nat.add_mul] at h5
    have h7 : x.toNat * 256 ^ i = x.toNat * 256 ^ r * 18446744073709551616 ^ j := by
     rw [show i = 8 * j + r from by omega, Nat.pow_add, Nat.pow_mul, Nat.mul_assoc, Nat.mul_comm (256 ^ r)]
    rw [h6, h7]
    omega
   obtain ⟨bX, bG⟩ := bW
   generalize y + x.toNat * 256 ^ r = z at *
   have bY := hr.cell (k := j) (x := y) hy
   have bT := hr.frozen j
   unfold Jh at bY
   have HX := lh (And.intro aA (And.intro hx hy))
   clear aA hx hy y9
   have c1 : ((i : Int) / 8) = (j : Int) := by omega
   have c2 : ((i : Int) % 8) = (r : Int) := by omega
   have c3 : ((n : Int) - 1 - (i : Int)).toNat = n - 1 - i := by omega
   have c4 : (0 : Int) <= (n : Int) - 1 - (i : Int) := by omega
   have c5 : (n : Int) - 1 - (i : Int) < (n : Int) := by omega
   have c6 : (j : Int) < (L : Int) := by omega
   have c7 : (8 : Int) * (r : Int) <= 56 := by omega
   have c8 := Vr x
   go_wp2_with fail
   go_region
   go_wp2
   refine ⟨⟨i + 1, by omega, by go_num, l.set j z, ?_, by rw [List.length_set]; exact HLEN.out, cT.set_ j bG, HX.out.1, ?_⟩, by simp [intOf]; omega⟩
   ·exact (hr.drewN 1).set_ j z
   exact (Jw bR 1).setCell zd _
  obtain rfl : i = n := by omega
  have cJ := HDV.out
  rw [Nat.sub_self, List.drop_zero] at cJ
  have aC := Own.reads (Own.ofBlk hr (by rw [HLEN.out]; unfold maxLen; omega))
  rw [HLEN.out] at aC
  have cK := j0.below bR (by omega)
  go_wp2_with fail
  refine (Qe _ L L _ l wr aC zd cT (by omega) zd).mono ?_
  rintro e w5 ⟨rfl, bN⟩
  rw [cJ]
  have j8 := cK.below bN cK.lt
  have q0 := j8.cell 0
  have q1 := j8.cell 1
  have f0 := j8.frozen 0
  have f1 := j8.frozen 1
  have s0 := j8.same0 (by simp)
  have s1 := j8.same1 (by simp)
  simp at q0 q1
  unfold Jg
  clear cJ
  generalize Xh bs = N at *
  go_wp2
  refine bodyPost_ret (v := .agg #[.int .u64 (lo N : Int), .string (mo N)]) (by simp [results, Tryz.results103, go_sem, s0, s1]) rfl ?_
  have bH : Below w.heap.size w w5 := (bL.trans (bR.mono (by omega))).trans (bN.mono (by have := cK.lt; omega))
  exact ⟨rfl, (bH.setCell zd _).setCell zd _⟩
