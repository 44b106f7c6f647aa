import Derived.Test.YtcoloflmigcphaaGreatDoorRefShift
namespace Go.Proofs.YtcoloflmigcphaaGreatDoor
set_option maxRecDepth 100000
set_option maxHeartbeats 1000000
open Go.RowKit
set_option linter.all false
theorem Jp4 {P : Program} {f : FuncId} {args : Array Value} {w : World} {n : Nat} {v : Value} (h : Calls P f args (w.drewN n) fun e w' => e = .returned v /\ w.drewN n = w') : Calls P f args (w.drewN n) fun e w'' => e = .returned v /\ ∃ m, w'' = w.drewN m :=
 h.mono fun _ _ ⟨he, hm⟩ => ⟨he, n, hm.symm⟩
theorem Jro {p : List Nat} {k m x : Nat} (hk : p.length = k) : (p ++ List.replicate (m + 1) 0).set k x = (p ++ [x]) ++ List.replicate m 0 := by
 subst hk
 rw [List.set_append_right _ _ zd, Nat.sub_self, List.replicate_succ, List.set_cons_zero, List.append_assoc]
 rfl
theorem Jrq {p : List Nat} {k m : Nat} (hk : p.length = k) : (p ++ List.replicate (m + 1) 0)[k]? = some 0 := by
 subst hk
 rw [List.getElem?_append_right zd, Nat.sub_self, List.replicate_succ]
 rfl
theorem Jq9 {a k : Nat} (h : (Jd a).length <= k) : dv 4294967296 ((Jd a).take k) = a := by rw [List.take_of_length_le h, Ql]
theorem Jrz {a b n : Nat} (h1 : (Jd a).length <= n) (h2 : (Jd b).length <= n) : a + b < 2 * 4294967296 ^ n := by
 have e1 := Nat.lt_of_lt_of_le (Xz a) (Nat.pow_le_pow_right (show 0 < 4294967296 by omega) h1)
 have e2 := Nat.lt_of_lt_of_le (Xz b) (Nat.pow_le_pow_right (show 0 < 4294967296 by omega) h2)
 omega
def Jr5 (w : World) (g n X k c : Nat) (wr : World) : Prop :=
 ∃ p : List Nat, p.length = k /\ Dig 4294967296 p /\ Row wr g 163 Ju (p ++ List.replicate (n + 1 - k) 0) /\ dv 4294967296 p + c * 4294967296 ^ k = X /\ Below w.heap.size w wr
theorem Jri (a b B : Nat) (va vb : Value) (w : World) (h : IsN w B va a) (h' : IsN w B vb b) (hB : B <= w.heap.size) (aJ : (Jd a).length <= 34359738368) (aF : (Jd b).length <= 34359738368) :
  Calls Tryz.prog 158 #[va, vb] w (Jkl (a + b) w) := by
 obtain ⟨A1, c1, rfl, aK, aL, aG, _⟩ := h
 obtain ⟨A2, c2, rfl, aM, aN, y9, _⟩ := h'
 obtain ⟨p, hp⟩ : ∃ p, (Jd a).length = p := ⟨_, rfl⟩
 obtain ⟨q, hq⟩ : ∃ q, (Jd b).length = q := ⟨_, rfl⟩
 rw [hp] at aG aK aJ
 rw [hq] at y9 aM aF
 rw [hp, hq]
 obtain ⟨n, hn⟩ : ∃ n, max p q = n := ⟨_, rfl⟩
 have cG : n <= 34359738368 := by omega
 have m1 : (if (p : Int) < (q : Int) then (q : Int) else (p : Int)) = (n : Int) := by split <;> omega
 have m2 : (if (q : Int) < (p : Int) then (p : Int) else (q : Int)) = (n : Int) := by split <;> omega
 have m3 : max (p : Int) (q : Int) = (n : Int) := by omega
 have aO := Jrz (a := a) (b := b) (n := n) (by omega) (by omega)
 have HN := lh (And.intro hp (And.intro hq (And.intro hn aO)))
 have cH : p <= n := by omega
 have cI : q <= n := by omega
 have HR1 := lh aG
 have HR2 := lh y9
 clear hp hq hn aO aG y9
 have aA := Qh (P := Tryz.prog) Ju 0 24 163 4 Tryz.underlying24 Tryz.infoU32 rfl .i64 .i64 (n + 1) (by omega) (by omega)
 have m4 : ((n + 1 : Nat) : Int) = (n : Int) + 1 := by omega
 rw [m4] at aA
 clear m4
 go_enter Tryz.func158, Tryz.ntmps158
 go_wp2_with fail
 clear aA m1 m2 m3
 have j7 := Row.rep w 163 Ju 0 (n + 1)
 have j9 := Jb w (.cells (Array.replicate (n + 1) (Ju 0)) 163)
 obtain ⟨g, hg⟩ : ∃ g, w.heap.size = g := ⟨_, rfl⟩
 have bE : w.heap.size <= g := by omega
 have HG := lh hg
 rw [hg] at j7
 rw [hg]
 clear hg
 go_loopw [7, 8] (fun cc i wr => ∃ k c : Nat, k <= n + 1 /\ i = .int .i64 (k : Int) /\ cc = .int .u64 (c : Int) /\ c <= 1 /\ Jr5 w g n (dv 4294967296 ((Jd a).take k) + dv 4294967296 ((Jd b).take k)) k c wr) (fun _ i _ => n + 1 - (intOf i).toNat)
 case atStart => exact ⟨0, 0, by omega, rfl, rfl, by omega, [], rfl, Dig.nil, by simpa using j7, by simp [dv], j9⟩
 case round =>
  obtain ⟨k, c, hk, rfl, rfl, hc, pl, o0, cZ, j8, o9, j0⟩ := hrel
  rename World => wr
  clear j7 j9
  by_cases aP : k <= n
  ·have aB := Jhu A1 p c1 B k (Jd a) wr (HR1.out.below (j0.mono hB)) (by omega) (Jx a) (by omega)
   have cR := Jhu A2 q c2 B k (Jd b) wr (HR2.out.below (j0.mono hB)) (by omega) (Jx b) (by omega)
   have aQ := Jfj a k
   have bA := Jfj b k
   have aH := Jjx a k
   have aC := Jjx b k
   obtain ⟨x, hx⟩ : ∃ x, (Jd a).getD k 0 = x := ⟨_, rfl⟩
   obtain ⟨y, hy⟩ : ∃ y, (Jd b).getD k 0 = y := ⟨_, rfl⟩
   rw [hx] at aB aQ aH
   rw [hy] at cR bA aC
   obtain ⟨S, hS⟩ : ∃ S, c + x = S := ⟨_, rfl⟩
   obtain ⟨V, hV⟩ : ∃ V, S + y = V := ⟨_, rfl⟩
   obtain ⟨V1, bB⟩ : ∃ V1, V % 4294967296 = V1 := ⟨_, rfl⟩
   obtain ⟨V2, bF⟩ : ∃ V2, V / 4294967296 = V2 := ⟨_, rfl⟩
   have f1 : IntKind.u64.wrap ((c : Int) + (x : Int)) = (S : Int) := by rw [Jc _ (by omega) (by omega)]; omega
   have f2 : IntKind.u64.wrap ((S : Int) + (y : Int)) = (V : Int) := by rw [Jc _ (by omega) (by omega)]; omega
   have f3 : IntKind.u32.wrap (V : Int) = (V1 : Int) := by rw [Qb, bB]
   have f4 : (V : Int) / 4294967296 = (V2 : Int) := by omega
   have cT : n + 1 - k = (n - k) + 1 := by omega
   rw [cT] at j8
   have bU := j8.frozen k
   have aD := j8.cell (Jrq (m := n - k) o0)
   unfold Ju at aD
   have dA := j8.set_ k V1
   rw [Jro o0] at dA
   have j6 : dv 4294967296 (pl ++ [V1]) + V2 * 4294967296 ^ (k + 1) = dv 4294967296 ((Jd a).take (k + 1)) + dv 4294967296 ((Jd b).take (k + 1)) := by
    rw [Yp, o0, Xv, Ux, Nat.mul_zero, Nat.add_zero, aH, aC]
    have e1 : V2 * 4294967296 ^ (k + 1) = 4294967296 ^ k * (4294967296 * V2) := by rw [Nat.pow_succ, Nat.mul_comm V2, Nat.mul_assoc]
    have e2 : V1 + 4294967296 * V2 = c + x + y := by omega
    rw [e1, Nat.add_assoc, <- Nat.mul_add, e2, Nat.mul_add, Nat.mul_add, Nat.mul_comm _ c, Nat.mul_comm _ x, Nat.mul_comm _ y]
    omega
   have HF : Hid (Jr5 w g n (dv 4294967296 ((Jd a).take (k + 1)) + dv 4294967296 ((Jd b).take (k + 1))) (k + 1) V2 (wr.setCell ⟨g, k, none⟩ (Ju V1))) :=
    lh ⟨pl ++ [V1], by simp [o0], cZ.append (Dig.cons (by omega) Dig.nil), by rw [show n + 1 - (k + 1) = n - k from by omega]; exact dA, j6, j0.setCell bE _⟩
   have bG : V2 <= 1 := by omega
   have HAT1 := lh aB
   have HAT2 := lh cR
   have g1 : (k : Int) <= (n : Int) := by omega
   have g2 : (k : Int) < (n : Int) + 1 := by omega
   clear aB cR hx hy hS hV bB bF dA j6 aH aC j8 cZ o9 cT
   go_wp2_with fail
   refine HAT1.out.mono ?_
   rintro e w1 ⟨rfl, rfl⟩
   go_wp2_with fail
   refine HAT2.out.mono ?_
   rintro e w1 ⟨rfl, rfl⟩
   go_wp2
   exact ⟨⟨k + 1, V2, by omega, by go_num, rfl, bG, HF.out⟩, by simp [intOf]; omega⟩
  obtain rfl : k = n + 1 := by omega
  rw [Jq9 (by have := HN.out; omega), Jq9 (by have := HN.out; omega)] at o9
  have bH : c = 0 := by
   have h1 := HN.out.2.2.2
   rcases Nat.eq_zero_or_pos c with h0 | h0
   ·exact h0
   exfalso
   have h2 : 1 * 4294967296 ^ (n + 1) <= c * 4294967296 ^ (n + 1) := Nat.mul_le_mul_right _ h0
   rw [Nat.pow_succ] at h2
   rw [Nat.pow_succ] at o9
   have h3 : 0 < 4294967296 ^ n := Nat.pow_pos (by omega)
   omega
  subst bH
  rw [Nat.zero_mul, Nat.add_zero] at o9
  rw [Nat.sub_self, List.replicate_zero, List.append_nil] at j8
  have p9 := j8.reads
  rw [o0] at p9
  have g1 : ¬ ((n : Int) + 1 <= (n : Int)) := by omega
  have HF := lh (And.intro cZ (And.intro o9 (And.intro j8.ty j8.lt)))
  clear o9 cZ j8
  go_wp2_with fail
  refine (Yr (some ⟨g, 0, none⟩) (n + 1) (n + 1) _ pl wr p9 (by omega) (by omega)).mono ?_
  rintro e w5 ⟨rfl, rfl⟩
  go_wp2
  go_ret
  exact ⟨_, rfl, (IsN.trim p9 (by omega) (by omega) HF.out.1 HF.out.2.1 HF.out.2.2.1).more (by have := HF.out.2.2.2; omega), j0⟩
def Jr3 (w : World) (g n X Y k c : Nat) (wr : World) : Prop :=
 ∃ p : List Nat, p.length = k /\ Dig 4294967296 p /\ Row wr g 163 Ju (p ++ List.replicate (n - k) 0) /\ dv 4294967296 p + Y = X + c * 4294967296 ^ k /\ Below w.heap.size w wr
theorem Jrv {x y c : Nat} (hx : x < 4294967296) (hy : y < 4294967296) (hc : c <= 1) : ∃ d s c' : Nat, IntKind.u64.wrap (IntKind.u64.wrap ((x : Int) - (y : Int)) - (c : Int)) = (d : Int) /\ IntKind.u32.wrap (d : Int) = (s : Int) /\ (d : Int) / 9223372036854775808 = (c' : Int) /\ s < 4294967296 /\ c' <= 1 /\ s + y + c = x + 4294967296 * c' := by
 by_cases h : y + c <= x
 ·refine ⟨x - y - c, x - y - c, 0, ?_, ?_, by omega, by omega, by omega, by omega⟩
  ·rw [Jc ((x : Int) - (y : Int)) (by omega) (by omega), Jc _ (by omega) (by omega)]
   omega
  rw [Qb, Nat.mod_eq_of_lt (by omega)]
 refine ⟨18446744073709551616 + x - y - c, 4294967296 + x - y - c, 1, ?_, ?_, by omega, by omega, by omega, by omega⟩
 ·simp only [IntKind.wrap, IntKind.bits, IntKind.signed]
  simp
  omega
 rw [Qb]
 congr 1
 omega
theorem Jrb (a b B : Nat) (va vb : Value) (w : World) (h : IsN w B va a) (h' : IsN w B vb b) (hB : B <= w.heap.size) (aJ : (Jd a).length <= 34359738368) (bM : b <= a) :
  Calls Tryz.prog 159 #[va, vb] w (Jkl (a - b) w) := by
 obtain ⟨A1, c1, rfl, aK, aL, aG, _⟩ := h
 obtain ⟨A2, c2, rfl, aM, aN, y9, _⟩ := h'
 have aF := Zv bM
 obtain ⟨n, hn⟩ : ∃ n, (Jd a).length = n := ⟨_, rfl⟩
 obtain ⟨q, hq⟩ : ∃ q, (Jd b).length = q := ⟨_, rfl⟩
 rw [hn] at aG aK aJ aF
 rw [hq] at y9 aM aF
 rw [hn, hq]
 have HN := lh (And.intro hn (And.intro hq bM))
 have HR1 := lh aG
 have HR2 := lh y9
 clear hn hq y9
 have aA := Qh (P := Tryz.prog) Ju 0 24 163 4 Tryz.underlying24 Tryz.infoU32 rfl .i64 .i64 n (by omega) (by omega)
 go_enter Tryz.func159, Tryz.ntmps159
 go_wp2_with fail
 clear aA
 have j7 := Row.rep w 163 Ju 0 n
 have j9 := Jb w (.cells (Array.replicate n (Ju 0)) 163)
 obtain ⟨g, hg⟩ : ∃ g, w.heap.size = g := ⟨_, rfl⟩
 have bE : w.heap.size <= g := by omega
 have HG := lh hg
 rw [hg] at j7
 rw [hg]
 clear hg
 go_loopw [6, 7] (fun cc i wr => ∃ k c : Nat, k <= n /\ i = .int .i64 (k : Int) /\ cc = .int .u64 (c : Int) /\ c <= 1 /\ Jr3 w g n (dv 4294967296 ((Jd a).take k)) (dv 4294967296 ((Jd b).take k)) k c wr) (fun _ i _ => n - (intOf i).toNat)
 case atStart => exact ⟨0, 0, by omega, rfl, rfl, by omega, [], rfl, Dig.nil, by simpa using j7, by simp [dv], j9⟩
 case round =>
  obtain ⟨k, c, hk, rfl, rfl, hc, pl, o0, cZ, j8, o9, j0⟩ := hrel
  rename World => wr
  clear j7 j9
  by_cases aP : k < n
  ·obtain ⟨ad, x, hA, cJ, hx, aR⟩ := (HR1.out.below (j0.mono hB)).atf aP
   subst hA
   unfold Ju at aR
   have cR := fun m => Jhu A2 q c2 B k (Jd b) (wr.drewN m) ((HR2.out.below (j0.mono hB)).drewN m) (by omega) (Jx b) (by omega)
   have aQ := (Jx a).get hx
   have bA := Jfj b k
   have aH := Jv (β := 4294967296) hx
   have aC := Jjx b k
   obtain ⟨y, hy⟩ : ∃ y, (Jd b).getD k 0 = y := ⟨_, rfl⟩
   rw [hy] at cR bA aC
   obtain ⟨d, s, c', f1, f2, f3, bV, bI, cU⟩ := Jrv aQ bA hc
   have f0 : IntKind.u64.wrap (x : Int) = (x : Int) := by rw [Jc _ (by omega) (by omega)]
   have cT : n - k = (n - (k + 1)) + 1 := by omega
   rw [cT] at j8
   have bU := j8.frozen k
   have aD := j8.cell (Jrq (m := n - (k + 1)) o0)
   unfold Ju at aD
   have dA : ∀ m, Row ((wr.drewN m).setCell ⟨g, k, none⟩ (Ju s)) g 163 Ju ((pl ++ [s]) ++ List.replicate (n - (k + 1)) 0) := fun m => by
    have := (j8.drewN m).set_ k s
    rw [Jro o0] at this
    exact this
   have j6 : dv 4294967296 (pl ++ [s]) + dv 4294967296 ((Jd b).take (k + 1)) = dv 4294967296 ((Jd a).take (k + 1)) + c' * 4294967296 ^ (k + 1) := by
    rw [Yp, o0, Xv, Ux, Nat.mul_zero, Nat.add_zero, aH, aC]
    have e1 : c' * 4294967296 ^ (k + 1) = (4294967296 * c') * 4294967296 ^ k := by rw [Nat.pow_succ, Nat.mul_comm (4294967296 ^ k), <- Nat.mul_assoc, Nat.mul_comm c']
    have e2 : 4294967296 ^ k * s + y * 4294967296 ^ k + c * 4294967296 ^ k = x * 4294967296 ^ k + 4294967296 * c' * 4294967296 ^ k := by
     rw [Nat.mul_comm _ s, <- Nat.add_mul, <- Nat.add_mul, cU, Nat.add_mul]
    rw [e1]
    omega
   have HF : Hid (∀ m, Jr3 w g n (dv 4294967296 ((Jd a).take (k + 1))) (dv 4294967296 ((Jd b).take (k + 1))) (k + 1) c' ((wr.drewN m).setCell ⟨g, k, none⟩ (Ju s))) :=
    lh fun m => ⟨pl ++ [s], by simp [o0], cZ.append (Dig.cons bV Dig.nil), dA m, j6, (Jw j0 m).setCell bE _⟩
   have HAT2 := lh cR
   have g1 : (k : Int) < (n : Int) := by omega
   clear cR hx hy dA j6 aH aC j8 cZ o9 cT cU
   go_wp2_with fail
   go_quiet ((go_at_call 170; exact Jp4 (HAT2.out _)))
   go_wp2
   exact ⟨⟨k + 1, c', by omega, by go_num, rfl, bI, HF.out _⟩, by simp [intOf]; omega⟩
  obtain rfl : k = n := by omega
  rw [Jq9 (by have := HN.out; omega), Jq9 (by have := HN.out; omega)] at o9
  have aS := Xm cZ
  rw [o0] at aS
  have bH : c = 0 := by
   have h1 := HN.out.2.2
   rcases Nat.eq_zero_or_pos c with h0 | h0
   ·exact h0
   exfalso
   have h2 : 1 * 4294967296 ^ k <= c * 4294967296 ^ k := Nat.mul_le_mul_right _ h0
   omega
  subst bH
  rw [Nat.zero_mul, Nat.add_zero] at o9
  rw [Nat.sub_self, List.replicate_zero, List.append_nil] at j8
  have aT : dv 4294967296 pl = a - b := by omega
  have p9 := j8.reads
  rw [o0] at p9
  have g1 : ¬ ((k : Int) < (k : Int)) := by omega
  have HF := lh (And.intro cZ (And.intro aT (And.intro j8.ty j8.lt)))
  clear o9 cZ j8 aT aS
  go_wp2_with fail
  refine (Yr (some ⟨g, 0, none⟩) k k _ pl wr p9 (by omega) (by omega)).mono ?_
  rintro e w5 ⟨rfl, rfl⟩
  go_wp2
  go_ret
  exact ⟨_, rfl, (IsN.trim p9 (by omega) (by omega) HF.out.1 HF.out.2.1 HF.out.2.2.1).more (by have := HF.out.2.2.2; omega), j0⟩
def Jr4 (w : World) (g len N : Nat) (wr : World) : Prop :=
 ∃ l : List Nat, l.length = len /\ Row wr g 163 Ju l /\ Dig 4294967296 l /\ dv 4294967296 l = N /\ Below w.heap.size w wr
def Jr1 (w : World) (g len N : Nat) (k c top : Nat) (wr : World) : Prop :=
 ∃ l : List Nat, l.length = len /\ Row wr g 163 Ju l /\ Dig 4294967296 l /\ dv 4294967296 l + c * 4294967296 ^ k = N /\ dv 4294967296 (l.drop top) = 0 /\ Below w.heap.size w wr
theorem Jry {m n x c : Nat} (hm : m < 4294967296) (hn : n < 4294967296) (hx : x < 4294967296) (hc : c < 4294967296) : ∃ S P V V1 V2 : Nat, IntKind.u64.wrap ((c : Int) + (x : Int)) = (S : Int) /\ IntKind.u64.wrap ((m : Int) * (n : Int)) = (P : Int) /\ IntKind.u64.wrap ((S : Int) + (P : Int)) = (V : Int) /\
  IntKind.u32.wrap (V : Int) = (V1 : Int) /\ (V : Int) / 4294967296 = (V2 : Int) /\ V1 < 4294967296 /\ V2 < 4294967296 /\ V1 + 4294967296 * V2 = x + m * n + c := by
 have hP : m * n <= 4294967295 * 4294967295 := Nat.mul_le_mul (by omega) (by omega)
 obtain ⟨P, bN⟩ : ∃ P, m * n = P := ⟨_, rfl⟩
 rw [bN] at hP ⊢
 refine ⟨c + x, P, c + x + P, (c + x + P) % 4294967296, (c + x + P) / 4294967296, ?_, ?_, ?_, ?_, ?_, by omega, by omega, by omega⟩
 ·rw [Jc _ (by omega) (by omega)]; omega
 ·rw [<- Int.natCast_mul, bN, Jc _ (by omega) (by omega)]
 ·rw [Jc _ (by omega) (by omega)]; omega
 ·rw [Qb]
 omega
theorem Jrh (a b B : Nat) (va vb : Value) (w : World) (h : IsN w B va a) (h' : IsN w B vb b) (hB : B <= w.heap.size) (aJ : (Jd a).length <= 34359738368) (aF : (Jd b).length <= 34359738368) :
  Calls Tryz.prog 116 #[va, vb] w (Jkl (a * b) w) := by
 obtain ⟨A1, c1, rfl, aK, aL, hX, _⟩ := h
 obtain ⟨A2, c2, rfl, aM, aN, hY, _⟩ := h'
 obtain ⟨p, hp⟩ : ∃ p, (Jd a).length = p := ⟨_, rfl⟩
 obtain ⟨q, hq⟩ : ∃ q, (Jd b).length = q := ⟨_, rfl⟩
 rw [hp] at hX aK aJ
 rw [hq] at hY aM aF
 rw [hp, hq]
 have aA := Qh (P := Tryz.prog) Ju 0 24 163 4 Tryz.underlying24 Tryz.infoU32 rfl .i64 .i64 (p + q) (by omega) (by omega)
 obtain ⟨L, hL⟩ : ∃ L, p + q = L := ⟨_, rfl⟩
 have cK : (p : Int) + (q : Int) = (L : Int) := by omega
 rw [hL] at aA
 have HL := lh (And.intro hp (And.intro hq hL))
 have cL : p <= L := by omega
 have cN : L <= 68719476736 := by omega
 clear hp hq hL
 go_enter Tryz.func116, Tryz.ntmps116
 go_wp2_with fail
 clear aA
 have j7 := Row.rep w 163 Ju 0 L
 have j0 := Jb w (.cells (Array.replicate L (Ju 0)) 163)
 obtain ⟨g, hg⟩ : ∃ g, w.heap.size = g := ⟨_, rfl⟩
 rw [hg] at j7
 rw [hg]
 have bO : w.heap.size <= g := by omega
 clear hg
 go_loopw [6] (fun i wr => ∃ k : Nat, k <= p /\ i = .int .i64 k /\ Jr4 w g L (dv 4294967296 ((Jd a).take k) * b) wr) (fun i _ => p - (intOf i).toNat)
 case atStart => exact ⟨0, Nat.zero_le _, rfl, _, by simp, j7, Dig.rep (by omega) _, by rw [Yx]; simp [dv], j0⟩
 case round =>
  obtain ⟨i, hi, rfl, l0, bC, aE, aU, aI, bD⟩ := hrel
  rename World => wr
  clear j7 j0
  by_cases aP : i < p
  ·have bJ := hX.below (bD.mono hB)
   obtain ⟨ad, m, hA, cO, hm, aV⟩ := bJ.atf aP
   have bW := (Jx a).get hm
   have bP := Jv (β := 4294967296) hm
   have aW : dv 4294967296 (l0.drop (i + q)) = 0 := by
    apply Kg aU (by omega)
    rw [aI, Nat.pow_add]
    have h1 := Xm ((Jx a).take i)
    have h2 := Xz b
    rw [List.length_take, HL.out.1, Nat.min_eq_left (by omega)] at h1
    rw [HL.out.2.1] at h2
    exact Nat.mul_lt_mul'' h1 h2
   have HV0 := lh (And.intro aI (And.intro bC (And.intro bP hm)))
   unfold Ju at aV
   have cP : (i : Int) < (p : Int) := by omega
   clear aI bC bP hm
   subst hA
   go_wp2_with fail
   obtain ⟨wo, bQ⟩ : ∃ wo : World, wo = wr := ⟨_, rfl⟩
   rw [<- bQ] at bD aE bJ aV ⊢
   clear bQ
   go_loopw [7, 8] (fun c j wr => ∃ t c' : Nat, t <= q /\ c' < 4294967296 /\ j = .int .i64 t /\ c = .int .u64 c' /\ Jr1 w g L (dv 4294967296 ((Jd a).take i) * b + m * dv 4294967296 ((Jd b).take t) * 4294967296 ^ i) (i + t) c' (i + q) wr) (fun _ j _ => q - (intOf j).toNat)
   case atStart =>
    exact ⟨0, 0, Nat.zero_le _, by omega, rfl, rfl, l0, HV0.out.2.1, aE, aU, by rw [HV0.out.1]; simp [dv], aW, bD⟩
   case round =>
    obtain ⟨t, c, ht, aD, rfl, rfl, l, hl, hr, hd, hv, aX, hb⟩ := hrel
    rename World => wv
    clear aE aU aW bJ aV
    have HV := lh (And.intro hv (And.intro hl aX))
    clear hv hl aX
    by_cases bK : t < q
    ·have bR := hX.below (hb.mono hB)
     obtain ⟨ad', m', bX, _, bS, aV⟩ := bR.atf aP
     obtain rfl := Option.some.inj bX
     have bY : m' = m := by have h1 := HV0.out.2.2.2; rw [bS] at h1; exact Option.some.inj h1
     subst bY
     unfold Ju at aV
     have bT := hY.below (hb.mono hB)
     obtain ⟨ad2, n, bZ, cA, hn, cB⟩ := bT.atf bK
     have cD := (Jx b).get hn
     have aY := Jv (β := 4294967296) hn
     have s9 : i + t < L := by have := HL.out; omega
     obtain ⟨x, hx⟩ : ∃ x, l[i + t]? = some x := ⟨_, List.getElem?_eq_getElem (by rw [HV.out.2.1]; exact s9)⟩
     have aQ := hd.get hx
     obtain ⟨S, P, V, V1, V2, f1, f2, f3, f4, f5, bB, bF, cU⟩ := Jry bW cD aQ aD
     have j6 := Ky (s := V1) (c' := V2) (b := m' * n) hx cU HV.out.1
     have dB : dv 4294967296 (l.set (i + t) V1) + V2 * 4294967296 ^ (i + (t + 1)) = dv 4294967296 ((Jd a).take i) * b + m' * dv 4294967296 ((Jd b).take (t + 1)) * 4294967296 ^ i := by
      rw [<- Nat.add_assoc, j6, aY, Nat.mul_add, Nat.add_mul, Nat.pow_add, Nat.add_assoc]
      congr 2
      rw [Nat.mul_comm (4294967296 ^ i), Nat.mul_assoc, Nat.mul_assoc, Nat.mul_assoc]
     obtain ⟨j, hj⟩ : ∃ j, i + t = j := ⟨_, rfl⟩
     rw [hj] at hx s9
     have bL := hr.cell hx
     have cE := hr.frozen j
     have HF : Hid (∀ z, Jr1 w g L (dv 4294967296 ((Jd a).take i) * b + m' * dv 4294967296 ((Jd b).take (t + 1)) * 4294967296 ^ i) (i + (t + 1)) V2 (i + q) ((wv.drewN z).setCell ⟨g, j, none⟩ (Ju V1))) := lh fun z => by
      refine ⟨l.set j V1, by rw [List.length_set]; exact HV.out.2.1, (hr.drewN z).set_ j V1, hd.set_ _ bB, by rw [<- hj]; exact dB, ?_, (Jw hb z).setCell bO _⟩
      rw [List.drop_set_of_lt (by omega)]
      exact HV.out.2.2
     have k0 : (i : Int) + (t : Int) = (j : Int) := by omega
     have k1 : IntKind.i64.wrap (j : Int) = (j : Int) := IntWalk.i64_in _ (by omega)
     have k2 : (j : Int) < (L : Int) := by omega
     have k4 : (t : Int) < (q : Int) := by omega
     have u1 : IntKind.u64.wrap (x : Int) = (x : Int) := by rw [Jc _ (by omega) (by omega)]
     have u2 : IntKind.u64.wrap (m' : Int) = (m' : Int) := by rw [Jc _ (by omega) (by omega)]
     have u3 : IntKind.u64.wrap (n : Int) = (n : Int) := by rw [Jc _ (by omega) (by omega)]
     unfold Ju at bL cB
     clear cU j6 dB hx hn aY hd hb bT bR bS hj hr
     subst bZ
     go_wp2_with fail
     go_quiet (fail)
     go_wp2
     exact ⟨⟨t + 1, V2, by omega, bF, by go_num, rfl, HF.out _⟩, by simp [intOf]; omega⟩
    obtain rfl : t = q := by omega
    have s9 : i + t < L := by have := HL.out; omega
    obtain ⟨x, hx⟩ : ∃ x, l[i + t]? = some x := ⟨_, List.getElem?_eq_getElem (by rw [HV.out.2.1]; exact s9)⟩
    have cF : x = 0 := Jaq (by omega) HV.out.2.2 (k := 0) (by rw [List.getElem?_drop]; exact hx)
    subst cF
    have dA := Yl (β := 4294967296) c hx
    have j6 : dv 4294967296 (l.set (i + t) c) = dv 4294967296 ((Jd a).take (i + 1)) * b := by
     have h1 := HV.out.1
     rw [Jq9 (a := b) (k := t) (by rw [HL.out.2.1]; omega)] at h1
     rw [HV0.out.2.2.1, Nat.add_mul]
     have h2 : m * b * 4294967296 ^ i = m * 4294967296 ^ i * b := by rw [Nat.mul_right_comm]
     omega
    obtain ⟨j, hj⟩ : ∃ j, i + t = j := ⟨_, rfl⟩
    rw [hj] at hx s9 j6
    have bL := hr.cell hx
    have cE := hr.frozen j
    have aZ : Jr4 w g L (dv 4294967296 ((Jd a).take (i + 1)) * b) (wv.setCell ⟨g, j, none⟩ (Ju c)) :=
     ⟨l.set j c, by rw [List.length_set]; exact HV.out.2.1, hr.set_ j c, hd.set_ _ aD, j6, hb.setCell bO _⟩
    have HFIN := lh aZ
    have k0 : (i : Int) + (t : Int) = (j : Int) := by omega
    have k2 : (j : Int) < (L : Int) := by omega
    have k4 : ¬ (t : Int) < (t : Int) := by omega
    have u1 : IntKind.u32.wrap (c : Int) = (c : Int) := by rw [Qb, Nat.mod_eq_of_lt aD]
    unfold Ju at bL
    clear dA j6 aZ hx hd hb hj hr
    go_wp2
    exact ⟨⟨i + 1, by omega, by go_num, HFIN.out⟩, by simp [intOf]; omega⟩
  obtain rfl : i = p := by omega
  rw [Jq9 (by rw [HL.out.1]; omega)] at aI
  have p9 := aE.reads
  rw [bC] at p9
  have HF := lh (And.intro aU (And.intro aI (And.intro aE.ty aE.lt)))
  clear aU aI aE bC
  have k4 : ¬ (i : Int) < (i : Int) := by omega
  go_wp2_with fail
  refine (Yr (some ⟨g, 0, none⟩) L L _ l0 wr p9 (by omega) (by omega)).mono ?_
  rintro e w5 ⟨rfl, rfl⟩
  go_wp2
  go_ret
  exact ⟨_, rfl, (IsN.trim p9 (by omega) (by omega) HF.out.1 HF.out.2.1 HF.out.2.2.1).more (by have := HF.out.2.2.2; omega), bD⟩
