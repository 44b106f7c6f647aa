import Derived.Test.YtacbcaebaomglaaGreatDoorRefShift
namespace Go.Proofs.YtacbcaebaomglaaGreatDoor
set_option maxRecDepth 100000
set_option maxHeartbeats 1000000
open Go.RowKit
set_option linter.all false
theorem Ji3 {P : Program} {f : FuncId} {args : Array Value} {w : World} {n : Nat} {v : Value} (h : Calls P f args (w.drewN n) fun e w' => e = .returned v /\ w.drewN n = w') : Calls P f args (w.drewN n) fun e w'' => e = .returned v /\ ∃ m, w'' = w.drewN m :=
 h.mono fun _ _ ⟨he, hm⟩ => ⟨he, n, hm.symm⟩
theorem Jjz {p : List Nat} {k m x : Nat} (hk : p.length = k) : (p ++ List.replicate (m + 1) 0).set k x = (p ++ [x]) ++ List.replicate m 0 := by
 subst hk
 rw [List.set_append_right _ _ zd, Nat.sub_self, List.replicate_succ, List.set_cons_zero, List.append_assoc]
 rfl
theorem Jj5 {p : List Nat} {k m : Nat} (hk : p.length = k) : (p ++ List.replicate (m + 1) 0)[k]? = some 0 := by
 subst hk
 rw [List.getElem?_append_right zd, Nat.sub_self, List.replicate_succ]
 rfl
theorem Ux {a k : Nat} (h : (Jc a).length <= k) : dv 4294967296 ((Jc a).take k) = a := by rw [List.take_of_length_le h, Qg]
theorem Jmb {a b n : Nat} (h1 : (Jc a).length <= n) (h2 : (Jc b).length <= n) : a + b < 2 * 4294967296 ^ n := by
 have e1 := Nat.lt_of_lt_of_le (Xj a) (Nat.pow_le_pow_right (show 0 < 4294967296 by omega) h1)
 have e2 := Nat.lt_of_lt_of_le (Xj b) (Nat.pow_le_pow_right (show 0 < 4294967296 by omega) h2)
 omega
def Jpe (w : World) (g n X k c : Nat) (wr : World) : Prop :=
 ∃ p : List Nat, p.length = k /\ Dig 4294967296 p /\ Row wr g 166 Jo (p ++ List.replicate (n + 1 - k) 0) /\ dv 4294967296 p + c * 4294967296 ^ k = X /\ Below w.heap.size w wr
theorem Jiz (a b B : Nat) (va vb : Value) (w : World) (h : IsN w B va a) (h' : IsN w B vb b) (hB : B <= w.heap.size) (aA : (Jc a).length <= 34359738368) (x8 : (Jc b).length <= 34359738368) :
  Calls Tryz.prog 170 #[va, vb] w (Jbm (a + b) w) := by
 obtain ⟨A1, c1, rfl, aB, aC, x9, _⟩ := h
 obtain ⟨A2, c2, rfl, aD, aE, q8, _⟩ := h'
 obtain ⟨p, hp⟩ : ∃ p, (Jc a).length = p := ⟨_, rfl⟩
 obtain ⟨q, hq⟩ : ∃ q, (Jc b).length = q := ⟨_, rfl⟩
 rw [hp] at x9 aB aA
 rw [hq] at q8 aD x8
 rw [hp, hq]
 obtain ⟨n, hn⟩ : ∃ n, max p q = n := ⟨_, rfl⟩
 have bW : n <= 34359738368 := by omega
 have m1 : (if (p : Int) < (q : Int) then (q : Int) else (p : Int)) = (n : Int) := by split <;> omega
 have m2 : (if (q : Int) < (p : Int) then (p : Int) else (q : Int)) = (n : Int) := by split <;> omega
 have m3 : max (p : Int) (q : Int) = (n : Int) := by omega
 have aF := Jmb (a := a) (b := b) (n := n) (by omega) (by omega)
 have HN := lh (And.intro hp (And.intro hq (And.intro hn aF)))
 have bX : p <= n := by omega
 have bY : q <= n := by omega
 have HR1 := lh x9
 have HR2 := lh q8
 clear hp hq hn aF x9 q8
 have s9 := Qf (P := Tryz.prog) Jo 0 52 166 4 Tryz.underlying52 Tryz.infoU32 rfl .i64 .i64 (n + 1) (by omega) (by omega)
 have m4 : ((n + 1 : Nat) : Int) = (n : Int) + 1 := by omega
 rw [m4] at s9
 clear m4
 go_enter Tryz.func170, Tryz.ntmps170
 go_wp2_with fail
 clear s9 m1 m2 m3
 have j0 := Row.rep w 166 Jo 0 (n + 1)
 have j7 := Jb w (.cells (Array.replicate (n + 1) (Jo 0)) 166)
 obtain ⟨g, hg⟩ : ∃ g, w.heap.size = g := ⟨_, rfl⟩
 have aV : w.heap.size <= g := by omega
 have HG := lh hg
 rw [hg] at j0
 rw [hg]
 clear hg
 go_loopw [7, 8] (fun cc i wr => ∃ k c : Nat, k <= n + 1 /\ i = .int .i64 (k : Int) /\ cc = .int .u64 (c : Int) /\ c <= 1 /\ Jpe w g n (dv 4294967296 ((Jc a).take k) + dv 4294967296 ((Jc b).take k)) k c wr) (fun _ i _ => n + 1 - (intOf i).toNat)
 case atStart => exact ⟨0, 0, by omega, rfl, rfl, by omega, [], rfl, Dig.nil, by simpa using j0, by simp [dv], j7⟩
 case round =>
  obtain ⟨k, c, hk, rfl, rfl, hc, pl, j9, p7, j6, o0, e8⟩ := hrel
  rename World => wr
  clear j0 j7
  by_cases aG : k <= n
  ·have t7 := Jcb A1 p c1 B k (Jc a) wr (HR1.out.below (e8.mono hB)) (by omega) (Jq a) (by omega)
   have j8 := Jcb A2 q c2 B k (Jc b) wr (HR2.out.below (e8.mono hB)) (by omega) (Jq b) (by omega)
   have aH := Jay a k
   have aR := Jay b k
   have y8 := Jax a k
   have t8 := Jax b k
   obtain ⟨x, hx⟩ : ∃ x, (Jc a).getD k 0 = x := ⟨_, rfl⟩
   obtain ⟨y, hy⟩ : ∃ y, (Jc b).getD k 0 = y := ⟨_, rfl⟩
   rw [hx] at t7 aH y8
   rw [hy] at j8 aR t8
   obtain ⟨S, hS⟩ : ∃ S, c + x = S := ⟨_, rfl⟩
   obtain ⟨V, hV⟩ : ∃ V, S + y = V := ⟨_, rfl⟩
   obtain ⟨V1, aS⟩ : ∃ V1, V % 4294967296 = V1 := ⟨_, rfl⟩
   obtain ⟨V2, aW⟩ : ∃ V2, V / 4294967296 = V2 := ⟨_, rfl⟩
   have f1 : IntKind.u64.wrap ((c : Int) + (x : Int)) = (S : Int) := by rw [Jd _ (by omega) (by omega)]; omega
   have f2 : IntKind.u64.wrap ((S : Int) + (y : Int)) = (V : Int) := by rw [Jd _ (by omega) (by omega)]; omega
   have f3 : IntKind.u32.wrap (V : Int) = (V1 : Int) := by rw [Jr, aS]
   have f4 : (V : Int) / 4294967296 = (V2 : Int) := by omega
   have o6 : n + 1 - k = (n - k) + 1 := by omega
   rw [o6] at j6
   have bL := j6.frozen k
   have u4 := j6.cell (Jj5 (m := n - k) j9)
   unfold Jo at u4
   have p8 := j6.set_ k V1
   rw [Jjz j9] at p8
   have e9 : dv 4294967296 (pl ++ [V1]) + V2 * 4294967296 ^ (k + 1) = dv 4294967296 ((Jc a).take (k + 1)) + dv 4294967296 ((Jc b).take (k + 1)) := by
    rw [Yk, j9, Xw, Up, Nat.mul_zero, Nat.add_zero, y8, t8]
    have e1 : V2 * 4294967296 ^ (k + 1) = 4294967296 ^ k * (4294967296 * V2) := by rw [Nat.pow_succ, Nat.mul_comm V2, Nat.mul_assoc]
    have e2 : V1 + 4294967296 * V2 = c + x + y := by omega
    rw [e1, Nat.add_assoc, <- Nat.mul_add, e2, Nat.mul_add, Nat.mul_add, Nat.mul_comm _ c, Nat.mul_comm _ x, Nat.mul_comm _ y]
    omega
   have HF : Hid (Jpe w g n (dv 4294967296 ((Jc a).take (k + 1)) + dv 4294967296 ((Jc b).take (k + 1))) (k + 1) V2 (wr.setCell ⟨g, k, none⟩ (Jo V1))) :=
    lh ⟨pl ++ [V1], by simp [j9], p7.append (Dig.cons (by omega) Dig.nil), by rw [show n + 1 - (k + 1) = n - k from by omega]; exact p8, e9, e8.setCell aV _⟩
   have aX : V2 <= 1 := by omega
   have HAT1 := lh t7
   have HAT2 := lh j8
   have g1 : (k : Int) <= (n : Int) := by omega
   have g2 : (k : Int) < (n : Int) + 1 := by omega
   clear t7 j8 hx hy hS hV aS aW p8 e9 y8 t8 j6 p7 o0 o6
   go_wp2_with fail
   refine HAT1.out.mono ?_
   rintro e w1 ⟨rfl, rfl⟩
   go_wp2_with fail
   refine HAT2.out.mono ?_
   rintro e w1 ⟨rfl, rfl⟩
   go_wp2
   exact ⟨⟨k + 1, V2, by omega, by go_num, rfl, aX, HF.out⟩, by simp [intOf]; omega⟩
  obtain rfl : k = n + 1 := by omega
  rw [Ux (by have := HN.out; omega), Ux (by have := HN.out; omega)] at o0
  have aY : c = 0 := by
   have h1 := HN.out.2.2.2
   rcases Nat.eq_zero_or_pos c with h0 | h0
   ·exact h0
   exfalso
   have h2 : 1 * 4294967296 ^ (n + 1) <= c * 4294967296 ^ (n + 1) := Nat.mul_le_mul_right _ h0
   rw [Nat.pow_succ] at h2
   rw [Nat.pow_succ] at o0
   have h3 : 0 < 4294967296 ^ n := Nat.pow_pos (by omega)
   omega
  subst aY
  rw [Nat.zero_mul, Nat.add_zero] at o0
  rw [Nat.sub_self, List.replicate_zero, List.append_nil] at j6
  have o7 := j6.reads
  rw [j9] at o7
  have g1 : ¬ ((n : Int) + 1 <= (n : Int)) := by omega
  have HF := lh (And.intro p7 (And.intro o0 (And.intro j6.ty j6.lt)))
  clear o0 p7 j6
  go_wp2_with fail
  refine (Zr (some ⟨g, 0, none⟩) (n + 1) (n + 1) _ pl wr o7 (by omega) (by omega)).mono ?_
  rintro e w5 ⟨rfl, rfl⟩
  go_wp2
  go_ret
  exact ⟨_, rfl, (IsN.trim o7 (by omega) (by omega) HF.out.1 HF.out.2.1 HF.out.2.2.1).more (by have := HF.out.2.2.2; omega), e8⟩
def Jpa (w : World) (g n X Y k c : Nat) (wr : World) : Prop :=
 ∃ p : List Nat, p.length = k /\ Dig 4294967296 p /\ Row wr g 166 Jo (p ++ List.replicate (n - k) 0) /\ dv 4294967296 p + Y = X + c * 4294967296 ^ k /\ Below w.heap.size w wr
theorem Jln {x y c : Nat} (hx : x < 4294967296) (hy : y < 4294967296) (hc : c <= 1) : ∃ d s c' : Nat, IntKind.u64.wrap (IntKind.u64.wrap ((x : Int) - (y : Int)) - (c : Int)) = (d : Int) /\ IntKind.u32.wrap (d : Int) = (s : Int) /\ (d : Int) / 9223372036854775808 = (c' : Int) /\ s < 4294967296 /\ c' <= 1 /\ s + y + c = x + 4294967296 * c' := by
 by_cases h : y + c <= x
 ·refine ⟨x - y - c, x - y - c, 0, ?_, ?_, by omega, by omega, by omega, by omega⟩
  ·rw [Jd ((x : Int) - (y : Int)) (by omega) (by omega), Jd _ (by omega) (by omega)]
   omega
  rw [Jr, Nat.mod_eq_of_lt (by omega)]
 refine ⟨18446744073709551616 + x - y - c, 4294967296 + x - y - c, 1, ?_, ?_, by omega, by omega, by omega, by omega⟩
 ·simp only [IntKind.wrap, IntKind.bits, IntKind.signed]
  simp
  omega
 rw [Jr]
 congr 1
 omega
theorem Jdo (a b B : Nat) (va vb : Value) (w : World) (h : IsN w B va a) (h' : IsN w B vb b) (hB : B <= w.heap.size) (aA : (Jc a).length <= 34359738368) (bD : b <= a) :
  Calls Tryz.prog 171 #[va, vb] w (Jbm (a - b) w) := by
 obtain ⟨A1, c1, rfl, aB, aC, x9, _⟩ := h
 obtain ⟨A2, c2, rfl, aD, aE, q8, _⟩ := h'
 have x8 := Yc bD
 obtain ⟨n, hn⟩ : ∃ n, (Jc a).length = n := ⟨_, rfl⟩
 obtain ⟨q, hq⟩ : ∃ q, (Jc b).length = q := ⟨_, rfl⟩
 rw [hn] at x9 aB aA x8
 rw [hq] at q8 aD x8
 rw [hn, hq]
 have HN := lh (And.intro hn (And.intro hq bD))
 have HR1 := lh x9
 have HR2 := lh q8
 clear hn hq q8
 have s9 := Qf (P := Tryz.prog) Jo 0 52 166 4 Tryz.underlying52 Tryz.infoU32 rfl .i64 .i64 n (by omega) (by omega)
 go_enter Tryz.func171, Tryz.ntmps171
 go_wp2_with fail
 clear s9
 have j0 := Row.rep w 166 Jo 0 n
 have j7 := Jb w (.cells (Array.replicate n (Jo 0)) 166)
 obtain ⟨g, hg⟩ : ∃ g, w.heap.size = g := ⟨_, rfl⟩
 have aV : w.heap.size <= g := by omega
 have HG := lh hg
 rw [hg] at j0
 rw [hg]
 clear hg
 go_loopw [6, 7] (fun cc i wr => ∃ k c : Nat, k <= n /\ i = .int .i64 (k : Int) /\ cc = .int .u64 (c : Int) /\ c <= 1 /\ Jpa w g n (dv 4294967296 ((Jc a).take k)) (dv 4294967296 ((Jc b).take k)) k c wr) (fun _ i _ => n - (intOf i).toNat)
 case atStart => exact ⟨0, 0, by omega, rfl, rfl, by omega, [], rfl, Dig.nil, by simpa using j0, by simp [dv], j7⟩
 case round =>
  obtain ⟨k, c, hk, rfl, rfl, hc, pl, j9, p7, j6, o0, e8⟩ := hrel
  rename World => wr
  clear j0 j7
  by_cases aG : k < n
  ·obtain ⟨ad, x, hA, bZ, hx, aI⟩ := (HR1.out.below (e8.mono hB)).atf aG
   subst hA
   unfold Jo at aI
   have j8 := fun m => Jcb A2 q c2 B k (Jc b) (wr.drewN m) ((HR2.out.below (e8.mono hB)).drewN m) (by omega) (Jq b) (by omega)
   have aH := (Jq a).get hx
   have aR := Jay b k
   have y8 := Js (β := 4294967296) hx
   have t8 := Jax b k
   obtain ⟨y, hy⟩ : ∃ y, (Jc b).getD k 0 = y := ⟨_, rfl⟩
   rw [hy] at j8 aR t8
   obtain ⟨d, s, c', f1, f2, f3, bM, aZ, o8⟩ := Jln aH aR hc
   have f0 : IntKind.u64.wrap (x : Int) = (x : Int) := by rw [Jd _ (by omega) (by omega)]
   have o6 : n - k = (n - (k + 1)) + 1 := by omega
   rw [o6] at j6
   have bL := j6.frozen k
   have u4 := j6.cell (Jj5 (m := n - (k + 1)) j9)
   unfold Jo at u4
   have p8 : ∀ m, Row ((wr.drewN m).setCell ⟨g, k, none⟩ (Jo s)) g 166 Jo ((pl ++ [s]) ++ List.replicate (n - (k + 1)) 0) := fun m => by
    have := (j6.drewN m).set_ k s
    rw [Jjz j9] at this
    exact this
   have e9 : dv 4294967296 (pl ++ [s]) + dv 4294967296 ((Jc b).take (k + 1)) = dv 4294967296 ((Jc a).take (k + 1)) + c' * 4294967296 ^ (k + 1) := by
    rw [Yk, j9, Xw, Up, Nat.mul_zero, Nat.add_zero, y8, t8]
    have e1 : c' * 4294967296 ^ (k + 1) = (4294967296 * c') * 4294967296 ^ k := by rw [Nat.pow_succ, Nat.mul_comm (4294967296 ^ k), <- Nat.mul_assoc, Nat.mul_comm c']
    have e2 : 4294967296 ^ k * s + y * 4294967296 ^ k + c * 4294967296 ^ k = x * 4294967296 ^ k + 4294967296 * c' * 4294967296 ^ k := by
     rw [Nat.mul_comm _ s, <- Nat.add_mul, <- Nat.add_mul, o8, Nat.add_mul]
    rw [e1]
    omega
   have HF : Hid (∀ m, Jpa w g n (dv 4294967296 ((Jc a).take (k + 1))) (dv 4294967296 ((Jc b).take (k + 1))) (k + 1) c' ((wr.drewN m).setCell ⟨g, k, none⟩ (Jo s))) :=
    lh fun m => ⟨pl ++ [s], by simp [j9], p7.append (Dig.cons bM Dig.nil), p8 m, e9, (Jy e8 m).setCell aV _⟩
   have HAT2 := lh j8
   have g1 : (k : Int) < (n : Int) := by omega
   clear j8 hx hy p8 e9 y8 t8 j6 p7 o0 o6 o8
   go_wp2_with fail
   go_quiet ((go_at_call 176; exact Ji3 (HAT2.out _)))
   go_wp2
   exact ⟨⟨k + 1, c', by omega, by go_num, rfl, aZ, HF.out _⟩, by simp [intOf]; omega⟩
  obtain rfl : k = n := by omega
  rw [Ux (by have := HN.out; omega), Ux (by have := HN.out; omega)] at o0
  have aJ := Xm p7
  rw [j9] at aJ
  have aY : c = 0 := by
   have h1 := HN.out.2.2
   rcases Nat.eq_zero_or_pos c with h0 | h0
   ·exact h0
   exfalso
   have h2 : 1 * 4294967296 ^ k <= c * 4294967296 ^ k := Nat.mul_le_mul_right _ h0
   omega
  subst aY
  rw [Nat.zero_mul, Nat.add_zero] at o0
  rw [Nat.sub_self, List.replicate_zero, List.append_nil] at j6
  have aK : dv 4294967296 pl = a - b := by omega
  have o7 := j6.reads
  rw [j9] at o7
  have g1 : ¬ ((k : Int) < (k : Int)) := by omega
  have HF := lh (And.intro p7 (And.intro aK (And.intro j6.ty j6.lt)))
  clear o0 p7 j6 aK aJ
  go_wp2_with fail
  refine (Zr (some ⟨g, 0, none⟩) k k _ pl wr o7 (by omega) (by omega)).mono ?_
  rintro e w5 ⟨rfl, rfl⟩
  go_wp2
  go_ret
  exact ⟨_, rfl, (IsN.trim o7 (by omega) (by omega) HF.out.1 HF.out.2.1 HF.out.2.2.1).more (by have := HF.out.2.2.2; omega), e8⟩
def Jpc (w : World) (g len N : Nat) (wr : World) : Prop :=
 ∃ l : List Nat, l.length = len /\ Row wr g 166 Jo l /\ Dig 4294967296 l /\ dv 4294967296 l = N /\ Below w.heap.size w wr
def Jn0 (w : World) (g len N : Nat) (k c top : Nat) (wr : World) : Prop :=
 ∃ l : List Nat, l.length = len /\ Row wr g 166 Jo l /\ Dig 4294967296 l /\ dv 4294967296 l + c * 4294967296 ^ k = N /\ dv 4294967296 (l.drop top) = 0 /\ Below w.heap.size w wr
theorem Jl4 {m n x c : Nat} (hm : m < 4294967296) (hn : n < 4294967296) (hx : x < 4294967296) (hc : c < 4294967296) : ∃ S P V V1 V2 : Nat, IntKind.u64.wrap ((c : Int) + (x : Int)) = (S : Int) /\ IntKind.u64.wrap ((m : Int) * (n : Int)) = (P : Int) /\ IntKind.u64.wrap ((S : Int) + (P : Int)) = (V : Int) /\
  IntKind.u32.wrap (V : Int) = (V1 : Int) /\ (V : Int) / 4294967296 = (V2 : Int) /\ V1 < 4294967296 /\ V2 < 4294967296 /\ V1 + 4294967296 * V2 = x + m * n + c := by
 have hP : m * n <= 4294967295 * 4294967295 := Nat.mul_le_mul (by omega) (by omega)
 obtain ⟨P, bE⟩ : ∃ P, m * n = P := ⟨_, rfl⟩
 rw [bE] at hP ⊢
 refine ⟨c + x, P, c + x + P, (c + x + P) % 4294967296, (c + x + P) / 4294967296, ?_, ?_, ?_, ?_, ?_, by omega, by omega, by omega⟩
 ·rw [Jd _ (by omega) (by omega)]; omega
 ·rw [<- Int.natCast_mul, bE, Jd _ (by omega) (by omega)]
 ·rw [Jd _ (by omega) (by omega)]; omega
 ·rw [Jr]
 omega
theorem Jbd (a b B : Nat) (va vb : Value) (w : World) (h : IsN w B va a) (h' : IsN w B vb b) (hB : B <= w.heap.size) (aA : (Jc a).length <= 34359738368) (x8 : (Jc b).length <= 34359738368) :
  Calls Tryz.prog 71 #[va, vb] w (Jbm (a * b) w) := by
 obtain ⟨A1, c1, rfl, aB, aC, hX, _⟩ := h
 obtain ⟨A2, c2, rfl, aD, aE, hY, _⟩ := h'
 obtain ⟨p, hp⟩ : ∃ p, (Jc a).length = p := ⟨_, rfl⟩
 obtain ⟨q, hq⟩ : ∃ q, (Jc b).length = q := ⟨_, rfl⟩
 rw [hp] at hX aB aA
 rw [hq] at hY aD x8
 rw [hp, hq]
 have s9 := Qf (P := Tryz.prog) Jo 0 52 166 4 Tryz.underlying52 Tryz.infoU32 rfl .i64 .i64 (p + q) (by omega) (by omega)
 obtain ⟨L, hL⟩ : ∃ L, p + q = L := ⟨_, rfl⟩
 have cA : (p : Int) + (q : Int) = (L : Int) := by omega
 rw [hL] at s9
 have HL := lh (And.intro hp (And.intro hq hL))
 have cB : p <= L := by omega
 have cC : L <= 68719476736 := by omega
 clear hp hq hL
 go_enter Tryz.func71, Tryz.ntmps71
 go_wp2_with fail
 clear s9
 have j0 := Row.rep w 166 Jo 0 L
 have e8 := Jb w (.cells (Array.replicate L (Jo 0)) 166)
 obtain ⟨g, hg⟩ : ∃ g, w.heap.size = g := ⟨_, rfl⟩
 rw [hg] at j0
 rw [hg]
 have bF : w.heap.size <= g := by omega
 clear hg
 go_loopw [6] (fun i wr => ∃ k : Nat, k <= p /\ i = .int .i64 k /\ Jpc w g L (dv 4294967296 ((Jc a).take k) * b) wr) (fun i _ => p - (intOf i).toNat)
 case atStart => exact ⟨0, Nat.zero_le _, rfl, _, by simp, j0, Dig.rep (by omega) _, by rw [Kk]; simp [dv], e8⟩
 case round =>
  obtain ⟨i, hi, rfl, l0, aT, x7, aL, y9, aU⟩ := hrel
  rename World => wr
  clear j0 e8
  by_cases aG : i < p
  ·have bA := hX.below (aU.mono hB)
   obtain ⟨ad, m, hA, cD, hm, aM⟩ := bA.atf aG
   have bN := (Jq a).get hm
   have bG := Js (β := 4294967296) hm
   have aN : dv 4294967296 (l0.drop (i + q)) = 0 := by
    apply Km aL (by omega)
    rw [y9, Nat.pow_add]
    have h1 := Xm ((Jq a).take i)
    have h2 := Xj b
    rw [List.length_take, HL.out.1, Nat.min_eq_left (by omega)] at h1
    rw [HL.out.2.1] at h2
    exact Nat.mul_lt_mul'' h1 h2
   have HV0 := lh (And.intro y9 (And.intro aT (And.intro bG hm)))
   unfold Jo at aM
   have cE : (i : Int) < (p : Int) := by omega
   clear y9 aT bG hm
   subst hA
   go_wp2_with fail
   obtain ⟨wo, bH⟩ : ∃ wo : World, wo = wr := ⟨_, rfl⟩
   rw [<- bH] at aU x7 bA aM ⊢
   clear bH
   go_loopw [7, 8] (fun c j wr => ∃ t c' : Nat, t <= q /\ c' < 4294967296 /\ j = .int .i64 t /\ c = .int .u64 c' /\ Jn0 w g L (dv 4294967296 ((Jc a).take i) * b + m * dv 4294967296 ((Jc b).take t) * 4294967296 ^ i) (i + t) c' (i + q) wr) (fun _ j _ => q - (intOf j).toNat)
   case atStart =>
    exact ⟨0, 0, Nat.zero_le _, by omega, rfl, rfl, l0, HV0.out.2.1, x7, aL, by rw [HV0.out.1]; simp [dv], aN, aU⟩
   case round =>
    obtain ⟨t, c, ht, u4, rfl, rfl, l, hl, hr, hd, hv, aO, hb⟩ := hrel
    rename World => wv
    clear x7 aL aN bA aM
    have HV := lh (And.intro hv (And.intro hl aO))
    clear hv hl aO
    by_cases bB : t < q
    ·have bI := hX.below (hb.mono hB)
     obtain ⟨ad', m', bO, _, bJ, aM⟩ := bI.atf aG
     obtain rfl := Option.some.inj bO
     have bP : m' = m := by have h1 := HV0.out.2.2.2; rw [bJ] at h1; exact Option.some.inj h1
     subst bP
     unfold Jo at aM
     have bK := hY.below (hb.mono hB)
     obtain ⟨ad2, n, bQ, bR, hn, bS⟩ := bK.atf bB
     have bT := (Jq b).get hn
     have aP := Js (β := 4294967296) hn
     have o9 : i + t < L := by have := HL.out; omega
     obtain ⟨x, hx⟩ : ∃ x, l[i + t]? = some x := ⟨_, List.getElem?_eq_getElem (by rw [HV.out.2.1]; exact o9)⟩
     have aH := hd.get hx
     obtain ⟨S, P, V, V1, V2, f1, f2, f3, f4, f5, aS, aW, o8⟩ := Jl4 bN bT aH u4
     have e9 := Ua (s := V1) (c' := V2) (b := m' * n) hx o8 HV.out.1
     have p9 : dv 4294967296 (l.set (i + t) V1) + V2 * 4294967296 ^ (i + (t + 1)) = dv 4294967296 ((Jc a).take i) * b + m' * dv 4294967296 ((Jc b).take (t + 1)) * 4294967296 ^ i := by
      rw [<- Nat.add_assoc, e9, aP, Nat.mul_add, Nat.add_mul, Nat.pow_add, Nat.add_assoc]
      congr 2
      rw [Nat.mul_comm (4294967296 ^ i), Nat.mul_assoc, Nat.mul_assoc, Nat.mul_assoc]
     obtain ⟨j, hj⟩ : ∃ j, i + t = j := ⟨_, rfl⟩
     rw [hj] at hx o9
     have bC := hr.cell hx
     have bU := hr.frozen j
     have HF : Hid (∀ z, Jn0 w g L (dv 4294967296 ((Jc a).take i) * b + m' * dv 4294967296 ((Jc b).take (t + 1)) * 4294967296 ^ i) (i + (t + 1)) V2 (i + q) ((wv.drewN z).setCell ⟨g, j, none⟩ (Jo V1))) := lh fun z => by
      refine ⟨l.set j V1, by rw [List.length_set]; exact HV.out.2.1, (hr.drewN z).set_ j V1, hd.set_ _ aS, by rw [<- hj]; exact p9, ?_, (Jy hb z).setCell bF _⟩
      rw [List.drop_set_of_lt (by omega)]
      exact HV.out.2.2
     have k0 : (i : Int) + (t : Int) = (j : Int) := by omega
     have k1 : IntKind.i64.wrap (j : Int) = (j : Int) := IntWalk.i64_in _ (by omega)
     have k2 : (j : Int) < (L : Int) := by omega
     have k4 : (t : Int) < (q : Int) := by omega
     have u1 : IntKind.u64.wrap (x : Int) = (x : Int) := by rw [Jd _ (by omega) (by omega)]
     have u2 : IntKind.u64.wrap (m' : Int) = (m' : Int) := by rw [Jd _ (by omega) (by omega)]
     have u3 : IntKind.u64.wrap (n : Int) = (n : Int) := by rw [Jd _ (by omega) (by omega)]
     unfold Jo at bC bS
     clear o8 e9 p9 hx hn aP hd hb bK bI bJ hj hr
     subst bQ
     go_wp2_with fail
     go_quiet (fail)
     go_wp2
     exact ⟨⟨t + 1, V2, by omega, aW, by go_num, rfl, HF.out _⟩, by simp [intOf]; omega⟩
    obtain rfl : t = q := by omega
    have o9 : i + t < L := by have := HL.out; omega
    obtain ⟨x, hx⟩ : ∃ x, l[i + t]? = some x := ⟨_, List.getElem?_eq_getElem (by rw [HV.out.2.1]; exact o9)⟩
    have bV : x = 0 := Ja2 (by omega) HV.out.2.2 (k := 0) (by rw [List.getElem?_drop]; exact hx)
    subst bV
    have p8 := Yx (β := 4294967296) c hx
    have e9 : dv 4294967296 (l.set (i + t) c) = dv 4294967296 ((Jc a).take (i + 1)) * b := by
     have h1 := HV.out.1
     rw [Ux (a := b) (k := t) (by rw [HL.out.2.1]; omega)] at h1
     rw [HV0.out.2.2.1, Nat.add_mul]
     have h2 : m * b * 4294967296 ^ i = m * 4294967296 ^ i * b := by rw [Nat.mul_right_comm]
     omega
    obtain ⟨j, hj⟩ : ∃ j, i + t = j := ⟨_, rfl⟩
    rw [hj] at hx o9 e9
    have bC := hr.cell hx
    have bU := hr.frozen j
    have aQ : Jpc w g L (dv 4294967296 ((Jc a).take (i + 1)) * b) (wv.setCell ⟨g, j, none⟩ (Jo c)) :=
     ⟨l.set j c, by rw [List.length_set]; exact HV.out.2.1, hr.set_ j c, hd.set_ _ u4, e9, hb.setCell bF _⟩
    have HFIN := lh aQ
    have k0 : (i : Int) + (t : Int) = (j : Int) := by omega
    have k2 : (j : Int) < (L : Int) := by omega
    have k4 : ¬ (t : Int) < (t : Int) := by omega
    have u1 : IntKind.u32.wrap (c : Int) = (c : Int) := by rw [Jr, Nat.mod_eq_of_lt u4]
    unfold Jo at bC
    clear p8 e9 aQ hx hd hb hj hr
    go_wp2
    exact ⟨⟨i + 1, by omega, by go_num, HFIN.out⟩, by simp [intOf]; omega⟩
  obtain rfl : i = p := by omega
  rw [Ux (by rw [HL.out.1]; omega)] at y9
  have o7 := x7.reads
  rw [aT] at o7
  have HF := lh (And.intro aL (And.intro y9 (And.intro x7.ty x7.lt)))
  clear aL y9 x7 aT
  have k4 : ¬ (i : Int) < (i : Int) := by omega
  go_wp2_with fail
  refine (Zr (some ⟨g, 0, none⟩) L L _ l0 wr o7 (by omega) (by omega)).mono ?_
  rintro e w5 ⟨rfl, rfl⟩
  go_wp2
  go_ret
  exact ⟨_, rfl, (IsN.trim o7 (by omega) (by omega) HF.out.1 HF.out.2.1 HF.out.2.2.1).more (by have := HF.out.2.2.2; omega), aU⟩
