import Derived.Test.YtecnjlcfoobepaaGreatDoorRefShift
namespace Go.Proofs.YtecnjlcfoobepaaGreatDoor
set_option maxRecDepth 100000
set_option maxHeartbeats 1000000
open Go.RowKit
set_option linter.all false
theorem Jks {P : Program} {f : FuncId} {args : Array Value} {w : World} {n : Nat} {v : Value} (h : Calls P f args (w.drewN n) fun e w' => e = .returned v /\ w.drewN n = w') : Calls P f args (w.drewN n) fun e w'' => e = .returned v /\ ∃ m, w'' = w.drewN m :=
 h.mono fun _ _ ⟨he, hm⟩ => ⟨he, n, hm.symm⟩
theorem Jl5 {p : List Nat} {k m x : Nat} (hk : p.length = k) : (p ++ List.replicate (m + 1) 0).set k x = (p ++ [x]) ++ List.replicate m 0 := by
 subst hk
 rw [List.set_append_right _ _ zd, Nat.sub_self, List.replicate_succ, List.set_cons_zero, List.append_assoc]
 rfl
theorem Jmj {p : List Nat} {k m : Nat} (hk : p.length = k) : (p ++ List.replicate (m + 1) 0)[k]? = some 0 := by
 subst hk
 rw [List.getElem?_append_right zd, Nat.sub_self, List.replicate_succ]
 rfl
theorem Vd {a k : Nat} (h : (Jc a).length <= k) : dv 4294967296 ((Jc a).take k) = a := by rw [List.take_of_length_le h, Qm]
theorem Jpq {a b n : Nat} (h1 : (Jc a).length <= n) (h2 : (Jc b).length <= n) : a + b < 2 * 4294967296 ^ n := by
 have e1 := Nat.lt_of_lt_of_le (Xk a) (Nat.pow_le_pow_right (show 0 < 4294967296 by omega) h1)
 have e2 := Nat.lt_of_lt_of_le (Xk b) (Nat.pow_le_pow_right (show 0 < 4294967296 by omega) h2)
 omega
def Jtp (w : World) (g n X k c : Nat) (wr : World) : Prop :=
 ∃ p : List Nat, p.length = k /\ Dig 4294967296 p /\ Row wr g 155 Jr (p ++ List.replicate (n + 1 - k) 0) /\ dv 4294967296 p + c * 4294967296 ^ k = X /\ Below w.heap.size w wr
theorem Jkp (a b B : Nat) (va vb : Value) (w : World) (h : IsN w B va a) (h' : IsN w B vb b) (hB : B <= w.heap.size) (aM : (Jc a).length <= 34359738368) (aI : (Jc b).length <= 34359738368) :
  Calls Tryz.prog 159 #[va, vb] w (Jb4 (a + b) w) := by
 obtain ⟨A1, c1, rfl, aN, aO, aJ, _⟩ := h
 obtain ⟨A2, c2, rfl, aP, aQ, aC, _⟩ := h'
 obtain ⟨p, hp⟩ : ∃ p, (Jc a).length = p := ⟨_, rfl⟩
 obtain ⟨q, hq⟩ : ∃ q, (Jc b).length = q := ⟨_, rfl⟩
 rw [hp] at aJ aN aM
 rw [hq] at aC aP aI
 rw [hp, hq]
 obtain ⟨n, hn⟩ : ∃ n, max p q = n := ⟨_, rfl⟩
 have cI : n <= 34359738368 := by omega
 have m1 : (if (p : Int) < (q : Int) then (q : Int) else (p : Int)) = (n : Int) := by split <;> omega
 have m2 : (if (q : Int) < (p : Int) then (p : Int) else (q : Int)) = (n : Int) := by split <;> omega
 have m3 : max (p : Int) (q : Int) = (n : Int) := by omega
 have aR := Jpq (a := a) (b := b) (n := n) (by omega) (by omega)
 have HN := lh (And.intro hp (And.intro hq (And.intro hn aR)))
 have cJ : p <= n := by omega
 have cK : q <= n := by omega
 have HR1 := lh aJ
 have HR2 := lh aC
 clear hp hq hn aR aJ aC
 have aD := Ql (P := Tryz.prog) Jr 0 66 155 4 Tryz.underlying66 Tryz.infoU32 rfl .i64 .i64 (n + 1) (by omega) (by omega)
 have m4 : ((n + 1 : Nat) : Int) = (n : Int) + 1 := by omega
 rw [m4] at aD
 clear m4
 go_enter Tryz.func159, Tryz.ntmps159
 go_wp2_with fail
 clear aD m1 m2 m3
 have j8 := Row.rep w 155 Jr 0 (n + 1)
 have o0 := Jb w (.cells (Array.replicate (n + 1) (Jr 0)) 155)
 obtain ⟨g, hg⟩ : ∃ g, w.heap.size = g := ⟨_, rfl⟩
 have bH : w.heap.size <= g := by omega
 have HG := lh hg
 rw [hg] at j8
 rw [hg]
 clear hg
 go_loopw [7, 8] (fun cc i wr => ∃ k c : Nat, k <= n + 1 /\ i = .int .i64 (k : Int) /\ cc = .int .u64 (c : Int) /\ c <= 1 /\ Jtp w g n (dv 4294967296 ((Jc a).take k) + dv 4294967296 ((Jc b).take k)) k c wr) (fun _ i _ => n + 1 - (intOf i).toNat)
 case atStart => exact ⟨0, 0, by omega, rfl, rfl, by omega, [], rfl, Dig.nil, by simpa using j8, by simp [dv], o0⟩
 case round =>
  obtain ⟨k, c, hk, rfl, rfl, hc, pl, s9, y9, j9, t7, j6⟩ := hrel
  rename World => wr
  clear j8 o0
  by_cases aS : k <= n
  ·have aE := Jcx A1 p c1 B k (Jc a) wr (HR1.out.below (j6.mono hB)) (by omega) (Jt a) (by omega)
   have o5 := Jcx A2 q c2 B k (Jc b) wr (HR2.out.below (j6.mono hB)) (by omega) (Jt b) (by omega)
   have aT := Jbe a k
   have bD := Jbe b k
   have aK := Jbd a k
   have aF := Jbd b k
   obtain ⟨x, hx⟩ : ∃ x, (Jc a).getD k 0 = x := ⟨_, rfl⟩
   obtain ⟨y, hy⟩ : ∃ y, (Jc b).getD k 0 = y := ⟨_, rfl⟩
   rw [hx] at aE aT aK
   rw [hy] at o5 bD aF
   obtain ⟨S, hS⟩ : ∃ S, c + x = S := ⟨_, rfl⟩
   obtain ⟨V, hV⟩ : ∃ V, S + y = V := ⟨_, rfl⟩
   obtain ⟨V1, bE⟩ : ∃ V1, V % 4294967296 = V1 := ⟨_, rfl⟩
   obtain ⟨V2, bI⟩ : ∃ V2, V / 4294967296 = V2 := ⟨_, rfl⟩
   have f1 : IntKind.u64.wrap ((c : Int) + (x : Int)) = (S : Int) := by rw [Jd _ (by omega) (by omega)]; omega
   have f2 : IntKind.u64.wrap ((S : Int) + (y : Int)) = (V : Int) := by rw [Jd _ (by omega) (by omega)]; omega
   have f3 : IntKind.u32.wrap (V : Int) = (V1 : Int) := by rw [Ju, bE]
   have f4 : (V : Int) / 4294967296 = (V2 : Int) := by omega
   have t8 : n + 1 - k = (n - k) + 1 := by omega
   rw [t8] at j9
   have bX := j9.frozen k
   have aG := j9.cell (Jmj (m := n - k) s9)
   unfold Jr at aG
   have aA := j9.set_ k V1
   rw [Jl5 s9] at aA
   have j7 : dv 4294967296 (pl ++ [V1]) + V2 * 4294967296 ^ (k + 1) = dv 4294967296 ((Jc a).take (k + 1)) + dv 4294967296 ((Jc b).take (k + 1)) := by
    rw [Yf, s9, Xv, Ur, Nat.mul_zero, Nat.add_zero, aK, aF]
    have e1 : V2 * 4294967296 ^ (k + 1) = 4294967296 ^ k * (4294967296 * V2) := by rw [Nat.pow_succ, Nat.mul_comm V2, Nat.mul_assoc]
    have e2 : V1 + 4294967296 * V2 = c + x + y := by omega
    rw [e1, Nat.add_assoc, <- Nat.mul_add, e2, Nat.mul_add, Nat.mul_add, Nat.mul_comm _ c, Nat.mul_comm _ x, Nat.mul_comm _ y]
    omega
   have HF : Hid (Jtp w g n (dv 4294967296 ((Jc a).take (k + 1)) + dv 4294967296 ((Jc b).take (k + 1))) (k + 1) V2 (wr.setCell ⟨g, k, none⟩ (Jr V1))) :=
    lh ⟨pl ++ [V1], by simp [s9], y9.append (Dig.cons (by omega) Dig.nil), by rw [show n + 1 - (k + 1) = n - k from by omega]; exact aA, j7, j6.setCell bH _⟩
   have bJ : V2 <= 1 := by omega
   have HAT1 := lh aE
   have HAT2 := lh o5
   have g1 : (k : Int) <= (n : Int) := by omega
   have g2 : (k : Int) < (n : Int) + 1 := by omega
   clear aE o5 hx hy hS hV bE bI aA j7 aK aF j9 y9 t7 t8
   go_wp2_with fail
   refine HAT1.out.mono ?_
   rintro e w1 ⟨rfl, rfl⟩
   go_wp2_with fail
   refine HAT2.out.mono ?_
   rintro e w1 ⟨rfl, rfl⟩
   go_wp2
   exact ⟨⟨k + 1, V2, by omega, by go_num, rfl, bJ, HF.out⟩, by simp [intOf]; omega⟩
  obtain rfl : k = n + 1 := by omega
  rw [Vd (by have := HN.out; omega), Vd (by have := HN.out; omega)] at t7
  have bK : c = 0 := by
   have h1 := HN.out.2.2.2
   rcases Nat.eq_zero_or_pos c with h0 | h0
   ·exact h0
   exfalso
   have h2 : 1 * 4294967296 ^ (n + 1) <= c * 4294967296 ^ (n + 1) := Nat.mul_le_mul_right _ h0
   rw [Nat.pow_succ] at h2
   rw [Nat.pow_succ] at t7
   have h3 : 0 < 4294967296 ^ n := Nat.pow_pos (by omega)
   omega
  subst bK
  rw [Nat.zero_mul, Nat.add_zero] at t7
  rw [Nat.sub_self, List.replicate_zero, List.append_nil] at j9
  have x8 := j9.reads
  rw [s9] at x8
  have g1 : ¬ ((n : Int) + 1 <= (n : Int)) := by omega
  have HF := lh (And.intro y9 (And.intro t7 (And.intro j9.ty j9.lt)))
  clear t7 y9 j9
  go_wp2_with fail
  refine (Zq (some ⟨g, 0, none⟩) (n + 1) (n + 1) _ pl wr x8 (by omega) (by omega)).mono ?_
  rintro e w5 ⟨rfl, rfl⟩
  go_wp2
  go_ret
  exact ⟨_, rfl, (IsN.trim x8 (by omega) (by omega) HF.out.1 HF.out.2.1 HF.out.2.2.1).more (by have := HF.out.2.2.2; omega), j6⟩
def Jtl (w : World) (g n X Y k c : Nat) (wr : World) : Prop :=
 ∃ p : List Nat, p.length = k /\ Dig 4294967296 p /\ Row wr g 155 Jr (p ++ List.replicate (n - k) 0) /\ dv 4294967296 p + Y = X + c * 4294967296 ^ k /\ Below w.heap.size w wr
theorem Jom {x y c : Nat} (hx : x < 4294967296) (hy : y < 4294967296) (hc : c <= 1) : ∃ d s c' : Nat, IntKind.u64.wrap (IntKind.u64.wrap ((x : Int) - (y : Int)) - (c : Int)) = (d : Int) /\ IntKind.u32.wrap (d : Int) = (s : Int) /\ (d : Int) / 9223372036854775808 = (c' : Int) /\ s < 4294967296 /\ c' <= 1 /\ s + y + c = x + 4294967296 * c' := by
 by_cases h : y + c <= x
 ·refine ⟨x - y - c, x - y - c, 0, ?_, ?_, by omega, by omega, by omega, by omega⟩
  ·rw [Jd ((x : Int) - (y : Int)) (by omega) (by omega), Jd _ (by omega) (by omega)]
   omega
  rw [Ju, Nat.mod_eq_of_lt (by omega)]
 refine ⟨18446744073709551616 + x - y - c, 4294967296 + x - y - c, 1, ?_, ?_, by omega, by omega, by omega, by omega⟩
 ·simp only [IntKind.wrap, IntKind.bits, IntKind.signed]
  simp
  omega
 rw [Ju]
 congr 1
 omega
theorem Jef (a b B : Nat) (va vb : Value) (w : World) (h : IsN w B va a) (h' : IsN w B vb b) (hB : B <= w.heap.size) (aM : (Jc a).length <= 34359738368) (bP : b <= a) :
  Calls Tryz.prog 160 #[va, vb] w (Jb4 (a - b) w) := by
 obtain ⟨A1, c1, rfl, aN, aO, aJ, _⟩ := h
 obtain ⟨A2, c2, rfl, aP, aQ, aC, _⟩ := h'
 have aI := Zx bP
 obtain ⟨n, hn⟩ : ∃ n, (Jc a).length = n := ⟨_, rfl⟩
 obtain ⟨q, hq⟩ : ∃ q, (Jc b).length = q := ⟨_, rfl⟩
 rw [hn] at aJ aN aM aI
 rw [hq] at aC aP aI
 rw [hn, hq]
 have HN := lh (And.intro hn (And.intro hq bP))
 have HR1 := lh aJ
 have HR2 := lh aC
 clear hn hq aC
 have aD := Ql (P := Tryz.prog) Jr 0 66 155 4 Tryz.underlying66 Tryz.infoU32 rfl .i64 .i64 n (by omega) (by omega)
 go_enter Tryz.func160, Tryz.ntmps160
 go_wp2_with fail
 clear aD
 have j8 := Row.rep w 155 Jr 0 n
 have o0 := Jb w (.cells (Array.replicate n (Jr 0)) 155)
 obtain ⟨g, hg⟩ : ∃ g, w.heap.size = g := ⟨_, rfl⟩
 have bH : w.heap.size <= g := by omega
 have HG := lh hg
 rw [hg] at j8
 rw [hg]
 clear hg
 go_loopw [6, 7] (fun cc i wr => ∃ k c : Nat, k <= n /\ i = .int .i64 (k : Int) /\ cc = .int .u64 (c : Int) /\ c <= 1 /\ Jtl w g n (dv 4294967296 ((Jc a).take k)) (dv 4294967296 ((Jc b).take k)) k c wr) (fun _ i _ => n - (intOf i).toNat)
 case atStart => exact ⟨0, 0, by omega, rfl, rfl, by omega, [], rfl, Dig.nil, by simpa using j8, by simp [dv], o0⟩
 case round =>
  obtain ⟨k, c, hk, rfl, rfl, hc, pl, s9, y9, j9, t7, j6⟩ := hrel
  rename World => wr
  clear j8 o0
  by_cases aS : k < n
  ·obtain ⟨ad, x, hA, cL, hx, aU⟩ := (HR1.out.below (j6.mono hB)).atf aS
   subst hA
   unfold Jr at aU
   have o5 := fun m => Jcx A2 q c2 B k (Jc b) (wr.drewN m) ((HR2.out.below (j6.mono hB)).drewN m) (by omega) (Jt b) (by omega)
   have aT := (Jt a).get hx
   have bD := Jbe b k
   have aK := Jv (β := 4294967296) hx
   have aF := Jbd b k
   obtain ⟨y, hy⟩ : ∃ y, (Jc b).getD k 0 = y := ⟨_, rfl⟩
   rw [hy] at o5 bD aF
   obtain ⟨d, s, c', f1, f2, f3, bY, bL, x9⟩ := Jom aT bD hc
   have f0 : IntKind.u64.wrap (x : Int) = (x : Int) := by rw [Jd _ (by omega) (by omega)]
   have t8 : n - k = (n - (k + 1)) + 1 := by omega
   rw [t8] at j9
   have bX := j9.frozen k
   have aG := j9.cell (Jmj (m := n - (k + 1)) s9)
   unfold Jr at aG
   have aA : ∀ m, Row ((wr.drewN m).setCell ⟨g, k, none⟩ (Jr s)) g 155 Jr ((pl ++ [s]) ++ List.replicate (n - (k + 1)) 0) := fun m => by
    have := (j9.drewN m).set_ k s
    rw [Jl5 s9] at this
    exact this
   have j7 : dv 4294967296 (pl ++ [s]) + dv 4294967296 ((Jc b).take (k + 1)) = dv 4294967296 ((Jc a).take (k + 1)) + c' * 4294967296 ^ (k + 1) := by
    rw [Yf, s9, Xv, Ur, Nat.mul_zero, Nat.add_zero, aK, aF]
    have e1 : c' * 4294967296 ^ (k + 1) = (4294967296 * c') * 4294967296 ^ k := by rw [Nat.pow_succ, Nat.mul_comm (4294967296 ^ k), <- Nat.mul_assoc, Nat.mul_comm c']
    have e2 : 4294967296 ^ k * s + y * 4294967296 ^ k + c * 4294967296 ^ k = x * 4294967296 ^ k + 4294967296 * c' * 4294967296 ^ k := by
     rw [Nat.mul_comm _ s, <- Nat.add_mul, <- Nat.add_mul, x9, Nat.add_mul]
    rw [e1]
    omega
   have HF : Hid (∀ m, Jtl w g n (dv 4294967296 ((Jc a).take (k + 1))) (dv 4294967296 ((Jc b).take (k + 1))) (k + 1) c' ((wr.drewN m).setCell ⟨g, k, none⟩ (Jr s))) :=
    lh fun m => ⟨pl ++ [s], by simp [s9], y9.append (Dig.cons bY Dig.nil), aA m, j7, (Jz j6 m).setCell bH _⟩
   have HAT2 := lh o5
   have g1 : (k : Int) < (n : Int) := by omega
   clear o5 hx hy aA j7 aK aF j9 y9 t7 t8 x9
   go_wp2_with fail
   go_quiet ((go_at_call 161; exact Jks (HAT2.out _)))
   go_wp2
   exact ⟨⟨k + 1, c', by omega, by go_num, rfl, bL, HF.out _⟩, by simp [intOf]; omega⟩
  obtain rfl : k = n := by omega
  rw [Vd (by have := HN.out; omega), Vd (by have := HN.out; omega)] at t7
  have aV := Xn y9
  rw [s9] at aV
  have bK : c = 0 := by
   have h1 := HN.out.2.2
   rcases Nat.eq_zero_or_pos c with h0 | h0
   ·exact h0
   exfalso
   have h2 : 1 * 4294967296 ^ k <= c * 4294967296 ^ k := Nat.mul_le_mul_right _ h0
   omega
  subst bK
  rw [Nat.zero_mul, Nat.add_zero] at t7
  rw [Nat.sub_self, List.replicate_zero, List.append_nil] at j9
  have aW : dv 4294967296 pl = a - b := by omega
  have x8 := j9.reads
  rw [s9] at x8
  have g1 : ¬ ((k : Int) < (k : Int)) := by omega
  have HF := lh (And.intro y9 (And.intro aW (And.intro j9.ty j9.lt)))
  clear t7 y9 j9 aW aV
  go_wp2_with fail
  refine (Zq (some ⟨g, 0, none⟩) k k _ pl wr x8 (by omega) (by omega)).mono ?_
  rintro e w5 ⟨rfl, rfl⟩
  go_wp2
  go_ret
  exact ⟨_, rfl, (IsN.trim x8 (by omega) (by omega) HF.out.1 HF.out.2.1 HF.out.2.2.1).more (by have := HF.out.2.2.2; omega), j6⟩
def Jtn (w : World) (g len N : Nat) (wr : World) : Prop :=
 ∃ l : List Nat, l.length = len /\ Row wr g 155 Jr l /\ Dig 4294967296 l /\ dv 4294967296 l = N /\ Below w.heap.size w wr
def Jr4 (w : World) (g len N : Nat) (k c top : Nat) (wr : World) : Prop :=
 ∃ l : List Nat, l.length = len /\ Row wr g 155 Jr l /\ Dig 4294967296 l /\ dv 4294967296 l + c * 4294967296 ^ k = N /\ dv 4294967296 (l.drop top) = 0 /\ Below w.heap.size w wr
theorem Jpa {m n x c : Nat} (hm : m < 4294967296) (hn : n < 4294967296) (hx : x < 4294967296) (hc : c < 4294967296) : ∃ S P V V1 V2 : Nat, IntKind.u64.wrap ((c : Int) + (x : Int)) = (S : Int) /\ IntKind.u64.wrap ((m : Int) * (n : Int)) = (P : Int) /\ IntKind.u64.wrap ((S : Int) + (P : Int)) = (V : Int) /\
  IntKind.u32.wrap (V : Int) = (V1 : Int) /\ (V : Int) / 4294967296 = (V2 : Int) /\ V1 < 4294967296 /\ V2 < 4294967296 /\ V1 + 4294967296 * V2 = x + m * n + c := by
 have hP : m * n <= 4294967295 * 4294967295 := Nat.mul_le_mul (by omega) (by omega)
 obtain ⟨P, bQ⟩ : ∃ P, m * n = P := ⟨_, rfl⟩
 rw [bQ] at hP ⊢
 refine ⟨c + x, P, c + x + P, (c + x + P) % 4294967296, (c + x + P) / 4294967296, ?_, ?_, ?_, ?_, ?_, by omega, by omega, by omega⟩
 ·rw [Jd _ (by omega) (by omega)]; omega
 ·rw [<- Int.natCast_mul, bQ, Jd _ (by omega) (by omega)]
 ·rw [Jd _ (by omega) (by omega)]; omega
 ·rw [Ju]
 omega
theorem Jbu (a b B : Nat) (va vb : Value) (w : World) (h : IsN w B va a) (h' : IsN w B vb b) (hB : B <= w.heap.size) (aM : (Jc a).length <= 34359738368) (aI : (Jc b).length <= 34359738368) :
  Calls Tryz.prog 127 #[va, vb] w (Jb4 (a * b) w) := by
 obtain ⟨A1, c1, rfl, aN, aO, hX, _⟩ := h
 obtain ⟨A2, c2, rfl, aP, aQ, hY, _⟩ := h'
 obtain ⟨p, hp⟩ : ∃ p, (Jc a).length = p := ⟨_, rfl⟩
 obtain ⟨q, hq⟩ : ∃ q, (Jc b).length = q := ⟨_, rfl⟩
 rw [hp] at hX aN aM
 rw [hq] at hY aP aI
 rw [hp, hq]
 have aD := Ql (P := Tryz.prog) Jr 0 66 155 4 Tryz.underlying66 Tryz.infoU32 rfl .i64 .i64 (p + q) (by omega) (by omega)
 obtain ⟨L, hL⟩ : ∃ L, p + q = L := ⟨_, rfl⟩
 have cM : (p : Int) + (q : Int) = (L : Int) := by omega
 rw [hL] at aD
 have HL := lh (And.intro hp (And.intro hq hL))
 have cN : p <= L := by omega
 have cO : L <= 68719476736 := by omega
 clear hp hq hL
 go_enter Tryz.func127, Tryz.ntmps127
 go_wp2_with fail
 clear aD
 have j8 := Row.rep w 155 Jr 0 L
 have j6 := Jb w (.cells (Array.replicate L (Jr 0)) 155)
 obtain ⟨g, hg⟩ : ∃ g, w.heap.size = g := ⟨_, rfl⟩
 rw [hg] at j8
 rw [hg]
 have bR : w.heap.size <= g := by omega
 clear hg
 go_loopw [6] (fun i wr => ∃ k : Nat, k <= p /\ i = .int .i64 k /\ Jtn w g L (dv 4294967296 ((Jc a).take k) * b) wr) (fun i _ => p - (intOf i).toNat)
 case atStart => exact ⟨0, Nat.zero_le _, rfl, _, by simp, j8, Dig.rep (by omega) _, by rw [Kj]; simp [dv], j6⟩
 case round =>
  obtain ⟨i, hi, rfl, l0, bF, aH, aX, aL, bG⟩ := hrel
  rename World => wr
  clear j8 j6
  by_cases aS : i < p
  ·have bM := hX.below (bG.mono hB)
   obtain ⟨ad, m, hA, cP, hm, aY⟩ := bM.atf aS
   have bZ := (Jt a).get hm
   have bS := Jv (β := 4294967296) hm
   have aZ : dv 4294967296 (l0.drop (i + q)) = 0 := by
    apply Km aX (by omega)
    rw [aL, Nat.pow_add]
    have h1 := Xn ((Jt a).take i)
    have h2 := Xk b
    rw [List.length_take, HL.out.1, Nat.min_eq_left (by omega)] at h1
    rw [HL.out.2.1] at h2
    exact Nat.mul_lt_mul'' h1 h2
   have HV0 := lh (And.intro aL (And.intro bF (And.intro bS hm)))
   unfold Jr at aY
   have cQ : (i : Int) < (p : Int) := by omega
   clear aL bF bS hm
   subst hA
   go_wp2_with fail
   obtain ⟨wo, bT⟩ : ∃ wo : World, wo = wr := ⟨_, rfl⟩
   rw [<- bT] at bG aH bM aY ⊢
   clear bT
   go_loopw [7, 8] (fun c j wr => ∃ t c' : Nat, t <= q /\ c' < 4294967296 /\ j = .int .i64 t /\ c = .int .u64 c' /\ Jr4 w g L (dv 4294967296 ((Jc a).take i) * b + m * dv 4294967296 ((Jc b).take t) * 4294967296 ^ i) (i + t) c' (i + q) wr) (fun _ j _ => q - (intOf j).toNat)
   case atStart =>
    exact ⟨0, 0, Nat.zero_le _, by omega, rfl, rfl, l0, HV0.out.2.1, aH, aX, by rw [HV0.out.1]; simp [dv], aZ, bG⟩
   case round =>
    obtain ⟨t, c, ht, aG, rfl, rfl, l, hl, hr, hd, hv, bA, hb⟩ := hrel
    rename World => wv
    clear aH aX aZ bM aY
    have HV := lh (And.intro hv (And.intro hl bA))
    clear hv hl bA
    by_cases bN : t < q
    ·have bU := hX.below (hb.mono hB)
     obtain ⟨ad', m', cA, _, bV, aY⟩ := bU.atf aS
     obtain rfl := Option.some.inj cA
     have cB : m' = m := by have h1 := HV0.out.2.2.2; rw [bV] at h1; exact Option.some.inj h1
     subst cB
     unfold Jr at aY
     have bW := hY.below (hb.mono hB)
     obtain ⟨ad2, n, cC, cD, hn, cE⟩ := bW.atf bN
     have cF := (Jt b).get hn
     have bB := Jv (β := 4294967296) hn
     have y8 : i + t < L := by have := HL.out; omega
     obtain ⟨x, hx⟩ : ∃ x, l[i + t]? = some x := ⟨_, List.getElem?_eq_getElem (by rw [HV.out.2.1]; exact y8)⟩
     have aT := hd.get hx
     obtain ⟨S, P, V, V1, V2, f1, f2, f3, f4, f5, bE, bI, x9⟩ := Jpa bZ cF aT aG
     have j7 := Uc (s := V1) (c' := V2) (b := m' * n) hx x9 HV.out.1
     have aB : dv 4294967296 (l.set (i + t) V1) + V2 * 4294967296 ^ (i + (t + 1)) = dv 4294967296 ((Jc a).take i) * b + m' * dv 4294967296 ((Jc b).take (t + 1)) * 4294967296 ^ i := by
      rw [<- Nat.add_assoc, j7, bB, Nat.mul_add, Nat.add_mul, Nat.pow_add, Nat.add_assoc]
      congr 2
      rw [Nat.mul_comm (4294967296 ^ i), Nat.mul_assoc, Nat.mul_assoc, Nat.mul_assoc]
     obtain ⟨j, hj⟩ : ∃ j, i + t = j := ⟨_, rfl⟩
     rw [hj] at hx y8
     have bO := hr.cell hx
     have cG := hr.frozen j
     have HF : Hid (∀ z, Jr4 w g L (dv 4294967296 ((Jc a).take i) * b + m' * dv 4294967296 ((Jc b).take (t + 1)) * 4294967296 ^ i) (i + (t + 1)) V2 (i + q) ((wv.drewN z).setCell ⟨g, j, none⟩ (Jr V1))) := lh fun z => by
      refine ⟨l.set j V1, by rw [List.length_set]; exact HV.out.2.1, (hr.drewN z).set_ j V1, hd.set_ _ bE, by rw [<- hj]; exact aB, ?_, (Jz hb z).setCell bR _⟩
      rw [List.drop_set_of_lt (by omega)]
      exact HV.out.2.2
     have k0 : (i : Int) + (t : Int) = (j : Int) := by omega
     have k1 : IntKind.i64.wrap (j : Int) = (j : Int) := IntWalk.i64_in _ (by omega)
     have k2 : (j : Int) < (L : Int) := by omega
     have k4 : (t : Int) < (q : Int) := by omega
     have u1 : IntKind.u64.wrap (x : Int) = (x : Int) := by rw [Jd _ (by omega) (by omega)]
     have u2 : IntKind.u64.wrap (m' : Int) = (m' : Int) := by rw [Jd _ (by omega) (by omega)]
     have u3 : IntKind.u64.wrap (n : Int) = (n : Int) := by rw [Jd _ (by omega) (by omega)]
     unfold Jr at bO cE
     clear x9 j7 aB hx hn bB hd hb bW bU bV hj hr
     subst cC
     go_wp2_with fail
     go_quiet (fail)
     go_wp2
     exact ⟨⟨t + 1, V2, by omega, bI, by go_num, rfl, HF.out _⟩, by simp [intOf]; omega⟩
    obtain rfl : t = q := by omega
    have y8 : i + t < L := by have := HL.out; omega
    obtain ⟨x, hx⟩ : ∃ x, l[i + t]? = some x := ⟨_, List.getElem?_eq_getElem (by rw [HV.out.2.1]; exact y8)⟩
    have cH : x = 0 := Jbj (by omega) HV.out.2.2 (k := 0) (by rw [List.getElem?_drop]; exact hx)
    subst cH
    have aA := Yv (β := 4294967296) c hx
    have j7 : dv 4294967296 (l.set (i + t) c) = dv 4294967296 ((Jc a).take (i + 1)) * b := by
     have h1 := HV.out.1
     rw [Vd (a := b) (k := t) (by rw [HL.out.2.1]; omega)] at h1
     rw [HV0.out.2.2.1, Nat.add_mul]
     have h2 : m * b * 4294967296 ^ i = m * 4294967296 ^ i * b := by rw [Nat.mul_right_comm]
     omega
    obtain ⟨j, hj⟩ : ∃ j, i + t = j := ⟨_, rfl⟩
    rw [hj] at hx y8 j7
    have bO := hr.cell hx
    have cG := hr.frozen j
    have bC : Jtn w g L (dv 4294967296 ((Jc a).take (i + 1)) * b) (wv.setCell ⟨g, j, none⟩ (Jr c)) :=
     ⟨l.set j c, by rw [List.length_set]; exact HV.out.2.1, hr.set_ j c, hd.set_ _ aG, j7, hb.setCell bR _⟩
    have HFIN := lh bC
    have k0 : (i : Int) + (t : Int) = (j : Int) := by omega
    have k2 : (j : Int) < (L : Int) := by omega
    have k4 : ¬ (t : Int) < (t : Int) := by omega
    have u1 : IntKind.u32.wrap (c : Int) = (c : Int) := by rw [Ju, Nat.mod_eq_of_lt aG]
    unfold Jr at bO
    clear aA j7 bC hx hd hb hj hr
    go_wp2
    exact ⟨⟨i + 1, by omega, by go_num, HFIN.out⟩, by simp [intOf]; omega⟩
  obtain rfl : i = p := by omega
  rw [Vd (by rw [HL.out.1]; omega)] at aL
  have x8 := aH.reads
  rw [bF] at x8
  have HF := lh (And.intro aX (And.intro aL (And.intro aH.ty aH.lt)))
  clear aX aL aH bF
  have k4 : ¬ (i : Int) < (i : Int) := by omega
  go_wp2_with fail
  refine (Zq (some ⟨g, 0, none⟩) L L _ l0 wr x8 (by omega) (by omega)).mono ?_
  rintro e w5 ⟨rfl, rfl⟩
  go_wp2
  go_ret
  exact ⟨_, rfl, (IsN.trim x8 (by omega) (by omega) HF.out.1 HF.out.2.1 HF.out.2.2.1).more (by have := HF.out.2.2.2; omega), bG⟩
