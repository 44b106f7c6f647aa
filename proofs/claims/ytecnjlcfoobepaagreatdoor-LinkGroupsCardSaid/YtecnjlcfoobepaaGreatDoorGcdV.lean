import Derived.Test.YtecnjlcfoobepaaGreatDoorGcdW
import Derived.Test.YtecnjlcfoobepaaGreatDoorShifts
import Derived.Deep.LoopGhost
namespace Go.Proofs.YtecnjlcfoobepaaGreatDoor
set_option maxRecDepth 100000
set_option maxHeartbeats 1000000
open Go.RowKit
set_option linter.all false
structure Only (g : Nat) (w w' : World) : Prop where
 os : w'.os = w.os
 tape : w'.tape = w.tape
 output : w'.output = w.output
 size : w.heap.size <= w'.heap.size
 block : ∀ k, k < w.heap.size -> k ≠ g -> w'.heap[k]? = w.heap[k]?
section
variable {g : Nat} {a w w' : World}
theorem Only.refl (g : Nat) (w : World) : Only g w w := ⟨rfl, rfl, rfl, Nat.le_refl _, fun _ _ _ => rfl⟩
theorem Only.trans (h : Only g a w) (h' : Only g w w') : Only g a w' := ⟨h'.os.trans h.os, h'.tape.trans h.tape, h'.output.trans h.output, nt h.size h'.size, fun k hk hg => (h'.block k (Nat.lt_of_lt_of_le hk h.size) hg).trans (h.block k hk hg)⟩
theorem Only.drewN (h : Only g a w) (n : Nat) : Only g a (w.drewN n) := ⟨h.os, h.tape, h.output, h.size, h.block⟩
theorem Only.setCell (h : Only g a w) (p : Addr) (hp : p.block = g) (v : Value) : Only g a (w.setCell p v) :=
 ⟨h.os, h.tape, h.output, by simp [World.setCell]; exact h.size, fun k hk hg => by rw [Below.heap_setCell _ _ _ _ (fun e => hg (by omega))]; exact h.block k hk hg⟩
theorem Only.below {B : Nat} (h : Only g w w') (hB : B <= g) (hs : B <= w.heap.size) : Below B w w' := ⟨h.os, h.tape, h.output, h.size, fun k hk => h.block k (by omega) (by omega)⟩
theorem Only.row {α : Type} {k : Nat} {t : TypeId} {f : α -> Value} {l : List α} (h : Only g w w') (hr : Row w k t f l) (hk : k ≠ g) : Row w' k t f l := by
 have := hr.lt
 unfold Row Blk at *
 rw [h.block k this hk]
 exact hr
end
section
variable {w : World} {g : Nat} {pre cur post : List Nat}
theorem Kb (g p j : Nat) : (⟨g, p, none⟩ : Addr).add j = ⟨g, p + j, none⟩ := by
 unfold Addr.add
 split
 ·rename_i h; subst h; rfl
 rfl
theorem Jqu (pre cur post : List Nat) {j x : Nat} (hx : cur[j]? = some x) : (pre ++ cur ++ post)[pre.length + j]? = some x := by
 have hj : j < cur.length := (List.getElem?_eq_some_iff.1 hx).1
 rw [List.append_assoc, List.getElem?_append_right (by omega), show pre.length + j - pre.length = j from by omega, List.getElem?_append_left hj, hx]
theorem Jad (hr : Row w g 50 Jm (pre ++ cur ++ post)) {j x : Nat} (hx : cur[j]? = some x) : w.cell? ((⟨g, pre.length, none⟩ : Addr).add j) = some (.int .u64 (x : Int)) := by
 rw [Kb]
 exact hr.cell (Jqu _ _ _ hx)
theorem Jbs (hr : Row w g 50 Jm (pre ++ cur ++ post)) (j : Nat) : w.frozen? ((⟨g, pre.length, none⟩ : Addr).add j) = false := by
 rw [Kb]
 exact hr.frozen _
theorem Jg1 (hr : Row w g 50 Jm (pre ++ cur ++ post)) {j : Nat} (x : Nat) (hj : j < cur.length) : Row (w.setCell ((⟨g, pre.length, none⟩ : Addr).add j) (.int .u64 (x : Int))) g 50 Jm (pre ++ cur.set j x ++ post) := by
 rw [Kb]
 have h := hr.set_ (pre.length + j) x
 rw [List.append_assoc, List.set_append_right _ _ (by omega), show pre.length + j - pre.length = j from by omega, List.set_append_left _ _ hj, <- List.append_assoc] at h
 exact h
theorem Ja3 (hr : Row w g 50 Jm (pre ++ cur ++ post)) : Reads w (g + 1) 1 (some ⟨g, pre.length, none⟩) cur.length (cur.map Jm) := by
 refine ⟨by simp, fun _ => ⟨_, rfl, by simp, fun j u hu => ?_⟩⟩
 rw [List.getElem?_map] at hu
 obtain ⟨x, hx, rfl⟩ := Option.map_eq_some_iff.1 hu
 exact Jad hr hx
end
def Jh8 (w : World) (g : Nat) (pre post l : List Nat) (M i : Nat) (wr : World) : Prop :=
 ∃ cur : List Nat, cur.length = l.length /\ Row wr g 50 Jm (pre ++ cur ++ post) /\ Dig 18446744073709551616 cur /\ dv 18446744073709551616 (cur.take i) = M % 18446744073709551616 ^ i /\ cur.drop i = l.drop i /\ Only g w wr
theorem Jgp {cur l : List Nat} {i r x z M : Nat} (x8 : cur.length = l.length) (hx : l[i]? = some x) (hM : dv 18446744073709551616 l / 2 ^ r = M) (hd : Dig 18446744073709551616 l)
  (hv : dv 18446744073709551616 (cur.take i) = M % 18446744073709551616 ^ i) (aK : cur.drop i = l.drop i) (hz : dv 18446744073709551616 (l.drop i) / 2 ^ r % 18446744073709551616 = z) :
  dv 18446744073709551616 ((cur.set i z).take (i + 1)) = M % 18446744073709551616 ^ (i + 1) /\ (cur.set i z).drop (i + 1) = l.drop (i + 1) := by
 have hi : i < l.length := (List.getElem?_eq_some_iff.1 hx).1
 have hg : (cur.set i z)[i]? = some z := by rw [List.getElem?_set_self (by omega)]
 constructor
 ·rw [Jv hg, List.take_set_of_le zd, hv, Nat.mod_pow_succ]
  have : M / 18446744073709551616 ^ i % 18446744073709551616 = z := by
   rw [<- hz, <- Ym hd (by omega), <- hM, Nat.div_div_eq_div_mul, Nat.div_div_eq_div_mul, Nat.mul_comm]
  rw [this, Nat.mul_comm z]
 rw [List.drop_set_of_lt (by omega), <- List.drop_drop, <- List.drop_drop, aK]
theorem Joj {l : List Nat} (hd : Dig 18446744073709551616 l) (h0 : dv 18446744073709551616 l ≠ 0) : tz (dv 18446744073709551616 l) / 64 < l.length := by
 have h1 := Xn hd
 obtain ⟨h2, h3⟩ := Ke _ h0
 have h4 : 2 ^ tz (dv 18446744073709551616 l) <= dv 18446744073709551616 l := by
  conv => rhs; rw [h2]
  exact Nat.le_mul_of_pos_right _ (by omega)
 rw [show (18446744073709551616 : Nat) = 2 ^ 64 from rfl, <- Nat.pow_mul] at h1
 have h5 := (Nat.pow_lt_pow_iff_right (show 1 < 2 by omega)).1 (Nat.lt_of_le_of_lt h4 h1)
 generalize tz _ = n at h5 ⊢
 omega
theorem Jor (g p n c h : Nat) (hh : h < c) (hn : h <= n) (w : World) :
  (Instr.slice 170 (.slice (some ⟨g, p, none⟩) n c) (some (.int .i64 (h : Int))) none none).run Tryz.prog w = .ok (.slice (some ⟨g, p + h, none⟩) (n - h) (c - h)) w := by
 have e := Jdv (P := Tryz.prog) Tryz.underlying170 Tryz.infoU64 (some ⟨g, p, none⟩) n c .i64 (h : Int) (by omega) (by omega) w
 rw [e]
 have : Us (some (⟨g, p, none⟩ : Addr)) c (h : Int).toNat 1 = some ⟨g, p + h, none⟩ := by
  unfold Us
  rw [if_neg (by omega), Option.map_some, Kb]
  simp
 rw [this]
 rfl
theorem Vk (g : Nat) (v : Value) (l : List Nat) (w : World) (h : Win w g v l) (hd : Dig 18446744073709551616 l) (h0 : dv 18446744073709551616 l ≠ 0) (hT : TabAt 2 Lib.deBruijn64tab w) :
  Calls Tryz.prog 146 #[v] w fun e w' => ∃ v', e = .returned v' /\ Win w' g v' (Jg (odd (dv 18446744073709551616 l))) /\ Only g w w' := by
 obtain ⟨c, pre, post, rfl, dC, hc, hr⟩ := h
 have hz := Jae (some ⟨g, pre.length, none⟩) l.length c (g + 1) l w (Ja3 hr) (by omega) hd h0 hT
 have aO := Joj hd h0
 obtain ⟨N, hN⟩ : ∃ N, odd (dv 18446744073709551616 l) = N := ⟨_, rfl⟩
 rw [hN]
 unfold odd at hN
 obtain ⟨n, hn⟩ : ∃ n, tz (dv 18446744073709551616 l) = n := ⟨_, rfl⟩
 rw [hn] at hz aO hN
 obtain ⟨k, hk⟩ : ∃ k, n / 64 = k := ⟨_, rfl⟩
 obtain ⟨r, gW⟩ : ∃ r, n % 64 = r := ⟨_, rfl⟩
 have c1 : (n : Int) / 64 = (k : Int) := by omega
 have c2 : (n : Int) % 64 = (r : Int) := by omega
 have aX : r < 64 := by omega
 rw [hk] at aO
 have hM : dv 18446744073709551616 (l.drop k) / 2 ^ r = N := by
  rw [<- hN, <- Ym hd (by omega), Nat.div_div_eq_div_mul]
  congr 1
  rw [show (18446744073709551616 : Nat) = 2 ^ 64 from rfl, <- Nat.pow_mul, <- Nat.pow_add]
  congr 1
  omega
 have hcut := Jor g pre.length l.length c k (by omega) (by omega)
 obtain ⟨lX, bU⟩ : ∃ lX, l.drop k = lX := ⟨_, rfl⟩
 obtain ⟨p, hp⟩ : ∃ p, l.length - k = p := ⟨_, rfl⟩
 have eP : lX.length = p := by rw [<- bU, List.length_drop, hp]
 have aP : Dig 18446744073709551616 lX := by rw [<- bU]; exact hd.drop k
 obtain ⟨preX, dD⟩ : ∃ preX, pre ++ l.take k = preX := ⟨_, rfl⟩
 have eQ : Row w g 50 Jm (preX ++ lX ++ post) := by
  rw [<- dD, <- bU, List.append_assoc pre, List.take_append_drop]
  exact hr
 have eR : pre.length + k = preX.length := by rw [<- dD, List.length_append, List.length_take, Nat.min_eq_left (by omega)]
 rw [bU] at hM
 obtain ⟨P0, aY⟩ : ∃ P0, preX.length = P0 := ⟨_, rfl⟩
 rw [hp, eR, aY] at hcut
 obtain ⟨cX, eT⟩ : ∃ cX, c - k = cX := ⟨_, rfl⟩
 rw [eT] at hcut
 obtain ⟨len, x8⟩ : ∃ len, l.length = len := ⟨_, rfl⟩
 rw [x8] at hz hcut aO dC hp ⊢
 have fM : p <= cX /\ cX <= 1099511627776 /\ len <= 1099511627776 := by omega
 have HZ := lh hz
 have HM := lh (And.intro hM (And.intro eP aY))
 clear hz hM eP aY hN hn hk bU hp dD eR eT x8 hr
 go_enter Tryz.func146, Tryz.ntmps146
 go_wp2_with fail
 refine HZ.out.mono ?_
 rintro e w1 ⟨rfl, rfl⟩
 go_wp2_with fail
 clear c1 hcut
 go_loopw [5, 16] (fun _ i wr => ∃ k : Nat, k <= p /\ i = .int .i64 k /\ Jh8 w g preX post lX N k wr) (fun _ i _ => p - (intOf i).toNat)
 case atStart => exact ⟨0, Nat.zero_le _, rfl, lX, rfl, eQ, aP, by simp [dv, Nat.mod_one], rfl, Only.refl _ _⟩
 case round =>
  obtain ⟨i, hi, rfl, cur, aL, aQ, bO, hv, aK, y9⟩ := hrel
  clear eQ
  by_cases aC : i < p
  ·obtain ⟨x, hx⟩ : ∃ x, lX[i]? = some x := ⟨_, List.getElem?_eq_getElem (by rw [HM.out.2.1]; exact aC)⟩
   have aZ : cur[i]? = some x := by
    have h1 : (cur.drop i)[0]? = (lX.drop i)[0]? := by rw [aK]
    rw [List.getElem?_drop, List.getElem?_drop, Nat.add_zero, hx] at h1
    exact h1
   have dE := aP.get hx
   have dF : i < cur.length := by rw [aL, HM.out.2.1]; exact aC
   have fN := Jad aQ aZ
   have fO := Jbs aQ i
   rw [Kb, HM.out.2.2] at fN fO
   obtain ⟨u, hu⟩ : ∃ u, x / 2 ^ r = u := ⟨_, rfl⟩
   have fP : (x : Int) / 2 ^ r = (u : Int) := by
    rw [<- hu, Int.natCast_ediv, Int.natCast_pow]
    rfl
   have k4 : (i : Int) < (p : Int) := by omega
   have k7 : (r : Int) <= 63 := by omega
   have j9 := Jg1 aQ u dF
   have dG : (cur.set i u)[i]? = some u := by rw [List.getElem?_set_self dF]
   have fQ := Jad j9 dG
   have fR := Jbs j9 i
   rw [Kb, HM.out.2.2] at j9 fQ fR
   have k6 : IntKind.u64.wrap (64 - (r : Int)) = ((64 - r : Nat) : Int) := by rw [Jd _ (by omega) (by omega)]; omega
   by_cases dH : i + 1 < p
   ·obtain ⟨y, hy⟩ : ∃ y, lX[i + 1]? = some y := ⟨_, List.getElem?_eq_getElem (by rw [HM.out.2.1]; exact dH)⟩
    have cT : (cur.set i u)[i + 1]? = some y := by
     rw [List.getElem?_set_ne (by omega)]
     have h1 : (cur.drop i)[1]? = (lX.drop i)[1]? := by rw [aK]
     rw [List.getElem?_drop, List.getElem?_drop, hy] at h1
     exact h1
    have aD : dv 18446744073709551616 (lX.drop i) = x + 18446744073709551616 * (y + 18446744073709551616 * dv 18446744073709551616 (lX.drop (i + 1 + 1))) := by
     rw [Qd hx, Qd hy]
    obtain ⟨o0, bP⟩ := Uf aX dE aD
    rw [hu] at o0 bP
    obtain ⟨fS, bV⟩ := Jen u y r bP aX
    obtain ⟨z, hz⟩ : ∃ z, u + y * 2 ^ (64 - r) % 18446744073709551616 = z := ⟨_, rfl⟩
    rw [hz] at fS bV o0
    obtain ⟨bW, bX⟩ := Jgp aL hx HM.out.1 aP hv aK o0
    have dI := Jad (j9) cT
    rw [Kb, HM.out.2.2] at dI
    have bA := Jg1 (j := i) j9 z (by rw [List.length_set]; exact dF)
    rw [Kb, HM.out.2.2, List.set_set] at bA
    have j6 : Jh8 w g preX post lX N (i + 1) (((wr.setCell ⟨g, P0 + i, none⟩ (.int .u64 (u : Int))).drew).setCell ⟨g, P0 + i, none⟩ (.int .u64 (z : Int))) :=
     ⟨cur.set i z, by rw [List.length_set]; exact aL, bA, bO.set_ i bV, bW, bX, ((y9.setCell _ rfl _).drewN 1).setCell _ rfl _⟩
    have HFIN := lh j6
    have k10 : (i : Int) + 1 < (p : Int) := by omega
    have k11 : ((i : Int) + 1).toNat = i + 1 := by omega
    have k9 : (64 : Int) - (r : Int) = ((64 - r : Nat) : Int) := by omega
    clear o0 bP hz bW bX j9 bA j6 dG hu hx hy aZ cT hv aK aD aL aQ bO y9
    go_wp2_with fail
    go_region
    go_wp2
    exact ⟨⟨i + 1, by omega, by go_num, HFIN.out⟩, by simp [intOf]; omega⟩
   have aD : dv 18446744073709551616 (lX.drop i) = x + 18446744073709551616 * (0 + 18446744073709551616 * 0) := by
    rw [Qd hx, Xg (by rw [HM.out.2.1]; omega)]
   obtain ⟨o0, bP⟩ := Uf aX dE aD
   rw [hu, Nat.zero_mul, Nat.zero_mod, Nat.add_zero] at o0
   rw [hu] at bP
   have dJ : u < 18446744073709551616 := by
    have := Nat.pow_le_pow_right (show 0 < 2 by omega) (show 64 - r <= 64 by omega)
    omega
   obtain ⟨bW, bX⟩ := Jgp aL hx HM.out.1 aP hv aK o0
   have j6 : Jh8 w g preX post lX N (i + 1) (wr.setCell ⟨g, P0 + i, none⟩ (.int .u64 (u : Int))) :=
    ⟨cur.set i u, by rw [List.length_set]; exact aL, j9, bO.set_ i dJ, bW, bX, y9.setCell _ rfl _⟩
   have HFIN := lh j6
   have k10 : ¬ (i : Int) + 1 < (p : Int) := by omega
   clear o0 bP bW bX j9 j6 dG hu hx aZ hv aK aD aL aQ bO y9
   go_wp2
   exact ⟨⟨i + 1, by omega, by go_num, HFIN.out⟩, by simp [intOf]; omega⟩
  obtain rfl : i = p := by omega
  have eU : cur.length = i := by rw [aL]; exact HM.out.2.1
  have bY : N < 18446744073709551616 ^ i := by
   have h1 := Xn aP
   rw [HM.out.2.1] at h1
   rw [<- HM.out.1]
   exact Nat.lt_of_le_of_lt (Nat.div_le_self _ _) h1
  rw [Nat.mod_eq_of_lt bY, List.take_of_length_le (by omega)] at hv
  have hw := Jb7 cur bO
  rw [hv] at hw
  have aE := Ja3 aQ
  rw [eU, HM.out.2.2] at aE
  have bB := Jd1 (some ⟨g, P0, none⟩) i cX (g + 1) cur wr aE (by omega) (by omega)
  have aI := Zu cur
  have bQ := Uw cur
  rw [<- hw] at bB aI bQ
  have j6 : Win wr g (.slice (some ⟨g, P0, none⟩) (Jg N).length cX) (Jg N) := by
   refine ⟨cX, preX, cur.drop (Jg N).length ++ post, by rw [HM.out.2.2], by omega, by omega, ?_⟩
   have e : preX ++ Jg N ++ (cur.drop (Jg N).length ++ post) = preX ++ cur ++ post := by
    conv => lhs; lhs; rhs; rw [aI]
    rw [List.append_assoc, <- List.append_assoc (List.take _ _), List.take_append_drop, List.append_assoc]
   rw [e]
   exact aQ
  have HFIN := lh (And.intro j6 y9)
  have HTR := lh bB
  clear j6 y9 bB aI bQ aE hw hv bY eU aL aQ bO aK
  go_wp2_with fail
  refine HTR.out.mono ?_
  rintro e w2 ⟨rfl, rfl⟩
  go_wp2
  go_ret
  exact ⟨_, rfl, HFIN.out.1, HFIN.out.2⟩
theorem Only.exc {g : Nat} {w w' : World} (h : Only g w w') : Exc g w w' := ⟨h.os, h.tape, h.output, h.size, h.block⟩
def Jmp (w : World) (g p : Nat) (pre post lY : List Nat) (a k c' : Nat) (wr : World) : Prop :=
 ∃ cur : List Nat, cur.length = p /\ Row wr g 50 Jm (pre ++ cur ++ post) /\ Dig 18446744073709551616 cur /\ dv 18446744073709551616 cur + dv 18446744073709551616 (lY.take k) = a + c' * 18446744073709551616 ^ k /\ Only g w wr
theorem Jaf (g : Nat) (v : Value) (a b n' c' B : Nat) (A' : Option Addr) (w : World) (h : Win w g v (Jg a)) (h' : Reads w B 1 A' n' ((Jg b).map Jm)) (hB : B <= w.heap.size) (fT : ∀ ad, A' = some ad -> ad.block ≠ g) (gY : b <= a) :
  Calls Tryz.prog 148 #[v, .slice A' n' c'] w fun e w' => ∃ v', e = .returned v' /\ Win w' g v' (Jg (a - b)) /\ Only g w w' := by
 obtain ⟨c, pre, post, rfl, dC, hc, hr⟩ := h
 have x8 : (Jg b).length <= (Jg a).length := by
  rcases Nat.lt_or_ge (Jg a).length (Jg b).length with h | h
  ·have := Za h
   omega
  exact h
 have aP := Js a
 have fU := Js b
 have eV := Jp a
 have eX := Jp b
 have dK := h'.lenf
 generalize Jg a = lX at *
 generalize Jg b = lY at *
 obtain ⟨p, hp⟩ : ∃ p, lX.length = p := ⟨_, rfl⟩
 obtain ⟨P0, aY⟩ : ∃ P0, pre.length = P0 := ⟨_, rfl⟩
 rw [hp] at x8 dC ⊢
 rw [aY]
 rw [dK] at x8
 have HP := lh (And.intro hp (And.intro dK aY))
 have HV := lh (And.intro eV eX)
 clear eV eX dK aY
 go_enter Tryz.func148, Tryz.ntmps148
 go_wp2_with fail
 go_loopw [5, 10] (fun c i wr => ∃ k c' : Nat, k <= p /\ c' <= 1 /\ i = .int .i64 k /\ c = .int .u64 c' /\ Jmp w g p pre post lY a k c' wr) (fun _ i _ => p - (intOf i).toNat)
 case atStart => exact ⟨0, 0, Nat.zero_le _, Nat.zero_le _, rfl, rfl, lX, hp, hr, aP, by simp [dv]; exact HV.out.1, Only.refl _ _⟩
 case round =>
  obtain ⟨k, c1, hk, fV, rfl, rfl, l, hl, ho, hd, eY, y9⟩ := hrel
  clear hp hr aP
  have HL := lh hl
  have HDV := lh eY
  have cU := h'.exc y9.exc hB fT
  clear hl eY
  by_cases aC : k < p
  ·obtain ⟨x, hx⟩ : ∃ x, l[k]? = some x := ⟨_, List.getElem?_eq_getElem (by rw [HL.out]; exact aC)⟩
   have aZ := Jad ho hx
   have fW := Jbs ho k
   rw [Kb, HP.out.2.2] at aZ fW
   have dL : (k : Int) < (p : Int) := by omega
   obtain ⟨y, aJ, gZ⟩ : ∃ y : Nat, (lY[k]? = some y \/ (n' <= k /\ y = 0)) /\ y < 18446744073709551616 := by
    by_cases dM : k < n'
    ·obtain ⟨y, hy⟩ : ∃ y, lY[k]? = some y := ⟨_, List.getElem?_eq_getElem (by rw [HP.out.2.1]; exact dM)⟩
     exact ⟨y, .inl hy, fU.get hy⟩
    exact ⟨0, .inr ⟨by omega, rfl⟩, by omega⟩
   have dE := hd.get hx
   obtain ⟨S, hS⟩ : ∃ S, (x + 18446744073709551616 - y - c1) % 18446744073709551616 = S := ⟨_, rfl⟩
   obtain ⟨C, hC⟩ : ∃ C, (if x < y + c1 then 1 else 0) = C := ⟨_, rfl⟩
   have fX : S < 18446744073709551616 := by omega
   have eZ : C <= 1 := by rw [<- hC]; split <;> omega
   have fA : S + y + c1 = x + 18446744073709551616 * C := by
    rw [<- hC]
    split <;> omega
   have bZ : ∀ w, (callFunc 166 #[.int .u64 (x : Int), .int .u64 (y : Int), .int .u64 (c1 : Int)]).run Tryz.prog w = .ok (.value (.tuple #[.int .u64 (S : Int), .int .u64 (C : Int)])) w := fun w => by
    have := Jdu x y c1 fV w
    rw [hS, hC] at this
    exact this
   have aI : dv 18446744073709551616 (lY.take (k + 1)) = dv 18446744073709551616 (lY.take k) + y * 18446744073709551616 ^ k := by
    rcases aJ with aJ | ⟨aJ, rfl⟩
    ·exact Jv aJ
    rw [Qw (by rw [HP.out.2.1]; omega), Qw (by rw [HP.out.2.1]; omega)]
    omega
   have bC := Ux (s := S) (c' := C) (b := y) hx fA HDV.out
   rw [<- aI] at bC
   have aA := Jg1 ho S (j := k) (by rw [HL.out]; exact aC)
   rw [Kb, HP.out.2.2] at aA
   have j6 : Jmp w g p pre post lY a (k + 1) C (wr.setCell ⟨g, P0 + k, none⟩ (.int .u64 (S : Int))) :=
    ⟨l.set k S, by rw [List.length_set]; exact HL.out, aA, hd.set_ k fX, bC, y9.setCell _ rfl _⟩
   have HFIN := lh j6
   clear hS hC hx aI bC aA j6 ho hd fA y9
   rcases aJ with aJ | ⟨aJ, rfl⟩
   ·have dM : k < n' := by rw [<- HP.out.2.1]; exact (List.getElem?_eq_some_iff.1 aJ).1
    obtain ⟨ad, y', fY, _, dN, cT⟩ := cU.atf dM
    rw [aJ] at dN
    obtain rfl : y = y' := by simpa using dN
    have dO : (k : Int) < (n' : Int) := by omega
    unfold Jm at cT
    clear dN aJ cU h'
    subst fY
    go_wp2
    exact ⟨⟨k + 1, C, by omega, eZ, by go_num, rfl, HFIN.out⟩, by simp [intOf]; omega⟩
   have dO : ¬ (k : Int) < (n' : Int) := by omega
   have fB : ∀ w, (callFunc 166 #[.int .u64 (x : Int), .int .u64 0, .int .u64 (c1 : Int)]).run Tryz.prog w = .ok (.value (.tuple #[.int .u64 (S : Int), .int .u64 (C : Int)])) w := bZ
   clear cU bZ h'
   go_wp2
   exact ⟨⟨k + 1, C, by omega, eZ, by go_num, rfl, HFIN.out⟩, by simp [intOf]; omega⟩
  obtain rfl : k = p := by omega
  have aR := HDV.out
  rw [Qw (by rw [HP.out.2.1]; omega), HV.out.2] at aR
  have dP := Xn hd
  rw [HL.out] at dP
  have dQ : c1 = 0 := by
   rcases Nat.lt_or_ge c1 1 with h | h
   ·omega
   obtain rfl : c1 = 1 := by omega
   omega
  subst dQ
  have e : dv 18446744073709551616 l = a - b := by omega
  have hw := Jb7 l hd
  rw [e] at hw
  have aE := Ja3 ho
  rw [HL.out, HP.out.2.2] at aE
  have bB := Jd1 (some ⟨g, P0, none⟩) k c (g + 1) l wr aE (by omega) (by omega)
  have aI := Zu l
  have bQ := Uw l
  rw [HL.out] at bQ
  rw [<- hw] at bB aI bQ
  have j6 : Win wr g (.slice (some ⟨g, P0, none⟩) (Jg (a - b)).length c) (Jg (a - b)) := by
   refine ⟨c, pre, l.drop (Jg (a - b)).length ++ post, by rw [HP.out.2.2], by omega, by omega, ?_⟩
   have e : pre ++ Jg (a - b) ++ (l.drop (Jg (a - b)).length ++ post) = pre ++ l ++ post := by
    conv => lhs; lhs; rhs; rw [aI]
    rw [List.append_assoc, <- List.append_assoc (List.take _ _), List.take_append_drop, List.append_assoc]
   rw [e]
   exact ho
  have HFIN := lh (And.intro j6 y9)
  have HTR := lh bB
  clear j6 y9 bB aI bQ aE hw aR ho hd cU h' e
  go_wp2_with fail
  refine HTR.out.mono ?_
  rintro e w2 ⟨rfl, rfl⟩
  go_wp2
  go_ret
  exact ⟨_, rfl, HFIN.out.1, HFIN.out.2⟩
def Jqn (w : World) (a g N : Nat) (i : Nat) (wr : World) : Prop :=
 Row wr g 5 u8v (List.replicate (N - i) 0 ++ Qr a i) /\ Below w.heap.size w wr
theorem Jia (a : Nat) : a < 256 ^ (8 * (Jg a).length) := by
 have h := Xn (Js a)
 rw [Jp] at h
 rw [Nat.pow_mul]
 exact h
theorem Jg2 (A : Option Addr) (n c B a : Nat) (w : World) (h : Reads w B 1 A n ((Jg a).map Jm)) (hB : B <= w.heap.size) (hn : n <= 17179869185) :
  Calls Tryz.prog 149 #[.slice A n c] w (Ret (Jj a) w) := by
 have dR := h.lenf
 obtain ⟨N, hN⟩ : ∃ N, 8 * n = N := ⟨_, rfl⟩
 have cV : (8 : Int) * (n : Int) = (N : Int) := by omega
 have fZ := Ql (P := Tryz.prog) u8v 0 157 5 1 Tryz.underlying157 Tryz.infoU8 rfl .i64 .i64 N (by omega) (by omega)
 have fC : N <= 1099511627776 := by omega
 have bY : Xs (Qr a N) = a := by
  rw [Ja0, Nat.mod_eq_of_lt]
  have := Jia a
  rw [dR, hN] at this
  exact this
 have HN := lh (And.intro hN (And.intro dR bY))
 clear dR hN bY
 have b0 := Blk.new w 52 #[.int .u64 0, .string ⟨#[]⟩]
 have fD := Jb w (.cells #[.int .u64 0, .string ⟨#[]⟩] 52)
 have hR := h.alloc hB (.cells #[.int .u64 0, .string ⟨#[]⟩] 52)
 have hZ := lh (show (w.alloc (.cells #[.int .u64 0, .string ⟨#[]⟩] 52)).heap.size = w.heap.size + 1 from by simp)
 go_enter Tryz.func149, Tryz.ntmps149
 go_wp2_with fail
 generalize w.alloc (.cells #[.int .u64 0, .string ⟨#[]⟩] 52) = W at *
 have bD := Row.rep W 5 u8v 0 N
 have cA := Jb W (.cells (Array.replicate N (u8v 0)) 5)
 obtain ⟨g, hg⟩ : ∃ g, w.heap.size + 1 = g := ⟨_, rfl⟩
 rw [hZ.out, hg] at bD
 rw [hg]
 have gA : W.heap.size <= g := by have := hZ.out; omega
 have gB : B <= W.heap.size := by have := hZ.out; omega
 have bR := b0.lt
 clear hg fZ cV h
 go_loopw [4, 11] (fun _ i wr => ∃ k : Nat, k <= N /\ i = .int .i64 k /\ Jqn W a g N k wr) (fun _ i _ => N - (intOf i).toNat)
 case atStart => exact ⟨0, Nat.zero_le _, rfl, by simpa [Qr] using bD, cA⟩
 case round =>
  obtain ⟨i, hi, rfl, h1, h2⟩ := hrel
  clear bD cA
  have dS := hR.below (h2.mono gB)
  by_cases aO : i < N
  ·have gC : i / 8 < n := by have := HN.out.1; omega
   obtain ⟨ad, x, hA, hb, hx, aZ⟩ := dS.atf gC
   have e1 := Jgr a i x hx
   obtain ⟨y, hy⟩ : ∃ y, Zm a i = y := ⟨_, rfl⟩
   rw [hy] at e1
   have cB := h1.cell (k := N - 1 - i) (x := 0) (by rw [List.getElem?_append_left (by simp; omega), List.getElem?_replicate]; simp; omega)
   have iA := h1.frozen (N - 1 - i)
   have dT := h1.set_ (N - 1 - i) y
   rw [<- hy, Jhp a N i aO, hy] at dT
   have j6 : Jqn W a g N (i + 1) (wr.setCell ⟨g, N - 1 - i, none⟩ (u8v y)) := ⟨dT, h2.setCell gA _⟩
   have HFIN := lh j6
   unfold Jm at aZ
   unfold u8v at cB
   have k1 : ((N : Int) - 1 - (i : Int)).toNat = N - 1 - i := by omega
   have k2 : (0 : Int) <= (N : Int) - 1 - (i : Int) := by omega
   have k3 : (N : Int) - 1 - (i : Int) < (N : Int) := by omega
   have k4 : ((i : Int) / 8) < (n : Int) := by omega
   clear hy hx dT j6 h1 h2 dS hR
   subst hA
   go_wp2
   exact ⟨⟨i + 1, by omega, by go_num, HFIN.out⟩, by simp [intOf]; omega⟩
  obtain rfl : i = N := by omega
  rw [Nat.sub_self, List.replicate_zero, List.nil_append] at h1
  have aE := h1.reads
  rw [Zb] at aE
  have dU := Jbo (some ⟨g, 0, none⟩) i i (g + 1) (Qr a i) wr aE h1.lt (by omega)
  rw [HN.out.2.2] at dU
  have HFB := lh dU
  have b0 := b0.below h2 b0.lt
  have dV := Ja fD h2
  clear dU aE h1 h2 dS hR fD
  go_wp2_with fail
  refine HFB.out.mono ?_
  rintro e w3 ⟨rfl, fE⟩
  have gD := Ja dV fE
  (try clear bE bF dW dX cC cD); obtain ⟨b0, bE, bF, dW, dX, cC, cD⟩ := b0.zf2 fE
  unfold Jj
  go_wp2
  refine bodyPost_ret (v := .agg #[.int .u64 (lo a : Int), .string (mo a)]) (by simp [results, Tryz.results149, go_sem, cC, cD]) rfl ?_
  exact ⟨rfl, Xz gD (by omega) _ _⟩
def Tab (w : World) : Prop := TabAt 2 Lib.deBruijn64tab w
theorem Tab.lt {w : World} (h : Tab w) : 2 < w.heap.size := Ka (h 0 (by decide))
theorem Tab.below {w w' : World} {B : Nat} (h : Tab w) (hb : Below B w w') (hB : 2 < B) : Tab w' := fun i hi => by
 rw [hb.cell (p := ⟨2, i, none⟩) hB]
 exact h i hi
theorem Tab.next {w w' : World} (h : Tab w) (hb : Below w.heap.size w w') : Tab w' := h.below hb h.lt
theorem Tab.only {w w' : World} {g : Nat} (h : Tab w) (hb : Only g w w') (hg : 2 ≠ g) : Tab w' := fun i hi => by
 rw [World.cell?_of_block (hb.block _ h.lt hg)]
 exact h i hi
theorem Win.below {w w' : World} {g B : Nat} {v : Value} {l : List Nat} (h : Win w g v l) (hb : Below B w w') (hg : g < B) : Win w' g v l := by
 obtain ⟨c, pre, post, h1, h2, h3, h4⟩ := h
 exact ⟨c, pre, post, h1, h2, h3, h4.below hb hg⟩
theorem Win.lt {w : World} {g : Nat} {v : Value} {l : List Nat} (h : Win w g v l) : g < w.heap.size := by
 obtain ⟨c, pre, post, h1, h2, h3, h4⟩ := h
 exact h4.lt
theorem Win.only {w w' : World} {g k : Nat} {v : Value} {l : List Nat} (h : Win w g v l) (ho : Only k w w') (hk : g ≠ k) : Win w' g v l := by
 obtain ⟨c, pre, post, h1, h2, h3, h4⟩ := h
 exact ⟨c, pre, post, h1, h2, h3, ho.row h4 hk⟩
theorem Win.form {w : World} {g : Nat} {v : Value} {l : List Nat} (h : Win w g v l) : ∃ p c, v = .slice (some ⟨g, p, none⟩) l.length c /\ l.length <= 1099511627776 /\ Reads w w.heap.size 1 (some ⟨g, p, none⟩) l.length (l.map Jm) := by
 obtain ⟨c, pre, post, h1, h2, h3, h4⟩ := h
 exact ⟨pre.length, c, h1, by omega, (Ja3 h4).more h4.lt⟩
def Jr3 (W : World) (gq N : Nat) (wr : World) : Prop := Blk wr gq 52 #[.int .u64 (lo N : Int), .string (mo N)] /\ Below W.heap.size W wr
theorem Jqy (x T : Nat) (z : Int) (k : Nat) (hz : 0 < z) (hT : z <= T) (hk : (if (65536 : Int) < z then (65536 : Int) else z) = (k : Int)) : x * 2 ^ (T - z.toNat) * 2 ^ k = x * 2 ^ (T - (z - 65536).toNat) := by
 rw [Nat.mul_assoc, <- Nat.pow_add]
 congr 2
 split at hk <;> omega
def Jfl (W : World) (x y : Nat) (v5 v6 : Value) (wr : World) : Prop :=
 ∃ g h, Win wr g v5 (Jg x) /\ Win wr h v6 (Jg y) /\ g ≠ h /\ W.heap.size <= g /\ W.heap.size <= h /\ Below W.heap.size W wr
theorem Only.chain {W w w' : World} {g : Nat} (h : Below W.heap.size W w) (ho : Only g w w') (hg : W.heap.size <= g) : Below W.heap.size W w' := h.trans (ho.below hg h.size)
theorem Jg3 (a b : Nat) (w : World) (cE : a ≠ 0) (bR : b ≠ 0) (ha : Je a <= 549755813888) (hb : Je b <= 549755813888) (hT : Tab w) :
  Calls Tryz.prog 118 #[Jj a, Jj b] w (Ret (Jj (Nat.gcd a b)) w) := by
 have hG := Jny a b cE bR
 have fF : Nat.gcd a b <= a := Nat.gcd_le_left _ (by omega)
 have gE := Qb fF
 have dY := lh (fun w => Jde a w (by omega))
 have dZ := lh (fun w => Jde b w (by omega))
 have iB := Jl2 a cE
 have iC := Jl2 b bR
 obtain ⟨eA, eB⟩ := Ke a cE
 obtain ⟨eC, eD⟩ := Ke b bR
 have gG := Qb (Jeo a)
 have gH := Qb (Jeo b)
 have HG := lh hG
 clear hG eA eC fF
 unfold Jj
 unfold Jj at dY dZ
 obtain ⟨b0, b1, b2, hB, hZ⟩ := bx3 w 52 #[.int .u64 (lo a : Int), .string (mo a)] 52 #[.int .u64 (lo b : Int), .string (mo b)] 52 #[.int .u64 0, .string ⟨#[]⟩]
 have bS := hT.next hB
 go_enter Tryz.func118, Tryz.ntmps118
 go_upto_region 1 with fail
 generalize (((w.alloc (.cells #[.int .u64 (lo a : Int), .string (mo a)] 52)).alloc (.cells #[.int .u64 (lo b : Int), .string (mo b)] 52)).alloc (.cells #[.int .u64 0, .string ⟨#[]⟩] 52)) = W at *
 obtain ⟨bE, bF⟩ := b0.c2; obtain ⟨eE, eF⟩ := b1.c2
 go_cut [5, 6] (fun v5 v6 wc => Jfl W a b v5 v6 wc)
 case first =>
  have c0 := b0.drew
  have c1 := b1.drew
  go_region_held3 (fun w' => w'.cell? ⟨w.heap.size, 0, none⟩ = some (.int .u64 (lo a : Int)) /\ w'.cell? ⟨w.heap.size, 1, none⟩ = some (.string (mo a)) /\ w'.cell? ⟨w.heap.size + 1, 0, none⟩ = some (.int .u64 (lo b : Int)) /\ w'.cell? ⟨w.heap.size + 1, 1, none⟩ = some (.string (mo b))) (go_keep) (first | (go_at_call_of 144 (Value.agg #[.int .u64 (lo a : Int), .string (mo a)]); refine (dY.out _).mono ?_; rintro e wa ⟨ga, va, rfl, fG, gI, cZ⟩; (try clear bG bH); obtain ⟨c0, bG, bH⟩ := c0.zc2 cZ; (try clear bI bJ); obtain ⟨c1, bI, bJ⟩ := c1.zc2 cZ) | (go_at_call_of 144 (Value.agg #[.int .u64 (lo b : Int), .string (mo b)]); refine (dZ.out _).mono ?_; rintro e wb ⟨gb, vb, rfl, gJ, iD, dA⟩; (try clear bG bH); obtain ⟨c0, bG, bH⟩ := c0.zc2 dA; (try clear bI bJ); obtain ⟨c1, bI, bJ⟩ := c1.zc2 dA))
  all_goals
   go_wp2_with fail
   go_meet
   have h1 := fG.lt
   have h2 := (Jbq cZ).size
   exact ⟨ga, gb, fG.below dA h1, gJ, by omega, gI, by omega, Ja (Jbq cZ) dA⟩
 case rest =>
  clear bE bF eE eF b0 b1 dY dZ
  obtain ⟨g, h, t7, aB, t8, aM, aN, aF⟩ := hcut
  have bK := bS.next aF
  obtain ⟨p5, c5, aS, bL, aT⟩ := t7.form
  obtain ⟨p6, c6, aU, bM, aV⟩ := aB.form
  have z5 := Jae _ _ c5 _ _ wc aT bL (Js a) (by rw [Jp]; exact cE) bK
  have z6 := Jae _ _ c6 _ _ wc aV bM (Js b) (by rw [Jp]; exact bR) bK
  rw [Jp] at z5 z6
  rw [<- aS] at z5
  rw [<- aU] at z6
  have d5 := Vk g _ _ wc t7 (Js a) (by rw [Jp]; exact cE) bK
  rw [Jp] at d5
  have D5 := lh d5
  have Z5 := lh z5
  have Z6 := lh z6
  obtain ⟨T, eG⟩ : ∃ T, min (tz a) (tz b) = T := ⟨_, rfl⟩
  have gK : (if (tz b : Int) < (tz a : Int) then (tz b : Int) else (tz a : Int)) = (T : Int) := by
   rw [<- eG]
   split <;> omega
  have fH : min (tz a : Int) (tz b : Int) = (T : Int) := by omega
  have iE : T <= 549755813888 := by omega
  rw [eG] at HG
  generalize tz a = ta at *
  generalize tz b = tb at *
  clear d5 z5 z6 aS aU aT aV bL bM eG
  go_wp2_with fail
  refine Z5.out.mono ?_
  rintro e w1 ⟨rfl, rfl⟩
  go_wp2_with fail
  refine Z6.out.mono ?_
  rintro e w1 ⟨rfl, rfl⟩
  go_wp2_with fail
  refine D5.out.mono ?_
  rintro e w1 ⟨v5, rfl, cF, dB⟩
  have gL : 2 ≠ h := by have := bS.lt; omega
  have cG : 2 ≠ g := by have := bS.lt; omega
  have d6 := Vk h _ _ w1 (aB.only dB (fun e => t8 e.symm)) (Js b) (by rw [Jp]; exact bR) (bK.only dB cG)
  rw [Jp] at d6
  have D6 := lh d6
  have o5 := Only.chain aF dB aM
  clear d6 D5 Z5 Z6 t7 aB
  go_wp2_with fail
  refine D6.out.mono ?_
  rintro e w2 ⟨v6, rfl, cH, eH⟩
  have j7 := Only.chain o5 eH aN
  have aW := cF.only eH t8
  have aA : Jfl W (odd a) (odd b) v5 v6 w2 := ⟨g, h, aW, cH, t8, aM, aN, j7⟩
  clear D6 cF aW cH aF o5 j7 dB eH gL cG bK t8 aM aN
  go_wp2_with fail
  generalize odd a = oa at *
  generalize odd b = ob at *
  obtain ⟨G, eI⟩ : ∃ G, Nat.gcd oa ob = G := ⟨_, rfl⟩
  rw [eI] at HG
  have HGG := lh eI
  clear eI
  go_loopg [5, 6, 8] (oa + ob) (fun k v5 v6 _ wr => ∃ x y : Nat, x + y = k /\ x % 2 = 1 /\ y % 2 = 1 /\ Hid (Nat.gcd x y = G) /\ Je x <= 549755813888 /\ Je y <= 549755813888 /\ Jfl W x y v5 v6 wr)
  case atStart => exact ⟨oa, ob, rfl, eB, eD, HGG, by omega, by omega, aA⟩
  case round =>
   obtain ⟨x, y, hk, hx, hy, hg, gM, fI, g, h, t7, aB, t8, aM, aN, aF⟩ := hrel
   have HK := lh hk
   clear hk aA HGG
   have bK := bS.next aF
   obtain ⟨p5, c5, aS, bL, aT⟩ := t7.form
   obtain ⟨p6, c6, aU, bM, aV⟩ := aB.form
   have cm := Jfn _ _ _ c5 _ c6 _ x y wr aT aV bL bM
   rw [<- aS, <- aU] at cm
   have CM := lh cm
   clear cm aS aU aT aV bL bM
   by_cases gN : x = y
   ·subst gN
    rw [Jcm] at CM
    rw [Nat.gcd_self] at hg
    obtain rfl : x = G := hg.out
    have gO := Qz x (by omega)
    clear hg aB t8 aN hy fI HK
    go_wp2_with fail
    refine CM.out.mono ?_
    rintro e w1 ⟨rfl, x9⟩
    have j8 := t7.below x9 t7.lt
    obtain ⟨p, c, hv, hn, hr⟩ := j8.form
    have nm := Jg2 _ _ c _ x w1 hr zd gO
    rw [<- hv] at nm
    have NM := lh nm
    clear nm hv hr hn t7 j8 CM
    go_wp2_with fail
    refine NM.out.mono ?_
    rintro e w2 ⟨rfl, fJ⟩
    have j7 := Ja (Ja aF x9) fJ
    have b2 := b2.below j7 b2.lt
    unfold Jj
    go_wp2_with fail
    have bq := Blk.new w2 52 #[.int .u64 (lo x : Int), .string (mo x)]
    have b2 := b2.alloc (.cells #[.int .u64 (lo x : Int), .string (mo x)] 52)
    have s9 := Ja j7 (Jb w2 (.cells #[.int .u64 (lo x : Int), .string (mo x)] 52))
    have fK : W.heap.size <= w2.heap.size := j7.size
    obtain ⟨gq, eJ⟩ : ∃ gq, w2.heap.size = gq := ⟨_, rfl⟩
    rw [eJ] at bq fK
    rw [eJ]
    clear fJ j7 NM x9 aF eJ bK aM
    generalize w2.alloc (.cells #[.int .u64 (lo x : Int), .string (mo x)] 52) = w3 at *
    have aA : Jr3 W gq (x * 2 ^ (T - (T : Int).toNat)) w3 := by
     rw [Int.toNat_natCast, Nat.sub_self, Nat.pow_zero, Nat.mul_one]
     exact ⟨bq, s9⟩
    clear bq s9
    have b2lt : w.heap.size + 1 + 1 < W.heap.size := by have := hZ.out; omega
    have dV : Blk W (w.heap.size + 1 + 1) 52 #[.int .u64 0, .string ⟨#[]⟩] := by assumption
    go_loopw [7] (fun t wr => ∃ z : Int, z <= T /\ -65536 <= z /\ t = .int .i64 z /\ Jr3 W gq (x * 2 ^ (T - z.toNat)) wr) (fun t _ => (intOf t).toNat)
    case atStart => exact ⟨T, by omega, by omega, rfl, aA⟩
    case round =>
     obtain ⟨z, gP, iF, rfl, bT, eK⟩ := hrel
     clear aA b2
     by_cases hz : 0 < z
     ·obtain ⟨k, hk⟩ : ∃ k : Nat, (if (65536 : Int) < z then (65536 : Int) else z) = (k : Int) := by
       split
       ·exact ⟨65536, rfl⟩
       exact ⟨z.toNat, by omega⟩
      have dL : k <= 65536 := by split at hk <;> omega
      have aA := Jqy x T z k hz gP hk
      have fC : Je (x * 2 ^ (T - z.toNat)) <= 549755813888 := by
       refine nt (Qb ?_) (nt gE ha)
       rw [HG.out]
       exact Nat.mul_le_mul_left _ (Nat.pow_le_pow_right (by omega) (by omega))
      have sh := Jhi (x * 2 ^ (T - z.toNat)) k wr (by omega) dL
      rw [aA] at sh
      unfold Jj at sh
      have SH := lh sh
      clear sh aA fC
      generalize x * 2 ^ (T - z.toNat) = N at *
      generalize cV : x * 2 ^ (T - (z - 65536).toNat) = N2 at *
      have HN2 := lh cV
      clear cV
      obtain ⟨aG, aH⟩ := bT.c2
      have iG : min z 65536 = (k : Int) := by rw [<- hk]; split <;> omega
      go_wp2_with fail
      refine SH.out.mono ?_
      rintro e w4 ⟨rfl, fL⟩
      have eL := Ja eK fL
      (try clear aG aH cI cJ cK cL); obtain ⟨bT, aG, aH, cI, cJ, cK, cL⟩ := bT.zf2 fL
      go_wp2_with fail
      refine ⟨⟨z - 65536, by omega, by omega, rfl, ?_⟩, by simp [intOf]; omega⟩
      rw [HN2.out]
      have h9 := (bT.set_ 0 (.int .u64 (lo N2 : Int))).set_ 1 (.string (mo N2))
      exact ⟨by simpa using h9, Xz eL fK _ _⟩
     have e0 : z.toNat = 0 := by omega
     rw [e0, Nat.sub_zero, <- HG.out] at bT
     have b2 := dV.below eK b2lt
     obtain ⟨aG, aH⟩ := bT.c2
     obtain ⟨gQ, gR, gS, gT, eM, eO⟩ := b2.f2
     have gU := Ja hB eK
     have n1 : ¬ gq = w.heap.size + 1 + 1 := by omega
     have n2 : ¬ w.heap.size + 1 + 1 = gq := by omega
     generalize Nat.gcd a b = GG at *
     clear e0
     go_wp2
     refine bodyPost_ret (v := .agg #[.int .u64 (lo GG : Int), .string (mo GG)]) (by simp [results, Tryz.results118, go_sem, eM, eO]) rfl ?_
     exact ⟨rfl, Xz gU (by omega) _ _⟩
   have dL : Hid (x + y = gk) := HK
   rcases Nat.lt_or_ge x y with aO | hge
   ·rw [Zs aO] at CM
    have gV : ((-1 : Int) < 0) := by omega
    go_wp2_with fail
    refine CM.out.mono ?_
    rintro e w1 ⟨rfl, x9⟩
    have j8 := t7.below x9 t7.lt
    have y8 := aB.below x9 aB.lt
    have o5 := Ja aF x9
    obtain ⟨p5, c5, aS, bL, aT⟩ := j8.form
    have sb := Jaf h _ y x _ c5 _ _ w1 y8 aT zd (fun ad he => by cases he; exact t8) (by omega)
    rw [<- aS] at sb
    have SB := lh sb
    clear sb aS bL aT CM t7 aB aF x9
    go_wp2_with fail
    refine SB.out.mono ?_
    rintro e w2 ⟨v', rfl, cM, ho⟩
    have j7 := Only.chain o5 ho aN
    have cN := j8.only ho t8
    have cO : y - x ≠ 0 := by omega
    have dn := Vk h _ _ w2 cM (Js _) (by rw [Jp]; exact cO) (bS.next j7)
    rw [Jp] at dn
    have DN := lh dn
    clear dn SB y8 j8 o5 ho
    go_wp2_with fail
    refine DN.out.mono ?_
    rintro e w3 ⟨v'', rfl, cP, bN⟩
    have s9 := Only.chain j7 bN aN
    have cQ := cN.only bN t8
    obtain ⟨r1, r2, r3⟩ := Jgg aO hy hx
    have j6 : ∃ x' y' : Nat, x' + y' < gk /\ x' % 2 = 1 /\ y' % 2 = 1 /\ Hid (Nat.gcd x' y' = G) /\ Je x' <= 549755813888 /\ Je y' <= 549755813888 /\ Jfl W x' y' v'' _ w3 :=
     ⟨odd (y - x), x, by have := HK.out; omega, r2, hx, lh (by rw [r1, Nat.gcd_comm]; exact hg.out), by have := Qb (show odd (y - x) <= y from nt (Jeo _) (by omega)); omega, gM, h, g, cP, cQ, fun e => t8 e.symm, aN, aM, s9⟩
    obtain ⟨x', y', q1, q2⟩ := j6
    have Q2 := lh q2
    clear q2 DN r1 r2 r3 cP cQ cN cM j7 s9 bN cO
    go_wp2_with fail
    go_roundg (x' + y')
    case rel => exact ⟨x', y', rfl, Q2.out⟩
    case measure => exact q1
   rw [Uk (show y < x by omega)] at CM
   go_wp2_with fail
   refine CM.out.mono ?_
   rintro e w1 ⟨rfl, x9⟩
   have j8 := t7.below x9 t7.lt
   have y8 := aB.below x9 aB.lt
   have o5 := Ja aF x9
   obtain ⟨p6, c6, aU, bM, aV⟩ := y8.form
   have sb := Jaf g _ x y _ c6 _ _ w1 j8 aV zd (fun ad he => by cases he; exact fun e => t8 e.symm) (by omega)
   rw [<- aU] at sb
   have SB := lh sb
   clear sb aU bM aV CM t7 aB aF x9
   go_wp2_with fail
   refine SB.out.mono ?_
   rintro e w2 ⟨v', rfl, cM, ho⟩
   have j7 := Only.chain o5 ho aM
   have cR := y8.only ho (fun e => t8 e.symm)
   have cO : x - y ≠ 0 := by omega
   have dn := Vk g _ _ w2 cM (Js _) (by rw [Jp]; exact cO) (bS.next j7)
   rw [Jp] at dn
   have DN := lh dn
   clear dn SB j8 y8 o5 ho
   go_wp2_with fail
   refine DN.out.mono ?_
   rintro e w3 ⟨v'', rfl, cP, bN⟩
   have s9 := Only.chain j7 bN aM
   have cS := cR.only bN (fun e => t8 e.symm)
   obtain ⟨r1, r2, r3⟩ := Jgg (show y < x by omega) hx hy
   have j6 : ∃ x' y' : Nat, x' + y' < gk /\ x' % 2 = 1 /\ y' % 2 = 1 /\ Hid (Nat.gcd x' y' = G) /\ Je x' <= 549755813888 /\ Je y' <= 549755813888 /\ Jfl W x' y' v'' _ w3 :=
    ⟨odd (x - y), y, by have := HK.out; omega, r2, hy, lh (by rw [r1]; exact hg.out), by have := Qb (show odd (x - y) <= x from nt (Jeo _) (by omega)); omega, fI, g, h, cP, cS, t8, aM, aN, s9⟩
   obtain ⟨x', y', q1, q2⟩ := j6
   have Q2 := lh q2
   clear q2 DN r1 r2 r3 cP cS cR cM j7 s9 bN cO
   go_wp2_with fail
   go_roundg (x' + y')
   case rel => exact ⟨x', y', rfl, Q2.out⟩
   case measure => exact q1
