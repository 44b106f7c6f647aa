import Derived.Test.YtacbcaebaomglaaGreatDoorGcdW
import Derived.Test.YtacbcaebaomglaaGreatDoorShifts
import Derived.Deep.LoopGhost
namespace Go.Proofs.YtacbcaebaomglaaGreatDoor
set_option maxRecDepth 100000
set_option maxHeartbeats 1000000
open Go.RowKit
set_option linter.all false
structure Only (g : Nat) (w w' : World) : Prop where
 os : w'.os = w.os
 tape : w'.tape = w.tape
 output : w'.output = w.output
 size : w.heap.size <= w'.heap.size
 block : ∀ k, k < w.heap.size -> k ≠ g -> w'.heap[k]? = w.heap[k]?
section
variable {g : Nat} {a w w' : World}
theorem Only.refl (g : Nat) (w : World) : Only g w w := ⟨rfl, rfl, rfl, Nat.le_refl _, fun _ _ _ => rfl⟩
theorem Only.trans (h : Only g a w) (h' : Only g w w') : Only g a w' := ⟨h'.os.trans h.os, h'.tape.trans h.tape, h'.output.trans h.output, nt h.size h'.size, fun k hk hg => (h'.block k (Nat.lt_of_lt_of_le hk h.size) hg).trans (h.block k hk hg)⟩
theorem Only.drewN (h : Only g a w) (n : Nat) : Only g a (w.drewN n) := ⟨h.os, h.tape, h.output, h.size, h.block⟩
theorem Only.setCell (h : Only g a w) (p : Addr) (hp : p.block = g) (v : Value) : Only g a (w.setCell p v) :=
 ⟨h.os, h.tape, h.output, by simp [World.setCell]; exact h.size, fun k hk hg => by rw [Below.heap_setCell _ _ _ _ (fun e => hg (by omega))]; exact h.block k hk hg⟩
theorem Only.of_below (h : Below w.heap.size w w') : Only g w w' := ⟨h.os, h.tape, h.output, h.size, fun k hk _ => h.block k hk⟩
theorem Only.below {B : Nat} (h : Only g w w') (hB : B <= g) (hs : B <= w.heap.size) : Below B w w' := ⟨h.os, h.tape, h.output, h.size, fun k hk => h.block k (by omega) (by omega)⟩
theorem Only.row {α : Type} {k : Nat} {t : TypeId} {f : α -> Value} {l : List α} (h : Only g w w') (hr : Row w k t f l) (hk : k ≠ g) : Row w' k t f l := by
 have := hr.lt
 unfold Row Blk at *
 rw [h.block k this hk]
 exact hr
end
section
variable {w : World} {g : Nat} {pre cur post : List Nat}
theorem Kc (g p j : Nat) : (⟨g, p, none⟩ : Addr).add j = ⟨g, p + j, none⟩ := by
 unfold Addr.add
 split
 ·rename_i h; subst h; rfl
 rfl
theorem Jm4 (pre cur post : List Nat) {j x : Nat} (hx : cur[j]? = some x) : (pre ++ cur ++ post)[pre.length + j]? = some x := by
 have hj : j < cur.length := (List.getElem?_eq_some_iff.1 hx).1
 rw [List.append_assoc, List.getElem?_append_right (by omega), show pre.length + j - pre.length = j from by omega, List.getElem?_append_left hj, hx]
theorem Vs (hr : Row w g 59 Jk (pre ++ cur ++ post)) {j x : Nat} (hx : cur[j]? = some x) : w.cell? ((⟨g, pre.length, none⟩ : Addr).add j) = some (.int .u64 (x : Int)) := by
 rw [Kc]
 exact hr.cell (Jm4 _ _ _ hx)
theorem Jbb (hr : Row w g 59 Jk (pre ++ cur ++ post)) (j : Nat) : w.frozen? ((⟨g, pre.length, none⟩ : Addr).add j) = false := by
 rw [Kc]
 exact hr.frozen _
theorem Jf7 (hr : Row w g 59 Jk (pre ++ cur ++ post)) {j : Nat} (x : Nat) (hj : j < cur.length) : Row (w.setCell ((⟨g, pre.length, none⟩ : Addr).add j) (.int .u64 (x : Int))) g 59 Jk (pre ++ cur.set j x ++ post) := by
 rw [Kc]
 have h := hr.set_ (pre.length + j) x
 rw [List.append_assoc, List.set_append_right _ _ (by omega), show pre.length + j - pre.length = j from by omega, List.set_append_left _ _ hj, <- List.append_assoc] at h
 exact h
theorem Jan (hr : Row w g 59 Jk (pre ++ cur ++ post)) : Reads w (g + 1) 1 (some ⟨g, pre.length, none⟩) cur.length (cur.map Jk) := by
 refine ⟨by simp, fun _ => ⟨_, rfl, by simp, fun j u hu => ?_⟩⟩
 rw [List.getElem?_map] at hu
 obtain ⟨x, hx, rfl⟩ := Option.map_eq_some_iff.1 hu
 exact Vs hr hx
end
def Jg5 (w : World) (g : Nat) (pre post l : List Nat) (M i : Nat) (wr : World) : Prop :=
 ∃ cur : List Nat, cur.length = l.length /\ Row wr g 59 Jk (pre ++ cur ++ post) /\ Dig 18446744073709551616 cur /\ dv 18446744073709551616 (cur.take i) = M % 18446744073709551616 ^ i /\ cur.drop i = l.drop i /\ Only g w wr
theorem Jfx {cur l : List Nat} {i r x z M : Nat} (o7 : cur.length = l.length) (hx : l[i]? = some x) (hM : dv 18446744073709551616 l / 2 ^ r = M) (hd : Dig 18446744073709551616 l)
  (hv : dv 18446744073709551616 (cur.take i) = M % 18446744073709551616 ^ i) (y8 : cur.drop i = l.drop i) (hz : dv 18446744073709551616 (l.drop i) / 2 ^ r % 18446744073709551616 = z) :
  dv 18446744073709551616 ((cur.set i z).take (i + 1)) = M % 18446744073709551616 ^ (i + 1) /\ (cur.set i z).drop (i + 1) = l.drop (i + 1) := by
 have hi : i < l.length := (List.getElem?_eq_some_iff.1 hx).1
 have hg : (cur.set i z)[i]? = some z := by rw [List.getElem?_set_self (by omega)]
 constructor
 ·rw [Js hg, List.take_set_of_le zd, hv, Nat.mod_pow_succ]
  have : M / 18446744073709551616 ^ i % 18446744073709551616 = z := by
   rw [<- hz, <- Yr hd (by omega), <- hM, Nat.div_div_eq_div_mul, Nat.div_div_eq_div_mul, Nat.mul_comm]
  rw [this, Nat.mul_comm z]
 rw [List.drop_set_of_lt (by omega), <- List.drop_drop, <- List.drop_drop, y8]
theorem Jll {l : List Nat} (hd : Dig 18446744073709551616 l) (h0 : dv 18446744073709551616 l ≠ 0) : tz (dv 18446744073709551616 l) / 64 < l.length := by
 have h1 := Xm hd
 obtain ⟨h2, h3⟩ := Ke _ h0
 have h4 : 2 ^ tz (dv 18446744073709551616 l) <= dv 18446744073709551616 l := by
  conv => rhs; rw [h2]
  exact Nat.le_mul_of_pos_right _ (by omega)
 rw [show (18446744073709551616 : Nat) = 2 ^ 64 from rfl, <- Nat.pow_mul] at h1
 have h5 := (Nat.pow_lt_pow_iff_right (show 1 < 2 by omega)).1 (Nat.lt_of_le_of_lt h4 h1)
 generalize tz _ = n at h5 ⊢
 omega
theorem Jlp (g p n c h : Nat) (hh : h < c) (hn : h <= n) (w : World) :
  (Instr.slice 178 (.slice (some ⟨g, p, none⟩) n c) (some (.int .i64 (h : Int))) none none).run Tryz.prog w = .ok (.slice (some ⟨g, p + h, none⟩) (n - h) (c - h)) w := by
 have e := Jc9 (P := Tryz.prog) Tryz.underlying178 Tryz.infoU64 (some ⟨g, p, none⟩) n c .i64 (h : Int) (by omega) (by omega) w
 rw [e]
 have : Jb3 (some (⟨g, p, none⟩ : Addr)) c (h : Int).toNat 1 = some ⟨g, p + h, none⟩ := by
  unfold Jb3
  rw [if_neg (by omega), Option.map_some, Kc]
  simp
 rw [this]
 rfl
theorem Vd (g : Nat) (v : Value) (l : List Nat) (w : World) (h : Win w g v l) (hd : Dig 18446744073709551616 l) (h0 : dv 18446744073709551616 l ≠ 0) (hT : TabAt 2 Lib.deBruijn64tab w) :
  Calls Tryz.prog 156 #[v] w fun e w' => ∃ v', e = .returned v' /\ Win w' g v' (Jf (odd (dv 18446744073709551616 l))) /\ Only g w w' := by
 obtain ⟨c, pre, post, rfl, cL, hc, hr⟩ := h
 have hz := Vt (some ⟨g, pre.length, none⟩) l.length c (g + 1) l w (Jan hr) (by omega) hd h0 hT
 have aC := Jll hd h0
 obtain ⟨N, hN⟩ : ∃ N, odd (dv 18446744073709551616 l) = N := ⟨_, rfl⟩
 rw [hN]
 unfold odd at hN
 obtain ⟨n, hn⟩ : ∃ n, tz (dv 18446744073709551616 l) = n := ⟨_, rfl⟩
 rw [hn] at hz aC hN
 obtain ⟨k, hk⟩ : ∃ k, n / 64 = k := ⟨_, rfl⟩
 obtain ⟨r, gD⟩ : ∃ r, n % 64 = r := ⟨_, rfl⟩
 have c1 : (n : Int) / 64 = (k : Int) := by omega
 have c2 : (n : Int) % 64 = (r : Int) := by omega
 have aL : r < 64 := by omega
 rw [hk] at aC
 have hM : dv 18446744073709551616 (l.drop k) / 2 ^ r = N := by
  rw [<- hN, <- Yr hd (by omega), Nat.div_div_eq_div_mul]
  congr 1
  rw [show (18446744073709551616 : Nat) = 2 ^ 64 from rfl, <- Nat.pow_mul, <- Nat.pow_add]
  congr 1
  omega
 have hcut := Jlp g pre.length l.length c k (by omega) (by omega)
 obtain ⟨lX, bI⟩ : ∃ lX, l.drop k = lX := ⟨_, rfl⟩
 obtain ⟨p, hp⟩ : ∃ p, l.length - k = p := ⟨_, rfl⟩
 have hlx : lX.length = p := by rw [<- bI, List.length_drop, hp]
 have aD : Dig 18446744073709551616 lX := by rw [<- bI]; exact hd.drop k
 obtain ⟨preX, cM⟩ : ∃ preX, pre ++ l.take k = preX := ⟨_, rfl⟩
 have eA : Row w g 59 Jk (preX ++ lX ++ post) := by
  rw [<- cM, <- bI, List.append_assoc pre, List.take_append_drop]
  exact hr
 have eB : pre.length + k = preX.length := by rw [<- cM, List.length_append, List.length_take, Nat.min_eq_left (by omega)]
 rw [bI] at hM
 obtain ⟨P0, aM⟩ : ∃ P0, preX.length = P0 := ⟨_, rfl⟩
 rw [hp, eB, aM] at hcut
 obtain ⟨cX, eC⟩ : ∃ cX, c - k = cX := ⟨_, rfl⟩
 rw [eC] at hcut
 obtain ⟨len, o7⟩ : ∃ len, l.length = len := ⟨_, rfl⟩
 rw [o7] at hz hcut aC cL hp ⊢
 have eU : p <= cX /\ cX <= 1099511627776 /\ len <= 1099511627776 := by omega
 have HZ := lh hz
 have HM := lh (And.intro hM (And.intro hlx aM))
 clear hz hM hlx aM hN hn hk bI hp cM eB eC o7 hr
 go_enter Tryz.func156, Tryz.ntmps156
 go_wp2_with fail
 refine HZ.out.mono ?_
 rintro e w1 ⟨rfl, rfl⟩
 go_wp2_with fail
 clear c1 hcut
 go_loopw [5, 16] (fun _ i wr => ∃ k : Nat, k <= p /\ i = .int .i64 k /\ Jg5 w g preX post lX N k wr) (fun _ i _ => p - (intOf i).toNat)
 case atStart => exact ⟨0, Nat.zero_le _, rfl, lX, rfl, eA, aD, by simp [dv, Nat.mod_one], rfl, Only.refl _ _⟩
 case round =>
  obtain ⟨i, hi, rfl, cur, y9, aE, bC, hv, y8, p7⟩ := hrel
  clear eA
  by_cases q8 : i < p
  ·obtain ⟨x, hx⟩ : ∃ x, lX[i]? = some x := ⟨_, List.getElem?_eq_getElem (by rw [HM.out.2.1]; exact q8)⟩
   have aN : cur[i]? = some x := by
    have h1 : (cur.drop i)[0]? = (lX.drop i)[0]? := by rw [y8]
    rw [List.getElem?_drop, List.getElem?_drop, Nat.add_zero, hx] at h1
    exact h1
   have cN := aD.get hx
   have cO : i < cur.length := by rw [y9, HM.out.2.1]; exact q8
   have eV := Vs aE aN
   have eW := Jbb aE i
   rw [Kc, HM.out.2.2] at eV eW
   obtain ⟨u, hu⟩ : ∃ u, x / 2 ^ r = u := ⟨_, rfl⟩
   have eX : (x : Int) / 2 ^ r = (u : Int) := by
    rw [<- hu, Int.natCast_ediv, Int.natCast_pow]
    rfl
   have k4 : (i : Int) < (p : Int) := by omega
   have k7 : (r : Int) <= 63 := by omega
   have j6 := Jf7 aE u cO
   have cP : (cur.set i u)[i]? = some u := by rw [List.getElem?_set_self cO]
   have eY := Vs j6 cP
   have eZ := Jbb j6 i
   rw [Kc, HM.out.2.2] at j6 eY eZ
   have k6 : IntKind.u64.wrap (64 - (r : Int)) = ((64 - r : Nat) : Int) := by rw [Jd _ (by omega) (by omega)]; omega
   by_cases cQ : i + 1 < p
   ·obtain ⟨y, hy⟩ : ∃ y, lX[i + 1]? = some y := ⟨_, List.getElem?_eq_getElem (by rw [HM.out.2.1]; exact cQ)⟩
    have cF : (cur.set i u)[i + 1]? = some y := by
     rw [List.getElem?_set_ne (by omega)]
     have h1 : (cur.drop i)[1]? = (lX.drop i)[1]? := by rw [y8]
     rw [List.getElem?_drop, List.getElem?_drop, hy] at h1
     exact h1
    have s9 : dv 18446744073709551616 (lX.drop i) = x + 18446744073709551616 * (y + 18446744073709551616 * dv 18446744073709551616 (lX.drop (i + 1 + 1))) := by
     rw [Qb hx, Qb hy]
    obtain ⟨j7, bD⟩ := Ub aL cN s9
    rw [hu] at j7 bD
    obtain ⟨fA, bJ⟩ := Jdt u y r bD aL
    obtain ⟨z, hz⟩ : ∃ z, u + y * 2 ^ (64 - r) % 18446744073709551616 = z := ⟨_, rfl⟩
    rw [hz] at fA bJ j7
    obtain ⟨bK, hn2⟩ := Jfx y9 hx HM.out.1 aD hv y8 j7
    have cS := Vs (j6) cF
    rw [Kc, HM.out.2.2] at cS
    have aO := Jf7 (j := i) j6 z (by rw [List.length_set]; exact cO)
    rw [Kc, HM.out.2.2, List.set_set] at aO
    have e8 : Jg5 w g preX post lX N (i + 1) (((wr.setCell ⟨g, P0 + i, none⟩ (.int .u64 (u : Int))).drew).setCell ⟨g, P0 + i, none⟩ (.int .u64 (z : Int))) :=
     ⟨cur.set i z, by rw [List.length_set]; exact y9, aO, bC.set_ i bJ, bK, hn2, ((p7.setCell _ rfl _).drewN 1).setCell _ rfl _⟩
    have HFIN := lh e8
    have k10 : (i : Int) + 1 < (p : Int) := by omega
    have k11 : ((i : Int) + 1).toNat = i + 1 := by omega
    have k9 : (64 : Int) - (r : Int) = ((64 - r : Nat) : Int) := by omega
    clear j7 bD hz bK hn2 j6 aO e8 cP hu hx hy aN cF hv y8 s9 y9 aE bC p7
    go_wp2_with fail
    go_region
    go_wp2
    exact ⟨⟨i + 1, by omega, by go_num, HFIN.out⟩, by simp [intOf]; omega⟩
   have s9 : dv 18446744073709551616 (lX.drop i) = x + 18446744073709551616 * (0 + 18446744073709551616 * 0) := by
    rw [Qb hx, Xe (by rw [HM.out.2.1]; omega)]
   obtain ⟨j7, bD⟩ := Ub aL cN s9
   rw [hu, Nat.zero_mul, Nat.zero_mod, Nat.add_zero] at j7
   rw [hu] at bD
   have cT : u < 18446744073709551616 := by
    have := Nat.pow_le_pow_right (show 0 < 2 by omega) (show 64 - r <= 64 by omega)
    omega
   obtain ⟨bK, hn2⟩ := Jfx y9 hx HM.out.1 aD hv y8 j7
   have e8 : Jg5 w g preX post lX N (i + 1) (wr.setCell ⟨g, P0 + i, none⟩ (.int .u64 (u : Int))) :=
    ⟨cur.set i u, by rw [List.length_set]; exact y9, j6, bC.set_ i cT, bK, hn2, p7.setCell _ rfl _⟩
   have HFIN := lh e8
   have k10 : ¬ (i : Int) + 1 < (p : Int) := by omega
   clear j7 bD bK hn2 j6 e8 cP hu hx aN hv y8 s9 y9 aE bC p7
   go_wp2
   exact ⟨⟨i + 1, by omega, by go_num, HFIN.out⟩, by simp [intOf]; omega⟩
  obtain rfl : i = p := by omega
  have eD : cur.length = i := by rw [y9]; exact HM.out.2.1
  have bL : N < 18446744073709551616 ^ i := by
   have h1 := Xm aD
   rw [HM.out.2.1] at h1
   rw [<- HM.out.1]
   exact Nat.lt_of_le_of_lt (Nat.div_le_self _ _) h1
  rw [Nat.mod_eq_of_lt bL, List.take_of_length_le (by omega)] at hv
  have hw := Jbo cur bC
  rw [hv] at hw
  have t7 := Jan aE
  rw [eD, HM.out.2.2] at t7
  have aP := Jdg (some ⟨g, P0, none⟩) i cX (g + 1) cur wr t7 (by omega) (by omega)
  have x8 := Zy cur
  have bE := Us cur
  rw [<- hw] at aP x8 bE
  have e8 : Win wr g (.slice (some ⟨g, P0, none⟩) (Jf N).length cX) (Jf N) := by
   refine ⟨cX, preX, cur.drop (Jf N).length ++ post, by rw [HM.out.2.2], by omega, by omega, ?_⟩
   have e : preX ++ Jf N ++ (cur.drop (Jf N).length ++ post) = preX ++ cur ++ post := by
    conv => lhs; lhs; rhs; rw [x8]
    rw [List.append_assoc, <- List.append_assoc (List.take _ _), List.take_append_drop, List.append_assoc]
   rw [e]
   exact aE
  have HFIN := lh (And.intro e8 p7)
  have HTR := lh aP
  clear e8 p7 aP x8 bE t7 hw hv bL eD y9 aE bC y8
  go_wp2_with fail
  refine HTR.out.mono ?_
  rintro e w2 ⟨rfl, rfl⟩
  go_wp2
  go_ret
  exact ⟨_, rfl, HFIN.out.1, HFIN.out.2⟩
theorem Only.exc {g : Nat} {w w' : World} (h : Only g w w') : Exc g w w' := ⟨h.os, h.tape, h.output, h.size, h.block⟩
def Jj9 (w : World) (g p : Nat) (pre post lY : List Nat) (a k c' : Nat) (wr : World) : Prop :=
 ∃ cur : List Nat, cur.length = p /\ Row wr g 59 Jk (pre ++ cur ++ post) /\ Dig 18446744073709551616 cur /\ dv 18446744073709551616 cur + dv 18446744073709551616 (lY.take k) = a + c' * 18446744073709551616 ^ k /\ Only g w wr
theorem Vu (g : Nat) (v : Value) (a b n' c' B : Nat) (A' : Option Addr) (w : World) (h : Win w g v (Jf a)) (h' : Reads w B 1 A' n' ((Jf b).map Jk)) (hB : B <= w.heap.size) (fB : ∀ ad, A' = some ad -> ad.block ≠ g) (gE : b <= a) :
  Calls Tryz.prog 158 #[v, .slice A' n' c'] w fun e w' => ∃ v', e = .returned v' /\ Win w' g v' (Jf (a - b)) /\ Only g w w' := by
 obtain ⟨c, pre, post, rfl, cL, hc, hr⟩ := h
 have o7 : (Jf b).length <= (Jf a).length := by
  rcases Nat.lt_or_ge (Jf a).length (Jf b).length with h | h
  ·have := Zc h
   omega
  exact h
 have aD := Jp a
 have fC := Jp b
 have eE := Jm a
 have eF := Jm b
 have cU := h'.lenf
 generalize Jf a = lX at *
 generalize Jf b = lY at *
 obtain ⟨p, hp⟩ : ∃ p, lX.length = p := ⟨_, rfl⟩
 obtain ⟨P0, aM⟩ : ∃ P0, pre.length = P0 := ⟨_, rfl⟩
 rw [hp] at o7 cL ⊢
 rw [aM]
 rw [cU] at o7
 have HP := lh (And.intro hp (And.intro cU aM))
 have HV := lh (And.intro eE eF)
 clear eE eF cU aM
 go_enter Tryz.func158, Tryz.ntmps158
 go_wp2_with fail
 go_loopw [5, 10] (fun c i wr => ∃ k c' : Nat, k <= p /\ c' <= 1 /\ i = .int .i64 k /\ c = .int .u64 c' /\ Jj9 w g p pre post lY a k c' wr) (fun _ i _ => p - (intOf i).toNat)
 case atStart => exact ⟨0, 0, Nat.zero_le _, Nat.zero_le _, rfl, rfl, lX, hp, hr, aD, by simp [dv]; exact HV.out.1, Only.refl _ _⟩
 case round =>
  obtain ⟨k, c1, hk, fD, rfl, rfl, l, hl, ho, hd, eG, p7⟩ := hrel
  clear hp hr aD
  have HL := lh hl
  have HDV := lh eG
  have cG := h'.exc p7.exc hB fB
  clear hl eG
  by_cases q8 : k < p
  ·obtain ⟨x, hx⟩ : ∃ x, l[k]? = some x := ⟨_, List.getElem?_eq_getElem (by rw [HL.out]; exact q8)⟩
   have aN := Vs ho hx
   have fE := Jbb ho k
   rw [Kc, HP.out.2.2] at aN fE
   have cV : (k : Int) < (p : Int) := by omega
   obtain ⟨y, x9, gF⟩ : ∃ y : Nat, (lY[k]? = some y \/ (n' <= k /\ y = 0)) /\ y < 18446744073709551616 := by
    by_cases cW : k < n'
    ·obtain ⟨y, hy⟩ : ∃ y, lY[k]? = some y := ⟨_, List.getElem?_eq_getElem (by rw [HP.out.2.1]; exact cW)⟩
     exact ⟨y, .inl hy, fC.get hy⟩
    exact ⟨0, .inr ⟨by omega, rfl⟩, by omega⟩
   have cN := hd.get hx
   obtain ⟨S, hS⟩ : ∃ S, (x + 18446744073709551616 - y - c1) % 18446744073709551616 = S := ⟨_, rfl⟩
   obtain ⟨C, hC⟩ : ∃ C, (if x < y + c1 then 1 else 0) = C := ⟨_, rfl⟩
   have fF : S < 18446744073709551616 := by omega
   have eH : C <= 1 := by rw [<- hC]; split <;> omega
   have eI : S + y + c1 = x + 18446744073709551616 * C := by
    rw [<- hC]
    split <;> omega
   have bM : ∀ w, (callFunc 173 #[.int .u64 (x : Int), .int .u64 (y : Int), .int .u64 (c1 : Int)]).run Tryz.prog w = .ok (.value (.tuple #[.int .u64 (S : Int), .int .u64 (C : Int)])) w := fun w => by
    have := Jc8 x y c1 fD w
    rw [hS, hC] at this
    exact this
   have x8 : dv 18446744073709551616 (lY.take (k + 1)) = dv 18446744073709551616 (lY.take k) + y * 18446744073709551616 ^ k := by
    rcases x9 with x9 | ⟨x9, rfl⟩
    ·exact Js x9
    rw [Qo (by rw [HP.out.2.1]; omega), Qo (by rw [HP.out.2.1]; omega)]
    omega
   have aQ := Ut (s := S) (c' := C) (b := y) hx eI HDV.out
   rw [<- x8] at aQ
   have p8 := Jf7 ho S (j := k) (by rw [HL.out]; exact q8)
   rw [Kc, HP.out.2.2] at p8
   have e8 : Jj9 w g p pre post lY a (k + 1) C (wr.setCell ⟨g, P0 + k, none⟩ (.int .u64 (S : Int))) :=
    ⟨l.set k S, by rw [List.length_set]; exact HL.out, p8, hd.set_ k fF, aQ, p7.setCell _ rfl _⟩
   have HFIN := lh e8
   clear hS hC hx x8 aQ p8 e8 ho hd eI p7
   rcases x9 with x9 | ⟨x9, rfl⟩
   ·have cW : k < n' := by rw [<- HP.out.2.1]; exact (List.getElem?_eq_some_iff.1 x9).1
    obtain ⟨ad, y', fG, _, cZ, cF⟩ := cG.atf cW
    rw [x9] at cZ
    obtain rfl : y = y' := by simpa using cZ
    have dA : (k : Int) < (n' : Int) := by omega
    unfold Jk at cF
    clear cZ x9 cG h'
    subst fG
    go_wp2
    exact ⟨⟨k + 1, C, by omega, eH, by go_num, rfl, HFIN.out⟩, by simp [intOf]; omega⟩
   have dA : ¬ (k : Int) < (n' : Int) := by omega
   have eJ : ∀ w, (callFunc 173 #[.int .u64 (x : Int), .int .u64 0, .int .u64 (c1 : Int)]).run Tryz.prog w = .ok (.value (.tuple #[.int .u64 (S : Int), .int .u64 (C : Int)])) w := bM
   clear cG bM h'
   go_wp2
   exact ⟨⟨k + 1, C, by omega, eH, by go_num, rfl, HFIN.out⟩, by simp [intOf]; omega⟩
  obtain rfl : k = p := by omega
  have aF := HDV.out
  rw [Qo (by rw [HP.out.2.1]; omega), HV.out.2] at aF
  have dB := Xm hd
  rw [HL.out] at dB
  have dC : c1 = 0 := by
   rcases Nat.lt_or_ge c1 1 with h | h
   ·omega
   obtain rfl : c1 = 1 := by omega
   omega
  subst dC
  have e : dv 18446744073709551616 l = a - b := by omega
  have hw := Jbo l hd
  rw [e] at hw
  have t7 := Jan ho
  rw [HL.out, HP.out.2.2] at t7
  have aP := Jdg (some ⟨g, P0, none⟩) k c (g + 1) l wr t7 (by omega) (by omega)
  have x8 := Zy l
  have bE := Us l
  rw [HL.out] at bE
  rw [<- hw] at aP x8 bE
  have e8 : Win wr g (.slice (some ⟨g, P0, none⟩) (Jf (a - b)).length c) (Jf (a - b)) := by
   refine ⟨c, pre, l.drop (Jf (a - b)).length ++ post, by rw [HP.out.2.2], by omega, by omega, ?_⟩
   have e : pre ++ Jf (a - b) ++ (l.drop (Jf (a - b)).length ++ post) = pre ++ l ++ post := by
    conv => lhs; lhs; rhs; rw [x8]
    rw [List.append_assoc, <- List.append_assoc (List.take _ _), List.take_append_drop, List.append_assoc]
   rw [e]
   exact ho
  have HFIN := lh (And.intro e8 p7)
  have HTR := lh aP
  clear e8 p7 aP x8 bE t7 hw aF ho hd cG h' e
  go_wp2_with fail
  refine HTR.out.mono ?_
  rintro e w2 ⟨rfl, rfl⟩
  go_wp2
  go_ret
  exact ⟨_, rfl, HFIN.out.1, HFIN.out.2⟩
def Jmy (w : World) (a g N : Nat) (i : Nat) (wr : World) : Prop :=
 Row wr g 5 u8v (List.replicate (N - i) 0 ++ Qi a i) /\ Below w.heap.size w wr
theorem Jg7 (a : Nat) : a < 256 ^ (8 * (Jf a).length) := by
 have h := Xm (Jp a)
 rw [Jm] at h
 rw [Nat.pow_mul]
 exact h
theorem Jf8 (A : Option Addr) (n c B a : Nat) (w : World) (h : Reads w B 1 A n ((Jf a).map Jk)) (hB : B <= w.heap.size) (hn : n <= 17179869185) :
  Calls Tryz.prog 159 #[.slice A n c] w (Ret (Jh a) w) := by
 have dD := h.lenf
 obtain ⟨N, hN⟩ : ∃ N, 8 * n = N := ⟨_, rfl⟩
 have cH : (8 : Int) * (n : Int) = (N : Int) := by omega
 have fH := Qf (P := Tryz.prog) u8v 0 164 5 1 Tryz.underlying164 Tryz.infoU8 rfl .i64 .i64 N (by omega) (by omega)
 have eK : N <= 1099511627776 := by omega
 have bL : Xv (Qi a N) = a := by
  rw [Jaj, Nat.mod_eq_of_lt]
  have := Jg7 a
  rw [dD, hN] at this
  exact this
 have HN := lh (And.intro hN (And.intro dD bL))
 clear dD hN bL
 have b0 := Blk.new w 61 #[.int .u64 0, .string ⟨#[]⟩]
 have eL := Jb w (.cells #[.int .u64 0, .string ⟨#[]⟩] 61)
 have hR := h.alloc hB (.cells #[.int .u64 0, .string ⟨#[]⟩] 61)
 have hZ := lh (show (w.alloc (.cells #[.int .u64 0, .string ⟨#[]⟩] 61)).heap.size = w.heap.size + 1 from by simp)
 go_enter Tryz.func159, Tryz.ntmps159
 go_wp2_with fail
 generalize w.alloc (.cells #[.int .u64 0, .string ⟨#[]⟩] 61) = W at *
 have aR := Row.rep W 5 u8v 0 N
 have bN := Jb W (.cells (Array.replicate N (u8v 0)) 5)
 obtain ⟨g, hg⟩ : ∃ g, w.heap.size + 1 = g := ⟨_, rfl⟩
 rw [hZ.out, hg] at aR
 rw [hg]
 have fI : W.heap.size <= g := by have := hZ.out; omega
 have fJ : B <= W.heap.size := by have := hZ.out; omega
 have bF := b0.lt
 clear hg fH cH h
 go_loopw [4, 11] (fun _ i wr => ∃ k : Nat, k <= N /\ i = .int .i64 k /\ Jmy W a g N k wr) (fun _ i _ => N - (intOf i).toNat)
 case atStart => exact ⟨0, Nat.zero_le _, rfl, by simpa [Qi] using aR, bN⟩
 case round =>
  obtain ⟨i, hi, rfl, h1, h2⟩ := hrel
  clear aR bN
  have dE := hR.below (h2.mono fJ)
  by_cases aC : i < N
  ·have fK : i / 8 < n := by have := HN.out.1; omega
   obtain ⟨ad, x, hA, hb, hx, aN⟩ := dE.atf fK
   have e1 := Jfz a i x hx
   obtain ⟨y, hy⟩ : ∃ y, Zn a i = y := ⟨_, rfl⟩
   rw [hy] at e1
   have bO := h1.cell (k := N - 1 - i) (x := 0) (by rw [List.getElem?_append_left (by simp; omega), List.getElem?_replicate]; simp; omega)
   have gG := h1.frozen (N - 1 - i)
   have dF := h1.set_ (N - 1 - i) y
   rw [<- hy, Jgs a N i aC, hy] at dF
   have e8 : Jmy W a g N (i + 1) (wr.setCell ⟨g, N - 1 - i, none⟩ (u8v y)) := ⟨dF, h2.setCell fI _⟩
   have HFIN := lh e8
   unfold Jk at aN
   unfold u8v at bO
   have k1 : ((N : Int) - 1 - (i : Int)).toNat = N - 1 - i := by omega
   have k2 : (0 : Int) <= (N : Int) - 1 - (i : Int) := by omega
   have k3 : (N : Int) - 1 - (i : Int) < (N : Int) := by omega
   have k4 : ((i : Int) / 8) < (n : Int) := by omega
   clear hy hx dF e8 h1 h2 dE hR
   subst hA
   go_wp2
   exact ⟨⟨i + 1, by omega, by go_num, HFIN.out⟩, by simp [intOf]; omega⟩
  obtain rfl : i = N := by omega
  rw [Nat.sub_self, List.replicate_zero, List.nil_append] at h1
  have t7 := h1.reads
  rw [Zd] at t7
  have dG := Ja7 (some ⟨g, 0, none⟩) i i (g + 1) (Qi a i) wr t7 h1.lt (by omega)
  rw [HN.out.2.2] at dG
  have HFB := lh dG
  have b0 := b0.below h2 b0.lt
  have dH := Ja eL h2
  clear dG t7 h1 h2 dE hR eL
  go_wp2_with fail
  refine HFB.out.mono ?_
  rintro e w3 ⟨rfl, eM⟩
  have fL := Ja dH eM
  (try clear aS aT dI dJ bP bQ); obtain ⟨b0, aS, aT, dI, dJ, bP, bQ⟩ := b0.zf2 eM
  unfold Jh
  go_wp2
  refine bodyPost_ret (v := .agg #[.int .u64 (lo a : Int), .string (mo a)]) (by simp [results, Tryz.results159, go_sem, bP, bQ]) rfl ?_
  exact ⟨rfl, Za fL (by omega) _ _⟩
def Tab (w : World) : Prop := TabAt 2 Lib.deBruijn64tab w
theorem Tab.lt {w : World} (h : Tab w) : 2 < w.heap.size := Zv (h 0 (by decide))
theorem Tab.below {w w' : World} {B : Nat} (h : Tab w) (hb : Below B w w') (hB : 2 < B) : Tab w' := fun i hi => by
 rw [hb.cell (p := ⟨2, i, none⟩) hB]
 exact h i hi
theorem Tab.next {w w' : World} (h : Tab w) (hb : Below w.heap.size w w') : Tab w' := h.below hb h.lt
theorem Tab.only {w w' : World} {g : Nat} (h : Tab w) (hb : Only g w w') (hg : 2 ≠ g) : Tab w' := fun i hi => by
 rw [World.cell?_of_block (hb.block _ h.lt hg)]
 exact h i hi
theorem Win.below {w w' : World} {g B : Nat} {v : Value} {l : List Nat} (h : Win w g v l) (hb : Below B w w') (hg : g < B) : Win w' g v l := by
 obtain ⟨c, pre, post, h1, h2, h3, h4⟩ := h
 exact ⟨c, pre, post, h1, h2, h3, h4.below hb hg⟩
theorem Win.lt {w : World} {g : Nat} {v : Value} {l : List Nat} (h : Win w g v l) : g < w.heap.size := by
 obtain ⟨c, pre, post, h1, h2, h3, h4⟩ := h
 exact h4.lt
theorem Win.only {w w' : World} {g k : Nat} {v : Value} {l : List Nat} (h : Win w g v l) (ho : Only k w w') (hk : g ≠ k) : Win w' g v l := by
 obtain ⟨c, pre, post, h1, h2, h3, h4⟩ := h
 exact ⟨c, pre, post, h1, h2, h3, ho.row h4 hk⟩
theorem Win.form {w : World} {g : Nat} {v : Value} {l : List Nat} (h : Win w g v l) : ∃ p c, v = .slice (some ⟨g, p, none⟩) l.length c /\ l.length <= 1099511627776 /\ Reads w w.heap.size 1 (some ⟨g, p, none⟩) l.length (l.map Jk) := by
 obtain ⟨c, pre, post, h1, h2, h3, h4⟩ := h
 exact ⟨pre.length, c, h1, by omega, (Jan h4).more h4.lt⟩
def Jnz (W : World) (gq N : Nat) (wr : World) : Prop := Blk wr gq 61 #[.int .u64 (lo N : Int), .string (mo N)] /\ Below W.heap.size W wr
theorem Jm7 (x T : Nat) (z : Int) (k : Nat) (hz : 0 < z) (hT : z <= T) (hk : (if (65536 : Int) < z then (65536 : Int) else z) = (k : Int)) : x * 2 ^ (T - z.toNat) * 2 ^ k = x * 2 ^ (T - (z - 65536).toNat) := by
 rw [Nat.mul_assoc, <- Nat.pow_add]
 congr 2
 split at hk <;> omega
def Jen (W : World) (x y : Nat) (v5 v6 : Value) (wr : World) : Prop :=
 ∃ g h, Win wr g v5 (Jf x) /\ Win wr h v6 (Jf y) /\ g ≠ h /\ W.heap.size <= g /\ W.heap.size <= h /\ Below W.heap.size W wr
theorem Only.chain {W w w' : World} {g : Nat} (h : Below W.heap.size W w) (ho : Only g w w') (hg : W.heap.size <= g) : Below W.heap.size W w' := h.trans (ho.below hg h.size)
theorem Jf9 (a b : Nat) (w : World) (bR : a ≠ 0) (bF : b ≠ 0) (ha : Je a <= 549755813888) (hb : Je b <= 549755813888) (hT : Tab w) :
  Calls Tryz.prog 123 #[Jh a, Jh b] w (Ret (Jh (Nat.gcd a b)) w) := by
 have hG := Jk1 a b bR bF
 have eN : Nat.gcd a b <= a := Nat.gcd_le_left _ (by omega)
 have fM := Jz eN
 have dK := lh (fun w => Jct a w (by omega))
 have dL := lh (fun w => Jct b w (by omega))
 have gH := Jjw a bR
 have gI := Jjw b bF
 obtain ⟨dM, dN⟩ := Ke a bR
 obtain ⟨dO, dP⟩ := Ke b bF
 have fN := Jz (Jdw a)
 have fO := Jz (Jdw b)
 have HG := lh hG
 clear hG dM dO eN
 unfold Jh
 unfold Jh at dK dL
 obtain ⟨b0, b1, b2, hB, hZ⟩ := bx3 w 61 #[.int .u64 (lo a : Int), .string (mo a)] 61 #[.int .u64 (lo b : Int), .string (mo b)] 61 #[.int .u64 0, .string ⟨#[]⟩]
 have bG := hT.next hB
 go_enter Tryz.func123, Tryz.ntmps123
 go_upto_region 1 with fail
 generalize (((w.alloc (.cells #[.int .u64 (lo a : Int), .string (mo a)] 61)).alloc (.cells #[.int .u64 (lo b : Int), .string (mo b)] 61)).alloc (.cells #[.int .u64 0, .string ⟨#[]⟩] 61)) = W at *
 obtain ⟨aS, aT⟩ := b0.c2; obtain ⟨dQ, dR⟩ := b1.c2
 go_cut [5, 6] (fun v5 v6 wc => Jen W a b v5 v6 wc)
 case first =>
  have c0 := b0.drew
  have c1 := b1.drew
  go_region_held3 (fun w' => w'.cell? ⟨w.heap.size, 0, none⟩ = some (.int .u64 (lo a : Int)) /\ w'.cell? ⟨w.heap.size, 1, none⟩ = some (.string (mo a)) /\ w'.cell? ⟨w.heap.size + 1, 0, none⟩ = some (.int .u64 (lo b : Int)) /\ w'.cell? ⟨w.heap.size + 1, 1, none⟩ = some (.string (mo b))) (go_keep) (first | (go_at_call_of 154 (Value.agg #[.int .u64 (lo a : Int), .string (mo a)]); refine (dK.out _).mono ?_; rintro e wa ⟨ga, va, rfl, eO, fP, cI⟩; (try clear aU aV); obtain ⟨c0, aU, aV⟩ := c0.zc2 cI; (try clear aW aX); obtain ⟨c1, aW, aX⟩ := c1.zc2 cI) | (go_at_call_of 154 (Value.agg #[.int .u64 (lo b : Int), .string (mo b)]); refine (dL.out _).mono ?_; rintro e wb ⟨gb, vb, rfl, fQ, gJ, cJ⟩; (try clear aU aV); obtain ⟨c0, aU, aV⟩ := c0.zc2 cJ; (try clear aW aX); obtain ⟨c1, aW, aX⟩ := c1.zc2 cJ))
  all_goals
   go_wp2_with fail
   go_meet
   have h1 := eO.lt
   have h2 := (Ja9 cI).size
   exact ⟨ga, gb, eO.below cJ h1, fQ, by omega, fP, by omega, Ja (Ja9 cI) cJ⟩
 case rest =>
  clear aS aT dQ dR b0 b1 dK dL
  obtain ⟨g, h, o0, p9, o6, aA, aB, t8⟩ := hcut
  have aY := bG.next t8
  obtain ⟨p5, c5, aG, aZ, aH⟩ := o0.form
  obtain ⟨p6, c6, aI, bA, aJ⟩ := p9.form
  have z5 := Vt _ _ c5 _ _ wc aH aZ (Jp a) (by rw [Jm]; exact bR) aY
  have z6 := Vt _ _ c6 _ _ wc aJ bA (Jp b) (by rw [Jm]; exact bF) aY
  rw [Jm] at z5 z6
  rw [<- aG] at z5
  rw [<- aI] at z6
  have d5 := Vd g _ _ wc o0 (Jp a) (by rw [Jm]; exact bR) aY
  rw [Jm] at d5
  have D5 := lh d5
  have Z5 := lh z5
  have Z6 := lh z6
  obtain ⟨T, dS⟩ : ∃ T, min (tz a) (tz b) = T := ⟨_, rfl⟩
  have fR : (if (tz b : Int) < (tz a : Int) then (tz b : Int) else (tz a : Int)) = (T : Int) := by
   rw [<- dS]
   split <;> omega
  have eP : min (tz a : Int) (tz b : Int) = (T : Int) := by omega
  have gK : T <= 549755813888 := by omega
  rw [dS] at HG
  generalize tz a = ta at *
  generalize tz b = tb at *
  clear d5 z5 z6 aG aI aH aJ aZ bA dS
  go_wp2_with fail
  refine Z5.out.mono ?_
  rintro e w1 ⟨rfl, rfl⟩
  go_wp2_with fail
  refine Z6.out.mono ?_
  rintro e w1 ⟨rfl, rfl⟩
  go_wp2_with fail
  refine D5.out.mono ?_
  rintro e w1 ⟨v5, rfl, bS, cK⟩
  have fS : 2 ≠ h := by have := bG.lt; omega
  have bT : 2 ≠ g := by have := bG.lt; omega
  have d6 := Vd h _ _ w1 (p9.only cK (fun e => o6 e.symm)) (Jp b) (by rw [Jm]; exact bF) (aY.only cK bT)
  rw [Jm] at d6
  have D6 := lh d6
  have j8 := Only.chain t8 cK aA
  clear d6 D5 Z5 Z6 o0 p9
  go_wp2_with fail
  refine D6.out.mono ?_
  rintro e w2 ⟨v6, rfl, bU, dT⟩
  have e9 := Only.chain j8 dT aB
  have aK := bS.only dT o6
  have p8 : Jen W (odd a) (odd b) v5 v6 w2 := ⟨g, h, aK, bU, o6, aA, aB, e9⟩
  clear D6 bS aK bU t8 j8 e9 cK dT fS bT aY o6 aA aB
  go_wp2_with fail
  generalize odd a = oa at *
  generalize odd b = ob at *
  obtain ⟨G, dU⟩ : ∃ G, Nat.gcd oa ob = G := ⟨_, rfl⟩
  rw [dU] at HG
  have HGG := lh dU
  clear dU
  go_loopg [5, 6, 8] (oa + ob) (fun k v5 v6 _ wr => ∃ x y : Nat, x + y = k /\ x % 2 = 1 /\ y % 2 = 1 /\ Hid (Nat.gcd x y = G) /\ Je x <= 549755813888 /\ Je y <= 549755813888 /\ Jen W x y v5 v6 wr)
  case atStart => exact ⟨oa, ob, rfl, dN, dP, HGG, by omega, by omega, p8⟩
  case round =>
   obtain ⟨x, y, hk, hx, hy, hg, fT, eQ, g, h, o0, p9, o6, aA, aB, t8⟩ := hrel
   have HK := lh hk
   clear hk p8 HGG
   have aY := bG.next t8
   obtain ⟨p5, c5, aG, aZ, aH⟩ := o0.form
   obtain ⟨p6, c6, aI, bA, aJ⟩ := p9.form
   have cm := Jep _ _ _ c5 _ c6 _ x y wr aH aJ aZ bA
   rw [<- aG, <- aI] at cm
   have CM := lh cm
   clear cm aG aI aH aJ aZ bA
   by_cases fU : x = y
   ·subst fU
    rw [Jb4] at CM
    rw [Nat.gcd_self] at hg
    obtain rfl : x = G := hg.out
    have fV := Qu x (by omega)
    clear hg p9 o6 aB hy eQ HK
    go_wp2_with fail
    refine CM.out.mono ?_
    rintro e w1 ⟨rfl, o8⟩
    have j0 := o0.below o8 o0.lt
    obtain ⟨p, c, hv, hn, hr⟩ := j0.form
    have nm := Jf8 _ _ c _ x w1 hr zd fV
    rw [<- hv] at nm
    have NM := lh nm
    clear nm hv hr hn o0 j0 CM
    go_wp2_with fail
    refine NM.out.mono ?_
    rintro e w2 ⟨rfl, eR⟩
    have e9 := Ja (Ja t8 o8) eR
    have b2 := b2.below e9 b2.lt
    unfold Jh
    go_wp2_with fail
    have bq := Blk.new w2 61 #[.int .u64 (lo x : Int), .string (mo x)]
    have b2 := b2.alloc (.cells #[.int .u64 (lo x : Int), .string (mo x)] 61)
    have j9 := Ja e9 (Jb w2 (.cells #[.int .u64 (lo x : Int), .string (mo x)] 61))
    have eS : W.heap.size <= w2.heap.size := e9.size
    obtain ⟨gq, dV⟩ : ∃ gq, w2.heap.size = gq := ⟨_, rfl⟩
    rw [dV] at bq eS
    rw [dV]
    clear eR e9 NM o8 t8 dV aY aA
    generalize w2.alloc (.cells #[.int .u64 (lo x : Int), .string (mo x)] 61) = w3 at *
    have p8 : Jnz W gq (x * 2 ^ (T - (T : Int).toNat)) w3 := by
     rw [Int.toNat_natCast, Nat.sub_self, Nat.pow_zero, Nat.mul_one]
     exact ⟨bq, j9⟩
    clear bq j9
    have b2lt : w.heap.size + 1 + 1 < W.heap.size := by have := hZ.out; omega
    have dH : Blk W (w.heap.size + 1 + 1) 61 #[.int .u64 0, .string ⟨#[]⟩] := by assumption
    go_loopw [7] (fun t wr => ∃ z : Int, z <= T /\ -65536 <= z /\ t = .int .i64 z /\ Jnz W gq (x * 2 ^ (T - z.toNat)) wr) (fun t _ => (intOf t).toNat)
    case atStart => exact ⟨T, by omega, by omega, rfl, p8⟩
    case round =>
     obtain ⟨z, fW, gL, rfl, bH, dW⟩ := hrel
     clear p8 b2
     by_cases hz : 0 < z
     ·obtain ⟨k, hk⟩ : ∃ k : Nat, (if (65536 : Int) < z then (65536 : Int) else z) = (k : Int) := by
       split
       ·exact ⟨65536, rfl⟩
       exact ⟨z.toNat, by omega⟩
      have cV : k <= 65536 := by split at hk <;> omega
      have p8 := Jm7 x T z k hz fW hk
      have eK : Je (x * 2 ^ (T - z.toNat)) <= 549755813888 := by
       refine nt (Jz ?_) (nt fM ha)
       rw [HG.out]
       exact Nat.mul_le_mul_left _ (Nat.pow_le_pow_right (by omega) (by omega))
      have sh := Jgi (x * 2 ^ (T - z.toNat)) k wr (by omega) cV
      rw [p8] at sh
      unfold Jh at sh
      have SH := lh sh
      clear sh p8 eK
      generalize x * 2 ^ (T - z.toNat) = N at *
      generalize cH : x * 2 ^ (T - (z - 65536).toNat) = N2 at *
      have HN2 := lh cH
      clear cH
      obtain ⟨u4, x7⟩ := bH.c2
      have gM : min z 65536 = (k : Int) := by rw [<- hk]; split <;> omega
      go_wp2_with fail
      refine SH.out.mono ?_
      rintro e w4 ⟨rfl, eT⟩
      have dX := Ja dW eT
      (try clear u4 x7 bV bW bX bY); obtain ⟨bH, u4, x7, bV, bW, bX, bY⟩ := bH.zf2 eT
      go_wp2_with fail
      refine ⟨⟨z - 65536, by omega, by omega, rfl, ?_⟩, by simp [intOf]; omega⟩
      rw [HN2.out]
      have h9 := (bH.set_ 0 (.int .u64 (lo N2 : Int))).set_ 1 (.string (mo N2))
      exact ⟨by simpa using h9, Za dX eS _ _⟩
     have e0 : z.toNat = 0 := by omega
     rw [e0, Nat.sub_zero, <- HG.out] at bH
     have b2 := dH.below dW b2lt
     obtain ⟨u4, x7⟩ := bH.c2
     obtain ⟨fX, fY, fZ, gA, dY, dZ⟩ := b2.f2
     have gB := Ja hB dW
     have n1 : ¬ gq = w.heap.size + 1 + 1 := by omega
     have n2 : ¬ w.heap.size + 1 + 1 = gq := by omega
     generalize Nat.gcd a b = GG at *
     clear e0
     go_wp2
     refine bodyPost_ret (v := .agg #[.int .u64 (lo GG : Int), .string (mo GG)]) (by simp [results, Tryz.results123, go_sem, dY, dZ]) rfl ?_
     exact ⟨rfl, Za gB (by omega) _ _⟩
   have cV : Hid (x + y = gk) := HK
   rcases Nat.lt_or_ge x y with aC | hge
   ·rw [Zu aC] at CM
    have gC : ((-1 : Int) < 0) := by omega
    go_wp2_with fail
    refine CM.out.mono ?_
    rintro e w1 ⟨rfl, o8⟩
    have j0 := o0.below o8 o0.lt
    have o9 := p9.below o8 p9.lt
    have j8 := Ja t8 o8
    obtain ⟨p5, c5, aG, aZ, aH⟩ := j0.form
    have sb := Vu h _ y x _ c5 _ _ w1 o9 aH zd (fun ad he => by cases he; exact o6) (by omega)
    rw [<- aG] at sb
    have SB := lh sb
    clear sb aG aZ aH CM o0 p9 t8 o8
    go_wp2_with fail
    refine SB.out.mono ?_
    rintro e w2 ⟨v', rfl, bZ, ho⟩
    have e9 := Only.chain j8 ho aB
    have cA := j0.only ho o6
    have cB : y - x ≠ 0 := by omega
    have dn := Vd h _ _ w2 bZ (Jp _) (by rw [Jm]; exact cB) (bG.next e9)
    rw [Jm] at dn
    have DN := lh dn
    clear dn SB o9 j0 j8 ho
    go_wp2_with fail
    refine DN.out.mono ?_
    rintro e w3 ⟨v'', rfl, hwd, bB⟩
    have j9 := Only.chain e9 bB aB
    have cC := cA.only bB o6
    obtain ⟨r1, r2, r3⟩ := Jfp aC hy hx
    have e8 : ∃ x' y' : Nat, x' + y' < gk /\ x' % 2 = 1 /\ y' % 2 = 1 /\ Hid (Nat.gcd x' y' = G) /\ Je x' <= 549755813888 /\ Je y' <= 549755813888 /\ Jen W x' y' v'' _ w3 :=
     ⟨odd (y - x), x, by have := HK.out; omega, r2, hx, lh (by rw [r1, Nat.gcd_comm]; exact hg.out), by have := Jz (show odd (y - x) <= y from nt (Jdw _) (by omega)); omega, fT, h, g, hwd, cC, fun e => o6 e.symm, aB, aA, j9⟩
    obtain ⟨x', y', q1, q2⟩ := e8
    have Q2 := lh q2
    clear q2 DN r1 r2 r3 hwd cC cA bZ e9 j9 bB cB
    go_wp2_with fail
    go_roundg (x' + y')
    case rel => exact ⟨x', y', rfl, Q2.out⟩
    case measure => exact q1
   rw [Uj (show y < x by omega)] at CM
   go_wp2_with fail
   refine CM.out.mono ?_
   rintro e w1 ⟨rfl, o8⟩
   have j0 := o0.below o8 o0.lt
   have o9 := p9.below o8 p9.lt
   have j8 := Ja t8 o8
   obtain ⟨p6, c6, aI, bA, aJ⟩ := o9.form
   have sb := Vu g _ x y _ c6 _ _ w1 j0 aJ zd (fun ad he => by cases he; exact fun e => o6 e.symm) (by omega)
   rw [<- aI] at sb
   have SB := lh sb
   clear sb aI bA aJ CM o0 p9 t8 o8
   go_wp2_with fail
   refine SB.out.mono ?_
   rintro e w2 ⟨v', rfl, bZ, ho⟩
   have e9 := Only.chain j8 ho aA
   have cD := o9.only ho (fun e => o6 e.symm)
   have cB : x - y ≠ 0 := by omega
   have dn := Vd g _ _ w2 bZ (Jp _) (by rw [Jm]; exact cB) (bG.next e9)
   rw [Jm] at dn
   have DN := lh dn
   clear dn SB j0 o9 j8 ho
   go_wp2_with fail
   refine DN.out.mono ?_
   rintro e w3 ⟨v'', rfl, hwd, bB⟩
   have j9 := Only.chain e9 bB aA
   have cE := cD.only bB (fun e => o6 e.symm)
   obtain ⟨r1, r2, r3⟩ := Jfp (show y < x by omega) hx hy
   have e8 : ∃ x' y' : Nat, x' + y' < gk /\ x' % 2 = 1 /\ y' % 2 = 1 /\ Hid (Nat.gcd x' y' = G) /\ Je x' <= 549755813888 /\ Je y' <= 549755813888 /\ Jen W x' y' v'' _ w3 :=
    ⟨odd (x - y), y, by have := HK.out; omega, r2, hy, lh (by rw [r1]; exact hg.out), by have := Jz (show odd (x - y) <= x from nt (Jdw _) (by omega)); omega, eQ, g, h, hwd, cE, o6, aA, aB, j9⟩
   obtain ⟨x', y', q1, q2⟩ := e8
   have Q2 := lh q2
   clear q2 DN r1 r2 r3 hwd cE cD bZ e9 j9 bB cB
   go_wp2_with fail
   go_roundg (x' + y')
   case rel => exact ⟨x', y', rfl, Q2.out⟩
   case measure => exact q1
