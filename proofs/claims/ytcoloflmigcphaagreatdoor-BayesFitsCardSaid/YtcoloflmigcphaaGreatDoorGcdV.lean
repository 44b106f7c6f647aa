import Derived.Test.YtcoloflmigcphaaGreatDoorGcdW
import Derived.Test.YtcoloflmigcphaaGreatDoorShifts
import Derived.Deep.LoopGhost
namespace Go.Proofs.YtcoloflmigcphaaGreatDoor
set_option maxRecDepth 100000
set_option maxHeartbeats 1000000
open Go.RowKit
set_option linter.all false
structure Only (g : Nat) (w w' : World) : Prop where
 os : w'.os = w.os
 tape : w'.tape = w.tape
 output : w'.output = w.output
 size : w.heap.size <= w'.heap.size
 block : ∀ k, k < w.heap.size -> k ≠ g -> w'.heap[k]? = w.heap[k]?
section
variable {g : Nat} {a w w' : World}
theorem Only.refl (g : Nat) (w : World) : Only g w w := ⟨rfl, rfl, rfl, Nat.le_refl _, fun _ _ _ => rfl⟩
theorem Only.drewN (h : Only g a w) (n : Nat) : Only g a (w.drewN n) := ⟨h.os, h.tape, h.output, h.size, h.block⟩
theorem Only.setCell (h : Only g a w) (p : Addr) (hp : p.block = g) (v : Value) : Only g a (w.setCell p v) :=
 ⟨h.os, h.tape, h.output, by simp [World.setCell]; exact h.size, fun k hk hg => by rw [Below.heap_setCell _ _ _ _ (fun e => hg (by omega))]; exact h.block k hk hg⟩
theorem Only.below {B : Nat} (h : Only g w w') (hB : B <= g) (hs : B <= w.heap.size) : Below B w w' := ⟨h.os, h.tape, h.output, h.size, fun k hk => h.block k (by omega) (by omega)⟩
theorem Only.row {α : Type} {k : Nat} {t : TypeId} {f : α -> Value} {l : List α} (h : Only g w w') (hr : Row w k t f l) (hk : k ≠ g) : Row w' k t f l := by
 have := hr.lt
 unfold Row Blk at *
 rw [h.block k this hk]
 exact hr
end
section
variable {w : World} {g : Nat} {pre cur post : List Nat}
theorem Yc (g p j : Nat) : (⟨g, p, none⟩ : Addr).add j = ⟨g, p + j, none⟩ := by
 unfold Addr.add
 split
 ·rename_i h; subst h; rfl
 rfl
theorem Jl4 (pre cur post : List Nat) {j x : Nat} (hx : cur[j]? = some x) : (pre ++ cur ++ post)[pre.length + j]? = some x := by
 have hj : j < cur.length := (List.getElem?_eq_some_iff.1 hx).1
 rw [List.append_assoc, List.getElem?_append_right (by omega), show pre.length + j - pre.length = j from by omega, List.getElem?_append_left hj, hx]
theorem Un (hr : Row w g 35 Jh (pre ++ cur ++ post)) {j x : Nat} (hx : cur[j]? = some x) : w.cell? ((⟨g, pre.length, none⟩ : Addr).add j) = some (.int .u64 (x : Int)) := by
 rw [Yc]
 exact hr.cell (Jl4 _ _ _ hx)
theorem Vx (hr : Row w g 35 Jh (pre ++ cur ++ post)) (j : Nat) : w.frozen? ((⟨g, pre.length, none⟩ : Addr).add j) = false := by
 rw [Yc]
 exact hr.frozen _
theorem Jet (hr : Row w g 35 Jh (pre ++ cur ++ post)) {j : Nat} (x : Nat) (hj : j < cur.length) : Row (w.setCell ((⟨g, pre.length, none⟩ : Addr).add j) (.int .u64 (x : Int))) g 35 Jh (pre ++ cur.set j x ++ post) := by
 rw [Yc]
 have h := hr.set_ (pre.length + j) x
 rw [List.append_assoc, List.set_append_right _ _ (by omega), show pre.length + j - pre.length = j from by omega, List.set_append_left _ _ hj, <- List.append_assoc] at h
 exact h
theorem Ve (hr : Row w g 35 Jh (pre ++ cur ++ post)) : Reads w (g + 1) 1 (some ⟨g, pre.length, none⟩) cur.length (cur.map Jh) := by
 refine ⟨by simp, fun _ => ⟨_, rfl, by simp, fun j u hu => ?_⟩⟩
 rw [List.getElem?_map] at hu
 obtain ⟨x, hx, rfl⟩ := Option.map_eq_some_iff.1 hu
 exact Un hr hx
end
def Jft (w : World) (g : Nat) (pre post l : List Nat) (M i : Nat) (wr : World) : Prop :=
 ∃ cur : List Nat, cur.length = l.length /\ Row wr g 35 Jh (pre ++ cur ++ post) /\ Dig 18446744073709551616 cur /\ dv 18446744073709551616 (cur.take i) = M % 18446744073709551616 ^ i /\ cur.drop i = l.drop i /\ Only g w wr
theorem Jel {cur l : List Nat} {i r x z M : Nat} (o9 : cur.length = l.length) (hx : l[i]? = some x) (hM : dv 18446744073709551616 l / 2 ^ r = M) (hd : Dig 18446744073709551616 l)
  (hv : dv 18446744073709551616 (cur.take i) = M % 18446744073709551616 ^ i) (aE : cur.drop i = l.drop i) (hz : dv 18446744073709551616 (l.drop i) / 2 ^ r % 18446744073709551616 = z) :
  dv 18446744073709551616 ((cur.set i z).take (i + 1)) = M % 18446744073709551616 ^ (i + 1) /\ (cur.set i z).drop (i + 1) = l.drop (i + 1) := by
 have hi : i < l.length := (List.getElem?_eq_some_iff.1 hx).1
 have hg : (cur.set i z)[i]? = some z := by rw [List.getElem?_set_self (by omega)]
 constructor
 ·rw [Jv hg, List.take_set_of_le zd, hv, Nat.mod_pow_succ]
  have : M / 18446744073709551616 ^ i % 18446744073709551616 = z := by
   rw [<- hz, <- Zx hd (by omega), <- hM, Nat.div_div_eq_div_mul, Nat.div_div_eq_div_mul, Nat.mul_comm]
  rw [this, Nat.mul_comm z]
 rw [List.drop_set_of_lt (by omega), <- List.drop_drop, <- List.drop_drop, aE]
theorem Jkt {l : List Nat} (hd : Dig 18446744073709551616 l) (h0 : dv 18446744073709551616 l ≠ 0) : tz (dv 18446744073709551616 l) / 64 < l.length := by
 have h1 := Xm hd
 obtain ⟨h2, h3⟩ := Yh _ h0
 have h4 : 2 ^ tz (dv 18446744073709551616 l) <= dv 18446744073709551616 l := by
  conv => rhs; rw [h2]
  exact Nat.le_mul_of_pos_right _ (by omega)
 rw [show (18446744073709551616 : Nat) = 2 ^ 64 from rfl, <- Nat.pow_mul] at h1
 have h5 := (Nat.pow_lt_pow_iff_right (show 1 < 2 by omega)).1 (Nat.lt_of_le_of_lt h4 h1)
 generalize tz _ = n at h5 ⊢
 omega
theorem Jkv (g p n c h : Nat) (hh : h < c) (hn : h <= n) (w : World) :
  (Instr.slice 157 (.slice (some ⟨g, p, none⟩) n c) (some (.int .i64 (h : Int))) none none).run Tryz.prog w = .ok (.slice (some ⟨g, p + h, none⟩) (n - h) (c - h)) w := by
 have e := Ji0 (P := Tryz.prog) Tryz.underlying157 Tryz.infoU64 (some ⟨g, p, none⟩) n c .i64 (h : Int) (by omega) (by omega) w
 rw [e]
 have : Jg4 (some (⟨g, p, none⟩ : Addr)) c (h : Int).toNat 1 = some ⟨g, p + h, none⟩ := by
  unfold Jg4
  rw [if_neg (by omega), Option.map_some, Yc]
  simp
 rw [this]
 rfl
theorem Ua (g : Nat) (v : Value) (l : List Nat) (w : World) (h : Win w g v l) (hd : Dig 18446744073709551616 l) (h0 : dv 18446744073709551616 l ≠ 0) (hT : TabAt 2 Lib.deBruijn64tab w) :
  Calls Tryz.prog 147 #[v] w fun e w' => ∃ v', e = .returned v' /\ Win w' g v' (words (odd (dv 18446744073709551616 l))) /\ Only g w w' := by
 obtain ⟨c, pre, post, rfl, iN, hc, hr⟩ := h
 have hz := Uo (some ⟨g, pre.length, none⟩) l.length c (g + 1) l w (Ve hr) (by omega) hd h0 hT
 have aI := Jkt hd h0
 obtain ⟨N, hN⟩ : ∃ N, odd (dv 18446744073709551616 l) = N := ⟨_, rfl⟩
 rw [hN]
 unfold odd at hN
 obtain ⟨n, hn⟩ : ∃ n, tz (dv 18446744073709551616 l) = n := ⟨_, rfl⟩
 rw [hn] at hz aI hN
 obtain ⟨k, hk⟩ : ∃ k, n / 64 = k := ⟨_, rfl⟩
 obtain ⟨r, iO⟩ : ∃ r, n % 64 = r := ⟨_, rfl⟩
 have c1 : (n : Int) / 64 = (k : Int) := by omega
 have c2 : (n : Int) % 64 = (r : Int) := by omega
 have aR : r < 64 := by omega
 rw [hk] at aI
 have hM : dv 18446744073709551616 (l.drop k) / 2 ^ r = N := by
  rw [<- hN, <- Zx hd (by omega), Nat.div_div_eq_div_mul]
  congr 1
  rw [show (18446744073709551616 : Nat) = 2 ^ 64 from rfl, <- Nat.pow_mul, <- Nat.pow_add]
  congr 1
  omega
 have hcut := Jkv g pre.length l.length c k (by omega) (by omega)
 obtain ⟨lX, bO⟩ : ∃ lX, l.drop k = lX := ⟨_, rfl⟩
 obtain ⟨p, hp⟩ : ∃ p, l.length - k = p := ⟨_, rfl⟩
 have eK : lX.length = p := by rw [<- bO, List.length_drop, hp]
 have aJ : Dig 18446744073709551616 lX := by rw [<- bO]; exact hd.drop k
 obtain ⟨preX, cZ⟩ : ∃ preX, pre ++ l.take k = preX := ⟨_, rfl⟩
 have eL : Row w g 35 Jh (preX ++ lX ++ post) := by
  rw [<- cZ, <- bO, List.append_assoc pre, List.take_append_drop]
  exact hr
 have eM : pre.length + k = preX.length := by rw [<- cZ, List.length_append, List.length_take, Nat.min_eq_left (by omega)]
 rw [bO] at hM
 obtain ⟨P0, aS⟩ : ∃ P0, preX.length = P0 := ⟨_, rfl⟩
 rw [hp, eM, aS] at hcut
 obtain ⟨cX, eN⟩ : ∃ cX, c - k = cX := ⟨_, rfl⟩
 rw [eN] at hcut
 obtain ⟨len, o9⟩ : ∃ len, l.length = len := ⟨_, rfl⟩
 rw [o9] at hz hcut aI iN hp ⊢
 have fF : p <= cX /\ cX <= 1099511627776 /\ len <= 1099511627776 := by omega
 have HZ := lh hz
 have HM := lh (And.intro hM (And.intro eK aS))
 clear hz hM eK aS hN hn hk bO hp cZ eM eN o9 hr
 go_enter Tryz.func147, Tryz.ntmps147
 go_wp2_with fail
 refine HZ.out.mono ?_
 rintro e w1 ⟨rfl, rfl⟩
 go_wp2_with fail
 clear c1 hcut
 go_loopw [5, 16] (fun _ i wr => ∃ k : Nat, k <= p /\ i = .int .i64 k /\ Jft w g preX post lX N k wr) (fun _ i _ => p - (intOf i).toNat)
 case atStart => exact ⟨0, Nat.zero_le _, rfl, lX, rfl, eL, aJ, by simp [dv, Nat.mod_one], rfl, Only.refl _ _⟩
 case round =>
  obtain ⟨i, hi, rfl, cur, aF, aK, bI, hv, aE, iF⟩ := hrel
  clear eL
  by_cases iH : i < p
  ·obtain ⟨x, hx⟩ : ∃ x, lX[i]? = some x := ⟨_, List.getElem?_eq_getElem (by rw [HM.out.2.1]; exact iH)⟩
   have aT : cur[i]? = some x := by
    have h1 : (cur.drop i)[0]? = (lX.drop i)[0]? := by rw [aE]
    rw [List.getElem?_drop, List.getElem?_drop, Nat.add_zero, hx] at h1
    exact h1
   have dA := aJ.get hx
   have dB : i < cur.length := by rw [aF, HM.out.2.1]; exact iH
   have fG := Un aK aT
   have fH := Vx aK i
   rw [Yc, HM.out.2.2] at fG fH
   obtain ⟨u, hu⟩ : ∃ u, x / 2 ^ r = u := ⟨_, rfl⟩
   have fI : (x : Int) / 2 ^ r = (u : Int) := by
    rw [<- hu, Int.natCast_ediv, Int.natCast_pow]
    rfl
   have k4 : (i : Int) < (p : Int) := by omega
   have k7 : (r : Int) <= 63 := by omega
   have j8 := Jet aK u dB
   have dC : (cur.set i u)[i]? = some u := by rw [List.getElem?_set_self dB]
   have fJ := Un j8 dC
   have fK := Vx j8 i
   rw [Yc, HM.out.2.2] at j8 fJ fK
   have k6 : IntKind.u64.wrap (64 - (r : Int)) = ((64 - r : Nat) : Int) := by rw [Jc _ (by omega) (by omega)]; omega
   by_cases dD : i + 1 < p
   ·obtain ⟨y, hy⟩ : ∃ y, lX[i + 1]? = some y := ⟨_, List.getElem?_eq_getElem (by rw [HM.out.2.1]; exact dD)⟩
    have cP : (cur.set i u)[i + 1]? = some y := by
     rw [List.getElem?_set_ne (by omega)]
     have h1 : (cur.drop i)[1]? = (lX.drop i)[1]? := by rw [aE]
     rw [List.getElem?_drop, List.getElem?_drop, hy] at h1
     exact h1
    have iI : dv 18446744073709551616 (lX.drop i) = x + 18446744073709551616 * (y + 18446744073709551616 * dv 18446744073709551616 (lX.drop (i + 1 + 1))) := by
     rw [Qa hx, Qa hy]
    obtain ⟨j9, bJ⟩ := Kb aR dA iI
    rw [hu] at j9 bJ
    obtain ⟨fL, bP⟩ := Jcq u y r bJ aR
    obtain ⟨z, hz⟩ : ∃ z, u + y * 2 ^ (64 - r) % 18446744073709551616 = z := ⟨_, rfl⟩
    rw [hz] at fL bP j9
    obtain ⟨bQ, bS⟩ := Jel aF hx HM.out.1 aJ hv aE j9
    have dE := Un (j8) cP
    rw [Yc, HM.out.2.2] at dE
    have aU := Jet (j := i) j8 z (by rw [List.length_set]; exact dB)
    rw [Yc, HM.out.2.2, List.set_set] at aU
    have j0 : Jft w g preX post lX N (i + 1) (((wr.setCell ⟨g, P0 + i, none⟩ (.int .u64 (u : Int))).drew).setCell ⟨g, P0 + i, none⟩ (.int .u64 (z : Int))) :=
     ⟨cur.set i z, by rw [List.length_set]; exact aF, aU, bI.set_ i bP, bQ, bS, ((iF.setCell _ rfl _).drewN 1).setCell _ rfl _⟩
    have HFIN := lh j0
    have k10 : (i : Int) + 1 < (p : Int) := by omega
    have k11 : ((i : Int) + 1).toNat = i + 1 := by omega
    have k9 : (64 : Int) - (r : Int) = ((64 - r : Nat) : Int) := by omega
    clear j9 bJ hz bQ bS j8 aU j0 dC hu hx hy aT cP hv aE iI aF aK bI iF
    go_wp2_with fail
    go_region
    go_wp2
    exact ⟨⟨i + 1, by omega, by go_num, HFIN.out⟩, by simp [intOf]; omega⟩
   have iI : dv 18446744073709551616 (lX.drop i) = x + 18446744073709551616 * (0 + 18446744073709551616 * 0) := by
    rw [Qa hx, Qx (by rw [HM.out.2.1]; omega)]
   obtain ⟨j9, bJ⟩ := Kb aR dA iI
   rw [hu, Nat.zero_mul, Nat.zero_mod, Nat.add_zero] at j9
   rw [hu] at bJ
   have dF : u < 18446744073709551616 := by
    have := Nat.pow_le_pow_right (show 0 < 2 by omega) (show 64 - r <= 64 by omega)
    omega
   obtain ⟨bQ, bS⟩ := Jel aF hx HM.out.1 aJ hv aE j9
   have j0 : Jft w g preX post lX N (i + 1) (wr.setCell ⟨g, P0 + i, none⟩ (.int .u64 (u : Int))) :=
    ⟨cur.set i u, by rw [List.length_set]; exact aF, j8, bI.set_ i dF, bQ, bS, iF.setCell _ rfl _⟩
   have HFIN := lh j0
   have k10 : ¬ (i : Int) + 1 < (p : Int) := by omega
   clear j9 bJ bQ bS j8 j0 dC hu hx aT hv aE iI aF aK bI iF
   go_wp2
   exact ⟨⟨i + 1, by omega, by go_num, HFIN.out⟩, by simp [intOf]; omega⟩
  obtain rfl : i = p := by omega
  have eO : cur.length = i := by rw [aF]; exact HM.out.2.1
  have bT : N < 18446744073709551616 ^ i := by
   have h1 := Xm aJ
   rw [HM.out.2.1] at h1
   rw [<- HM.out.1]
   exact Nat.lt_of_le_of_lt (Nat.div_le_self _ _) h1
  rw [Nat.mod_eq_of_lt bT, List.take_of_length_le (by omega)] at hv
  have hw := Jaf cur bI
  rw [hv] at hw
  have iJ := Ve aK
  rw [eO, HM.out.2.2] at iJ
  have aV := Jce (some ⟨g, P0, none⟩) i cX (g + 1) cur wr iJ (by omega) (by omega)
  have aC := Zc cur
  have bK := Kn cur
  rw [<- hw] at aV aC bK
  have j0 : Win wr g (.slice (some ⟨g, P0, none⟩) (words N).length cX) (words N) := by
   refine ⟨cX, preX, cur.drop (words N).length ++ post, by rw [HM.out.2.2], by omega, by omega, ?_⟩
   have e : preX ++ words N ++ (cur.drop (words N).length ++ post) = preX ++ cur ++ post := by
    conv => lhs; lhs; rhs; rw [aC]
    rw [List.append_assoc, <- List.append_assoc (List.take _ _), List.take_append_drop, List.append_assoc]
   rw [e]
   exact aK
  have HFIN := lh (And.intro j0 iF)
  have HTR := lh aV
  clear j0 iF aV aC bK iJ hw hv bT eO aF aK bI aE
  go_wp2_with fail
  refine HTR.out.mono ?_
  rintro e w2 ⟨rfl, rfl⟩
  go_wp2
  go_ret
  exact ⟨_, rfl, HFIN.out.1, HFIN.out.2⟩
theorem Only.exc {g : Nat} {w w' : World} (h : Only g w w') : Exc g w w' := ⟨h.os, h.tape, h.output, h.size, h.block⟩
def Jjb (w : World) (g p : Nat) (pre post lY : List Nat) (a k c' : Nat) (wr : World) : Prop :=
 ∃ cur : List Nat, cur.length = p /\ Row wr g 35 Jh (pre ++ cur ++ post) /\ Dig 18446744073709551616 cur /\ dv 18446744073709551616 cur + dv 18446744073709551616 (lY.take k) = a + c' * 18446744073709551616 ^ k /\ Only g w wr
theorem Up (g : Nat) (v : Value) (a b n' c' B : Nat) (A' : Option Addr) (w : World) (h : Win w g v (words a)) (h' : Reads w B 1 A' n' ((words b).map Jh)) (hB : B <= w.heap.size) (fM : ∀ ad, A' = some ad -> ad.block ≠ g) (gU : b <= a) :
  Calls Tryz.prog 149 #[v, .slice A' n' c'] w fun e w' => ∃ v', e = .returned v' /\ Win w' g v' (words (a - b)) /\ Only g w w' := by
 obtain ⟨c, pre, post, rfl, iN, hc, hr⟩ := h
 have o9 : (words b).length <= (words a).length := by
  rcases Nat.lt_or_ge (words a).length (words b).length with h | h
  ·have := Xp h
   omega
  exact h
 have aJ := Jl a
 have fN := Jl b
 have eP := Ji a
 have eQ := Ji b
 have dG := h'.lenf
 generalize words a = lX at *
 generalize words b = lY at *
 obtain ⟨p, hp⟩ : ∃ p, lX.length = p := ⟨_, rfl⟩
 obtain ⟨P0, aS⟩ : ∃ P0, pre.length = P0 := ⟨_, rfl⟩
 rw [hp] at o9 iN ⊢
 rw [aS]
 rw [dG] at o9
 have HP := lh (And.intro hp (And.intro dG aS))
 have HV := lh (And.intro eP eQ)
 clear eP eQ dG aS
 go_enter Tryz.func149, Tryz.ntmps149
 go_wp2_with fail
 go_loopw [5, 10] (fun c i wr => ∃ k c' : Nat, k <= p /\ c' <= 1 /\ i = .int .i64 k /\ c = .int .u64 c' /\ Jjb w g p pre post lY a k c' wr) (fun _ i _ => p - (intOf i).toNat)
 case atStart => exact ⟨0, 0, Nat.zero_le _, Nat.zero_le _, rfl, rfl, lX, hp, hr, aJ, by simp [dv]; exact HV.out.1, Only.refl _ _⟩
 case round =>
  obtain ⟨k, c1, hk, fO, rfl, rfl, l, hl, ho, hd, eR, iF⟩ := hrel
  clear hp hr aJ
  have HL := lh hl
  have HDV := lh eR
  have iL := h'.exc iF.exc hB fM
  clear hl eR
  by_cases iH : k < p
  ·obtain ⟨x, hx⟩ : ∃ x, l[k]? = some x := ⟨_, List.getElem?_eq_getElem (by rw [HL.out]; exact iH)⟩
   have aT := Un ho hx
   have fP := Vx ho k
   rw [Yc, HP.out.2.2] at aT fP
   have dH : (k : Int) < (p : Int) := by omega
   obtain ⟨y, aD, gV⟩ : ∃ y : Nat, (lY[k]? = some y \/ (n' <= k /\ y = 0)) /\ y < 18446744073709551616 := by
    by_cases dI : k < n'
    ·obtain ⟨y, hy⟩ : ∃ y, lY[k]? = some y := ⟨_, List.getElem?_eq_getElem (by rw [HP.out.2.1]; exact dI)⟩
     exact ⟨y, .inl hy, fN.get hy⟩
    exact ⟨0, .inr ⟨by omega, rfl⟩, by omega⟩
   have dA := hd.get hx
   obtain ⟨S, hS⟩ : ∃ S, (x + 18446744073709551616 - y - c1) % 18446744073709551616 = S := ⟨_, rfl⟩
   obtain ⟨C, hC⟩ : ∃ C, (if x < y + c1 then 1 else 0) = C := ⟨_, rfl⟩
   have fQ : S < 18446744073709551616 := by omega
   have eS : C <= 1 := by rw [<- hC]; split <;> omega
   have eT : S + y + c1 = x + 18446744073709551616 * C := by
    rw [<- hC]
    split <;> omega
   have bU : ∀ w, (callFunc 141 #[.int .u64 (x : Int), .int .u64 (y : Int), .int .u64 (c1 : Int)]).run Tryz.prog w = .ok (.value (.tuple #[.int .u64 (S : Int), .int .u64 (C : Int)])) w := fun w => by
    have := Jb8 x y c1 fO w
    rw [hS, hC] at this
    exact this
   have aC : dv 18446744073709551616 (lY.take (k + 1)) = dv 18446744073709551616 (lY.take k) + y * 18446744073709551616 ^ k := by
    rcases aD with aD | ⟨aD, rfl⟩
    ·exact Jv aD
    rw [Qm (by rw [HP.out.2.1]; omega), Qm (by rw [HP.out.2.1]; omega)]
    omega
   have aW := Ko (s := S) (c' := C) (b := y) hx eT HDV.out
   rw [<- aC] at aW
   have s9 := Jet ho S (j := k) (by rw [HL.out]; exact iH)
   rw [Yc, HP.out.2.2] at s9
   have j0 : Jjb w g p pre post lY a (k + 1) C (wr.setCell ⟨g, P0 + k, none⟩ (.int .u64 (S : Int))) :=
    ⟨l.set k S, by rw [List.length_set]; exact HL.out, s9, hd.set_ k fQ, aW, iF.setCell _ rfl _⟩
   have HFIN := lh j0
   clear hS hC hx aC aW s9 j0 ho hd eT iF
   rcases aD with aD | ⟨aD, rfl⟩
   ·have dI : k < n' := by rw [<- HP.out.2.1]; exact (List.getElem?_eq_some_iff.1 aD).1
    obtain ⟨ad, y', fR, _, dJ, cP⟩ := iL.atf dI
    rw [aD] at dJ
    obtain rfl : y = y' := by simpa using dJ
    have dK : (k : Int) < (n' : Int) := by omega
    unfold Jh at cP
    clear dJ aD iL h'
    subst fR
    go_wp2
    exact ⟨⟨k + 1, C, by omega, eS, by go_num, rfl, HFIN.out⟩, by simp [intOf]; omega⟩
   have dK : ¬ (k : Int) < (n' : Int) := by omega
   have eU : ∀ w, (callFunc 141 #[.int .u64 (x : Int), .int .u64 0, .int .u64 (c1 : Int)]).run Tryz.prog w = .ok (.value (.tuple #[.int .u64 (S : Int), .int .u64 (C : Int)])) w := bU
   clear iL bU h'
   go_wp2
   exact ⟨⟨k + 1, C, by omega, eS, by go_num, rfl, HFIN.out⟩, by simp [intOf]; omega⟩
  obtain rfl : k = p := by omega
  have aL := HDV.out
  rw [Qm (by rw [HP.out.2.1]; omega), HV.out.2] at aL
  have dL := Xm hd
  rw [HL.out] at dL
  have dM : c1 = 0 := by
   rcases Nat.lt_or_ge c1 1 with h | h
   ·omega
   obtain rfl : c1 = 1 := by omega
   omega
  subst dM
  have e : dv 18446744073709551616 l = a - b := by omega
  have hw := Jaf l hd
  rw [e] at hw
  have iJ := Ve ho
  rw [HL.out, HP.out.2.2] at iJ
  have aV := Jce (some ⟨g, P0, none⟩) k c (g + 1) l wr iJ (by omega) (by omega)
  have aC := Zc l
  have bK := Kn l
  rw [HL.out] at bK
  rw [<- hw] at aV aC bK
  have j0 : Win wr g (.slice (some ⟨g, P0, none⟩) (words (a - b)).length c) (words (a - b)) := by
   refine ⟨c, pre, l.drop (words (a - b)).length ++ post, by rw [HP.out.2.2], by omega, by omega, ?_⟩
   have e : pre ++ words (a - b) ++ (l.drop (words (a - b)).length ++ post) = pre ++ l ++ post := by
    conv => lhs; lhs; rhs; rw [aC]
    rw [List.append_assoc, <- List.append_assoc (List.take _ _), List.take_append_drop, List.append_assoc]
   rw [e]
   exact ho
  have HFIN := lh (And.intro j0 iF)
  have HTR := lh aV
  clear j0 iF aV aC bK iJ hw aL ho hd iL h' e
  go_wp2_with fail
  refine HTR.out.mono ?_
  rintro e w2 ⟨rfl, rfl⟩
  go_wp2
  go_ret
  exact ⟨_, rfl, HFIN.out.1, HFIN.out.2⟩
def Jlz (w : World) (a g N : Nat) (i : Nat) (wr : World) : Prop :=
 Row wr g 5 u8v (List.replicate (N - i) 0 ++ Qu a i) /\ Below w.heap.size w wr
theorem Jfx (a : Nat) : a < 256 ^ (8 * (words a).length) := by
 have h := Xm (Jl a)
 rw [Ji] at h
 rw [Nat.pow_mul]
 exact h
theorem Jeu (A : Option Addr) (n c B a : Nat) (w : World) (h : Reads w B 1 A n ((words a).map Jh)) (hB : B <= w.heap.size) (hn : n <= 17179869185) :
  Calls Tryz.prog 150 #[.slice A n c] w (Ret (Jg a) w) := by
 have dN := h.lenf
 obtain ⟨N, hN⟩ : ∃ N, 8 * n = N := ⟨_, rfl⟩
 have cR : (8 : Int) * (n : Int) = (N : Int) := by omega
 have fS := Qh (P := Tryz.prog) u8v 0 135 5 1 Tryz.underlying135 Tryz.infoU8 rfl .i64 .i64 N (by omega) (by omega)
 have eV : N <= 1099511627776 := by omega
 have bT : Xh (Qu a N) = a := by
  rw [Uz, Nat.mod_eq_of_lt]
  have := Jfx a
  rw [dN, hN] at this
  exact this
 have HN := lh (And.intro hN (And.intro dN bT))
 clear dN hN bT
 have b0 := Blk.new w 37 #[.int .u64 0, .string ⟨#[]⟩]
 have eW := Jb w (.cells #[.int .u64 0, .string ⟨#[]⟩] 37)
 have hR := h.alloc hB (.cells #[.int .u64 0, .string ⟨#[]⟩] 37)
 have hZ := lh (show (w.alloc (.cells #[.int .u64 0, .string ⟨#[]⟩] 37)).heap.size = w.heap.size + 1 from by simp)
 go_enter Tryz.func150, Tryz.ntmps150
 go_wp2_with fail
 generalize w.alloc (.cells #[.int .u64 0, .string ⟨#[]⟩] 37) = W at *
 have aX := Row.rep W 5 u8v 0 N
 have bV := Jb W (.cells (Array.replicate N (u8v 0)) 5)
 obtain ⟨g, hg⟩ : ∃ g, w.heap.size + 1 = g := ⟨_, rfl⟩
 rw [hZ.out, hg] at aX
 rw [hg]
 have fT : W.heap.size <= g := by have := hZ.out; omega
 have fU : B <= W.heap.size := by have := hZ.out; omega
 have bL := b0.lt
 clear hg fS cR h
 go_loopw [4, 11] (fun _ i wr => ∃ k : Nat, k <= N /\ i = .int .i64 k /\ Jlz W a g N k wr) (fun _ i _ => N - (intOf i).toNat)
 case atStart => exact ⟨0, Nat.zero_le _, rfl, by simpa [Qu] using aX, bV⟩
 case round =>
  obtain ⟨i, hi, rfl, h1, h2⟩ := hrel
  clear aX bV
  have dO := hR.below (h2.mono fU)
  by_cases aI : i < N
  ·have fV : i / 8 < n := by have := HN.out.1; omega
   obtain ⟨ad, x, hA, hb, hx, aT⟩ := dO.atf fV
   have e1 := Jen a i x hx
   obtain ⟨y, hy⟩ : ∃ y, Zr a i = y := ⟨_, rfl⟩
   rw [hy] at e1
   have bW := h1.cell (k := N - 1 - i) (x := 0) (by rw [List.getElem?_append_left (by simp; omega), List.getElem?_replicate]; simp; omega)
   have gW := h1.frozen (N - 1 - i)
   have dP := h1.set_ (N - 1 - i) y
   rw [<- hy, Ji3 a N i aI, hy] at dP
   have j0 : Jlz W a g N (i + 1) (wr.setCell ⟨g, N - 1 - i, none⟩ (u8v y)) := ⟨dP, h2.setCell fT _⟩
   have HFIN := lh j0
   unfold Jh at aT
   unfold u8v at bW
   have k1 : ((N : Int) - 1 - (i : Int)).toNat = N - 1 - i := by omega
   have k2 : (0 : Int) <= (N : Int) - 1 - (i : Int) := by omega
   have k3 : (N : Int) - 1 - (i : Int) < (N : Int) := by omega
   have k4 : ((i : Int) / 8) < (n : Int) := by omega
   clear hy hx dP j0 h1 h2 dO hR
   subst hA
   go_wp2
   exact ⟨⟨i + 1, by omega, by go_num, HFIN.out⟩, by simp [intOf]; omega⟩
  obtain rfl : i = N := by omega
  rw [Nat.sub_self, List.replicate_zero, List.nil_append] at h1
  have iJ := h1.reads
  rw [Zp] at iJ
  have dQ := Jdo (some ⟨g, 0, none⟩) i i (g + 1) (Qu a i) wr iJ h1.lt (by omega)
  rw [HN.out.2.2] at dQ
  have HFB := lh dQ
  have b0 := b0.below h2 b0.lt
  have dR := Ja eW h2
  clear dQ iJ h1 h2 dO hR eW
  go_wp2_with fail
  refine HFB.out.mono ?_
  rintro e w3 ⟨rfl, eX⟩
  have fW := Ja dR eX
  (try clear aY aZ dS dT bX bY); obtain ⟨b0, aY, aZ, dS, dT, bX, bY⟩ := b0.zf2 eX
  unfold Jg
  go_wp2
  refine bodyPost_ret (v := .agg #[.int .u64 (lo a : Int), .string (mo a)]) (by simp [results, Tryz.results150, go_sem, bX, bY]) rfl ?_
  exact ⟨rfl, Xo fW (by omega) _ _⟩
def Tab (w : World) : Prop := TabAt 2 Lib.deBruijn64tab w
theorem Tab.lt {w : World} (h : Tab w) : 2 < w.heap.size := Xw (h 0 (by decide))
theorem Tab.below {w w' : World} {B : Nat} (h : Tab w) (hb : Below B w w') (hB : 2 < B) : Tab w' := fun i hi => by
 rw [hb.cell (p := ⟨2, i, none⟩) hB]
 exact h i hi
theorem Tab.next {w w' : World} (h : Tab w) (hb : Below w.heap.size w w') : Tab w' := h.below hb h.lt
theorem Tab.only {w w' : World} {g : Nat} (h : Tab w) (hb : Only g w w') (hg : 2 ≠ g) : Tab w' := fun i hi => by
 rw [World.cell?_of_block (hb.block _ h.lt hg)]
 exact h i hi
theorem Win.below {w w' : World} {g B : Nat} {v : Value} {l : List Nat} (h : Win w g v l) (hb : Below B w w') (hg : g < B) : Win w' g v l := by
 obtain ⟨c, pre, post, h1, h2, h3, h4⟩ := h
 exact ⟨c, pre, post, h1, h2, h3, h4.below hb hg⟩
theorem Win.lt {w : World} {g : Nat} {v : Value} {l : List Nat} (h : Win w g v l) : g < w.heap.size := by
 obtain ⟨c, pre, post, h1, h2, h3, h4⟩ := h
 exact h4.lt
theorem Win.only {w w' : World} {g k : Nat} {v : Value} {l : List Nat} (h : Win w g v l) (ho : Only k w w') (hk : g ≠ k) : Win w' g v l := by
 obtain ⟨c, pre, post, h1, h2, h3, h4⟩ := h
 exact ⟨c, pre, post, h1, h2, h3, ho.row h4 hk⟩
theorem Win.form {w : World} {g : Nat} {v : Value} {l : List Nat} (h : Win w g v l) : ∃ p c, v = .slice (some ⟨g, p, none⟩) l.length c /\ l.length <= 1099511627776 /\ Reads w w.heap.size 1 (some ⟨g, p, none⟩) l.length (l.map Jh) := by
 obtain ⟨c, pre, post, h1, h2, h3, h4⟩ := h
 exact ⟨pre.length, c, h1, by omega, (Ve h4).more h4.lt⟩
def Jm2 (W : World) (gq N : Nat) (wr : World) : Prop := Blk wr gq 37 #[.int .u64 (lo N : Int), .string (mo N)] /\ Below W.heap.size W wr
theorem Jl8 (x T : Nat) (z : Int) (k : Nat) (hz : 0 < z) (hT : z <= T) (hk : (if (65536 : Int) < z then (65536 : Int) else z) = (k : Int)) : x * 2 ^ (T - z.toNat) * 2 ^ k = x * 2 ^ (T - (z - 65536).toNat) := by
 rw [Nat.mul_assoc, <- Nat.pow_add]
 congr 2
 split at hk <;> omega
def Jda (W : World) (x y : Nat) (v5 v6 : Value) (wr : World) : Prop :=
 ∃ g h, Win wr g v5 (words x) /\ Win wr h v6 (words y) /\ g ≠ h /\ W.heap.size <= g /\ W.heap.size <= h /\ Below W.heap.size W wr
theorem Only.chain {W w w' : World} {g : Nat} (h : Below W.heap.size W w) (ho : Only g w w') (hg : W.heap.size <= g) : Below W.heap.size W w' := h.trans (ho.below hg h.size)
theorem Jev (a b : Nat) (w : World) (bZ : a ≠ 0) (bL : b ≠ 0) (ha : Je a <= 549755813888) (hb : Je b <= 549755813888) (hT : Tab w) :
  Calls Tryz.prog 125 #[Jg a, Jg b] w (Ret (Jg (Nat.gcd a b)) w) := by
 have hG := Jj8 a b bZ bL
 have eY : Nat.gcd a b <= a := Nat.gcd_le_left _ (by omega)
 have fX := Qc eY
 have dU := lh (fun w => Jbl a w (by omega))
 have dV := lh (fun w => Jbl b w (by omega))
 have gY := Jiz a bZ
 have gZ := Jiz b bL
 obtain ⟨dW, dX⟩ := Yh a bZ
 obtain ⟨dY, dZ⟩ := Yh b bL
 have fY := Qc (Jcr a)
 have fZ := Qc (Jcr b)
 have HG := lh hG
 clear hG dW dY eY
 unfold Jg
 unfold Jg at dU dV
 obtain ⟨b0, b1, b2, hB, hZ⟩ := bx3 w 37 #[.int .u64 (lo a : Int), .string (mo a)] 37 #[.int .u64 (lo b : Int), .string (mo b)] 37 #[.int .u64 0, .string ⟨#[]⟩]
 have bM := hT.next hB
 go_enter Tryz.func125, Tryz.ntmps125
 go_upto_region 1 with fail
 generalize (((w.alloc (.cells #[.int .u64 (lo a : Int), .string (mo a)] 37)).alloc (.cells #[.int .u64 (lo b : Int), .string (mo b)] 37)).alloc (.cells #[.int .u64 0, .string ⟨#[]⟩] 37)) = W at *
 obtain ⟨aY, aZ⟩ := b0.c2; obtain ⟨eA, eB⟩ := b1.c2
 go_cut [5, 6] (fun v5 v6 wc => Jda W a b v5 v6 wc)
 case first =>
  have c0 := b0.drew
  have c1 := b1.drew
  go_region_held3 (fun w' => w'.cell? ⟨w.heap.size, 0, none⟩ = some (.int .u64 (lo a : Int)) /\ w'.cell? ⟨w.heap.size, 1, none⟩ = some (.string (mo a)) /\ w'.cell? ⟨w.heap.size + 1, 0, none⟩ = some (.int .u64 (lo b : Int)) /\ w'.cell? ⟨w.heap.size + 1, 1, none⟩ = some (.string (mo b))) (go_keep) (first | (go_at_call_of 145 (Value.agg #[.int .u64 (lo a : Int), .string (mo a)]); refine (dU.out _).mono ?_; rintro e wa ⟨ga, va, rfl, eZ, gA, iM⟩; (try clear bA bB); obtain ⟨c0, bA, bB⟩ := c0.zc2 iM; (try clear bC bD); obtain ⟨c1, bC, bD⟩ := c1.zc2 iM) | (go_at_call_of 145 (Value.agg #[.int .u64 (lo b : Int), .string (mo b)]); refine (dV.out _).mono ?_; rintro e wb ⟨gb, vb, rfl, gB, hJ, cT⟩; (try clear bA bB); obtain ⟨c0, bA, bB⟩ := c0.zc2 cT; (try clear bC bD); obtain ⟨c1, bC, bD⟩ := c1.zc2 cT))
  all_goals
   go_wp2_with fail
   go_meet
   have h1 := eZ.lt
   have h2 := (Jaw iM).size
   exact ⟨ga, gb, eZ.below cT h1, gB, by omega, gA, by omega, Ja (Jaw iM) cT⟩
 case rest =>
  clear aY aZ eA eB b0 b1 dU dV
  obtain ⟨g, h, iD, iG, o0, aG, aH, y9⟩ := hcut
  have bE := bM.next y9
  obtain ⟨p5, c5, aM, bF, aN⟩ := iD.form
  obtain ⟨p6, c6, aO, bG, aP⟩ := iG.form
  have z5 := Uo _ _ c5 _ _ wc aN bF (Jl a) (by rw [Ji]; exact bZ) bE
  have z6 := Uo _ _ c6 _ _ wc aP bG (Jl b) (by rw [Ji]; exact bL) bE
  rw [Ji] at z5 z6
  rw [<- aM] at z5
  rw [<- aO] at z6
  have d5 := Ua g _ _ wc iD (Jl a) (by rw [Ji]; exact bZ) bE
  rw [Ji] at d5
  have D5 := lh d5
  have Z5 := lh z5
  have Z6 := lh z6
  obtain ⟨T, eC⟩ : ∃ T, min (tz a) (tz b) = T := ⟨_, rfl⟩
  have gD : (if (tz b : Int) < (tz a : Int) then (tz b : Int) else (tz a : Int)) = (T : Int) := by
   rw [<- eC]
   split <;> omega
  have fA : min (tz a : Int) (tz b : Int) = (T : Int) := by omega
  have iA : T <= 549755813888 := by omega
  rw [eC] at HG
  generalize tz a = ta at *
  generalize tz b = tb at *
  clear d5 z5 z6 aM aO aN aP bF bG eC
  go_wp2_with fail
  refine Z5.out.mono ?_
  rintro e w1 ⟨rfl, rfl⟩
  go_wp2_with fail
  refine Z6.out.mono ?_
  rintro e w1 ⟨rfl, rfl⟩
  go_wp2_with fail
  refine D5.out.mono ?_
  rintro e w1 ⟨v5, rfl, cA, cU⟩
  have gE : 2 ≠ h := by have := bM.lt; omega
  have cB : 2 ≠ g := by have := bM.lt; omega
  have d6 := Ua h _ _ w1 (iG.only cU (fun e => o0 e.symm)) (Jl b) (by rw [Ji]; exact bL) (bE.only cU cB)
  rw [Ji] at d6
  have D6 := lh d6
  have bR := Only.chain y9 cU aG
  clear d6 D5 Z5 Z6 iD iG
  go_wp2_with fail
  refine D6.out.mono ?_
  rintro e w2 ⟨v6, rfl, iK, eD⟩
  have j6 := Only.chain bR eD aH
  have aQ := cA.only eD o0
  have s9 : Jda W (odd a) (odd b) v5 v6 w2 := ⟨g, h, aQ, iK, o0, aG, aH, j6⟩
  clear D6 cA aQ iK y9 bR j6 cU eD gE cB bE o0 aG aH
  go_wp2_with fail
  generalize odd a = oa at *
  generalize odd b = ob at *
  obtain ⟨G, eE⟩ : ∃ G, Nat.gcd oa ob = G := ⟨_, rfl⟩
  rw [eE] at HG
  have HGG := lh eE
  clear eE
  go_loopg [5, 6, 8] (oa + ob) (fun k v5 v6 _ wr => ∃ x y : Nat, x + y = k /\ x % 2 = 1 /\ y % 2 = 1 /\ Hid (Nat.gcd x y = G) /\ Je x <= 549755813888 /\ Je y <= 549755813888 /\ Jda W x y v5 v6 wr)
  case atStart => exact ⟨oa, ob, rfl, dX, dZ, HGG, by omega, by omega, s9⟩
  case round =>
   obtain ⟨x, y, hk, hx, hy, hg, gF, fB, g, h, iD, iG, o0, aG, aH, y9⟩ := hrel
   have HK := lh hk
   clear hk s9 HGG
   have bE := bM.next y9
   obtain ⟨p5, c5, aM, bF, aN⟩ := iD.form
   obtain ⟨p6, c6, aO, bG, aP⟩ := iG.form
   have cm := Jdd _ _ _ c5 _ c6 _ x y wr aN aP bF bG
   rw [<- aM, <- aO] at cm
   have CM := lh cm
   clear cm aM aO aN aP bF bG
   by_cases gG : x = y
   ·subst gG
    rw [Jar] at CM
    rw [Nat.gcd_self] at hg
    obtain rfl : x = G := hg.out
    have gH := Qq x (by omega)
    clear hg iG o0 aH hy fB HK
    go_wp2_with fail
    refine CM.out.mono ?_
    rintro e w1 ⟨rfl, iE⟩
    have j7 := iD.below iE iD.lt
    obtain ⟨p, c, hv, hn, hr⟩ := j7.form
    have nm := Jeu _ _ c _ x w1 hr zd gH
    rw [<- hv] at nm
    have NM := lh nm
    clear nm hv hr hn iD j7 CM
    go_wp2_with fail
    refine NM.out.mono ?_
    rintro e w2 ⟨rfl, fC⟩
    have j6 := Ja (Ja y9 iE) fC
    have b2 := b2.below j6 b2.lt
    unfold Jg
    go_wp2_with fail
    have bq := Blk.new w2 37 #[.int .u64 (lo x : Int), .string (mo x)]
    have b2 := b2.alloc (.cells #[.int .u64 (lo x : Int), .string (mo x)] 37)
    have gQ := Ja j6 (Jb w2 (.cells #[.int .u64 (lo x : Int), .string (mo x)] 37))
    have fD : W.heap.size <= w2.heap.size := j6.size
    obtain ⟨gq, eF⟩ : ∃ gq, w2.heap.size = gq := ⟨_, rfl⟩
    rw [eF] at bq fD
    rw [eF]
    clear fC j6 NM iE y9 eF bE aG
    generalize w2.alloc (.cells #[.int .u64 (lo x : Int), .string (mo x)] 37) = w3 at *
    have s9 : Jm2 W gq (x * 2 ^ (T - (T : Int).toNat)) w3 := by
     rw [Int.toNat_natCast, Nat.sub_self, Nat.pow_zero, Nat.mul_one]
     exact ⟨bq, gQ⟩
    clear bq gQ
    have b2lt : w.heap.size + 1 + 1 < W.heap.size := by have := hZ.out; omega
    have dR : Blk W (w.heap.size + 1 + 1) 37 #[.int .u64 0, .string ⟨#[]⟩] := by assumption
    go_loopw [7] (fun t wr => ∃ z : Int, z <= T /\ -65536 <= z /\ t = .int .i64 z /\ Jm2 W gq (x * 2 ^ (T - z.toNat)) wr) (fun t _ => (intOf t).toNat)
    case atStart => exact ⟨T, by omega, by omega, rfl, s9⟩
    case round =>
     obtain ⟨z, gI, iB, rfl, bN, eG⟩ := hrel
     clear s9 b2
     by_cases hz : 0 < z
     ·obtain ⟨k, hk⟩ : ∃ k : Nat, (if (65536 : Int) < z then (65536 : Int) else z) = (k : Int) := by
       split
       ·exact ⟨65536, rfl⟩
       exact ⟨z.toNat, by omega⟩
      have dH : k <= 65536 := by split at hk <;> omega
      have s9 := Jl8 x T z k hz gI hk
      have eV : Je (x * 2 ^ (T - z.toNat)) <= 549755813888 := by
       refine nt (Qc ?_) (nt fX ha)
       rw [HG.out]
       exact Nat.mul_le_mul_left _ (Nat.pow_le_pow_right (by omega) (by omega))
      have sh := Je8 (x * 2 ^ (T - z.toNat)) k wr (by omega) dH
      rw [s9] at sh
      unfold Jg at sh
      have SH := lh sh
      clear sh s9 eV
      generalize x * 2 ^ (T - z.toNat) = N at *
      generalize cR : x * 2 ^ (T - (z - 65536).toNat) = N2 at *
      have HN2 := lh cR
      clear cR
      obtain ⟨aA, aB⟩ := bN.c2
      have iC : min z 65536 = (k : Int) := by rw [<- hk]; split <;> omega
      go_wp2_with fail
      refine SH.out.mono ?_
      rintro e w4 ⟨rfl, fE⟩
      have eH := Ja eG fE
      (try clear aA aB cD cE cF cG); obtain ⟨bN, aA, aB, cD, cE, cF, cG⟩ := bN.zf2 fE
      go_wp2_with fail
      refine ⟨⟨z - 65536, by omega, by omega, rfl, ?_⟩, by simp [intOf]; omega⟩
      rw [HN2.out]
      have h9 := (bN.set_ 0 (.int .u64 (lo N2 : Int))).set_ 1 (.string (mo N2))
      exact ⟨by simpa using h9, Xo eH fD _ _⟩
     have e0 : z.toNat = 0 := by omega
     rw [e0, Nat.sub_zero, <- HG.out] at bN
     have b2 := dR.below eG b2lt
     obtain ⟨aA, aB⟩ := bN.c2
     obtain ⟨gJ, gK, gL, gM, eI, eJ⟩ := b2.f2
     have gO := Ja hB eG
     have n1 : ¬ gq = w.heap.size + 1 + 1 := by omega
     have n2 : ¬ w.heap.size + 1 + 1 = gq := by omega
     generalize Nat.gcd a b = GG at *
     clear e0
     go_wp2
     refine bodyPost_ret (v := .agg #[.int .u64 (lo GG : Int), .string (mo GG)]) (by simp [results, Tryz.results125, go_sem, eI, eJ]) rfl ?_
     exact ⟨rfl, Xo gO (by omega) _ _⟩
   have dH : Hid (x + y = gk) := HK
   rcases Nat.lt_or_ge x y with aI | hge
   ·rw [Zq aI] at CM
    have gP : ((-1 : Int) < 0) := by omega
    go_wp2_with fail
    refine CM.out.mono ?_
    rintro e w1 ⟨rfl, iE⟩
    have j7 := iD.below iE iD.lt
    have p9 := iG.below iE iG.lt
    have bR := Ja y9 iE
    obtain ⟨p5, c5, aM, bF, aN⟩ := j7.form
    have sb := Up h _ y x _ c5 _ _ w1 p9 aN zd (fun ad he => by cases he; exact o0) (by omega)
    rw [<- aM] at sb
    have SB := lh sb
    clear sb aM bF aN CM iD iG y9 iE
    go_wp2_with fail
    refine SB.out.mono ?_
    rintro e w2 ⟨v', rfl, cH, ho⟩
    have j6 := Only.chain bR ho aH
    have cI := j7.only ho o0
    have cJ : y - x ≠ 0 := by omega
    have dn := Ua h _ _ w2 cH (Jl _) (by rw [Ji]; exact cJ) (bM.next j6)
    rw [Ji] at dn
    have DN := lh dn
    clear dn SB p9 j7 bR ho
    go_wp2_with fail
    refine DN.out.mono ?_
    rintro e w3 ⟨v'', rfl, cK, bH⟩
    have gQ := Only.chain j6 bH aH
    have cL := cI.only bH o0
    obtain ⟨r1, r2, r3⟩ := Jee aI hy hx
    have j0 : ∃ x' y' : Nat, x' + y' < gk /\ x' % 2 = 1 /\ y' % 2 = 1 /\ Hid (Nat.gcd x' y' = G) /\ Je x' <= 549755813888 /\ Je y' <= 549755813888 /\ Jda W x' y' v'' _ w3 :=
     ⟨odd (y - x), x, by have := HK.out; omega, r2, hx, lh (by rw [r1, Nat.gcd_comm]; exact hg.out), by have := Qc (show odd (y - x) <= y from nt (Jcr _) (by omega)); omega, gF, h, g, cK, cL, fun e => o0 e.symm, aH, aG, gQ⟩
    obtain ⟨x', y', q1, q2⟩ := j0
    have Q2 := lh q2
    clear q2 DN r1 r2 r3 cK cL cI cH j6 gQ bH cJ
    go_wp2_with fail
    go_roundg (x' + y')
    case rel => exact ⟨x', y', rfl, Q2.out⟩
    case measure => exact q1
   rw [Kh (show y < x by omega)] at CM
   go_wp2_with fail
   refine CM.out.mono ?_
   rintro e w1 ⟨rfl, iE⟩
   have j7 := iD.below iE iD.lt
   have p9 := iG.below iE iG.lt
   have bR := Ja y9 iE
   obtain ⟨p6, c6, aO, bG, aP⟩ := p9.form
   have sb := Up g _ x y _ c6 _ _ w1 j7 aP zd (fun ad he => by cases he; exact fun e => o0 e.symm) (by omega)
   rw [<- aO] at sb
   have SB := lh sb
   clear sb aO bG aP CM iD iG y9 iE
   go_wp2_with fail
   refine SB.out.mono ?_
   rintro e w2 ⟨v', rfl, cH, ho⟩
   have j6 := Only.chain bR ho aG
   have cN := p9.only ho (fun e => o0 e.symm)
   have cJ : x - y ≠ 0 := by omega
   have dn := Ua g _ _ w2 cH (Jl _) (by rw [Ji]; exact cJ) (bM.next j6)
   rw [Ji] at dn
   have DN := lh dn
   clear dn SB j7 p9 bR ho
   go_wp2_with fail
   refine DN.out.mono ?_
   rintro e w3 ⟨v'', rfl, cK, bH⟩
   have gQ := Only.chain j6 bH aG
   have cO := cN.only bH (fun e => o0 e.symm)
   obtain ⟨r1, r2, r3⟩ := Jee (show y < x by omega) hx hy
   have j0 : ∃ x' y' : Nat, x' + y' < gk /\ x' % 2 = 1 /\ y' % 2 = 1 /\ Hid (Nat.gcd x' y' = G) /\ Je x' <= 549755813888 /\ Je y' <= 549755813888 /\ Jda W x' y' v'' _ w3 :=
    ⟨odd (x - y), y, by have := HK.out; omega, r2, hy, lh (by rw [r1]; exact hg.out), by have := Qc (show odd (x - y) <= x from nt (Jcr _) (by omega)); omega, fB, g, h, cK, cO, o0, aG, aH, gQ⟩
   obtain ⟨x', y', q1, q2⟩ := j0
   have Q2 := lh q2
   clear q2 DN r1 r2 r3 cK cO cN cH j6 gQ bH cJ
   go_wp2_with fail
   go_roundg (x' + y')
   case rel => exact ⟨x', y', rfl, Q2.out⟩
   case measure => exact q1
