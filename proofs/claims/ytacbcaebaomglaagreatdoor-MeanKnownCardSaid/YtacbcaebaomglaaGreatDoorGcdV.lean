import Derived.Test.YtacbcaebaomglaaGreatDoorGcdW
import Derived.Test.YtacbcaebaomglaaGreatDoorShifts
import Derived.Deep.LoopGhost
namespace Go.Proofs.YtacbcaebaomglaaGreatDoor
set_option maxRecDepth 100000
set_option maxHeartbeats 1000000
open Go.RowKit
set_option linter.all false
structure Only (g : Nat) (w w' : World) : Prop where
 os : w'.os = w.os
 tape : w'.tape = w.tape
 output : w'.output = w.output
 size : w.heap.size <= w'.heap.size
 block : ∀ k, k < w.heap.size -> k ≠ g -> w'.heap[k]? = w.heap[k]?
section
variable {g : Nat} {a w w' : World}
theorem Only.refl (g : Nat) (w : World) : Only g w w := ⟨rfl, rfl, rfl, Nat.le_refl _, fun _ _ _ => rfl⟩
theorem Only.trans (h : Only g a w) (h' : Only g w w') : Only g a w' := ⟨h'.os.trans h.os, h'.tape.trans h.tape, h'.output.trans h.output, nt h.size h'.size, fun k hk hg => (h'.block k (Nat.lt_of_lt_of_le hk h.size) hg).trans (h.block k hk hg)⟩
theorem Only.drewN (h : Only g a w) (n : Nat) : Only g a (w.drewN n) := ⟨h.os, h.tape, h.output, h.size, h.block⟩
theorem Only.setCell (h : Only g a w) (p : Addr) (hp : p.block = g) (v : Value) : Only g a (w.setCell p v) :=
 ⟨h.os, h.tape, h.output, by simp [World.setCell]; exact h.size, fun k hk hg => by rw [Below.heap_setCell _ _ _ _ (fun e => hg (by omega))]; exact h.block k hk hg⟩
theorem Only.below {B : Nat} (h : Only g w w') (hB : B <= g) (hs : B <= w.heap.size) : Below B w w' := ⟨h.os, h.tape, h.output, h.size, fun k hk => h.block k (by omega) (by omega)⟩
theorem Only.row {α : Type} {k : Nat} {t : TypeId} {f : α -> Value} {l : List α} (h : Only g w w') (hr : Row w k t f l) (hk : k ≠ g) : Row w' k t f l := by
 have := hr.lt
 unfold Row Blk at *
 rw [h.block k this hk]
 exact hr
end
section
variable {w : World} {g : Nat} {pre cur post : List Nat}
theorem Zr (g p j : Nat) : (⟨g, p, none⟩ : Addr).add j = ⟨g, p + j, none⟩ := by
 unfold Addr.add
 split
 ·rename_i h; subst h; rfl
 rfl
theorem Jkb (pre cur post : List Nat) {j x : Nat} (hx : cur[j]? = some x) : (pre ++ cur ++ post)[pre.length + j]? = some x := by
 have hj : j < cur.length := (List.getElem?_eq_some_iff.1 hx).1
 rw [List.append_assoc, List.getElem?_append_right (by omega), show pre.length + j - pre.length = j from by omega, List.getElem?_append_left hj, hx]
theorem Uc (hr : Row w g 59 Jj (pre ++ cur ++ post)) {j x : Nat} (hx : cur[j]? = some x) : w.cell? ((⟨g, pre.length, none⟩ : Addr).add j) = some (.int .u64 (x : Int)) := by
 rw [Zr]
 exact hr.cell (Jkb _ _ _ hx)
theorem Vp (hr : Row w g 59 Jj (pre ++ cur ++ post)) (j : Nat) : w.frozen? ((⟨g, pre.length, none⟩ : Addr).add j) = false := by
 rw [Zr]
 exact hr.frozen _
theorem Jdu (hr : Row w g 59 Jj (pre ++ cur ++ post)) {j : Nat} (x : Nat) (hj : j < cur.length) : Row (w.setCell ((⟨g, pre.length, none⟩ : Addr).add j) (.int .u64 (x : Int))) g 59 Jj (pre ++ cur.set j x ++ post) := by
 rw [Zr]
 have h := hr.set_ (pre.length + j) x
 rw [List.append_assoc, List.set_append_right _ _ (by omega), show pre.length + j - pre.length = j from by omega, List.set_append_left _ _ hj, <- List.append_assoc] at h
 exact h
theorem Uw (hr : Row w g 59 Jj (pre ++ cur ++ post)) : Reads w (g + 1) 1 (some ⟨g, pre.length, none⟩) cur.length (cur.map Jj) := by
 refine ⟨by simp, fun _ => ⟨_, rfl, by simp, fun j u hu => ?_⟩⟩
 rw [List.getElem?_map] at hu
 obtain ⟨x, hx, rfl⟩ := Option.map_eq_some_iff.1 hu
 exact Uc hr hx
end
def Jep (w : World) (g : Nat) (pre post l : List Nat) (M i : Nat) (wr : World) : Prop :=
 ∃ cur : List Nat, cur.length = l.length /\ Row wr g 59 Jj (pre ++ cur ++ post) /\ Dig 18446744073709551616 cur /\ dv 18446744073709551616 (cur.take i) = M % 18446744073709551616 ^ i /\ cur.drop i = l.drop i /\ Only g w wr
theorem Jdl {cur l : List Nat} {i r x z M : Nat} (o0 : cur.length = l.length) (hx : l[i]? = some x) (hM : dv 18446744073709551616 l / 2 ^ r = M) (hd : Dig 18446744073709551616 l)
  (hv : dv 18446744073709551616 (cur.take i) = M % 18446744073709551616 ^ i) (u4 : cur.drop i = l.drop i) (hz : dv 18446744073709551616 (l.drop i) / 2 ^ r % 18446744073709551616 = z) :
  dv 18446744073709551616 ((cur.set i z).take (i + 1)) = M % 18446744073709551616 ^ (i + 1) /\ (cur.set i z).drop (i + 1) = l.drop (i + 1) := by
 have hi : i < l.length := (List.getElem?_eq_some_iff.1 hx).1
 have hg : (cur.set i z)[i]? = some z := by rw [List.getElem?_set_self (by omega)]
 constructor
 ·rw [Jt hg, List.take_set_of_le zd, hv, Nat.mod_pow_succ]
  have : M / 18446744073709551616 ^ i % 18446744073709551616 = z := by
   rw [<- hz, <- Zh hd (by omega), <- hM, Nat.div_div_eq_div_mul, Nat.div_div_eq_div_mul, Nat.mul_comm]
  rw [this, Nat.mul_comm z]
 rw [List.drop_set_of_lt (by omega), <- List.drop_drop, <- List.drop_drop, u4]
theorem Jim {l : List Nat} (hd : Dig 18446744073709551616 l) (h0 : dv 18446744073709551616 l ≠ 0) : tz (dv 18446744073709551616 l) / 64 < l.length := by
 have h1 := Xf hd
 obtain ⟨h2, h3⟩ := Zu _ h0
 have h4 : 2 ^ tz (dv 18446744073709551616 l) <= dv 18446744073709551616 l := by
  conv => rhs; rw [h2]
  exact Nat.le_mul_of_pos_right _ (by omega)
 rw [show (18446744073709551616 : Nat) = 2 ^ 64 from rfl, <- Nat.pow_mul] at h1
 have h5 := (Nat.pow_lt_pow_iff_right (show 1 < 2 by omega)).1 (Nat.lt_of_le_of_lt h4 h1)
 generalize tz _ = n at h5 ⊢
 omega
theorem Jir (g p n c h : Nat) (hh : h < c) (hn : h <= n) (w : World) :
  (Instr.slice 178 (.slice (some ⟨g, p, none⟩) n c) (some (.int .i64 (h : Int))) none none).run Tryz.prog w = .ok (.slice (some ⟨g, p + h, none⟩) (n - h) (c - h)) w := by
 have e := Jgy (P := Tryz.prog) Tryz.underlying178 Tryz.infoU64 (some ⟨g, p, none⟩) n c .i64 (h : Int) (by omega) (by omega) w
 rw [e]
 have : Jcx (some (⟨g, p, none⟩ : Addr)) c (h : Int).toNat 1 = some ⟨g, p + h, none⟩ := by
  unfold Jcx
  rw [if_neg (by omega), Option.map_some, Zr]
  simp
 rw [this]
 rfl
theorem Kt (g : Nat) (v : Value) (l : List Nat) (w : World) (h : Win w g v l) (hd : Dig 18446744073709551616 l) (h0 : dv 18446744073709551616 l ≠ 0) (hT : TabAt 2 Lib.deBruijn64tab w) :
  Calls Tryz.prog 156 #[v] w fun e w' => ∃ v', e = .returned v' /\ Win w' g v' (Jf (odd (dv 18446744073709551616 l))) /\ Only g w w' := by
 obtain ⟨c, pre, post, rfl, cG, hc, hr⟩ := h
 have hz := Ud (some ⟨g, pre.length, none⟩) l.length c (g + 1) l w (Uw hr) (by omega) hd h0 hT
 have x9 := Jim hd h0
 obtain ⟨N, hN⟩ : ∃ N, odd (dv 18446744073709551616 l) = N := ⟨_, rfl⟩
 rw [hN]
 unfold odd at hN
 obtain ⟨n, hn⟩ : ∃ n, tz (dv 18446744073709551616 l) = n := ⟨_, rfl⟩
 rw [hn] at hz x9 hN
 obtain ⟨k, hk⟩ : ∃ k, n / 64 = k := ⟨_, rfl⟩
 obtain ⟨r, fY⟩ : ∃ r, n % 64 = r := ⟨_, rfl⟩
 have c1 : (n : Int) / 64 = (k : Int) := by omega
 have c2 : (n : Int) % 64 = (r : Int) := by omega
 have aG : r < 64 := by omega
 rw [hk] at x9
 have hM : dv 18446744073709551616 (l.drop k) / 2 ^ r = N := by
  rw [<- hN, <- Zh hd (by omega), Nat.div_div_eq_div_mul]
  congr 1
  rw [show (18446744073709551616 : Nat) = 2 ^ 64 from rfl, <- Nat.pow_mul, <- Nat.pow_add]
  congr 1
  omega
 have hcut := Jir g pre.length l.length c k (by omega) (by omega)
 obtain ⟨lX, bD⟩ : ∃ lX, l.drop k = lX := ⟨_, rfl⟩
 obtain ⟨p, hp⟩ : ∃ p, l.length - k = p := ⟨_, rfl⟩
 have hlx : lX.length = p := by rw [<- bD, List.length_drop, hp]
 have y8 : Dig 18446744073709551616 lX := by rw [<- bD]; exact hd.drop k
 obtain ⟨preX, cH⟩ : ∃ preX, pre ++ l.take k = preX := ⟨_, rfl⟩
 have dV : Row w g 59 Jj (preX ++ lX ++ post) := by
  rw [<- cH, <- bD, List.append_assoc pre, List.take_append_drop]
  exact hr
 have dW : pre.length + k = preX.length := by rw [<- cH, List.length_append, List.length_take, Nat.min_eq_left (by omega)]
 rw [bD] at hM
 obtain ⟨P0, aH⟩ : ∃ P0, preX.length = P0 := ⟨_, rfl⟩
 rw [hp, dW, aH] at hcut
 obtain ⟨cX, dX⟩ : ∃ cX, c - k = cX := ⟨_, rfl⟩
 rw [dX] at hcut
 obtain ⟨len, o0⟩ : ∃ len, l.length = len := ⟨_, rfl⟩
 rw [o0] at hz hcut x9 cG hp ⊢
 have eP : p <= cX /\ cX <= 1099511627776 /\ len <= 1099511627776 := by omega
 have HZ := lh hz
 have HM := lh (And.intro hM (And.intro hlx aH))
 clear hz hM hlx aH hN hn hk bD hp cH dW dX o0 hr
 go_enter Tryz.func156, Tryz.ntmps156
 go_wp2_with fail
 refine HZ.out.mono ?_
 rintro e w1 ⟨rfl, rfl⟩
 go_wp2_with fail
 clear c1 hcut
 go_loopw [5, 16] (fun _ i wr => ∃ k : Nat, k <= p /\ i = .int .i64 k /\ Jep w g preX post lX N k wr) (fun _ i _ => p - (intOf i).toNat)
 case atStart => exact ⟨0, Nat.zero_le _, rfl, lX, rfl, dV, y8, by simp [dv, Nat.mod_one], rfl, Only.refl _ _⟩
 case round =>
  obtain ⟨i, hi, rfl, cur, u5, y9, aX, hv, u4, o8⟩ := hrel
  clear dV
  by_cases p7 : i < p
  ·obtain ⟨x, hx⟩ : ∃ x, lX[i]? = some x := ⟨_, List.getElem?_eq_getElem (by rw [HM.out.2.1]; exact p7)⟩
   have aI : cur[i]? = some x := by
    have h1 : (cur.drop i)[0]? = (lX.drop i)[0]? := by rw [u4]
    rw [List.getElem?_drop, List.getElem?_drop, Nat.add_zero, hx] at h1
    exact h1
   have cI := y8.get hx
   have cJ : i < cur.length := by rw [u5, HM.out.2.1]; exact p7
   have eQ := Uc y9 aI
   have eR := Vp y9 i
   rw [Zr, HM.out.2.2] at eQ eR
   obtain ⟨u, hu⟩ : ∃ u, x / 2 ^ r = u := ⟨_, rfl⟩
   have eS : (x : Int) / 2 ^ r = (u : Int) := by
    rw [<- hu, Int.natCast_ediv, Int.natCast_pow]
    rfl
   have k4 : (i : Int) < (p : Int) := by omega
   have k7 : (r : Int) <= 63 := by omega
   have j6 := Jdu y9 u cJ
   have cK : (cur.set i u)[i]? = some u := by rw [List.getElem?_set_self cJ]
   have eT := Uc j6 cK
   have eU := Vp j6 i
   rw [Zr, HM.out.2.2] at j6 eT eU
   have k6 : IntKind.u64.wrap (64 - (r : Int)) = ((64 - r : Nat) : Int) := by rw [Jc _ (by omega) (by omega)]; omega
   by_cases cL : i + 1 < p
   ·obtain ⟨y, hy⟩ : ∃ y, lX[i + 1]? = some y := ⟨_, List.getElem?_eq_getElem (by rw [HM.out.2.1]; exact cL)⟩
    have cA : (cur.set i u)[i + 1]? = some y := by
     rw [List.getElem?_set_ne (by omega)]
     have h1 : (cur.drop i)[1]? = (lX.drop i)[1]? := by rw [u4]
     rw [List.getElem?_drop, List.getElem?_drop, hy] at h1
     exact h1
    have p8 : dv 18446744073709551616 (lX.drop i) = x + 18446744073709551616 * (y + 18446744073709551616 * dv 18446744073709551616 (lX.drop (i + 1 + 1))) := by
     rw [Jv hx, Jv hy]
    obtain ⟨j7, aY⟩ := Yr aG cI p8
    rw [hu] at j7 aY
    obtain ⟨eV, bE⟩ := Jbn u y r aY aG
    obtain ⟨z, hz⟩ : ∃ z, u + y * 2 ^ (64 - r) % 18446744073709551616 = z := ⟨_, rfl⟩
    rw [hz] at eV bE j7
    obtain ⟨bF, hn2⟩ := Jdl u5 hx HM.out.1 y8 hv u4 j7
    have cM := Uc (j6) cA
    rw [Zr, HM.out.2.2] at cM
    have aJ := Jdu (j := i) j6 z (by rw [List.length_set]; exact cJ)
    rw [Zr, HM.out.2.2, List.set_set] at aJ
    have e8 : Jep w g preX post lX N (i + 1) (((wr.setCell ⟨g, P0 + i, none⟩ (.int .u64 (u : Int))).drew).setCell ⟨g, P0 + i, none⟩ (.int .u64 (z : Int))) :=
     ⟨cur.set i z, by rw [List.length_set]; exact u5, aJ, aX.set_ i bE, bF, hn2, ((o8.setCell _ rfl _).drewN 1).setCell _ rfl _⟩
    have HFIN := lh e8
    have k10 : (i : Int) + 1 < (p : Int) := by omega
    have k11 : ((i : Int) + 1).toNat = i + 1 := by omega
    have k9 : (64 : Int) - (r : Int) = ((64 - r : Nat) : Int) := by omega
    clear j7 aY hz bF hn2 j6 aJ e8 cK hu hx hy aI cA hv u4 p8 u5 y9 aX o8
    go_wp2_with fail
    go_region
    go_wp2
    exact ⟨⟨i + 1, by omega, by go_num, HFIN.out⟩, by simp [intOf]; omega⟩
   have p8 : dv 18446744073709551616 (lX.drop i) = x + 18446744073709551616 * (0 + 18446744073709551616 * 0) := by
    rw [Jv hx, Qv (by rw [HM.out.2.1]; omega)]
   obtain ⟨j7, aY⟩ := Yr aG cI p8
   rw [hu, Nat.zero_mul, Nat.zero_mod, Nat.add_zero] at j7
   rw [hu] at aY
   have cN : u < 18446744073709551616 := by
    have := Nat.pow_le_pow_right (show 0 < 2 by omega) (show 64 - r <= 64 by omega)
    omega
   obtain ⟨bF, hn2⟩ := Jdl u5 hx HM.out.1 y8 hv u4 j7
   have e8 : Jep w g preX post lX N (i + 1) (wr.setCell ⟨g, P0 + i, none⟩ (.int .u64 (u : Int))) :=
    ⟨cur.set i u, by rw [List.length_set]; exact u5, j6, aX.set_ i cN, bF, hn2, o8.setCell _ rfl _⟩
   have HFIN := lh e8
   have k10 : ¬ (i : Int) + 1 < (p : Int) := by omega
   clear j7 aY bF hn2 j6 e8 cK hu hx aI hv u4 p8 u5 y9 aX o8
   go_wp2
   exact ⟨⟨i + 1, by omega, by go_num, HFIN.out⟩, by simp [intOf]; omega⟩
  obtain rfl : i = p := by omega
  have dY : cur.length = i := by rw [u5]; exact HM.out.2.1
  have bG : N < 18446744073709551616 ^ i := by
   have h1 := Xf y8
   rw [HM.out.2.1] at h1
   rw [<- HM.out.1]
   exact Nat.lt_of_le_of_lt (Nat.div_le_self _ _) h1
  rw [Nat.mod_eq_of_lt bG, List.take_of_length_le (by omega)] at hv
  have hw := Vy cur aX
  rw [hv] at hw
  have p9 := Uw y9
  rw [dY, HM.out.2.2] at p9
  have aK := Jbf (some ⟨g, P0, none⟩) i cX (g + 1) cur wr p9 (by omega) (by omega)
  have t7 := Xx cur
  have aZ := Kg cur
  rw [<- hw] at aK t7 aZ
  have e8 : Win wr g (.slice (some ⟨g, P0, none⟩) (Jf N).length cX) (Jf N) := by
   refine ⟨cX, preX, cur.drop (Jf N).length ++ post, by rw [HM.out.2.2], by omega, by omega, ?_⟩
   have e : preX ++ Jf N ++ (cur.drop (Jf N).length ++ post) = preX ++ cur ++ post := by
    conv => lhs; lhs; rhs; rw [t7]
    rw [List.append_assoc, <- List.append_assoc (List.take _ _), List.take_append_drop, List.append_assoc]
   rw [e]
   exact y9
  have HFIN := lh (And.intro e8 o8)
  have HTR := lh aK
  clear e8 o8 aK t7 aZ p9 hw hv bG dY u5 y9 aX u4
  go_wp2_with fail
  refine HTR.out.mono ?_
  rintro e w2 ⟨rfl, rfl⟩
  go_wp2
  go_ret
  exact ⟨_, rfl, HFIN.out.1, HFIN.out.2⟩
theorem Only.exc {g : Nat} {w w' : World} (h : Only g w w') : Exc g w w' := ⟨h.os, h.tape, h.output, h.size, h.block⟩
def Jha (w : World) (g p : Nat) (pre post lY : List Nat) (a k c' : Nat) (wr : World) : Prop :=
 ∃ cur : List Nat, cur.length = p /\ Row wr g 59 Jj (pre ++ cur ++ post) /\ Dig 18446744073709551616 cur /\ dv 18446744073709551616 cur + dv 18446744073709551616 (lY.take k) = a + c' * 18446744073709551616 ^ k /\ Only g w wr
theorem Ue (g : Nat) (v : Value) (a b n' c' B : Nat) (A' : Option Addr) (w : World) (h : Win w g v (Jf a)) (h' : Reads w B 1 A' n' ((Jf b).map Jj)) (hB : B <= w.heap.size) (eW : ∀ ad, A' = some ad -> ad.block ≠ g) (fZ : b <= a) :
  Calls Tryz.prog 158 #[v, .slice A' n' c'] w fun e w' => ∃ v', e = .returned v' /\ Win w' g v' (Jf (a - b)) /\ Only g w w' := by
 obtain ⟨c, pre, post, rfl, cG, hc, hr⟩ := h
 have o0 : (Jf b).length <= (Jf a).length := by
  rcases Nat.lt_or_ge (Jf a).length (Jf b).length with h | h
  ·have := Xi h
   omega
  exact h
 have y8 := Jm a
 have eX := Jm b
 have dZ := Jk a
 have eA := Jk b
 have cO := h'.lenf
 generalize Jf a = lX at *
 generalize Jf b = lY at *
 obtain ⟨p, hp⟩ : ∃ p, lX.length = p := ⟨_, rfl⟩
 obtain ⟨P0, aH⟩ : ∃ P0, pre.length = P0 := ⟨_, rfl⟩
 rw [hp] at o0 cG ⊢
 rw [aH]
 rw [cO] at o0
 have HP := lh (And.intro hp (And.intro cO aH))
 have HV := lh (And.intro dZ eA)
 clear dZ eA cO aH
 go_enter Tryz.func158, Tryz.ntmps158
 go_wp2_with fail
 go_loopw [5, 10] (fun c i wr => ∃ k c' : Nat, k <= p /\ c' <= 1 /\ i = .int .i64 k /\ c = .int .u64 c' /\ Jha w g p pre post lY a k c' wr) (fun _ i _ => p - (intOf i).toNat)
 case atStart => exact ⟨0, 0, Nat.zero_le _, Nat.zero_le _, rfl, rfl, lX, hp, hr, y8, by simp [dv]; exact HV.out.1, Only.refl _ _⟩
 case round =>
  obtain ⟨k, c1, hk, eY, rfl, rfl, l, hl, ho, hd, eB, o8⟩ := hrel
  clear hp hr y8
  have HL := lh hl
  have HDV := lh eB
  have cB := h'.exc o8.exc hB eW
  clear hl eB
  by_cases p7 : k < p
  ·obtain ⟨x, hx⟩ : ∃ x, l[k]? = some x := ⟨_, List.getElem?_eq_getElem (by rw [HL.out]; exact p7)⟩
   have aI := Uc ho hx
   have eZ := Vp ho k
   rw [Zr, HP.out.2.2] at aI eZ
   have cP : (k : Int) < (p : Int) := by omega
   obtain ⟨y, t8, gA⟩ : ∃ y : Nat, (lY[k]? = some y \/ (n' <= k /\ y = 0)) /\ y < 18446744073709551616 := by
    by_cases cQ : k < n'
    ·obtain ⟨y, hy⟩ : ∃ y, lY[k]? = some y := ⟨_, List.getElem?_eq_getElem (by rw [HP.out.2.1]; exact cQ)⟩
     exact ⟨y, .inl hy, eX.get hy⟩
    exact ⟨0, .inr ⟨by omega, rfl⟩, by omega⟩
   have cI := hd.get hx
   obtain ⟨S, hS⟩ : ∃ S, (x + 18446744073709551616 - y - c1) % 18446744073709551616 = S := ⟨_, rfl⟩
   obtain ⟨C, hC⟩ : ∃ C, (if x < y + c1 then 1 else 0) = C := ⟨_, rfl⟩
   have fA : S < 18446744073709551616 := by omega
   have eC : C <= 1 := by rw [<- hC]; split <;> omega
   have eD : S + y + c1 = x + 18446744073709551616 * C := by
    rw [<- hC]
    split <;> omega
   have bH : ∀ w, (callFunc 173 #[.int .u64 (x : Int), .int .u64 (y : Int), .int .u64 (c1 : Int)]).run Tryz.prog w = .ok (.value (.tuple #[.int .u64 (S : Int), .int .u64 (C : Int)])) w := fun w => by
    have := Jbb x y c1 eY w
    rw [hS, hC] at this
    exact this
   have t7 : dv 18446744073709551616 (lY.take (k + 1)) = dv 18446744073709551616 (lY.take k) + y * 18446744073709551616 ^ k := by
    rcases t8 with t8 | ⟨t8, rfl⟩
    ·exact Jt t8
    rw [Qj (by rw [HP.out.2.1]; omega), Qj (by rw [HP.out.2.1]; omega)]
    omega
   have aL := Kh (s := S) (c' := C) (b := y) hx eD HDV.out
   rw [<- t7] at aL
   have o9 := Jdu ho S (j := k) (by rw [HL.out]; exact p7)
   rw [Zr, HP.out.2.2] at o9
   have e8 : Jha w g p pre post lY a (k + 1) C (wr.setCell ⟨g, P0 + k, none⟩ (.int .u64 (S : Int))) :=
    ⟨l.set k S, by rw [List.length_set]; exact HL.out, o9, hd.set_ k fA, aL, o8.setCell _ rfl _⟩
   have HFIN := lh e8
   clear hS hC hx t7 aL o9 e8 ho hd eD o8
   rcases t8 with t8 | ⟨t8, rfl⟩
   ·have cQ : k < n' := by rw [<- HP.out.2.1]; exact (List.getElem?_eq_some_iff.1 t8).1
    obtain ⟨ad, y', fB, _, cS, cA⟩ := cB.atf cQ
    rw [t8] at cS
    obtain rfl : y = y' := by simpa using cS
    have cT : (k : Int) < (n' : Int) := by omega
    unfold Jj at cA
    clear cS t8 cB h'
    subst fB
    go_wp2
    exact ⟨⟨k + 1, C, by omega, eC, by go_num, rfl, HFIN.out⟩, by simp [intOf]; omega⟩
   have cT : ¬ (k : Int) < (n' : Int) := by omega
   have eE : ∀ w, (callFunc 173 #[.int .u64 (x : Int), .int .u64 0, .int .u64 (c1 : Int)]).run Tryz.prog w = .ok (.value (.tuple #[.int .u64 (S : Int), .int .u64 (C : Int)])) w := bH
   clear cB bH h'
   go_wp2
   exact ⟨⟨k + 1, C, by omega, eC, by go_num, rfl, HFIN.out⟩, by simp [intOf]; omega⟩
  obtain rfl : k = p := by omega
  have aA := HDV.out
  rw [Qj (by rw [HP.out.2.1]; omega), HV.out.2] at aA
  have cU := Xf hd
  rw [HL.out] at cU
  have cV : c1 = 0 := by
   rcases Nat.lt_or_ge c1 1 with h | h
   ·omega
   obtain rfl : c1 = 1 := by omega
   omega
  subst cV
  have e : dv 18446744073709551616 l = a - b := by omega
  have hw := Vy l hd
  rw [e] at hw
  have p9 := Uw ho
  rw [HL.out, HP.out.2.2] at p9
  have aK := Jbf (some ⟨g, P0, none⟩) k c (g + 1) l wr p9 (by omega) (by omega)
  have t7 := Xx l
  have aZ := Kg l
  rw [HL.out] at aZ
  rw [<- hw] at aK t7 aZ
  have e8 : Win wr g (.slice (some ⟨g, P0, none⟩) (Jf (a - b)).length c) (Jf (a - b)) := by
   refine ⟨c, pre, l.drop (Jf (a - b)).length ++ post, by rw [HP.out.2.2], by omega, by omega, ?_⟩
   have e : pre ++ Jf (a - b) ++ (l.drop (Jf (a - b)).length ++ post) = pre ++ l ++ post := by
    conv => lhs; lhs; rhs; rw [t7]
    rw [List.append_assoc, <- List.append_assoc (List.take _ _), List.take_append_drop, List.append_assoc]
   rw [e]
   exact ho
  have HFIN := lh (And.intro e8 o8)
  have HTR := lh aK
  clear e8 o8 aK t7 aZ p9 hw aA ho hd cB h' e
  go_wp2_with fail
  refine HTR.out.mono ?_
  rintro e w2 ⟨rfl, rfl⟩
  go_wp2
  go_ret
  exact ⟨_, rfl, HFIN.out.1, HFIN.out.2⟩
def Jj5 (w : World) (a g N : Nat) (i : Nat) (wr : World) : Prop :=
 Row wr g 5 u8v (List.replicate (N - i) 0 ++ Qf a i) /\ Below w.heap.size w wr
theorem Jer (a : Nat) : a < 256 ^ (8 * (Jf a).length) := by
 have h := Xf (Jm a)
 rw [Jk] at h
 rw [Nat.pow_mul]
 exact h
theorem Jdv (A : Option Addr) (n c B a : Nat) (w : World) (h : Reads w B 1 A n ((Jf a).map Jj)) (hB : B <= w.heap.size) (hn : n <= 17179869185) :
  Calls Tryz.prog 159 #[.slice A n c] w (Ret (Jh a) w) := by
 have cW := h.lenf
 obtain ⟨N, hN⟩ : ∃ N, 8 * n = N := ⟨_, rfl⟩
 have cC : (8 : Int) * (n : Int) = (N : Int) := by omega
 have fC := Ql (P := Tryz.prog) u8v 0 164 5 1 Tryz.underlying164 Tryz.infoU8 rfl .i64 .i64 N (by omega) (by omega)
 have eF : N <= 1099511627776 := by omega
 have bG : Xc (Qf a N) = a := by
  rw [Uu, Nat.mod_eq_of_lt]
  have := Jer a
  rw [cW, hN] at this
  exact this
 have HN := lh (And.intro hN (And.intro cW bG))
 clear cW hN bG
 have b0 := Blk.new w 61 #[.int .u64 0, .string ⟨#[]⟩]
 have eG := Jb w (.cells #[.int .u64 0, .string ⟨#[]⟩] 61)
 have hR := h.alloc hB (.cells #[.int .u64 0, .string ⟨#[]⟩] 61)
 have hZ := lh (show (w.alloc (.cells #[.int .u64 0, .string ⟨#[]⟩] 61)).heap.size = w.heap.size + 1 from by simp)
 go_enter Tryz.func159, Tryz.ntmps159
 go_wp2_with fail
 generalize w.alloc (.cells #[.int .u64 0, .string ⟨#[]⟩] 61) = W at *
 have aM := Row.rep W 5 u8v 0 N
 have bI := Jb W (.cells (Array.replicate N (u8v 0)) 5)
 obtain ⟨g, hg⟩ : ∃ g, w.heap.size + 1 = g := ⟨_, rfl⟩
 rw [hZ.out, hg] at aM
 rw [hg]
 have fD : W.heap.size <= g := by have := hZ.out; omega
 have fE : B <= W.heap.size := by have := hZ.out; omega
 have bA := b0.lt
 clear hg fC cC h
 go_loopw [4, 11] (fun _ i wr => ∃ k : Nat, k <= N /\ i = .int .i64 k /\ Jj5 W a g N k wr) (fun _ i _ => N - (intOf i).toNat)
 case atStart => exact ⟨0, Nat.zero_le _, rfl, by simpa [Qf] using aM, bI⟩
 case round =>
  obtain ⟨i, hi, rfl, h1, h2⟩ := hrel
  clear aM bI
  have cZ := hR.below (h2.mono fE)
  by_cases x9 : i < N
  ·have fF : i / 8 < n := by have := HN.out.1; omega
   obtain ⟨ad, x, hA, hb, hx, aI⟩ := cZ.atf fF
   have e1 := Jdo a i x hx
   obtain ⟨y, hy⟩ : ∃ y, Xq a i = y := ⟨_, rfl⟩
   rw [hy] at e1
   have bJ := h1.cell (k := N - 1 - i) (x := 0) (by rw [List.getElem?_append_left (by simp; omega), List.getElem?_replicate]; simp; omega)
   have gB := h1.frozen (N - 1 - i)
   have dA := h1.set_ (N - 1 - i) y
   rw [<- hy, Jeb a N i x9, hy] at dA
   have e8 : Jj5 W a g N (i + 1) (wr.setCell ⟨g, N - 1 - i, none⟩ (u8v y)) := ⟨dA, h2.setCell fD _⟩
   have HFIN := lh e8
   unfold Jj at aI
   unfold u8v at bJ
   have k1 : ((N : Int) - 1 - (i : Int)).toNat = N - 1 - i := by omega
   have k2 : (0 : Int) <= (N : Int) - 1 - (i : Int) := by omega
   have k3 : (N : Int) - 1 - (i : Int) < (N : Int) := by omega
   have k4 : ((i : Int) / 8) < (n : Int) := by omega
   clear hy hx dA e8 h1 h2 cZ hR
   subst hA
   go_wp2
   exact ⟨⟨i + 1, by omega, by go_num, HFIN.out⟩, by simp [intOf]; omega⟩
  obtain rfl : i = N := by omega
  rw [Nat.sub_self, List.replicate_zero, List.nil_append] at h1
  have p9 := h1.reads
  rw [Xj] at p9
  have dB := Vl (some ⟨g, 0, none⟩) i i (g + 1) (Qf a i) wr p9 h1.lt (by omega)
  rw [HN.out.2.2] at dB
  have HFB := lh dB
  have b0 := b0.below h2 b0.lt
  have dC := Ja eG h2
  clear dB p9 h1 h2 cZ hR eG
  go_wp2_with fail
  refine HFB.out.mono ?_
  rintro e w3 ⟨rfl, eH⟩
  have fG := Ja dC eH
  (try clear aN aO dD dE bK bL); obtain ⟨b0, aN, aO, dD, dE, bK, bL⟩ := b0.zf2 eH
  unfold Jh
  go_wp2
  refine bodyPost_ret (v := .agg #[.int .u64 (lo a : Int), .string (mo a)]) (by simp [results, Tryz.results159, go_sem, bK, bL]) rfl ?_
  exact ⟨rfl, Xg fG (by omega) _ _⟩
def Tab (w : World) : Prop := TabAt 2 Lib.deBruijn64tab w
theorem Tab.lt {w : World} (h : Tab w) : 2 < w.heap.size := Vh (h 0 (by decide))
theorem Tab.below {w w' : World} {B : Nat} (h : Tab w) (hb : Below B w w') (hB : 2 < B) : Tab w' := fun i hi => by
 rw [hb.cell (p := ⟨2, i, none⟩) hB]
 exact h i hi
theorem Tab.next {w w' : World} (h : Tab w) (hb : Below w.heap.size w w') : Tab w' := h.below hb h.lt
theorem Tab.only {w w' : World} {g : Nat} (h : Tab w) (hb : Only g w w') (hg : 2 ≠ g) : Tab w' := fun i hi => by
 rw [World.cell?_of_block (hb.block _ h.lt hg)]
 exact h i hi
theorem Win.below {w w' : World} {g B : Nat} {v : Value} {l : List Nat} (h : Win w g v l) (hb : Below B w w') (hg : g < B) : Win w' g v l := by
 obtain ⟨c, pre, post, h1, h2, h3, h4⟩ := h
 exact ⟨c, pre, post, h1, h2, h3, h4.below hb hg⟩
theorem Win.lt {w : World} {g : Nat} {v : Value} {l : List Nat} (h : Win w g v l) : g < w.heap.size := by
 obtain ⟨c, pre, post, h1, h2, h3, h4⟩ := h
 exact h4.lt
theorem Win.only {w w' : World} {g k : Nat} {v : Value} {l : List Nat} (h : Win w g v l) (ho : Only k w w') (hk : g ≠ k) : Win w' g v l := by
 obtain ⟨c, pre, post, h1, h2, h3, h4⟩ := h
 exact ⟨c, pre, post, h1, h2, h3, ho.row h4 hk⟩
theorem Win.form {w : World} {g : Nat} {v : Value} {l : List Nat} (h : Win w g v l) : ∃ p c, v = .slice (some ⟨g, p, none⟩) l.length c /\ l.length <= 1099511627776 /\ Reads w w.heap.size 1 (some ⟨g, p, none⟩) l.length (l.map Jj) := by
 obtain ⟨c, pre, post, h1, h2, h3, h4⟩ := h
 exact ⟨pre.length, c, h1, by omega, (Uw h4).more h4.lt⟩
def Jkz (W : World) (gq N : Nat) (wr : World) : Prop := Blk wr gq 61 #[.int .u64 (lo N : Int), .string (mo N)] /\ Below W.heap.size W wr
theorem Jke (x T : Nat) (z : Int) (k : Nat) (hz : 0 < z) (hT : z <= T) (hk : (if (65536 : Int) < z then (65536 : Int) else z) = (k : Int)) : x * 2 ^ (T - z.toNat) * 2 ^ k = x * 2 ^ (T - (z - 65536).toNat) := by
 rw [Nat.mul_assoc, <- Nat.pow_add]
 congr 2
 split at hk <;> omega
def Jch (W : World) (x y : Nat) (v5 v6 : Value) (wr : World) : Prop :=
 ∃ g h, Win wr g v5 (Jf x) /\ Win wr h v6 (Jf y) /\ g ≠ h /\ W.heap.size <= g /\ W.heap.size <= h /\ Below W.heap.size W wr
theorem Only.chain {W w w' : World} {g : Nat} (h : Below W.heap.size W w) (ho : Only g w w') (hg : W.heap.size <= g) : Below W.heap.size W w' := h.trans (ho.below hg h.size)
theorem Jdw (a b : Nat) (w : World) (bM : a ≠ 0) (bA : b ≠ 0) (ha : Je a <= 549755813888) (hb : Je b <= 549755813888) (hT : Tab w) :
  Calls Tryz.prog 123 #[Jh a, Jh b] w (Ret (Jh (Nat.gcd a b)) w) := by
 have hG := Jh1 a b bM bA
 have eI : Nat.gcd a b <= a := Nat.gcd_le_left _ (by omega)
 have fH := Jw eI
 have dF := lh (fun w => Ja0 a w (by omega))
 have dG := lh (fun w => Ja0 b w (by omega))
 have gC := Jgw a bM
 have gD := Jgw b bA
 obtain ⟨dH, dI⟩ := Zu a bM
 obtain ⟨dJ, dK⟩ := Zu b bA
 have fI := Jw (Jbp a)
 have fJ := Jw (Jbp b)
 have HG := lh hG
 clear hG dH dJ eI
 unfold Jh
 unfold Jh at dF dG
 obtain ⟨b0, b1, b2, hB, hZ⟩ := bx3 w 61 #[.int .u64 (lo a : Int), .string (mo a)] 61 #[.int .u64 (lo b : Int), .string (mo b)] 61 #[.int .u64 0, .string ⟨#[]⟩]
 have bB := hT.next hB
 go_enter Tryz.func123, Tryz.ntmps123
 go_upto_region 1 with fail
 generalize (((w.alloc (.cells #[.int .u64 (lo a : Int), .string (mo a)] 61)).alloc (.cells #[.int .u64 (lo b : Int), .string (mo b)] 61)).alloc (.cells #[.int .u64 0, .string ⟨#[]⟩] 61)) = W at *
 obtain ⟨aN, aO⟩ := b0.c2; obtain ⟨dL, dM⟩ := b1.c2
 go_cut [5, 6] (fun v5 v6 wc => Jch W a b v5 v6 wc)
 case first =>
  have c0 := b0.drew
  have c1 := b1.drew
  go_region_held3 (fun w' => w'.cell? ⟨w.heap.size, 0, none⟩ = some (.int .u64 (lo a : Int)) /\ w'.cell? ⟨w.heap.size, 1, none⟩ = some (.string (mo a)) /\ w'.cell? ⟨w.heap.size + 1, 0, none⟩ = some (.int .u64 (lo b : Int)) /\ w'.cell? ⟨w.heap.size + 1, 1, none⟩ = some (.string (mo b))) (go_keep) (first | (go_at_call_of 154 (Value.agg #[.int .u64 (lo a : Int), .string (mo a)]); refine (dF.out _).mono ?_; rintro e wa ⟨ga, va, rfl, eJ, fK, cD⟩; (try clear aP aQ); obtain ⟨c0, aP, aQ⟩ := c0.zc2 cD; (try clear aR aS); obtain ⟨c1, aR, aS⟩ := c1.zc2 cD) | (go_at_call_of 154 (Value.agg #[.int .u64 (lo b : Int), .string (mo b)]); refine (dG.out _).mono ?_; rintro e wb ⟨gb, vb, rfl, fL, gE, cE⟩; (try clear aP aQ); obtain ⟨c0, aP, aQ⟩ := c0.zc2 cE; (try clear aR aS); obtain ⟨c1, aR, aS⟩ := c1.zc2 cE))
  all_goals
   go_wp2_with fail
   go_meet
   have h1 := eJ.lt
   have h2 := (Vn cD).size
   exact ⟨ga, gb, eJ.below cE h1, fL, by omega, fK, by omega, Ja (Vn cD) cE⟩
 case rest =>
  clear aN aO dL dM b0 b1 dF dG
  obtain ⟨g, h, l5, p0, l7, x7, x8, q8⟩ := hcut
  have aT := bB.next q8
  obtain ⟨p5, c5, aB, aU, aC⟩ := l5.form
  obtain ⟨p6, c6, aD, aV, aE⟩ := p0.form
  have z5 := Ud _ _ c5 _ _ wc aC aU (Jm a) (by rw [Jk]; exact bM) aT
  have z6 := Ud _ _ c6 _ _ wc aE aV (Jm b) (by rw [Jk]; exact bA) aT
  rw [Jk] at z5 z6
  rw [<- aB] at z5
  rw [<- aD] at z6
  have d5 := Kt g _ _ wc l5 (Jm a) (by rw [Jk]; exact bM) aT
  rw [Jk] at d5
  have D5 := lh d5
  have Z5 := lh z5
  have Z6 := lh z6
  obtain ⟨T, dN⟩ : ∃ T, min (tz a) (tz b) = T := ⟨_, rfl⟩
  have fM : (if (tz b : Int) < (tz a : Int) then (tz b : Int) else (tz a : Int)) = (T : Int) := by
   rw [<- dN]
   split <;> omega
  have eK : min (tz a : Int) (tz b : Int) = (T : Int) := by omega
  have gF : T <= 549755813888 := by omega
  rw [dN] at HG
  generalize tz a = ta at *
  generalize tz b = tb at *
  clear d5 z5 z6 aB aD aC aE aU aV dN
  go_wp2_with fail
  refine Z5.out.mono ?_
  rintro e w1 ⟨rfl, rfl⟩
  go_wp2_with fail
  refine Z6.out.mono ?_
  rintro e w1 ⟨rfl, rfl⟩
  go_wp2_with fail
  refine D5.out.mono ?_
  rintro e w1 ⟨v5, rfl, bN, cF⟩
  have fN : 2 ≠ h := by have := bB.lt; omega
  have bO : 2 ≠ g := by have := bB.lt; omega
  have d6 := Kt h _ _ w1 (p0.only cF (fun e => l7 e.symm)) (Jm b) (by rw [Jk]; exact bA) (aT.only cF bO)
  rw [Jk] at d6
  have D6 := lh d6
  have j8 := Only.chain q8 cF x7
  clear d6 D5 Z5 Z6 l5 p0
  go_wp2_with fail
  refine D6.out.mono ?_
  rintro e w2 ⟨v6, rfl, bP, dO⟩
  have e9 := Only.chain j8 dO x8
  have aF := bN.only dO l7
  have o9 : Jch W (odd a) (odd b) v5 v6 w2 := ⟨g, h, aF, bP, l7, x7, x8, e9⟩
  clear D6 bN aF bP q8 j8 e9 cF dO fN bO aT l7 x7 x8
  go_wp2_with fail
  generalize odd a = oa at *
  generalize odd b = ob at *
  obtain ⟨G, dP⟩ : ∃ G, Nat.gcd oa ob = G := ⟨_, rfl⟩
  rw [dP] at HG
  have HGG := lh dP
  clear dP
  go_loopg [5, 6, 8] (oa + ob) (fun k v5 v6 _ wr => ∃ x y : Nat, x + y = k /\ x % 2 = 1 /\ y % 2 = 1 /\ Hid (Nat.gcd x y = G) /\ Je x <= 549755813888 /\ Je y <= 549755813888 /\ Jch W x y v5 v6 wr)
  case atStart => exact ⟨oa, ob, rfl, dI, dK, HGG, by omega, by omega, o9⟩
  case round =>
   obtain ⟨x, y, hk, hx, hy, hg, fO, eL, g, h, l5, p0, l7, x7, x8, q8⟩ := hrel
   have HK := lh hk
   clear hk o9 HGG
   have aT := bB.next q8
   obtain ⟨p5, c5, aB, aU, aC⟩ := l5.form
   obtain ⟨p6, c6, aD, aV, aE⟩ := p0.form
   have cm := Jcj _ _ _ c5 _ c6 _ x y wr aC aE aU aV
   rw [<- aB, <- aD] at cm
   have CM := lh cm
   clear cm aB aD aC aE aU aV
   by_cases fP : x = y
   ·subst fP
    rw [Jak] at CM
    rw [Nat.gcd_self] at hg
    obtain rfl : x = G := hg.out
    have fQ := Qm x (by omega)
    clear hg p0 l7 x8 hy eL HK
    go_wp2_with fail
    refine CM.out.mono ?_
    rintro e w1 ⟨rfl, o6⟩
    have j0 := l5.below o6 l5.lt
    obtain ⟨p, c, hv, hn, hr⟩ := j0.form
    have nm := Jdv _ _ c _ x w1 hr zd fQ
    rw [<- hv] at nm
    have NM := lh nm
    clear nm hv hr hn l5 j0 CM
    go_wp2_with fail
    refine NM.out.mono ?_
    rintro e w2 ⟨rfl, eM⟩
    have e9 := Ja (Ja q8 o6) eM
    have b2 := b2.below e9 b2.lt
    unfold Jh
    go_wp2_with fail
    have bq := Blk.new w2 61 #[.int .u64 (lo x : Int), .string (mo x)]
    have b2 := b2.alloc (.cells #[.int .u64 (lo x : Int), .string (mo x)] 61)
    have j9 := Ja e9 (Jb w2 (.cells #[.int .u64 (lo x : Int), .string (mo x)] 61))
    have eN : W.heap.size <= w2.heap.size := e9.size
    obtain ⟨gq, dQ⟩ : ∃ gq, w2.heap.size = gq := ⟨_, rfl⟩
    rw [dQ] at bq eN
    rw [dQ]
    clear eM e9 NM o6 q8 dQ aT x7
    generalize w2.alloc (.cells #[.int .u64 (lo x : Int), .string (mo x)] 61) = w3 at *
    have o9 : Jkz W gq (x * 2 ^ (T - (T : Int).toNat)) w3 := by
     rw [Int.toNat_natCast, Nat.sub_self, Nat.pow_zero, Nat.mul_one]
     exact ⟨bq, j9⟩
    clear bq j9
    have b2lt : w.heap.size + 1 + 1 < W.heap.size := by have := hZ.out; omega
    have dC : Blk W (w.heap.size + 1 + 1) 61 #[.int .u64 0, .string ⟨#[]⟩] := by assumption
    go_loopw [7] (fun t wr => ∃ z : Int, z <= T /\ -65536 <= z /\ t = .int .i64 z /\ Jkz W gq (x * 2 ^ (T - z.toNat)) wr) (fun t _ => (intOf t).toNat)
    case atStart => exact ⟨T, by omega, by omega, rfl, o9⟩
    case round =>
     obtain ⟨z, fR, gG, rfl, bC, dR⟩ := hrel
     clear o9 b2
     by_cases hz : 0 < z
     ·obtain ⟨k, hk⟩ : ∃ k : Nat, (if (65536 : Int) < z then (65536 : Int) else z) = (k : Int) := by
       split
       ·exact ⟨65536, rfl⟩
       exact ⟨z.toNat, by omega⟩
      have cP : k <= 65536 := by split at hk <;> omega
      have o9 := Jke x T z k hz fR hk
      have eF : Je (x * 2 ^ (T - z.toNat)) <= 549755813888 := by
       refine nt (Jw ?_) (nt fH ha)
       rw [HG.out]
       exact Nat.mul_le_mul_left _ (Nat.pow_le_pow_right (by omega) (by omega))
      have sh := Jd2 (x * 2 ^ (T - z.toNat)) k wr (by omega) cP
      rw [o9] at sh
      unfold Jh at sh
      have SH := lh sh
      clear sh o9 eF
      generalize x * 2 ^ (T - z.toNat) = N at *
      generalize cC : x * 2 ^ (T - (z - 65536).toNat) = N2 at *
      have HN2 := lh cC
      clear cC
      obtain ⟨q9, s9⟩ := bC.c2
      have gH : min z 65536 = (k : Int) := by rw [<- hk]; split <;> omega
      go_wp2_with fail
      refine SH.out.mono ?_
      rintro e w4 ⟨rfl, eO⟩
      have dS := Ja dR eO
      (try clear q9 s9 bQ bR bS bT); obtain ⟨bC, q9, s9, bQ, bR, bS, bT⟩ := bC.zf2 eO
      go_wp2_with fail
      refine ⟨⟨z - 65536, by omega, by omega, rfl, ?_⟩, by simp [intOf]; omega⟩
      rw [HN2.out]
      have h9 := (bC.set_ 0 (.int .u64 (lo N2 : Int))).set_ 1 (.string (mo N2))
      exact ⟨by simpa using h9, Xg dS eN _ _⟩
     have e0 : z.toNat = 0 := by omega
     rw [e0, Nat.sub_zero, <- HG.out] at bC
     have b2 := dC.below dR b2lt
     obtain ⟨q9, s9⟩ := bC.c2
     obtain ⟨fS, fT, fU, fV, dT, dU⟩ := b2.f2
     have fW := Ja hB dR
     have n1 : ¬ gq = w.heap.size + 1 + 1 := by omega
     have n2 : ¬ w.heap.size + 1 + 1 = gq := by omega
     generalize Nat.gcd a b = GG at *
     clear e0
     go_wp2
     refine bodyPost_ret (v := .agg #[.int .u64 (lo GG : Int), .string (mo GG)]) (by simp [results, Tryz.results123, go_sem, dT, dU]) rfl ?_
     exact ⟨rfl, Xg fW (by omega) _ _⟩
   have cP : Hid (x + y = gk) := HK
   rcases Nat.lt_or_ge x y with x9 | hge
   ·rw [Zi x9] at CM
    have fX : ((-1 : Int) < 0) := by omega
    go_wp2_with fail
    refine CM.out.mono ?_
    rintro e w1 ⟨rfl, o6⟩
    have j0 := l5.below o6 l5.lt
    have o7 := p0.below o6 p0.lt
    have j8 := Ja q8 o6
    obtain ⟨p5, c5, aB, aU, aC⟩ := j0.form
    have sb := Ue h _ y x _ c5 _ _ w1 o7 aC zd (fun ad he => by cases he; exact l7) (by omega)
    rw [<- aB] at sb
    have SB := lh sb
    clear sb aB aU aC CM l5 p0 q8 o6
    go_wp2_with fail
    refine SB.out.mono ?_
    rintro e w2 ⟨v', rfl, bU, ho⟩
    have e9 := Only.chain j8 ho x8
    have bV := j0.only ho l7
    have bW : y - x ≠ 0 := by omega
    have dn := Kt h _ _ w2 bU (Jm _) (by rw [Jk]; exact bW) (bB.next e9)
    rw [Jk] at dn
    have DN := lh dn
    clear dn SB o7 j0 j8 ho
    go_wp2_with fail
    refine DN.out.mono ?_
    rintro e w3 ⟨v'', rfl, hwd, aW⟩
    have j9 := Only.chain e9 aW x8
    have bX := bV.only aW l7
    obtain ⟨r1, r2, r3⟩ := Jdd x9 hy hx
    have e8 : ∃ x' y' : Nat, x' + y' < gk /\ x' % 2 = 1 /\ y' % 2 = 1 /\ Hid (Nat.gcd x' y' = G) /\ Je x' <= 549755813888 /\ Je y' <= 549755813888 /\ Jch W x' y' v'' _ w3 :=
     ⟨odd (y - x), x, by have := HK.out; omega, r2, hx, lh (by rw [r1, Nat.gcd_comm]; exact hg.out), by have := Jw (show odd (y - x) <= y from nt (Jbp _) (by omega)); omega, fO, h, g, hwd, bX, fun e => l7 e.symm, x8, x7, j9⟩
    obtain ⟨x', y', q1, q2⟩ := e8
    have Q2 := lh q2
    clear q2 DN r1 r2 r3 hwd bX bV bU e9 j9 aW bW
    go_wp2_with fail
    go_roundg (x' + y')
    case rel => exact ⟨x', y', rfl, Q2.out⟩
    case measure => exact q1
   rw [Yx (show y < x by omega)] at CM
   go_wp2_with fail
   refine CM.out.mono ?_
   rintro e w1 ⟨rfl, o6⟩
   have j0 := l5.below o6 l5.lt
   have o7 := p0.below o6 p0.lt
   have j8 := Ja q8 o6
   obtain ⟨p6, c6, aD, aV, aE⟩ := o7.form
   have sb := Ue g _ x y _ c6 _ _ w1 j0 aE zd (fun ad he => by cases he; exact fun e => l7 e.symm) (by omega)
   rw [<- aD] at sb
   have SB := lh sb
   clear sb aD aV aE CM l5 p0 q8 o6
   go_wp2_with fail
   refine SB.out.mono ?_
   rintro e w2 ⟨v', rfl, bU, ho⟩
   have e9 := Only.chain j8 ho x7
   have bY := o7.only ho (fun e => l7 e.symm)
   have bW : x - y ≠ 0 := by omega
   have dn := Kt g _ _ w2 bU (Jm _) (by rw [Jk]; exact bW) (bB.next e9)
   rw [Jk] at dn
   have DN := lh dn
   clear dn SB j0 o7 j8 ho
   go_wp2_with fail
   refine DN.out.mono ?_
   rintro e w3 ⟨v'', rfl, hwd, aW⟩
   have j9 := Only.chain e9 aW x7
   have bZ := bY.only aW (fun e => l7 e.symm)
   obtain ⟨r1, r2, r3⟩ := Jdd (show y < x by omega) hx hy
   have e8 : ∃ x' y' : Nat, x' + y' < gk /\ x' % 2 = 1 /\ y' % 2 = 1 /\ Hid (Nat.gcd x' y' = G) /\ Je x' <= 549755813888 /\ Je y' <= 549755813888 /\ Jch W x' y' v'' _ w3 :=
    ⟨odd (x - y), y, by have := HK.out; omega, r2, hy, lh (by rw [r1]; exact hg.out), by have := Jw (show odd (x - y) <= x from nt (Jbp _) (by omega)); omega, eL, g, h, hwd, bZ, l7, x7, x8, j9⟩
   obtain ⟨x', y', q1, q2⟩ := e8
   have Q2 := lh q2
   clear q2 DN r1 r2 r3 hwd bZ bY bU e9 j9 aW bW
   go_wp2_with fail
   go_roundg (x' + y')
   case rel => exact ⟨x', y', rfl, Q2.out⟩
   case measure => exact q1
