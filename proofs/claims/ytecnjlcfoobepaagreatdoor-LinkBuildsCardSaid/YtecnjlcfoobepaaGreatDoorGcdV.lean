import Derived.Test.YtecnjlcfoobepaaGreatDoorGcdW
import Derived.Test.YtecnjlcfoobepaaGreatDoorShifts
import Derived.Test.YtecnjlcfoobepaaGreatDoorMem
import Derived.Deep.LoopGhost
namespace Go.Proofs.YtecnjlcfoobepaaGreatDoor
set_option maxRecDepth 100000
set_option maxHeartbeats 1000000
open Go.RowKit
set_option linter.unusedSimpArgs false
set_option linter.unusedVariables false
structure Only (g : Nat) (w w' : World) : Prop where
 os : w'.os = w.os
 tape : w'.tape = w.tape
 output : w'.output = w.output
 size : w.heap.size <= w'.heap.size
 block : ∀ k, k < w.heap.size -> k ≠ g -> w'.heap[k]? = w.heap[k]?
section
variable {g : Nat} {a w w' : World}
theorem Only.refl (g : Nat) (w : World) : Only g w w := ⟨rfl, rfl, rfl, Nat.le_refl _, fun _ _ _ => rfl⟩
theorem Only.drewN (h : Only g a w) (n : Nat) : Only g a (w.drewN n) := ⟨h.os, h.tape, h.output, h.size, h.block⟩
theorem Only.setCell (h : Only g a w) (p : Addr) (hp : p.block = g) (v : Value) : Only g a (w.setCell p v) :=
 ⟨h.os, h.tape, h.output, by simp [World.setCell]; exact h.size, fun k hk hg => by rw [Below.heap_setCell _ _ _ _ (fun e => hg (by omega))]; exact h.block k hk hg⟩
theorem Only.below {B : Nat} (h : Only g w w') (hB : B <= g) (hs : B <= w.heap.size) : Below B w w' := ⟨h.os, h.tape, h.output, h.size, fun k hk => h.block k (by omega) (by omega)⟩
theorem Only.row {α : Type} {k : Nat} {t : TypeId} {f : α -> Value} {l : List α} (h : Only g w w') (hr : Row w k t f l) (hk : k ≠ g) : Row w' k t f l := by
 have := hr.lt
 unfold Row Blk at *
 rw [h.block k this hk]
 exact hr
end
section
variable {w : World} {g : Nat} {pre cur post : List Nat}
theorem add_off (g p j : Nat) : (⟨g, p, none⟩ : Addr).add j = ⟨g, p + j, none⟩ := by
 unfold Addr.add
 split
 ·rename_i h; subst h; rfl
 rfl
theorem win_get (pre cur post : List Nat) {j x : Nat} (hx : cur[j]? = some x) : (pre ++ cur ++ post)[pre.length + j]? = some x := by
 have hj : j < cur.length := (List.getElem?_eq_some_iff.1 hx).1
 rw [List.append_assoc, List.getElem?_append_right (by omega), show pre.length + j - pre.length = j from by omega, List.getElem?_append_left hj, hx]
theorem win_cell (hr : Row w g 50 u64v (pre ++ cur ++ post)) {j x : Nat} (hx : cur[j]? = some x) : w.cell? ((⟨g, pre.length, none⟩ : Addr).add j) = some (.int .u64 (x : Int)) := by
 rw [add_off]
 exact hr.cell (win_get _ _ _ hx)
theorem win_frozen (hr : Row w g 50 u64v (pre ++ cur ++ post)) (j : Nat) : w.frozen? ((⟨g, pre.length, none⟩ : Addr).add j) = false := by
 rw [add_off]
 exact hr.frozen _
theorem win_set (hr : Row w g 50 u64v (pre ++ cur ++ post)) {j : Nat} (x : Nat) (hj : j < cur.length) : Row (w.setCell ((⟨g, pre.length, none⟩ : Addr).add j) (.int .u64 (x : Int))) g 50 u64v (pre ++ cur.set j x ++ post) := by
 rw [add_off]
 have h := hr.set_ (pre.length + j) x
 rw [List.append_assoc, List.set_append_right _ _ (by omega), show pre.length + j - pre.length = j from by omega, List.set_append_left _ _ hj, <- List.append_assoc] at h
 exact h
theorem win_reads (hr : Row w g 50 u64v (pre ++ cur ++ post)) : Reads w (g + 1) 1 (some ⟨g, pre.length, none⟩) cur.length (cur.map u64v) := by
 refine ⟨by simp, fun _ => ⟨_, rfl, by simp, fun j u hu => ?_⟩⟩
 rw [List.getElem?_map] at hu
 obtain ⟨x, hx, rfl⟩ := Option.map_eq_some_iff.1 hu
 exact win_cell hr hx
end
def DownRel (w : World) (g : Nat) (pre post l : List Nat) (M i : Nat) (wr : World) : Prop :=
 ∃ cur : List Nat, cur.length = l.length /\ Row wr g 50 u64v (pre ++ cur ++ post) /\ Dig 18446744073709551616 cur /\ dv 18446744073709551616 (cur.take i) = M % 18446744073709551616 ^ i /\ cur.drop i = l.drop i /\ Only g w wr
theorem down_step {cur l : List Nat} {i r x z M : Nat} (hlen : cur.length = l.length) (hx : l[i]? = some x) (hM : dv 18446744073709551616 l / 2 ^ r = M) (hd : Dig 18446744073709551616 l)
  (hv : dv 18446744073709551616 (cur.take i) = M % 18446744073709551616 ^ i) (hdr : cur.drop i = l.drop i) (hz : dv 18446744073709551616 (l.drop i) / 2 ^ r % 18446744073709551616 = z) :
  dv 18446744073709551616 ((cur.set i z).take (i + 1)) = M % 18446744073709551616 ^ (i + 1) /\ (cur.set i z).drop (i + 1) = l.drop (i + 1) := by
 have hi : i < l.length := (List.getElem?_eq_some_iff.1 hx).1
 have hg : (cur.set i z)[i]? = some z := by rw [List.getElem?_set_self (by omega)]
 constructor
 ·rw [dv_take_succ hg, List.take_set_of_le zd, hv, Nat.mod_pow_succ]
  have : M / 18446744073709551616 ^ i % 18446744073709551616 = z := by
   rw [<- hz, <- dv_div hd (by omega), <- hM, Nat.div_div_eq_div_mul, Nat.div_div_eq_div_mul, Nat.mul_comm]
  rw [this, Nat.mul_comm z]
 rw [List.drop_set_of_lt (by omega), <- List.drop_drop, <- List.drop_drop, hdr]
theorem tz_words {l : List Nat} (hd : Dig 18446744073709551616 l) (h0 : dv 18446744073709551616 l ≠ 0) : tz (dv 18446744073709551616 l) / 64 < l.length := by
 have h1 := dv_lt hd
 obtain ⟨h2, h3⟩ := odd_spec _ h0
 have h4 : 2 ^ tz (dv 18446744073709551616 l) <= dv 18446744073709551616 l := by
  conv => rhs; rw [h2]
  exact Nat.le_mul_of_pos_right _ (by omega)
 rw [show (18446744073709551616 : Nat) = 2 ^ 64 from rfl, <- Nat.pow_mul] at h1
 have h5 := (Nat.pow_lt_pow_iff_right (show 1 < 2 by omega)).1 (Nat.lt_of_le_of_lt h4 h1)
 generalize tz _ = n at h5 ⊢
 omega
theorem run_cutw (g p n c h : Nat) (hh : h < c) (hn : h <= n) (w : World) :
  (Instr.slice 170 (.slice (some ⟨g, p, none⟩) n c) (some (.int .i64 (h : Int))) none none).run Tryz.prog w = .ok (.slice (some ⟨g, p + h, none⟩) (n - h) (c - h)) w := by
 have e := run_cut (P := Tryz.prog) Tryz.underlying170 Tryz.infoU64 (some ⟨g, p, none⟩) n c .i64 (h : Int) (by omega) (by omega) w
 rw [e]
 have : cutA (some (⟨g, p, none⟩ : Addr)) c (h : Int).toNat 1 = some ⟨g, p + h, none⟩ := by
  unfold cutA
  rw [if_neg (by omega), Option.map_some, add_off]
  simp
 rw [this]
 rfl
theorem whole_down (g : Nat) (v : Value) (l : List Nat) (w : World) (h : Win w g v l) (hd : Dig 18446744073709551616 l) (h0 : dv 18446744073709551616 l ≠ 0) (hT : TabAt 2 Lib.deBruijn64tab w) :
  Calls Tryz.prog 146 #[v] w fun e w' => ∃ v', e = .returned v' /\ Win w' g v' (words (odd (dv 18446744073709551616 l))) /\ Only g w w' := by
 obtain ⟨c, pre, post, rfl, hlc, hc, hr⟩ := h
 have hz := whole_zeros (some ⟨g, pre.length, none⟩) l.length c (g + 1) l w (win_reads hr) (by omega) hd h0 hT
 have hlt := tz_words hd h0
 obtain ⟨N, hN⟩ : ∃ N, odd (dv 18446744073709551616 l) = N := ⟨_, rfl⟩
 rw [hN]
 unfold odd at hN
 obtain ⟨n, hn⟩ : ∃ n, tz (dv 18446744073709551616 l) = n := ⟨_, rfl⟩
 rw [hn] at hz hlt hN
 obtain ⟨k, hk⟩ : ∃ k, n / 64 = k := ⟨_, rfl⟩
 obtain ⟨r, hr8⟩ : ∃ r, n % 64 = r := ⟨_, rfl⟩
 have c1 : (n : Int) / 64 = (k : Int) := by omega
 have c2 : (n : Int) % 64 = (r : Int) := by omega
 have hr64 : r < 64 := by omega
 rw [hk] at hlt
 have hM : dv 18446744073709551616 (l.drop k) / 2 ^ r = N := by
  rw [<- hN, <- dv_div hd (by omega), Nat.div_div_eq_div_mul]
  congr 1
  rw [show (18446744073709551616 : Nat) = 2 ^ 64 from rfl, <- Nat.pow_mul, <- Nat.pow_add]
  congr 1
  omega
 have hcut := run_cutw g pre.length l.length c k (by omega) (by omega)
 obtain ⟨lX, hlX⟩ : ∃ lX, l.drop k = lX := ⟨_, rfl⟩
 obtain ⟨p, hp⟩ : ∃ p, l.length - k = p := ⟨_, rfl⟩
 have hlx : lX.length = p := by rw [<- hlX, List.length_drop, hp]
 have hdX : Dig 18446744073709551616 lX := by rw [<- hlX]; exact hd.drop k
 obtain ⟨preX, hpX⟩ : ∃ preX, pre ++ l.take k = preX := ⟨_, rfl⟩
 have hrX : Row w g 50 u64v (preX ++ lX ++ post) := by
  rw [<- hpX, <- hlX, List.append_assoc pre, List.take_append_drop]
  exact hr
 have hpl : pre.length + k = preX.length := by rw [<- hpX, List.length_append, List.length_take, Nat.min_eq_left (by omega)]
 rw [hlX] at hM
 obtain ⟨P0, hP0⟩ : ∃ P0, preX.length = P0 := ⟨_, rfl⟩
 rw [hp, hpl, hP0] at hcut
 obtain ⟨cX, hcX⟩ : ∃ cX, c - k = cX := ⟨_, rfl⟩
 rw [hcX] at hcut
 obtain ⟨len, hlen⟩ : ∃ len, l.length = len := ⟨_, rfl⟩
 rw [hlen] at hz hcut hlt hlc hp ⊢
 have hcXb : p <= cX /\ cX <= 1099511627776 /\ len <= 1099511627776 := by omega
 have HZ := lh hz
 have HM := lh (And.intro hM (And.intro hlx hP0))
 clear hz hM hlx hP0 hN hn hk hlX hp hpX hpl hcX hlen hr
 go_enter Tryz.func146, Tryz.ntmps146
 go_wp2_with fail
 refine HZ.out.mono ?_
 rintro e w1 ⟨rfl, rfl⟩
 go_wp2_with fail
 clear c1 hcut
 go_loopw [5, 16] (fun _ i wr => ∃ k : Nat, k <= p /\ i = .int .i64 k /\ DownRel w g preX post lX N k wr) (fun _ i _ => p - (intOf i).toNat)
 case atStart => exact ⟨0, Nat.zero_le _, rfl, lX, rfl, hrX, hdX, by simp [dv, Nat.mod_one], rfl, Only.refl _ _⟩
 case round =>
  obtain ⟨i, hi, rfl, cur, hcl, hro, hdc, hv, hdr, hon⟩ := hrel
  clear hrX
  by_cases hlt2 : i < p
  ·obtain ⟨x, hx⟩ : ∃ x, lX[i]? = some x := ⟨_, List.getElem?_eq_getElem (by rw [HM.out.2.1]; exact hlt2)⟩
   have hcx : cur[i]? = some x := by
    have h1 : (cur.drop i)[0]? = (lX.drop i)[0]? := by rw [hdr]
    rw [List.getElem?_drop, List.getElem?_drop, Nat.add_zero, hx] at h1
    exact h1
   have hxl := hdX.get hx
   have hci : i < cur.length := by rw [hcl, HM.out.2.1]; exact hlt2
   have hc0 := win_cell hro hcx
   have hf0 := win_frozen hro i
   rw [add_off, HM.out.2.2] at hc0 hf0
   obtain ⟨u, hu⟩ : ∃ u, x / 2 ^ r = u := ⟨_, rfl⟩
   have hshr : (x : Int) / 2 ^ r = (u : Int) := by
    rw [<- hu, Int.natCast_ediv, Int.natCast_pow]
    rfl
   have k4 : (i : Int) < (p : Int) := by omega
   have k7 : (r : Int) <= 63 := by omega
   have hro1 := win_set hro u hci
   have hu' : (cur.set i u)[i]? = some u := by rw [List.getElem?_set_self hci]
   have hcu := win_cell hro1 hu'
   have hfu := win_frozen hro1 i
   rw [add_off, HM.out.2.2] at hro1 hcu hfu
   have k6 : IntKind.u64.wrap (64 - (r : Int)) = ((64 - r : Nat) : Int) := by rw [wrap_u64_of _ (by omega) (by omega)]; omega
   by_cases hk1p : i + 1 < p
   ·obtain ⟨y, hy⟩ : ∃ y, lX[i + 1]? = some y := ⟨_, List.getElem?_eq_getElem (by rw [HM.out.2.1]; exact hk1p)⟩
    have hcy : (cur.set i u)[i + 1]? = some y := by
     rw [List.getElem?_set_ne (by omega)]
     have h1 : (cur.drop i)[1]? = (lX.drop i)[1]? := by rw [hdr]
     rw [List.getElem?_drop, List.getElem?_drop, hy] at h1
     exact h1
    have hdr2 : dv 18446744073709551616 (lX.drop i) = x + 18446744073709551616 * (y + 18446744073709551616 * dv 18446744073709551616 (lX.drop (i + 1 + 1))) := by
     rw [dv_drop hx, dv_drop hy]
    obtain ⟨hdig, hul⟩ := shift_digit hr64 hxl hdr2
    rw [hu] at hdig hul
    obtain ⟨hor, horl⟩ := or_shift64 u y r hul hr64
    obtain ⟨z, hz⟩ : ∃ z, u + y * 2 ^ (64 - r) % 18446744073709551616 = z := ⟨_, rfl⟩
    rw [hz] at hor horl hdig
    obtain ⟨hn1, hn2⟩ := down_step hcl hx HM.out.1 hdX hv hdr hdig
    have hcy3 := win_cell (hro1) hcy
    rw [add_off, HM.out.2.2] at hcy3
    have hro2 := win_set (j := i) hro1 z (by rw [List.length_set]; exact hci)
    rw [add_off, HM.out.2.2, List.set_set] at hro2
    have hfin : DownRel w g preX post lX N (i + 1) (((wr.setCell ⟨g, P0 + i, none⟩ (.int .u64 (u : Int))).drew).setCell ⟨g, P0 + i, none⟩ (.int .u64 (z : Int))) :=
     ⟨cur.set i z, by rw [List.length_set]; exact hcl, hro2, hdc.set_ i horl, hn1, hn2, ((hon.setCell _ rfl _).drewN 1).setCell _ rfl _⟩
    have HFIN := lh hfin
    have k10 : (i : Int) + 1 < (p : Int) := by omega
    have k11 : ((i : Int) + 1).toNat = i + 1 := by omega
    have k9 : (64 : Int) - (r : Int) = ((64 - r : Nat) : Int) := by omega
    clear hdig hul hz hn1 hn2 hro1 hro2 hfin hu' hu hx hy hcx hcy hv hdr hdr2 hcl hro hdc hon
    go_wp2_with fail
    go_region
    go_wp2
    exact ⟨⟨i + 1, by omega, by go_num, HFIN.out⟩, by simp [intOf]; omega⟩
   have hdr2 : dv 18446744073709551616 (lX.drop i) = x + 18446744073709551616 * (0 + 18446744073709551616 * 0) := by
    rw [dv_drop hx, dv_drop_out (by rw [HM.out.2.1]; omega)]
   obtain ⟨hdig, hul⟩ := shift_digit hr64 hxl hdr2
   rw [hu, Nat.zero_mul, Nat.zero_mod, Nat.add_zero] at hdig
   rw [hu] at hul
   have hul2 : u < 18446744073709551616 := by
    have := Nat.pow_le_pow_right (show 0 < 2 by omega) (show 64 - r <= 64 by omega)
    omega
   obtain ⟨hn1, hn2⟩ := down_step hcl hx HM.out.1 hdX hv hdr hdig
   have hfin : DownRel w g preX post lX N (i + 1) (wr.setCell ⟨g, P0 + i, none⟩ (.int .u64 (u : Int))) :=
    ⟨cur.set i u, by rw [List.length_set]; exact hcl, hro1, hdc.set_ i hul2, hn1, hn2, hon.setCell _ rfl _⟩
   have HFIN := lh hfin
   have k10 : ¬ (i : Int) + 1 < (p : Int) := by omega
   clear hdig hul hn1 hn2 hro1 hfin hu' hu hx hcx hv hdr hdr2 hcl hro hdc hon
   go_wp2
   exact ⟨⟨i + 1, by omega, by go_num, HFIN.out⟩, by simp [intOf]; omega⟩
  obtain rfl : i = p := by omega
  have hcp : cur.length = i := by rw [hcl]; exact HM.out.2.1
  have hNl : N < 18446744073709551616 ^ i := by
   have h1 := dv_lt hdX
   rw [HM.out.2.1] at h1
   rw [<- HM.out.1]
   exact Nat.lt_of_le_of_lt (Nat.div_le_self _ _) h1
  rw [Nat.mod_eq_of_lt hNl, List.take_of_length_le (by omega)] at hv
  have hw := words_dv cur hdc
  rw [hv] at hw
  have hrd := win_reads hro
  rw [hcp, HM.out.2.2] at hrd
  have htr := whole_trim (some ⟨g, P0, none⟩) i cX (g + 1) cur wr hrd (by omega) (by omega)
  have htk := trimL_take cur
  have htl := trimL_len cur
  rw [<- hw] at htr htk htl
  have hfin : Win wr g (.slice (some ⟨g, P0, none⟩) (words N).length cX) (words N) := by
   refine ⟨cX, preX, cur.drop (words N).length ++ post, by rw [HM.out.2.2], by omega, by omega, ?_⟩
   have e : preX ++ words N ++ (cur.drop (words N).length ++ post) = preX ++ cur ++ post := by
    conv => lhs; lhs; rhs; rw [htk]
    rw [List.append_assoc, <- List.append_assoc (List.take _ _), List.take_append_drop, List.append_assoc]
   rw [e]
   exact hro
  have HFIN := lh (And.intro hfin hon)
  have HTR := lh htr
  clear hfin hon htr htk htl hrd hw hv hNl hcp hcl hro hdc hdr
  go_wp2_with fail
  refine HTR.out.mono ?_
  rintro e w2 ⟨rfl, rfl⟩
  go_wp2
  go_ret
  exact ⟨_, rfl, HFIN.out.1, HFIN.out.2⟩
theorem Only.exc {g : Nat} {w w' : World} (h : Only g w w') : Exc g w w' := ⟨h.os, h.tape, h.output, h.size, h.block⟩
def SubWRel (w : World) (g p : Nat) (pre post lY : List Nat) (a k c' : Nat) (wr : World) : Prop :=
 ∃ cur : List Nat, cur.length = p /\ Row wr g 50 u64v (pre ++ cur ++ post) /\ Dig 18446744073709551616 cur /\ dv 18446744073709551616 cur + dv 18446744073709551616 (lY.take k) = a + c' * 18446744073709551616 ^ k /\ Only g w wr
theorem whole_subtract (g : Nat) (v : Value) (a b n' c' B : Nat) (A' : Option Addr) (w : World) (h : Win w g v (words a)) (h' : Reads w B 1 A' n' ((words b).map u64v)) (hB : B <= w.heap.size) (hne : ∀ ad, A' = some ad -> ad.block ≠ g) (hle : b <= a) :
  Calls Tryz.prog 148 #[v, .slice A' n' c'] w fun e w' => ∃ v', e = .returned v' /\ Win w' g v' (words (a - b)) /\ Only g w w' := by
 obtain ⟨c, pre, post, rfl, hlc, hc, hr⟩ := h
 have hlen : (words b).length <= (words a).length := by
  rcases Nat.lt_or_ge (words a).length (words b).length with h | h
  ·have := words_longer h
   omega
  exact h
 have hdX := words_dig a
 have hdY := words_dig b
 have hva := dv_words a
 have hvb := dv_words b
 have hly := h'.lenf
 generalize words a = lX at *
 generalize words b = lY at *
 obtain ⟨p, hp⟩ : ∃ p, lX.length = p := ⟨_, rfl⟩
 obtain ⟨P0, hP0⟩ : ∃ P0, pre.length = P0 := ⟨_, rfl⟩
 rw [hp] at hlen hlc ⊢
 rw [hP0]
 rw [hly] at hlen
 have HP := lh (And.intro hp (And.intro hly hP0))
 have HV := lh (And.intro hva hvb)
 clear hva hvb hly hP0
 go_enter Tryz.func148, Tryz.ntmps148
 go_wp2_with fail
 go_loopw [5, 10] (fun c i wr => ∃ k c' : Nat, k <= p /\ c' <= 1 /\ i = .int .i64 k /\ c = .int .u64 c' /\ SubWRel w g p pre post lY a k c' wr) (fun _ i _ => p - (intOf i).toNat)
 case atStart => exact ⟨0, 0, Nat.zero_le _, Nat.zero_le _, rfl, rfl, lX, hp, hr, hdX, by simp [dv]; exact HV.out.1, Only.refl _ _⟩
 case round =>
  obtain ⟨k, c1, hk, hc1, rfl, rfl, l, hl, ho, hd, hdv, hon⟩ := hrel
  clear hp hr hdX
  have HL := lh hl
  have HDV := lh hdv
  have hr2 := h'.exc hon.exc hB hne
  clear hl hdv
  by_cases hlt2 : k < p
  ·obtain ⟨x, hx⟩ : ∃ x, l[k]? = some x := ⟨_, List.getElem?_eq_getElem (by rw [HL.out]; exact hlt2)⟩
   have hcx := win_cell ho hx
   have hfx := win_frozen ho k
   rw [add_off, HP.out.2.2] at hcx hfx
   have hk2 : (k : Int) < (p : Int) := by omega
   obtain ⟨y, hy1, hy2⟩ : ∃ y : Nat, (lY[k]? = some y \/ (n' <= k /\ y = 0)) /\ y < 18446744073709551616 := by
    by_cases hkq : k < n'
    ·obtain ⟨y, hy⟩ : ∃ y, lY[k]? = some y := ⟨_, List.getElem?_eq_getElem (by rw [HP.out.2.1]; exact hkq)⟩
     exact ⟨y, .inl hy, hdY.get hy⟩
    exact ⟨0, .inr ⟨by omega, rfl⟩, by omega⟩
   have hxl := hd.get hx
   obtain ⟨S, hS⟩ : ∃ S, (x + 18446744073709551616 - y - c1) % 18446744073709551616 = S := ⟨_, rfl⟩
   obtain ⟨C, hC⟩ : ∃ C, (if x < y + c1 then 1 else 0) = C := ⟨_, rfl⟩
   have hSl : S < 18446744073709551616 := by omega
   have hC1 : C <= 1 := by rw [<- hC]; split <;> omega
   have hSC : S + y + c1 = x + 18446744073709551616 * C := by
    rw [<- hC]
    split <;> omega
   have hsub : ∀ w, (callFunc 166 #[.int .u64 (x : Int), .int .u64 (y : Int), .int .u64 (c1 : Int)]).run Tryz.prog w = .ok (.value (.tuple #[.int .u64 (S : Int), .int .u64 (C : Int)])) w := fun w => by
    have := run_sub x y c1 hc1 w
    rw [hS, hC] at this
    exact this
   have htk : dv 18446744073709551616 (lY.take (k + 1)) = dv 18446744073709551616 (lY.take k) + y * 18446744073709551616 ^ k := by
    rcases hy1 with hy1 | ⟨hy1, rfl⟩
    ·exact dv_take_succ hy1
    rw [dv_take_out (by rw [HP.out.2.1]; omega), dv_take_out (by rw [HP.out.2.1]; omega)]
    omega
   have hnew := sub_step (s := S) (c' := C) (b := y) hx hSC HDV.out
   rw [<- htk] at hnew
   have hst := win_set ho S (j := k) (by rw [HL.out]; exact hlt2)
   rw [add_off, HP.out.2.2] at hst
   have hfin : SubWRel w g p pre post lY a (k + 1) C (wr.setCell ⟨g, P0 + k, none⟩ (.int .u64 (S : Int))) :=
    ⟨l.set k S, by rw [List.length_set]; exact HL.out, hst, hd.set_ k hSl, hnew, hon.setCell _ rfl _⟩
   have HFIN := lh hfin
   clear hS hC hx htk hnew hst hfin ho hd hSC hon
   rcases hy1 with hy1 | ⟨hy1, rfl⟩
   ·have hkq : k < n' := by rw [<- HP.out.2.1]; exact (List.getElem?_eq_some_iff.1 hy1).1
    obtain ⟨ad, y', hAY, _, hy', hcy⟩ := hr2.atf hkq
    rw [hy1] at hy'
    obtain rfl : y = y' := by simpa using hy'
    have hkq2 : (k : Int) < (n' : Int) := by omega
    unfold u64v at hcy
    clear hy' hy1 hr2 h'
    subst hAY
    go_wp2
    exact ⟨⟨k + 1, C, by omega, hC1, by go_num, rfl, HFIN.out⟩, by simp [intOf]; omega⟩
   have hkq2 : ¬ (k : Int) < (n' : Int) := by omega
   have hsub0 : ∀ w, (callFunc 166 #[.int .u64 (x : Int), .int .u64 0, .int .u64 (c1 : Int)]).run Tryz.prog w = .ok (.value (.tuple #[.int .u64 (S : Int), .int .u64 (C : Int)])) w := hsub
   clear hr2 hsub h'
   go_wp2
   exact ⟨⟨k + 1, C, by omega, hC1, by go_num, rfl, HFIN.out⟩, by simp [intOf]; omega⟩
  obtain rfl : k = p := by omega
  have hfull := HDV.out
  rw [dv_take_out (by rw [HP.out.2.1]; omega), HV.out.2] at hfull
  have hlt3 := dv_lt hd
  rw [HL.out] at hlt3
  have hc0' : c1 = 0 := by
   rcases Nat.lt_or_ge c1 1 with h | h
   ·omega
   obtain rfl : c1 = 1 := by omega
   omega
  subst hc0'
  have e : dv 18446744073709551616 l = a - b := by omega
  have hw := words_dv l hd
  rw [e] at hw
  have hrd := win_reads ho
  rw [HL.out, HP.out.2.2] at hrd
  have htr := whole_trim (some ⟨g, P0, none⟩) k c (g + 1) l wr hrd (by omega) (by omega)
  have htk := trimL_take l
  have htl := trimL_len l
  rw [HL.out] at htl
  rw [<- hw] at htr htk htl
  have hfin : Win wr g (.slice (some ⟨g, P0, none⟩) (words (a - b)).length c) (words (a - b)) := by
   refine ⟨c, pre, l.drop (words (a - b)).length ++ post, by rw [HP.out.2.2], by omega, by omega, ?_⟩
   have e : pre ++ words (a - b) ++ (l.drop (words (a - b)).length ++ post) = pre ++ l ++ post := by
    conv => lhs; lhs; rhs; rw [htk]
    rw [List.append_assoc, <- List.append_assoc (List.take _ _), List.take_append_drop, List.append_assoc]
   rw [e]
   exact ho
  have HFIN := lh (And.intro hfin hon)
  have HTR := lh htr
  clear hfin hon htr htk htl hrd hw hfull ho hd hr2 h' e
  go_wp2_with fail
  refine HTR.out.mono ?_
  rintro e w2 ⟨rfl, rfl⟩
  go_wp2
  go_ret
  exact ⟨_, rfl, HFIN.out.1, HFIN.out.2⟩
def NumRel (w : World) (a g N : Nat) (i : Nat) (wr : World) : Prop :=
 Row wr g 5 u8v (List.replicate (N - i) 0 ++ lowBytes a i) /\ Below w.heap.size w wr
theorem words_bytes (a : Nat) : a < 256 ^ (8 * (words a).length) := by
 have h := dv_lt (words_dig a)
 rw [dv_words] at h
 rw [Nat.pow_mul]
 exact h
theorem whole_number (A : Option Addr) (n c B a : Nat) (w : World) (h : Reads w B 1 A n ((words a).map u64v)) (hB : B <= w.heap.size) (hn : n <= 17179869185) :
  Calls Tryz.prog 149 #[.slice A n c] w (Ret (natV a) w) := by
 have hln := h.lenf
 obtain ⟨N, hN⟩ : ∃ N, 8 * n = N := ⟨_, rfl⟩
 have hN2 : (8 : Int) * (n : Int) = (N : Int) := by omega
 have hmk := make_row (P := Tryz.prog) u8v 0 157 5 1 Tryz.underlying157 Tryz.infoU8 rfl .i64 .i64 N (by omega) (by omega)
 have hNb : N <= 1099511627776 := by omega
 have hNl : beVal (lowBytes a N) = a := by
  rw [beVal_lowBytes, Nat.mod_eq_of_lt]
  have := words_bytes a
  rw [hln, hN] at this
  exact this
 have HN := lh (And.intro hN (And.intro hln hNl))
 clear hln hN hNl
 have b0 := Blk.new w 52 #[.int .u64 0, .string ⟨#[]⟩]
 have hB0 := balloc1 w (.cells #[.int .u64 0, .string ⟨#[]⟩] 52)
 have hR := h.alloc hB (.cells #[.int .u64 0, .string ⟨#[]⟩] 52)
 have hZ := lh (show (w.alloc (.cells #[.int .u64 0, .string ⟨#[]⟩] 52)).heap.size = w.heap.size + 1 from by simp)
 go_enter Tryz.func149, Tryz.ntmps149
 go_wp2_with fail
 generalize w.alloc (.cells #[.int .u64 0, .string ⟨#[]⟩] 52) = W at *
 have hrow := Row.rep W 5 u8v 0 N
 have hbel := balloc1 W (.cells (Array.replicate N (u8v 0)) 5)
 obtain ⟨g, hg⟩ : ∃ g, w.heap.size + 1 = g := ⟨_, rfl⟩
 rw [hZ.out, hg] at hrow
 rw [hg]
 have hgW : W.heap.size <= g := by have := hZ.out; omega
 have hBg : B <= W.heap.size := by have := hZ.out; omega
 have hb0 := b0.lt
 clear hg hmk hN2 h
 go_loopw [4, 11] (fun _ i wr => ∃ k : Nat, k <= N /\ i = .int .i64 k /\ NumRel W a g N k wr) (fun _ i _ => N - (intOf i).toNat)
 case atStart => exact ⟨0, Nat.zero_le _, rfl, by simpa [lowBytes] using hrow, hbel⟩
 case round =>
  obtain ⟨i, hi, rfl, h1, h2⟩ := hrel
  clear hrow hbel
  have hR2 := hR.below (h2.mono hBg)
  by_cases hlt : i < N
  ·have hi8 : i / 8 < n := by have := HN.out.1; omega
   obtain ⟨ad, x, hA, hb, hx, hcx⟩ := hR2.atf hi8
   have e1 := byte_word a i x hx
   obtain ⟨y, hy⟩ : ∃ y, byteAt a i = y := ⟨_, rfl⟩
   rw [hy] at e1
   have hcell := h1.cell (k := N - 1 - i) (x := 0) (by rw [List.getElem?_append_left (by simp; omega), List.getElem?_replicate]; simp; omega)
   have hfz := h1.frozen (N - 1 - i)
   have hnx := h1.set_ (N - 1 - i) y
   rw [<- hy, low_set a N i hlt, hy] at hnx
   have hfin : NumRel W a g N (i + 1) (wr.setCell ⟨g, N - 1 - i, none⟩ (u8v y)) := ⟨hnx, h2.setCell hgW _⟩
   have HFIN := lh hfin
   unfold u64v at hcx
   unfold u8v at hcell
   have k1 : ((N : Int) - 1 - (i : Int)).toNat = N - 1 - i := by omega
   have k2 : (0 : Int) <= (N : Int) - 1 - (i : Int) := by omega
   have k3 : (N : Int) - 1 - (i : Int) < (N : Int) := by omega
   have k4 : ((i : Int) / 8) < (n : Int) := by omega
   clear hy hx hnx hfin h1 h2 hR2 hR
   subst hA
   go_wp2
   exact ⟨⟨i + 1, by omega, by go_num, HFIN.out⟩, by simp [intOf]; omega⟩
  obtain rfl : i = N := by omega
  rw [Nat.sub_self, List.replicate_zero, List.nil_append] at h1
  have hrd := h1.reads
  rw [lowBytes_len] at hrd
  have hfb := nat_fromBytes (some ⟨g, 0, none⟩) i i (g + 1) (lowBytes a i) wr hrd h1.lt (by omega)
  rw [HN.out.2.2] at hfb
  have HFB := lh hfb
  have b0 := b0.below h2 b0.lt
  have hB2 := bthen hB0 h2
  clear hfb hrd h1 h2 hR2 hR hB0
  go_wp2_with fail
  refine HFB.out.mono ?_
  rintro e w3 ⟨rfl, hb3⟩
  have hB3 := bthen hB2 hb3
  (try clear b0q0 b0q1 b0f0 b0f1 b0s0 b0s1); have b0 := b0.below hb3 b0.lt; obtain ⟨b0q0, b0q1, b0f0, b0f1, b0s0, b0s1⟩ := b0.f2
  unfold natV
  go_wp2
  refine bodyPost_ret (v := .agg #[.int .u64 (lo a : Int), .string (mo a)]) (by simp [results, Tryz.results149, go_sem, b0s0, b0s1]) rfl ?_
  exact ⟨rfl, bset2 hB3 (by omega) _ _⟩
def Tab (w : World) : Prop := TabAt 2 Lib.deBruijn64tab w
theorem Tab.lt {w : World} (h : Tab w) : 2 < w.heap.size := cell_lt (h 0 (by decide))
theorem Tab.below {w w' : World} {B : Nat} (h : Tab w) (hb : Below B w w') (hB : 2 < B) : Tab w' := fun i hi => by
 rw [hb.cell (p := ⟨2, i, none⟩) hB]
 exact h i hi
theorem Tab.next {w w' : World} (h : Tab w) (hb : Below w.heap.size w w') : Tab w' := h.below hb h.lt
theorem Tab.only {w w' : World} {g : Nat} (h : Tab w) (hb : Only g w w') (hg : 2 ≠ g) : Tab w' := fun i hi => by
 rw [World.cell?_of_block (hb.block _ h.lt hg)]
 exact h i hi
theorem Win.below {w w' : World} {g B : Nat} {v : Value} {l : List Nat} (h : Win w g v l) (hb : Below B w w') (hg : g < B) : Win w' g v l := by
 obtain ⟨c, pre, post, h1, h2, h3, h4⟩ := h
 exact ⟨c, pre, post, h1, h2, h3, h4.below hb hg⟩
theorem Win.lt {w : World} {g : Nat} {v : Value} {l : List Nat} (h : Win w g v l) : g < w.heap.size := by
 obtain ⟨c, pre, post, h1, h2, h3, h4⟩ := h
 exact h4.lt
theorem Win.only {w w' : World} {g k : Nat} {v : Value} {l : List Nat} (h : Win w g v l) (ho : Only k w w') (hk : g ≠ k) : Win w' g v l := by
 obtain ⟨c, pre, post, h1, h2, h3, h4⟩ := h
 exact ⟨c, pre, post, h1, h2, h3, ho.row h4 hk⟩
theorem Win.form {w : World} {g : Nat} {v : Value} {l : List Nat} (h : Win w g v l) : ∃ p c, v = .slice (some ⟨g, p, none⟩) l.length c /\ l.length <= 1099511627776 /\ Reads w w.heap.size 1 (some ⟨g, p, none⟩) l.length (l.map u64v) := by
 obtain ⟨c, pre, post, h1, h2, h3, h4⟩ := h
 exact ⟨pre.length, c, h1, by omega, (win_reads h4).more h4.lt⟩
def ShRel (W : World) (gq N : Nat) (wr : World) : Prop := Blk wr gq 52 #[.int .u64 (lo N : Int), .string (mo N)] /\ Below W.heap.size W wr
theorem sh_step (x T : Nat) (z : Int) (k : Nat) (hz : 0 < z) (hT : z <= T) (hk : (if (65536 : Int) < z then (65536 : Int) else z) = (k : Int)) : x * 2 ^ (T - z.toNat) * 2 ^ k = x * 2 ^ (T - (z - 65536).toNat) := by
 rw [Nat.mul_assoc, <- Nat.pow_add]
 congr 2
 split at hk <;> omega
def BinRel (W : World) (x y : Nat) (v5 v6 : Value) (wr : World) : Prop :=
 ∃ g h, Win wr g v5 (words x) /\ Win wr h v6 (words y) /\ g ≠ h /\ W.heap.size <= g /\ W.heap.size <= h /\ Below W.heap.size W wr
theorem Only.chain {W w w' : World} {g : Nat} (h : Below W.heap.size W w) (ho : Only g w w') (hg : W.heap.size <= g) : Below W.heap.size W w' := h.trans (ho.below hg h.size)
theorem whole_binary (a b : Nat) (w : World) (ha0 : a ≠ 0) (hb0 : b ≠ 0) (ha : blen a <= 549755813888) (hb : blen b <= 549755813888) (hT : Tab w) :
  Calls Tryz.prog 118 #[natV a, natV b] w (Ret (natV (Nat.gcd a b)) w) := by
 have hG := gcd_start a b ha0 hb0
 have hGa : Nat.gcd a b <= a := Nat.gcd_le_left _ (by omega)
 have hGb := blen_mono hGa
 have hwa := lh (fun w => whole_words a w (by omega))
 have hwb := lh (fun w => whole_words b w (by omega))
 have hta := tz_blen a ha0
 have htb := tz_blen b hb0
 obtain ⟨hoa1, hoa2⟩ := odd_spec a ha0
 obtain ⟨hob1, hob2⟩ := odd_spec b hb0
 have hoa3 := blen_mono (odd_le a)
 have hob3 := blen_mono (odd_le b)
 have HG := lh hG
 clear hG hoa1 hob1 hGa
 unfold natV
 unfold natV at hwa hwb
 have b0 := ((Blk.new w  52 #[.int .u64 (lo a : Int), .string (mo a)]).alloc (.cells #[.int .u64 (lo b : Int), .string (mo b)] 52)).alloc (.cells #[.int .u64 0, .string ⟨#[]⟩] 52); have b1 := (Blk.new2 w (.cells #[.int .u64 (lo a : Int), .string (mo a)] 52) 52 #[.int .u64 (lo b : Int), .string (mo b)]).alloc (.cells #[.int .u64 0, .string ⟨#[]⟩] 52); have b2 := Blk.new3 w (.cells #[.int .u64 (lo a : Int), .string (mo a)] 52) (.cells #[.int .u64 (lo b : Int), .string (mo b)] 52) 52 #[.int .u64 0, .string ⟨#[]⟩]; have hB := balloc3 w (.cells #[.int .u64 (lo a : Int), .string (mo a)] 52) (.cells #[.int .u64 (lo b : Int), .string (mo b)] 52) (.cells #[.int .u64 0, .string ⟨#[]⟩] 52); have hZ := lh (show (((w.alloc (.cells #[.int .u64 (lo a : Int), .string (mo a)] 52)).alloc (.cells #[.int .u64 (lo b : Int), .string (mo b)] 52)).alloc (.cells #[.int .u64 0, .string ⟨#[]⟩] 52)).heap.size = w.heap.size + 1 + 1 + 1 from by simp)
 have hTW := hT.next hB
 go_enter Tryz.func118, Tryz.ntmps118
 go_upto_region 1 with fail
 generalize (((w.alloc (.cells #[.int .u64 (lo a : Int), .string (mo a)] 52)).alloc (.cells #[.int .u64 (lo b : Int), .string (mo b)] 52)).alloc (.cells #[.int .u64 0, .string ⟨#[]⟩] 52)) = W at *
 obtain ⟨b0q0, b0q1⟩ := b0.c2; obtain ⟨b1q0, b1q1⟩ := b1.c2
 go_cut [5, 6] (fun v5 v6 wc => BinRel W a b v5 v6 wc)
 case first =>
  have c0 := b0.drew
  have c1 := b1.drew
  go_region_held3 (fun w' => w'.cell? ⟨w.heap.size, 0, none⟩ = some (.int .u64 (lo a : Int)) /\ w'.cell? ⟨w.heap.size, 1, none⟩ = some (.string (mo a)) /\ w'.cell? ⟨w.heap.size + 1, 0, none⟩ = some (.int .u64 (lo b : Int)) /\ w'.cell? ⟨w.heap.size + 1, 1, none⟩ = some (.string (mo b))) (go_keep) (first | (go_at_call_of 144 (Value.agg #[.int .u64 (lo a : Int), .string (mo a)]); refine (hwa.out _).mono ?_; rintro e wa ⟨ga, va, rfl, hna, hga, hba⟩; (try clear c0q0 c0q1); have c0 := c0.below hba c0.lt; obtain ⟨c0q0, c0q1⟩ := c0.c2; (try clear c1q0 c1q1); have c1 := c1.below hba c1.lt; obtain ⟨c1q0, c1q1⟩ := c1.c2) | (go_at_call_of 144 (Value.agg #[.int .u64 (lo b : Int), .string (mo b)]); refine (hwb.out _).mono ?_; rintro e wb ⟨gb, vb, rfl, hnb, hgb, hbb⟩; (try clear c0q0 c0q1); have c0 := c0.below hbb c0.lt; obtain ⟨c0q0, c0q1⟩ := c0.c2; (try clear c1q0 c1q1); have c1 := c1.below hbb c1.lt; obtain ⟨c1q0, c1q1⟩ := c1.c2))
  all_goals
   go_wp2_with fail
   go_meet
   have h1 := hna.lt
   have h2 := (bdrew hba).size
   exact ⟨ga, gb, hna.below hbb h1, hnb, by omega, hga, by omega, bthen (bdrew hba) hbb⟩
 case rest =>
  clear b0q0 b0q1 b1q0 b1q1 b0 b1 hwa hwb
  obtain ⟨g, h, hw5, hw6, hgh, hWg, hWh, hbc⟩ := hcut
  have hT1 := hTW.next hbc
  obtain ⟨p5, c5, hv5, hn5, hr5⟩ := hw5.form
  obtain ⟨p6, c6, hv6, hn6, hr6⟩ := hw6.form
  have z5 := whole_zeros _ _ c5 _ _ wc hr5 hn5 (words_dig a) (by rw [dv_words]; exact ha0) hT1
  have z6 := whole_zeros _ _ c6 _ _ wc hr6 hn6 (words_dig b) (by rw [dv_words]; exact hb0) hT1
  rw [dv_words] at z5 z6
  rw [<- hv5] at z5
  rw [<- hv6] at z6
  have d5 := whole_down g _ _ wc hw5 (words_dig a) (by rw [dv_words]; exact ha0) hT1
  rw [dv_words] at d5
  have D5 := lh d5
  have Z5 := lh z5
  have Z6 := lh z6
  obtain ⟨T, hTT⟩ : ∃ T, min (tz a) (tz b) = T := ⟨_, rfl⟩
  have hmin : (if (tz b : Int) < (tz a : Int) then (tz b : Int) else (tz a : Int)) = (T : Int) := by
   rw [<- hTT]
   split <;> omega
  have hmin2 : min (tz a : Int) (tz b : Int) = (T : Int) := by omega
  have hTb : T <= 549755813888 := by omega
  rw [hTT] at HG
  generalize tz a = ta at *
  generalize tz b = tb at *
  clear d5 z5 z6 hv5 hv6 hr5 hr6 hn5 hn6 hTT
  go_wp2_with fail
  refine Z5.out.mono ?_
  rintro e w1 ⟨rfl, rfl⟩
  go_wp2_with fail
  refine Z6.out.mono ?_
  rintro e w1 ⟨rfl, rfl⟩
  go_wp2_with fail
  refine D5.out.mono ?_
  rintro e w1 ⟨v5, rfl, hw5', ho1⟩
  have hgT : 2 ≠ h := by have := hTW.lt; omega
  have hgT2 : 2 ≠ g := by have := hTW.lt; omega
  have d6 := whole_down h _ _ w1 (hw6.only ho1 (fun e => hgh e.symm)) (words_dig b) (by rw [dv_words]; exact hb0) (hT1.only ho1 hgT2)
  rw [dv_words] at d6
  have D6 := lh d6
  have hbc1 := Only.chain hbc ho1 hWg
  clear d6 D5 Z5 Z6 hw5 hw6
  go_wp2_with fail
  refine D6.out.mono ?_
  rintro e w2 ⟨v6, rfl, hw6', ho2⟩
  have hbc2 := Only.chain hbc1 ho2 hWh
  have hw5'' := hw5'.only ho2 hgh
  have hst : BinRel W (odd a) (odd b) v5 v6 w2 := ⟨g, h, hw5'', hw6', hgh, hWg, hWh, hbc2⟩
  clear D6 hw5' hw5'' hw6' hbc hbc1 hbc2 ho1 ho2 hgT hgT2 hT1 hgh hWg hWh
  go_wp2_with fail
  generalize odd a = oa at *
  generalize odd b = ob at *
  obtain ⟨G, hGG⟩ : ∃ G, Nat.gcd oa ob = G := ⟨_, rfl⟩
  rw [hGG] at HG
  have HGG := lh hGG
  clear hGG
  go_loopg [5, 6, 8] (oa + ob) (fun k v5 v6 _ wr => ∃ x y : Nat, x + y = k /\ x % 2 = 1 /\ y % 2 = 1 /\ Hid (Nat.gcd x y = G) /\ blen x <= 549755813888 /\ blen y <= 549755813888 /\ BinRel W x y v5 v6 wr)
  case atStart => exact ⟨oa, ob, rfl, hoa2, hob2, HGG, by omega, by omega, hst⟩
  case round =>
   obtain ⟨x, y, hk, hx, hy, hg, hxb, hyb, g, h, hw5, hw6, hgh, hWg, hWh, hbc⟩ := hrel
   have HK := lh hk
   clear hk hst HGG
   have hT1 := hTW.next hbc
   obtain ⟨p5, c5, hv5, hn5, hr5⟩ := hw5.form
   obtain ⟨p6, c6, hv6, hn6, hr6⟩ := hw6.form
   have cm := whole_compare _ _ _ c5 _ c6 _ x y wr hr5 hr6 hn5 hn6
   rw [<- hv5, <- hv6] at cm
   have CM := lh cm
   clear cm hv5 hv6 hr5 hr6 hn5 hn6
   by_cases hxy : x = y
   ·subst hxy
    rw [cmpI_eq] at CM
    rw [Nat.gcd_self] at hg
    obtain rfl : x = G := hg.out
    have hxw := words_len_b x (by omega)
    clear hg hw6 hgh hWh hy hyb HK
    go_wp2_with fail
    refine CM.out.mono ?_
    rintro e w1 ⟨rfl, hb1⟩
    have hw5b := hw5.below hb1 hw5.lt
    obtain ⟨p, c, hv, hn, hr⟩ := hw5b.form
    have nm := whole_number _ _ c _ x w1 hr zd hxw
    rw [<- hv] at nm
    have NM := lh nm
    clear nm hv hr hn hw5 hw5b CM
    go_wp2_with fail
    refine NM.out.mono ?_
    rintro e w2 ⟨rfl, hb2⟩
    have hbc2 := bthen (bthen hbc hb1) hb2
    have b2 := b2.below hbc2 b2.lt
    unfold natV
    go_wp2_with fail
    have bq := Blk.new w2 52 #[.int .u64 (lo x : Int), .string (mo x)]
    have b2 := b2.alloc (.cells #[.int .u64 (lo x : Int), .string (mo x)] 52)
    have hbc3 := bthen hbc2 (balloc1 w2 (.cells #[.int .u64 (lo x : Int), .string (mo x)] 52))
    have hqW : W.heap.size <= w2.heap.size := hbc2.size
    obtain ⟨gq, hgq⟩ : ∃ gq, w2.heap.size = gq := ⟨_, rfl⟩
    rw [hgq] at bq hqW
    rw [hgq]
    clear hb2 hbc2 NM hb1 hbc hgq hT1 hWg
    generalize w2.alloc (.cells #[.int .u64 (lo x : Int), .string (mo x)] 52) = w3 at *
    have hst : ShRel W gq (x * 2 ^ (T - (T : Int).toNat)) w3 := by
     rw [Int.toNat_natCast, Nat.sub_self, Nat.pow_zero, Nat.mul_one]
     exact ⟨bq, hbc3⟩
    clear bq hbc3
    have b2lt : w.heap.size + 1 + 1 < W.heap.size := by have := hZ.out; omega
    have hB2 : Blk W (w.heap.size + 1 + 1) 52 #[.int .u64 0, .string ⟨#[]⟩] := by assumption
    go_loopw [7] (fun t wr => ∃ z : Int, z <= T /\ -65536 <= z /\ t = .int .i64 z /\ ShRel W gq (x * 2 ^ (T - z.toNat)) wr) (fun t _ => (intOf t).toNat)
    case atStart => exact ⟨T, by omega, by omega, rfl, hst⟩
    case round =>
     obtain ⟨z, hzT, hz0, rfl, hbk, hbw⟩ := hrel
     clear hst b2
     by_cases hz : 0 < z
     ·obtain ⟨k, hk⟩ : ∃ k : Nat, (if (65536 : Int) < z then (65536 : Int) else z) = (k : Int) := by
       split
       ·exact ⟨65536, rfl⟩
       exact ⟨z.toNat, by omega⟩
      have hk2 : k <= 65536 := by split at hk <;> omega
      have hst := sh_step x T z k hz hzT hk
      have hNb : blen (x * 2 ^ (T - z.toNat)) <= 549755813888 := by
       refine nt (blen_mono ?_) (nt hGb ha)
       rw [HG.out]
       exact Nat.mul_le_mul_left _ (Nat.pow_le_pow_right (by omega) (by omega))
      have sh := nat_shift_up (x * 2 ^ (T - z.toNat)) k wr (by omega) hk2
      rw [hst] at sh
      unfold natV at sh
      have SH := lh sh
      clear sh hst hNb
      generalize x * 2 ^ (T - z.toNat) = N at *
      generalize hN2 : x * 2 ^ (T - (z - 65536).toNat) = N2 at *
      have HN2 := lh hN2
      clear hN2
      obtain ⟨hbkq0, hbkq1⟩ := hbk.c2
      have hk3 : min z 65536 = (k : Int) := by rw [<- hk]; split <;> omega
      go_wp2_with fail
      refine SH.out.mono ?_
      rintro e w4 ⟨rfl, hb4⟩
      have hbw4 := bthen hbw hb4
      (try clear hbkq0 hbkq1 hbkf0 hbkf1 hbks0 hbks1); have hbk := hbk.below hb4 hbk.lt; obtain ⟨hbkq0, hbkq1, hbkf0, hbkf1, hbks0, hbks1⟩ := hbk.f2
      go_wp2_with fail
      refine ⟨⟨z - 65536, by omega, by omega, rfl, ?_⟩, by simp [intOf]; omega⟩
      rw [HN2.out]
      have h9 := (hbk.set_ 0 (.int .u64 (lo N2 : Int))).set_ 1 (.string (mo N2))
      exact ⟨by simpa using h9, bset2 hbw4 hqW _ _⟩
     have e0 : z.toNat = 0 := by omega
     rw [e0, Nat.sub_zero, <- HG.out] at hbk
     have b2 := hB2.below hbw b2lt
     obtain ⟨hbkq0, hbkq1⟩ := hbk.c2
     obtain ⟨b2q0, b2q1, b2f0, b2f1, b2s0, b2s1⟩ := b2.f2
     have hBf := bthen hB hbw
     have n1 : ¬ gq = w.heap.size + 1 + 1 := by omega
     have n2 : ¬ w.heap.size + 1 + 1 = gq := by omega
     generalize Nat.gcd a b = GG at *
     clear e0
     go_wp2
     refine bodyPost_ret (v := .agg #[.int .u64 (lo GG : Int), .string (mo GG)]) (by simp [results, Tryz.results118, go_sem, b2s0, b2s1]) rfl ?_
     exact ⟨rfl, bset2 hBf (by omega) _ _⟩
   have hk2 : Hid (x + y = gk) := HK
   rcases Nat.lt_or_ge x y with hlt | hge
   ·rw [cmpI_lt hlt] at CM
    have hneg : ((-1 : Int) < 0) := by omega
    go_wp2_with fail
    refine CM.out.mono ?_
    rintro e w1 ⟨rfl, hb1⟩
    have hw5b := hw5.below hb1 hw5.lt
    have hw6b := hw6.below hb1 hw6.lt
    have hbc1 := bthen hbc hb1
    obtain ⟨p5, c5, hv5, hn5, hr5⟩ := hw5b.form
    have sb := whole_subtract h _ y x _ c5 _ _ w1 hw6b hr5 zd (fun ad he => by cases he; exact hgh) (by omega)
    rw [<- hv5] at sb
    have SB := lh sb
    clear sb hv5 hn5 hr5 CM hw5 hw6 hbc hb1
    go_wp2_with fail
    refine SB.out.mono ?_
    rintro e w2 ⟨v', rfl, hwv, ho⟩
    have hbc2 := Only.chain hbc1 ho hWh
    have hw5c := hw5b.only ho hgh
    have hd0 : y - x ≠ 0 := by omega
    have dn := whole_down h _ _ w2 hwv (words_dig _) (by rw [dv_words]; exact hd0) (hTW.next hbc2)
    rw [dv_words] at dn
    have DN := lh dn
    clear dn SB hw6b hw5b hbc1 ho
    go_wp2_with fail
    refine DN.out.mono ?_
    rintro e w3 ⟨v'', rfl, hwd, ho3⟩
    have hbc3 := Only.chain hbc2 ho3 hWh
    have hw5d := hw5c.only ho3 hgh
    obtain ⟨r1, r2, r3⟩ := gcd_round hlt hy hx
    have hfin : ∃ x' y' : Nat, x' + y' < gk /\ x' % 2 = 1 /\ y' % 2 = 1 /\ Hid (Nat.gcd x' y' = G) /\ blen x' <= 549755813888 /\ blen y' <= 549755813888 /\ BinRel W x' y' v'' _ w3 :=
     ⟨odd (y - x), x, by have := HK.out; omega, r2, hx, lh (by rw [r1, Nat.gcd_comm]; exact hg.out), by have := blen_mono (show odd (y - x) <= y from nt (odd_le _) (by omega)); omega, hxb, h, g, hwd, hw5d, fun e => hgh e.symm, hWh, hWg, hbc3⟩
    obtain ⟨x', y', q1, q2⟩ := hfin
    have Q2 := lh q2
    clear q2 DN r1 r2 r3 hwd hw5d hw5c hwv hbc2 hbc3 ho3 hd0
    go_wp2_with fail
    go_roundg (x' + y')
    case rel => exact ⟨x', y', rfl, Q2.out⟩
    case measure => exact q1
   rw [cmpI_gt (show y < x by omega)] at CM
   go_wp2_with fail
   refine CM.out.mono ?_
   rintro e w1 ⟨rfl, hb1⟩
   have hw5b := hw5.below hb1 hw5.lt
   have hw6b := hw6.below hb1 hw6.lt
   have hbc1 := bthen hbc hb1
   obtain ⟨p6, c6, hv6, hn6, hr6⟩ := hw6b.form
   have sb := whole_subtract g _ x y _ c6 _ _ w1 hw5b hr6 zd (fun ad he => by cases he; exact fun e => hgh e.symm) (by omega)
   rw [<- hv6] at sb
   have SB := lh sb
   clear sb hv6 hn6 hr6 CM hw5 hw6 hbc hb1
   go_wp2_with fail
   refine SB.out.mono ?_
   rintro e w2 ⟨v', rfl, hwv, ho⟩
   have hbc2 := Only.chain hbc1 ho hWg
   have hw6c := hw6b.only ho (fun e => hgh e.symm)
   have hd0 : x - y ≠ 0 := by omega
   have dn := whole_down g _ _ w2 hwv (words_dig _) (by rw [dv_words]; exact hd0) (hTW.next hbc2)
   rw [dv_words] at dn
   have DN := lh dn
   clear dn SB hw5b hw6b hbc1 ho
   go_wp2_with fail
   refine DN.out.mono ?_
   rintro e w3 ⟨v'', rfl, hwd, ho3⟩
   have hbc3 := Only.chain hbc2 ho3 hWg
   have hw6d := hw6c.only ho3 (fun e => hgh e.symm)
   obtain ⟨r1, r2, r3⟩ := gcd_round (show y < x by omega) hx hy
   have hfin : ∃ x' y' : Nat, x' + y' < gk /\ x' % 2 = 1 /\ y' % 2 = 1 /\ Hid (Nat.gcd x' y' = G) /\ blen x' <= 549755813888 /\ blen y' <= 549755813888 /\ BinRel W x' y' v'' _ w3 :=
    ⟨odd (x - y), y, by have := HK.out; omega, r2, hy, lh (by rw [r1]; exact hg.out), by have := blen_mono (show odd (x - y) <= x from nt (odd_le _) (by omega)); omega, hyb, g, h, hwd, hw6d, hgh, hWg, hWh, hbc3⟩
   obtain ⟨x', y', q1, q2⟩ := hfin
   have Q2 := lh q2
   clear q2 DN r1 r2 r3 hwd hw6d hw6c hwv hbc2 hbc3 ho3 hd0
   go_wp2_with fail
   go_roundg (x' + y')
   case rel => exact ⟨x', y', rfl, Q2.out⟩
   case measure => exact q1
end Go.Proofs.YtecnjlcfoobepaaGreatDoor
