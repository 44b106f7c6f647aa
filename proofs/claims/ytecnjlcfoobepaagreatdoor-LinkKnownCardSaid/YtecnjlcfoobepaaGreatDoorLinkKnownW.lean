import Derived.Test.YtecnjlcfoobepaaGreatDoorLinkGrp
namespace Go.Proofs.YtecnjlcfoobepaaGreatDoor
open Go.RowKit
set_option linter.unusedSimpArgs false
set_option linter.unusedVariables false
theorem known_build2 : buildJ 2 (farsQ knownL) = [⟨0, 1, 2, 1⟩, ⟨2, 3, 3, 9⟩] := by kernel_rfl
theorem known_build3 : buildJ 3 (farsQ knownL) = [⟨0, 1, 2, 1⟩, ⟨2, 3, 3, Rat.divInt 13 2⟩] := by kernel_rfl
theorem known_far : FarF (farsQ knownL) := ⟨known_check, by decide, by decide, fun l hl x hx => (fars_QS (m := 2) (wd := 1) known_QS (by omega) (by
  have h : ∀ a ∈ knownL, a.length = 1 := by decide
  exact h) l hl x hx).mono (by omega)⟩
def known2 : List Jn := [⟨0, 1, 2, 1⟩, ⟨2, 3, 3, 9⟩]
theorem known_lj : LJ (farsQ knownL) 2 known2 := by
 have h := lj_of 2 known_far
 rw [known_build2] at h
 exact h
theorem known_cut {d : Nat} (h1 : d ≤ 2) (h2 : ∀ i, i < d → (known2.getD i default).high ≤ ((8 : Int) : Rat)) (h3 : d < 2 → ¬ (known2.getD d default).high ≤ ((8 : Int) : Rat)) : d = 1 := by
 rcases Nat.lt_or_ge d 1 with h | h
 ·obtain rfl : d = 0 := by omega
  exact absurd (show (1 : Rat) ≤ ((8 : Int) : Rat) from of_decide_eq_true (by kernel_rfl)) (h3 (by omega))
 ·rcases Nat.lt_or_ge d 2 with h4 | h4
  ·omega
  ·obtain rfl : d = 2 := by omega
   exact absurd (h2 1 (by omega)) (show ¬ (9 : Rat) ≤ ((8 : Int) : Rat) from of_decide_eq_false (by kernel_rfl))
theorem known_g1 : groupsZ 3 (fun i => known2.getD i default) 1 = [0, 0, 1] := by kernel_rfl
theorem known_g0 : groupsZ 3 (fun i => known2.getD i default) 0 = [0, 1, 2] := by kernel_rfl
theorem zero_build : buildJ 1 [[((0 : Int) : Rat)]] = [] := by kernel_rfl
theorem zero_check : checkFar [[((0 : Int) : Rat)]] = 0 := by kernel_rfl
theorem fine_1 : fineB 1 [] = true := fineB_true (by omega) (by omega) rfl (fun k hk => absurd hk (Nat.not_lt_zero _))
theorem fine_2 : fineB 2 [] = false := fineB_len (by decide)
theorem one_row (w : World) (a : Rat) : OwnQQ ((w.alloc (.cells #[.bool (decide (a.num < 0)), .int .u64 (lo a.num.natAbs : Int), .string (mo a.num.natAbs), .int .u64 (lo ((qden a)) : Int), .string (mo ((qden a)))] 56)).alloc (.cells #[.slice (some ⟨w.heap.size, 0, none⟩) 1 1] 73)) (.slice (some ⟨w.heap.size + 1, 0, none⟩) 1 1) [[a]] := by
 have o1 := ownQ_one w a
 have hl := Own.lit (w.alloc (.cells #[.bool (decide (a.num < 0)), .int .u64 (lo a.num.natAbs : Int), .string (mo a.num.natAbs), .int .u64 (lo ((qden a)) : Int), .string (mo ((qden a)))] 56)) 73 SW.v [(⟨some ⟨w.heap.size, 0, none⟩, 1, 1⟩ : SW)] (by unfold maxLen; simp)
 rw [World.size_alloc] at hl
 have ha := balloc1 (w.alloc (.cells #[.bool (decide (a.num < 0)), .int .u64 (lo a.num.natAbs : Int), .string (mo a.num.natAbs), .int .u64 (lo ((qden a)) : Int), .string (mo ((qden a)))] 56)) (.cells #[.slice (some ⟨w.heap.size, 0, none⟩) 1 1] 73)
 refine ⟨_, hl, rfl, fun i r b' hr hb' => ?_⟩
 match i, hr, hb' with
 | 0, hr, hb' =>
  obtain rfl := Option.some.inj hr
  obtain rfl := Option.some.inj hb'
  exact OwnW.next o1 ha
 | n + 1, hr, hb' => simp at hr
theorem lit3 (w : World) (a b c : Nat) : Reads (w.alloc (.cells #[.int .i64 (a : Int), .int .i64 (b : Int), .int .i64 (c : Int)] 3)) (w.heap.size + 1) 1 (some ⟨w.heap.size, 0, none⟩) 3 ([a, b, c].map iv) := by
 have h := (Own.lit w 3 iv [a, b, c] (by unfold maxLen; simp)).reads
 rw [World.size_alloc] at h
 exact h
theorem own3 {w : World} {A : Option Addr} {c' : Nat} {a b c : Nat} (h : Own w 3 zi (.slice A 3 c') [(a : Int), (b : Int), (c : Int)]) : Reads w w.heap.size 1 A 3 ([a, b, c].map iv) := h.reads
theorem bdN (w : World) (k : Nat) : Below w.heap.size w (w.drewN k) := ⟨rfl, rfl, rfl, Nat.le_refl _, fun _ _ => rfl⟩
theorem link_build_bad (A : Option Addr) (n c how : Nat) (w : World) (hh : how = 0 ∨ how = 4) : Calls Tryz.prog 24 #[.slice A n c, .int .i64 (how : Int)] w fun e w' => e = .returned (.tuple #[.slice none 0 0, .int .i64 1]) ∧ w = w' := by
 rcases hh with rfl | rfl
 ·go_enter Tryz.func24, Tryz.ntmps24
  go_wp2
  go_returns
  exact ⟨rfl, rfl⟩
 ·go_enter Tryz.func24, Tryz.ntmps24
  go_wp2
  go_returns
  exact ⟨rfl, rfl⟩
set_option maxRecDepth 100000 in
set_option maxHeartbeats 4000000 in
theorem linkKnown_walk (w : World) (hT : Tab w) : Calls Tryz.prog 9 #[] w (Ret (.bool true) w) := by
 have hof0 := fun w => frac_of 0 w (by omega) (by omega)
 have hof1 := fun w => frac_of 1 w (by omega) (by omega)
 have hof3 := fun w => frac_of 3 w (by omega) (by omega)
 have hof8 := fun w => frac_of 8 w (by omega) (by omega)
 have hfars := fun (B : Nat) (A : Option Addr) (c : Nat) (w' : World) (h : ReadsQQ w' B A 3 knownL) (hB : B ≤ w'.heap.size) (hT : Tab w') => link_fars A 3 c B 2 knownL w' h hB (by omega) (by omega) (by omega) known_QS hT known_learn
 have hq : ∀ l ∈ farsQ knownL, ∀ x ∈ l, QS 47 x := known_far.qs
 have hb2 := fun (A : Option Addr) (c : Nat) (w' : World) (h : OwnQQ w' (.slice A 3 c) (farsQ knownL)) (hT : Tab w') => link_build A 3 c _ 2 (farsQ knownL) w' h (by omega) (by omega) (by omega) hq known_check (Or.inr (Or.inl rfl)) hT
 have hb3 := fun (A : Option Addr) (c : Nat) (w' : World) (h : OwnQQ w' (.slice A 3 c) (farsQ knownL)) (hT : Tab w') => link_build A 3 c _ 3 (farsQ knownL) w' h (by omega) (by omega) (by omega) hq known_check (Or.inr (Or.inr rfl)) hT
 have hb0 := fun (A : Option Addr) (c : Nat) (w' : World) (h : OwnQQ w' (.slice A 1 c) [[((0 : Int) : Rat)]]) (hT : Tab w') => link_build A 1 c 47 1 [[((0 : Int) : Rat)]] w' h (by omega) (by omega) (by omega) (fun l hl x hx => by
   obtain rfl := List.mem_singleton.1 hl
   obtain rfl := List.mem_singleton.1 hx
   exact ⟨Nat.le_of_ble_eq_true (by kernel_rfl), Nat.le_of_ble_eq_true (by kernel_rfl)⟩) zero_check (Or.inl rfl) hT
 rw [known_build2] at hb2
 rw [known_build3] at hb3
 rw [zero_build] at hb0
 have hct := fun (A : Option Addr) (c : Nat) (w' : World) (h : OwnJ w' (.slice A 2 c) known2) (hT : Tab w') => link_cut A 3 2 c 5528 known2 ((8 : Int) : Rat) w' h (by omega) (by omega) (by omega) known_lj.jb hT known_lj.fine rfl ⟨Nat.le_of_ble_eq_true (by kernel_rfl), Nat.le_of_ble_eq_true (by kernel_rfl)⟩
 have hin := fun (A : Option Addr) (c : Nat) (w' : World) (h : OwnJ w' (.slice A 2 c) known2) (hT : Tab w') => link_into A 3 2 c 5528 known2 3 w' h (by omega) (by omega) (by omega) known_lj.jb hT known_lj.fine rfl (by omega) (by omega)
 have hf1 := fun (w' : World) (hT : Tab w') => link_fine none 1 0 0 5528 [] w' (OwnW.nil_ _ _ _ _) (by omega) (by omega) (by omega) (fun j hj => by cases hj) hT
 have hf2 := fun (w' : World) (hT : Tab w') => link_fine none 2 0 0 5528 [] w' (OwnW.nil_ _ _ _ _) (by omega) (by omega) (by omega) (fun j hj => by cases hj) hT
 rw [fine_1] at hf1
 rw [fine_2] at hf2
 have hbad := fun (A : Option Addr) (n c : Nat) (w' : World) => link_build_bad A n c 4 w' (Or.inr rfl)
 have his9 := fun w => hand_is 9 9 1 w (by omega) (by omega) (by omega) (by omega) (by omega) (by kernel_rfl) ⟨Nat.le_of_ble_eq_true (by kernel_rfl), Nat.le_of_ble_eq_true (by kernel_rfl)⟩
 have his13 := fun w => hand_is (Rat.divInt 13 2) 13 2 w (by omega) (by omega) (by omega) (by omega) (by omega) rfl ⟨Nat.le_of_ble_eq_true (by kernel_rfl), Nat.le_of_ble_eq_true (by kernel_rfl)⟩
 have hs1 : ∀ (w : World) (A : Option Addr) (c : Nat), Own w 3 zi (.slice A 3 c) [0, 0, 1] → Calls Tryz.prog 42 #[.slice A 3 c, .slice (some ⟨w.heap.size, 0, none⟩) 3 3] (w.alloc (.cells #[.int .i64 0, .int .i64 0, .int .i64 1] 3)) fun e w' => e = .returned (.bool true) ∧ ∃ k, w' = (w.alloc (.cells #[.int .i64 0, .int .i64 0, .int .i64 1] 3)).drewN k := fun w A c h =>
  same_ints A _ 3 c 3 [0, 0, 1] _ _ _ ((own3 (a := 0) (b := 0) (c := 1) h).alloc (Nat.le_refl _) _) (lit3 w 0 0 1) (by omega)
 have hs2 : ∀ (w : World) (A : Option Addr) (c : Nat), Own w 3 zi (.slice A 3 c) [0, 1, 2] → Calls Tryz.prog 42 #[.slice A 3 c, .slice (some ⟨w.heap.size, 0, none⟩) 3 3] (w.alloc (.cells #[.int .i64 0, .int .i64 1, .int .i64 2] 3)) fun e w' => e = .returned (.bool true) ∧ ∃ k, w' = (w.alloc (.cells #[.int .i64 0, .int .i64 1, .int .i64 2] 3)).drewN k := fun w A c h =>
  same_ints A _ 3 c 3 [0, 1, 2] _ _ _ ((own3 (a := 0) (b := 1) (c := 2) h).alloc (Nat.le_refl _) _) (lit3 w 0 1 2) (by omega)
 have hlen : (farsQ knownL).length = 3 := by decide
 have HROWS : Hid (∀ (w1 w2 w3 : World), Below (w1.alloc (.cells #[.bool (decide ((((0 : Int) : Rat)).num < 0)), .int .u64 (lo (((((0 : Int) : Rat)).num).natAbs) : Int), .string (mo (((((0 : Int) : Rat)).num).natAbs)), .int .u64 (lo ((qden (((0 : Int) : Rat)))) : Int), .string (mo ((qden (((0 : Int) : Rat)))))] 56)).heap.size (w1.alloc (.cells #[.bool (decide ((((0 : Int) : Rat)).num < 0)), .int .u64 (lo (((((0 : Int) : Rat)).num).natAbs) : Int), .string (mo (((((0 : Int) : Rat)).num).natAbs)), .int .u64 (lo ((qden (((0 : Int) : Rat)))) : Int), .string (mo ((qden (((0 : Int) : Rat)))))] 56)) w2 → Below (w2.alloc (.cells #[.bool (decide ((((1 : Int) : Rat)).num < 0)), .int .u64 (lo (((((1 : Int) : Rat)).num).natAbs) : Int), .string (mo (((((1 : Int) : Rat)).num).natAbs)), .int .u64 (lo ((qden (((1 : Int) : Rat)))) : Int), .string (mo ((qden (((1 : Int) : Rat)))))] 56)).heap.size (w2.alloc (.cells #[.bool (decide ((((1 : Int) : Rat)).num < 0)), .int .u64 (lo (((((1 : Int) : Rat)).num).natAbs) : Int), .string (mo (((((1 : Int) : Rat)).num).natAbs)), .int .u64 (lo ((qden (((1 : Int) : Rat)))) : Int), .string (mo ((qden (((1 : Int) : Rat)))))] 56)) w3 →
   OwnQQ ((w3.alloc (.cells #[.bool (decide ((((3 : Int) : Rat)).num < 0)), .int .u64 (lo (((((3 : Int) : Rat)).num).natAbs) : Int), .string (mo (((((3 : Int) : Rat)).num).natAbs)), .int .u64 (lo ((qden (((3 : Int) : Rat)))) : Int), .string (mo ((qden (((3 : Int) : Rat)))))] 56)).alloc (.cells #[.slice (some ⟨w1.heap.size, 0, none⟩) 1 1, .slice (some ⟨w2.heap.size, 0, none⟩) 1 1, .slice (some ⟨w3.heap.size, 0, none⟩) 1 1] 73)) (.slice (some ⟨w3.heap.size + 1, 0, none⟩) 3 3) knownL) := Lib.hid fun w1 w2 w3 h2 h3 => known_rows h2 h3
 have HONE := Lib.hid (fun w => one_row w ((0 : Int) : Rat))
 have HKC : Hid (∀ d, d ≤ 2 → (∀ i, i < d → (known2.getD i default).high ≤ ((8 : Int) : Rat)) → (d < 2 → ¬ (known2.getD d default).high ≤ ((8 : Int) : Rat)) → d = 1) := Lib.hid fun d => known_cut
 clear hq
 generalize hx0 : ((0 : Int) : Rat) = x0 at hof0 HROWS HONE hb0
 generalize hx1 : ((1 : Int) : Rat) = x1 at hof1 HROWS
 generalize hx3 : ((3 : Int) : Rat) = x3 at hof3 HROWS
 generalize hx8 : ((8 : Int) : Rat) = x8 at hof8 hct HKC
 generalize hy9 : (9 : Rat) = y9 at his9 hb2
 generalize hy13 : Rat.divInt 13 2 = y13 at his13 hb3
 have hk2 : known2 = [⟨0, 1, 2, 1⟩, ⟨2, 3, 3, y9⟩] := by rw [← hy9]; rfl
 generalize hy1 : (1 : Rat) = y1 at hb2 hb3 hk2
 clear hx0 hx1 hx3 hx8 hy1 hy9 hy13
 unfold qV at hof0 hof1 hof3 hof8 his9 his13 hct
 have HK2 := Lib.hid hk2
 have H0 := Lib.hid hof0
 have H1 := Lib.hid hof1
 have H3 := Lib.hid hof3
 have H8 := Lib.hid hof8
 have HF := Lib.hid hfars
 have HB2 := Lib.hid hb2
 have HB3 := Lib.hid hb3
 have HB0 := Lib.hid hb0
 have HCT := Lib.hid hct
 have HIN := Lib.hid hin
 have HF1 := Lib.hid hf1
 have HF2 := Lib.hid hf2
 have HBAD := Lib.hid hbad
 have HI9 := Lib.hid his9
 have HI13 := Lib.hid his13
 have HS1 := Lib.hid hs1
 have HS2 := Lib.hid hs2
 have HT := Lib.hid hT
 have HLEN := Lib.hid hlen
 clear hof0 hof1 hof3 hof8 hfars hb2 hb3 hb0 hct hin hf1 hf2 hbad his9 his13 hs1 hs2 hT hlen hk2
 go_enter Tryz.func9, Tryz.ntmps9
 go_upto_region 1 with fail
 go_cut [1, 2] (fun v e wc => ∃ A c, v = .slice A 3 c ∧ OwnQQ wc (.slice A 3 c) (farsQ knownL) ∧ Below w.heap.size w wc)
 case first =>
  go_wp2_with fail
  refine (H0.out w).mono ?_
  rintro e w1 ⟨rfl, hb1⟩
  go_wp2_with fail
  refine (H1.out _).mono ?_
  rintro e w2 ⟨rfl, hb2⟩
  go_wp2_with fail
  refine (H3.out _).mono ?_
  rintro e w3 ⟨rfl, hb3⟩
  have hr := HROWS.out w1 w2 w3 hb2 hb3
  have hb := (hb1.trans (((balloc1 w1 _).trans (hb2.mono (Below.size (balloc1 _ _)))).mono hb1.size))
  have hb := hb.trans (((balloc1 w2 _).trans (hb3.mono (Below.size (balloc1 _ _)))).mono hb.size)
  have hb := hb.trans ((balloc2 w3 (.cells #[.bool (decide (x3.num < 0)), .int .u64 (lo x3.num.natAbs : Int), .string (mo x3.num.natAbs), .int .u64 (lo ((qden x3)) : Int), .string (mo ((qden x3)))] 56) (.cells #[.slice (some ⟨w1.heap.size, 0, none⟩) 1 1, .slice (some ⟨w2.heap.size, 0, none⟩) 1 1, .slice (some ⟨w3.heap.size, 0, none⟩) 1 1] 73)).mono hb.size)
  have HR := Lib.hid hr
  have HBW := Lib.hid hb
  clear hr hb hb1 hb2 hb3
  go_wp2_with fail
  refine (HF.out _ _ _ _ HR.out.readsQQ (Nat.le_refl _) (HT.out.next HBW.out)).mono ?_
  rintro e w4 ⟨v, rfl, ho, hfr, hb4⟩
  obtain ⟨A, c, hv⟩ := OwnS.form ho
  rw [HLEN.out] at hv
  subst hv
  have HB4 := Lib.hid (bthen HBW.out hb4)
  have HO := Lib.hid ho
  clear ho hfr hb4 HR HBW
  go_wp2
  go_meet
  exact ⟨A, c, rfl, HO.out, HB4.out⟩
 case rest =>
 obtain ⟨A, c, rfl, ho, hbw⟩ := hcut
 rename World => w1
 have HO := Lib.hid ho
 have HB := Lib.hid hbw
 clear ho hbw HROWS H1 H3 HF
 go_wp2_with fail
 refine (HB2.out _ _ _ HO.out (HT.out.next HB.out)).mono ?_
 rintro e w2 ⟨v, rfl, ho, hfr, hb⟩
 obtain ⟨A5, c5, hv, -⟩ := OwnW.form ho
 have hv : v = .slice A5 2 c5 := hv
 subst hv
 have HC := Lib.hid ho
 have HO := Lib.hid (OwnS.next Tryz.kindQQ HO.out hb)
 have HB := Lib.hid (bthen HB.out hb)
 clear ho hfr hb HB2
 go_wp2_with fail
 refine (HB3.out _ _ _ HO.out (HT.out.next HB.out)).mono ?_
 rintro e w3 ⟨v, rfl, ho, hfr, hb⟩
 obtain ⟨A6, c6, hv, -⟩ := OwnW.form ho
 have hv : v = .slice A6 2 c6 := hv
 subst hv
 have HM := Lib.hid ho
 have HC := Lib.hid (OwnW.next HC.out hb)
 have HO := Lib.hid (OwnS.next Tryz.kindQQ HO.out hb)
 have HB := Lib.hid (bthen HB.out hb)
 clear ho hfr hb HB3
 go_wp2_with fail
 refine (HBAD.out _ _ _ _).mono ?_
 rintro e w4 ⟨rfl, rfl⟩
 clear HBAD
 go_wp2_with fail
 refine (H0.out _).mono ?_
 rintro e w4 ⟨rfl, hb⟩
 have HR := Lib.hid (HONE.out w4)
 have hb := bthen hb (balloc2 w4 (.cells #[.bool (decide (x0.num < 0)), .int .u64 (lo x0.num.natAbs : Int), .string (mo x0.num.natAbs), .int .u64 (lo ((qden x0)) : Int), .string (mo ((qden x0)))] 56) (.cells #[.slice (some ⟨w4.heap.size, 0, none⟩) 1 1] 73))
 have HM := Lib.hid (OwnW.next HM.out hb)
 have HC := Lib.hid (OwnW.next HC.out hb)
 have HB := Lib.hid (bthen HB.out hb)
 clear hb H0 HONE HO
 go_wp2_with fail
 refine (HB0.out _ _ _ HR.out (HT.out.next HB.out)).mono ?_
 rintro e w5 ⟨v, rfl, ho, hfr, hb⟩
 obtain ⟨A7, c7, hv, -⟩ := OwnW.form ho
 have hv : v = .slice A7 0 c7 := hv
 subst hv
 have HM := Lib.hid (OwnW.next HM.out hb)
 have HC := Lib.hid (OwnW.next HC.out hb)
 have HB := Lib.hid (bthen HB.out hb)
 clear ho hfr hb HB0 HR
 go_wp2_with fail
 refine (H8.out _).mono ?_
 rintro e w6 ⟨rfl, hb⟩
 have HM := Lib.hid (OwnW.next HM.out hb)
 have HC := Lib.hid (OwnW.next HC.out hb)
 have HB := Lib.hid (bthen HB.out hb)
 clear hb H8
 go_wp2_with fail
 refine (HCT.out _ _ _ (by rw [HK2.out]; exact HC.out) (HT.out.next HB.out)).mono ?_
 rintro e w7 ⟨g7, d, rfl, hd1, hd2, hd3, hg7, ho7, hb⟩
 obtain rfl := HKC.out d hd1 hd2 hd3
 rw [known_g1] at ho7
 have HG7 := Lib.hid ho7
 have HM := Lib.hid (OwnW.next HM.out hb)
 have HC := Lib.hid (OwnW.next HC.out hb)
 have HB := Lib.hid (bthen HB.out hb)
 clear hb ho7 hd1 hd2 hd3 hg7 HCT HKC
 go_wp2_with fail
 refine (HIN.out _ _ _ (by rw [HK2.out]; exact HC.out) (HT.out.next HB.out)).mono ?_
 rintro e w8 ⟨g8, rfl, hg8, ho8, hb⟩
 have ho8 : Own w8 3 zi (.slice (some ⟨g8, 0, none⟩) 3 3) (groupsZ 3 (fun i => known2.getD i default) 0) := ho8
 rw [known_g0] at ho8
 have HG8 := Lib.hid ho8
 have HG7 := Lib.hid (HG7.out.below hb HG7.out.lt)
 have HM := Lib.hid (OwnW.next HM.out hb)
 have HC := Lib.hid (OwnW.next HC.out hb)
 have HB := Lib.hid (bthen HB.out hb)
 clear hb ho8 hg8 HIN HK2
 go_wp2_with fail
 refine (law_known _ (HT.out.next HB.out)).mono ?_
 rintro e w9 ⟨rfl, hb⟩
 have HG8 := Lib.hid (HG8.out.below hb HG8.out.lt)
 have HG7 := Lib.hid (HG7.out.below hb HG7.out.lt)
 have HM := Lib.hid (OwnW.next HM.out hb)
 have HC := Lib.hid (OwnW.next HC.out hb)
 have HB := Lib.hid (bthen HB.out hb)
 clear hb
 obtain ⟨-, gc, hgc⟩ := OwnJ.addr HC.out (by simp)
 obtain ⟨-, gm, hgm⟩ := OwnJ.addr HM.out (by simp)
 subst hgc hgm
 have j1 := OwnJ.at_ HC.out (k := 1) rfl
 have q1 := j1.c8
 simp only [Nat.zero_mul, Nat.zero_add, Nat.one_mul, Nat.reduceAdd, Nat.reduceMul] at q1
 obtain ⟨b0, b1, b2, b3, b4, b5, b6, b7⟩ := q1
 go_wp2_with fail
 refine (HI9.out _).mono ?_
 rintro e w10 ⟨rfl, hb⟩
 have HG8 := Lib.hid (HG8.out.below hb HG8.out.lt)
 have HG7 := Lib.hid (HG7.out.below hb HG7.out.lt)
 have HM := Lib.hid (OwnW.next HM.out hb)
 have HB := Lib.hid (bthen HB.out hb)
 clear hb b0 b1 b2 b3 b4 b5 b6 b7 j1 HI9 HC
 have j1 := OwnJ.at_ HM.out (k := 1) rfl
 have q1 := j1.c8
 simp only [Nat.zero_mul, Nat.zero_add, Nat.one_mul, Nat.reduceAdd, Nat.reduceMul] at q1
 obtain ⟨b0, b1, b2, b3, b4, b5, b6, b7⟩ := q1
 go_wp2_with fail
 refine (HI13.out _).mono ?_
 rintro e w11 ⟨rfl, hb⟩
 have HG8 := Lib.hid (HG8.out.below hb HG8.out.lt)
 have HG7 := Lib.hid (HG7.out.below hb HG7.out.lt)
 have HB := Lib.hid (bthen HB.out hb)
 clear hb b0 b1 b2 b3 b4 b5 b6 b7 j1 HI13 HM
 go_wp2_with fail
 refine (HF1.out _ (HT.out.next HB.out)).mono ?_
 rintro e w12 ⟨rfl, hb⟩
 have HG8 := Lib.hid (HG8.out.below hb HG8.out.lt)
 have HG7 := Lib.hid (HG7.out.below hb HG7.out.lt)
 have HB := Lib.hid (bthen HB.out hb)
 clear hb HF1
 go_wp2_with fail
 refine (HF2.out _ (HT.out.next HB.out)).mono ?_
 rintro e w13 ⟨rfl, hb⟩
 have HG8 := Lib.hid (HG8.out.below hb HG8.out.lt)
 have HG7 := Lib.hid (HG7.out.below hb HG7.out.lt)
 have HB := Lib.hid (bthen HB.out hb)
 clear hb HF2
 go_wp2_with fail
 refine (HS1.out _ _ _ HG7.out).mono ?_
 rintro e w14 ⟨rfl, k14, rfl⟩
 have hb := bthen (balloc1 w13 (.cells #[.int .i64 0, .int .i64 0, .int .i64 1] 3)) (bdN (w13.alloc (.cells #[.int .i64 0, .int .i64 0, .int .i64 1] 3)) k14)
 generalize (w13.alloc (.cells #[.int .i64 0, .int .i64 0, .int .i64 1] 3)).drewN k14 = w14 at *
 have HG8 := Lib.hid (HG8.out.below hb HG8.out.lt)
 have HB := Lib.hid (bthen HB.out hb)
 clear hb HS1 HG7
 go_wp2_with fail
 refine (HS2.out _ _ _ HG8.out).mono ?_
 rintro e w15 ⟨rfl, k15, rfl⟩
 have hb := bthen (balloc1 w14 (.cells #[.int .i64 0, .int .i64 1, .int .i64 2] 3)) (bdN (w14.alloc (.cells #[.int .i64 0, .int .i64 1, .int .i64 2] 3)) k15)
 generalize (w14.alloc (.cells #[.int .i64 0, .int .i64 1, .int .i64 2] 3)).drewN k15 = w15 at *
 have HB := Lib.hid (bthen HB.out hb)
 clear hb HS2 HG8
 go_wp2
 go_ret
 exact ⟨rfl, HB.out⟩
end Go.Proofs.YtecnjlcfoobepaaGreatDoor
