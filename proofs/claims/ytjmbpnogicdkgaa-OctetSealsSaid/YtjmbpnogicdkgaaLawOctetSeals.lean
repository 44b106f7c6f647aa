/-
  Proved here: for every kind, body, bytes, place and byte, abaculuslaw4.OctetSeals returns true and leaves its arguments as they were. No condition.
-/
import Derived.Test.YtjmbpnogicdkgaaRows
import Derived.Test.YtjmbpnogicdkgaaLawKit
import Derived.Test.YtjmbpnogicdkgaaInts
import Derived.Test.YtjmbpnogicdkgaaKnown4
import Derived.Test.YtjmbpnogicdkgaaTurnMath
import Derived.Test.YtjmbpnogicdkgaaRefNext
import Derived.WalkKit
import Derived.ProofKit
import Derived.OpenShut
import Derived.ShutString
import Derived.ChangeOld
import Derived.Below
import Derived.SizedLaws
import Derived.Deep.DeepCutAuto
import Derived.Deep.CutBlock
-- SIZED 3
namespace Go.Proofs.Ytjmbpnogicdkgaa.octetSeals
open Go.ChangeShapes Go.WideShapes Go.ChangeAt Go.RowKit
open Go.ChangeMaps (open_string shut_string)
set_option linter.unusedVariables false
set_option linter.unusedSimpArgs false

theorem own : ownKnob Try.prog.godebug = none := by kernel_rfl
theorem laidOut : laidOutB Try.prog = true := by kernel_rfl

theorem seal_bad (k : Int) (A : Option Addr) (n c : Nat) (w : World) (h : k < 1 ∨ 255 < k) :
    Calls Try.prog 18 #[.int .i64 k, .slice A n c] w fun e w' => e = .returned (.tuple #[.slice none 0 0, .int .i64 1]) ∧ w = w' := by
  rcases h with h | h
  · go_enter Try.func18, Try.ntmps18
    go_wp2
    go_returns
    exact ⟨rfl, rfl⟩
  · have h2 : ¬ k < 1 := by omega
    go_enter Try.func18, Try.ntmps18
    go_wp2
    go_returns
    exact ⟨rfl, rfl⟩

/-- what the switch leaves: some bytes -/
def CutX (w : World) (v : Value) (wc : World) : Prop := ∃ (Ax : Option Addr) (nx cx : Nat) (l : List UInt8), v = .slice Ax nx cx ∧ Bytes wc wc.heap.size Ax nx l ∧ nx ≤ cx ∧ cx ≤ 9223372036854775807 ∧ nx ≤ 140737488355328 ∧ Below w.heap.size w wc
theorem nextR_err (l : List UInt8) : (nextR l).2.2.2 ≤ 1000 := by
  cases l with
  | nil => simp [nextR]
  | cons b r =>
    have := (readC_bounds r).2.2.2
    simp only [nextR]
    repeat' split
    all_goals (simp; try omega)

set_option maxRecDepth 100000 in
set_option maxHeartbeats 2000000 in
theorem walkN (kd : Int) (A : Option Addr) (n c : Nat) (bs : List UInt8) (A2 : Option Addr) (n2 c2 : Nat) (raw : List UInt8) (A3 : Option Addr) (n3 c3 : Nat) (more : List UInt8) (how at0 : Int) (by0 : Nat) (w : World)
    (hk0 : -9223372036854775808 ≤ kd) (hk1 : kd ≤ 9223372036854775807) (hh0 : -9223372036854775808 ≤ how) (hh1 : how ≤ 9223372036854775807) (ha0 : -9223372036854775808 ≤ at0) (ha1 : at0 ≤ 9223372036854775807) (hby : by0 < 256)
    (h : Bytes w w.heap.size A n bs) (hc : n ≤ c) (hc2 : c ≤ 9223372036854775807) (h2 : Bytes w w.heap.size A2 n2 raw) (hc3 : n2 ≤ c2) (hc4 : c2 ≤ 9223372036854775807) (h3 : Bytes w w.heap.size A3 n3 more) (hc5 : n3 ≤ c3) (hc6 : c3 ≤ 140737488351232) :
    Calls Try.prog 5 #[.int .i64 kd, .slice A n c, .slice A2 n2 c2, .slice A3 n3 c3, .int .i64 how, .int .i64 at0, .int .u8 (by0 : Int)] w (Ret (.bool true) w) := by
  obtain ⟨k', hk'⟩ := Int.eq_ofNat_of_zero_le (Int.emod_nonneg kd (b := 258) (by omega))
  have hk2 : k' < 258 := by omega
  have HK := Lib.hid hk'
  clear hk'
  have hlen := h.len
  go_enter Try.func5, Try.ntmps5
  go_wp2_with fail
  refine (hand_pick kd 258 _ hk0 hk1 (by omega) (by omega)).mono ?_
  rintro e x1 ⟨rfl, rfl⟩
  rw [show ((258 : Nat) : Int) = 258 from rfl, HK.out]
  go_wp2_with fail
  refine (hand_few A n c _ bs 3000 w h (Nat.le_refl _) (by omega) hc (by omega)).mono ?_
  rintro e x1 ⟨v1, rfl, ho1, hb1, hf1⟩
  obtain ⟨A1, c1, hv1, hd1, hd2⟩ := ho1.form
  obtain ⟨m, hm⟩ : ∃ m, (bs.take 3000).length = m := ⟨_, rfl⟩
  have hm2 : m ≤ 3000 := by rw [← hm, List.length_take]; omega
  have hr1 := ho1
  rw [hv1] at hr1
  have hr1 := Own.reads hr1
  rw [hm] at hv1 hr1
  rw [hv1]
  clear hlen
  have HM := Lib.hid hm
  clear hm hv1
  by_cases hbad : k' < 2 ∨ 256 < k'
  · go_wp2_with fail
    refine (seal_bad ((k' : Int) - 1) A1 m c1 x1 (by omega)).mono ?_
    rintro e x2 ⟨rfl, rfl⟩
    rcases hbad with hbad | hbad
    · have g1 : (k' : Int) - 1 < 1 := by omega
      go_wp2_with fail
      refine (octet_known x1).mono ?_
      rintro e x3 ⟨rfl, hb3⟩
      go_wp2
      go_ret
      exact ⟨rfl, hb1.trans (hb3.mono hb1.size)⟩
    · have g1 : ¬ (k' : Int) - 1 < 1 := by omega
      have g2 : (255 : Int) < (k' : Int) - 1 := by omega
      go_wp2_with fail
      refine (octet_known x1).mono ?_
      rintro e x3 ⟨rfl, hb3⟩
      go_wp2
      go_ret
      exact ⟨rfl, hb1.trans (hb3.mono hb1.size)⟩
  · obtain ⟨k, rfl⟩ : ∃ k, k' = k + 1 := ⟨k' - 1, by omega⟩
    have hk3 : k ≤ 255 := by omega
    have hk4 : 1 ≤ k := by omega
    go_wp2_with fail
    refine (octet_seal k A1 m c1 _ (bs.take 3000) x1 hr1 (Nat.le_refl _) (by omega) hk4 hk3).mono ?_
    rintro e x2 ⟨v2, rfl, ho2, hb2, hf2⟩
    have hB2 := hb1.trans (hb2.mono hb1.size)
    have g1 : ¬ (k : Int) < 1 := by omega
    have g2 : ¬ (255 : Int) < (k : Int) := by omega
    have h4 : Bytes x2 w.heap.size A n bs := Reads.below h hB2
    clear hr1 ho1 hf1 hb2 hb1 h
    obtain ⟨A2', c2', hv2, _, _⟩ := ho2.form
    rw [hv2] at ho2 hf2 ⊢
    clear hv2
    go_wp2_with fail
    refine (hand_few A n c _ bs 3000 x2 h4 hB2.size (by omega) hc (by omega)).mono ?_
    rintro e x3 ⟨v3, rfl, ho3, hb3, hf3⟩
    have hB3 := hB2.trans (hb3.mono hB2.size)
    have ho2 := ho2.below hb3 (fun k hk => ho2.lt k hk)
    obtain ⟨A3', c3', hv3, hd3, hd4⟩ := ho3.form
    have hr3 := ho3
    rw [hv3] at hr3
    have hr3 := Own.reads hr3
    rw [HM.out] at hv3 hr3
    rw [hv3]
    clear hv3 hb3 hB2 h4 ho3 hf3
    go_wp2_with fail
    refine (ref_seal k A3' m c3' _ (bs.take 3000) x3 hr3 (Nat.le_refl _) (by omega) hk4 hk3).mono ?_
    rintro e x4 ⟨v4, rfl, ho4, hb4, hf4⟩
    have hB4 := hB3.trans (hb4.mono hB3.size)
    have ho2 := ho2.below hb4 (fun k hk => ho2.lt k hk)
    have hsl := sealB_len k (bs.take 3000)
    rw [HM.out] at hsl
    have hcl : (countB m).length ≤ 10 := countF_len 9 m
    generalize hS : sealB k (bs.take 3000) = S at *
    obtain ⟨L, hL⟩ : ∃ L, S.length = L := ⟨_, rfl⟩
    rw [hL] at hsl
    have hLl : L ≤ 3019 := by omega
    have hLg : 1 ≤ L := by omega
    obtain ⟨A4, c4', hv4, hd5, hd6⟩ := ho4.form
    rw [hL] at hv4 hd5
    have hf4 : ∀ k, v4.ownBlock = some k → w.heap.size ≤ k := fun k hk => Nat.le_trans hB3.size (hf4 k hk)
    rw [hv4] at ho4 hf4 ⊢
    clear hv4 hsl hcl hr3 hb4 hS hd3 hd4 hB3
    go_wp2_with fail
    refine (octet_known x4).mono ?_
    rintro e x5 ⟨rfl, hb5⟩
    have hB5 := hB4.trans (hb5.mono hB4.size)
    have ho2 := ho2.below hb5 (fun k hk => ho2.lt k hk)
    have ho4 := ho4.below hb5 (fun k hk => ho4.lt k hk)
    clear hb5 hB4
    have hr5 : Bytes x5 w.heap.size A2 n2 raw := Reads.below h2 hB5
    have hr6 : Bytes x5 w.heap.size A3 n3 more := Reads.below h3 hB5
    have hs1 := run_string (P := Try.prog) x5 29 9 5 A2' S.length c2' _ _ Try.underlying29 Try.underlying5 Try.underlying9 (Own.reads ho2)
    have ho2' := Own.reads ho4
    have hs2 := run_string (P := Try.prog) x5 29 9 5 A4 S.length c4' _ _ Try.underlying29 Try.underlying5 Try.underlying9 (Own.reads ho4)
    rw [hL] at hs1 hs2
    have HL := Lib.hid hL
    clear hL h2 h3 ho2
    go_wp2_with fail
    refine (octet_sum _ _ _ _ _ _ hr5 (by omega)).mono ?_
    rintro e x6 ⟨rfl, rfl⟩
    go_wp2_with fail
    refine (ref_sum _ _ _ _ _ _ hr5 (by omega)).mono ?_
    rintro e x6 ⟨rfl, rfl⟩
    go_wp2_with fail
    refine (hand_pick how 5 _ hh0 hh1 (by omega) (by omega)).mono ?_
    rintro e x6 ⟨rfl, rfl⟩
    rw [show ((5 : Nat) : Int) = 5 from rfl]
    obtain ⟨q, hq⟩ := Int.eq_ofNat_of_zero_le (Int.emod_nonneg how (b := 5) (by omega))
    have hq5 : q < 5 := by omega
    rw [hq]
    clear hq hs1 hs2 HK hbad
    obtain ⟨g, rfl⟩ := ho4.addr (by rw [HL.out]; omega)
    have hgB : w.heap.size ≤ g := hf4 g rfl
    go_upto_block 0 with fail
    go_cut [18] (fun v wc => CutX w v wc)
    case first =>
      have hq6 : q = 0 ∨ q = 1 ∨ q = 2 ∨ q = 3 ∨ q = 4 := by omega
      rcases hq6 with rfl | rfl | rfl | rfl | rfl
      · go_wp2_with fail
        refine (hand_few A2 n2 c2 _ raw 3000 x5 hr5 hB5.size (by omega) hc3 (by omega)).mono ?_
        rintro e x7 ⟨v7, rfl, ho7, hb7, hf7⟩
        obtain ⟨A7, c7, hv7, hd7, hd8⟩ := ho7.form
        have hl7 : (raw.take 3000).length ≤ 3000 := by rw [List.length_take]; omega
        rw [hv7] at ho7
        have hr7 := Own.reads ho7
        have hB7 := hB5.trans (hb7.mono hB5.size)
        obtain ⟨n7, hn7⟩ : ∃ n7, (raw.take 3000).length = n7 := ⟨_, rfl⟩
        rw [hn7] at hv7 hr7 hd7 hl7
        rw [hv7]
        clear hv7 ho7 hf7 hn7
        go_wp2
        go_meet
        exact ⟨_, _, _, _, rfl, hr7, hd7, by unfold maxLen at hd8; omega, by omega, hB7⟩
      · go_wp2_with fail
        refine (hand_pick at0 L _ ha0 ha1 (by omega) (by omega)).mono ?_
        rintro e x7 ⟨rfl, rfl⟩
        obtain ⟨j, hj⟩ := Int.eq_ofNat_of_zero_le (Int.emod_nonneg at0 (b := (L : Int)) (by omega))
        have hj2 : j < L := by have := Int.emod_lt_of_pos at0 (b := (L : Int)) (by omega); omega
        rw [hj]
        obtain ⟨x, hx⟩ : ∃ x, S[j]? = some x := ⟨_, List.getElem?_eq_getElem (by rw [HL.out]; exact hj2)⟩
        have hL0 := HL.out
        rw [← hL0] at ho4
        have hcell := ho4.cellf hx
        have hfz := ho4.frozenf j
        have hst := ho4.store j (x ^^^ UInt8.ofNat by0)
        have hxor : bits .xor .u8 (x.toNat : Int) (by0 : Int) = ((x ^^^ UInt8.ofNat by0).toNat : Int) := by
          rw [xor_u8 _ _ (by have := x.toNat_lt; omega) hby, UInt8.toNat_xor, UInt8.toNat_ofNat', Nat.mod_eq_of_lt (by omega)]
        generalize hy : x ^^^ UInt8.ofNat by0 = y at *
        have hB7 := hB5.setCell (p := ⟨g, j, none⟩) hgB (u8v y)
        have hrd := Own.reads hst
        rw [List.length_set, hL0] at hrd
        unfold u8v at hcell
        have hj3 : (j : Int) < (L : Int) := by omega
        have HX := Lib.hid (And.intro hrd hB7)
        clear hx hy hj hL0 hst hrd hB7 ho4 hf4 ho2'
        go_wp2
        go_meet
        exact ⟨_, _, _, _, rfl, HX.out.1, hd5, by unfold maxLen at hd6; omega, by omega, HX.out.2⟩
      · go_wp2_with fail
        refine (hand_pick at0 (L + 1) _ ha0 ha1 (by omega) (by omega)).mono ?_
        rintro e x7 ⟨rfl, rfl⟩
        obtain ⟨j, hj⟩ := Int.eq_ofNat_of_zero_le (Int.emod_nonneg at0 (b := ((L + 1 : Nat) : Int)) (by omega))
        have hj2 : j ≤ L := by have := Int.emod_lt_of_pos at0 (b := ((L + 1 : Nat) : Int)) (by omega); omega
        rw [hj]
        have hrd := Own.reads ho4
        rw [HL.out] at hrd
        have hrd := Reads.front hrd (k := j) hj2
        rw [Nat.mul_one, ← List.map_take] at hrd
        have hj3 : (j : Int) ≤ (c4' : Int) := by omega
        clear hj
        go_wp2
        go_meet
        exact ⟨_, _, _, _, rfl, hrd, by omega, by unfold maxLen at hd6; omega, by omega, hB5⟩
      · have hll := HL.out
        go_wp2_with (at_builtin; refine appN Try.eltU8 rfl (.tmp 106) (.tmp 107) rfl x5 _ S _ A3 n3 c3 more rfl ho4 rfl hr6 u8v_one ?c1 ?c2 ?_)
        case c1 => unfold maxLen; omega
        case c2 => omega
        intro v7 w7 ho7 hg7
        have hB7 := hB5.trans (Grew.below hg7 hB5.size hf4)
        obtain ⟨A7, c7, hv7, hd7, hd8⟩ := ho7.form
        have hl7 : (S ++ more).length ≤ 140737488355328 := by rw [List.length_append, HL.out, hr6.len]; omega
        rw [hv7] at ho7
        have hr7 := Own.reads ho7
        rw [hv7]
        clear hv7 ho7 hll
        go_wp2
        go_meet
        exact ⟨_, _, _, _, rfl, hr7, hd7, by unfold maxLen at hd8; omega, hl7, hB7⟩
      · go_wp2
        go_meet
        have hrd := Own.reads ho4
        rw [HL.out] at hrd
        exact ⟨_, _, _, _, rfl, hrd, hd5, by unfold maxLen at hd6; omega, by omega, hB5⟩
    case rest =>
      obtain ⟨Ax, nx, cx, l, rfl, hrx, hx1, hx2, hx3, hBx⟩ := hcut
      have hlx := hrx.len
      clear ho4 hr5 hr6 ho2' hB5 hgB hf4
      go_wp2_with fail
      refine (hand_few Ax nx cx _ l nx _ hrx (Nat.le_refl _) (by omega) hx1 (by omega)).mono ?_
      rintro e x7 ⟨v7, rfl, ho7, hb7, hf7⟩
      rw [List.take_of_length_le (by omega)] at ho7
      have hB7 := hBx.trans (hb7.mono hBx.size)
      obtain ⟨A7, c7, hv7, hd7, hd8⟩ := ho7.form
      rw [hv7] at ho7
      have hr7 := Own.reads ho7
      have hrx7 := Reads.below hrx hb7
      have hz7 := hb7.size
      rw [hv7, hlx]
      rw [hlx] at hr7 hd7
      clear hv7 ho7 hf7 hb7 hrx hlx
      go_wp2_with fail
      refine (octet_next A7 nx c7 _ l x7 hr7 (Nat.le_refl _) (by omega) hd7 (by unfold maxLen at hd8; omega)).mono ?_
      rintro e x8 ⟨v8, rfl, ho8, hb8, hf8⟩
      have hB8 := hB7.trans (hb8.mono hB7.size)
      have hrx8 := Reads.below hrx7 (hb8.mono hz7)
      have hz8 := Nat.le_trans hz7 hb8.size
      generalize hN : nextR l = N at *
      have HN := Lib.hid hN
      clear hN hr7 hrx7
      obtain ⟨N1, N2, N3, N4⟩ := N
      obtain ⟨A8, c8, hv8, hd9, hd10⟩ := ho8.form
      rw [hv8] at ho8 ⊢
      clear hv8 hf8
      go_wp2_with fail
      refine (ref_next Ax nx cx _ l x8 hrx8 hz8 (by omega) hx1 (by omega)).mono ?_
      rintro e x9 ⟨v9, rfl, ho9, hb9, hf9⟩
      rw [HN.out] at ho9 ⊢
      have hB9 := hB8.trans (hb9.mono hB8.size)
      have ho8 := ho8.below hb9 (fun k hk => ho8.lt k hk)
      obtain ⟨A9, c9, hv9, hd11, hd12⟩ := ho9.form
      rw [hv9] at ho9 ⊢
      have hs1 := run_string (P := Try.prog) x9 29 9 5 A8 N2.length c8 _ _ Try.underlying29 Try.underlying5 Try.underlying9 (Own.reads ho8)
      have hs2 := run_string (P := Try.prog) x9 29 9 5 A9 N2.length c9 _ _ Try.underlying29 Try.underlying5 Try.underlying9 (Own.reads ho9)
      have hn4 : N4 ≤ 1000 := by
        have := nextR_err l
        rw [HN.out] at this
        exact this
      have hn4' : IntKind.i64.wrap (N4 : Int) = (N4 : Int) := IntWalk.i64_in _ (by omega)
      clear hv9 hf9 ho8 ho9 hb9 hb8 hrx8
      simp only [] at hs1 hs2 ⊢
      go_wp2
      go_ret
      exact ⟨rfl, hB9⟩

/-! ### the walk -/
theorem walk (a0 : Int) (a1 : Option Addr) (len1 cap1 : Nat) (z1 : List Int) (a2 : Option Addr) (len2 cap2 : Nat) (z2 : List Int) (a3 : Option Addr) (len3 cap3 : Nat) (z3 : List Int) (a4 : Int) (a5 : Int) (a6 : Int) (w : World) (w0 : (Lit.int .i64 a0).wf = true) (w1 : IsRow .u8 w a1 len1 cap1 z1) (w2 : IsRow .u8 w a2 len2 cap2 z2) (w3 : IsRow .u8 w a3 len3 cap3 z3) (w4 : (Lit.int .i64 a4).wf = true) (w5 : (Lit.int .i64 a5).wf = true) (w6 : (Lit.int .u8 a6).wf = true) (g3 : cap3 ≤ 140737488351232) :
    Calls Try.prog 5 #[.int .i64 a0, .slice a1 len1 cap1, .slice a2 len2 cap2, .slice a3 len3 cap3, .int .i64 a4, .int .i64 a5, .int .u8 a6] w fun e w' => e = .returned (.bool true) ∧ Below w.heap.size w w' := by
  obtain ⟨b0, b1⟩ := bounds_i64 w0
  obtain ⟨c0, c1⟩ := bounds_i64 w4
  obtain ⟨e0, e1⟩ := bounds_i64 w5
  obtain ⟨d0, d1⟩ := bounds_u8 w6
  obtain ⟨bs, h1, h2, h3⟩ := w1.bytes
  obtain ⟨raw, i1, i2, i3⟩ := w2.bytes
  obtain ⟨more, j1, j2, j3⟩ := w3.bytes
  obtain ⟨y, rfl⟩ := Int.eq_ofNat_of_zero_le d0
  exact walkN a0 a1 len1 cap1 bs a2 len2 cap2 raw a3 len3 cap3 more a4 a5 y w (by omega) (by omega) (by omega) (by omega) (by omega) (by omega) (by omega) h1 h2 h3 i1 i2 i3 j1 j2 g3

set_option maxRecDepth 100000 in
theorem lifted (os : Os) (started : os.Started) (H : Type) (enc : TypeId × Value → H) :
    ReturnsInHanded {} Try.checked os 5 .any (Rows.octetSealsSpec.pre6 enc Try.prog Try.f5 Rows.octetSealsRow.domain false) (Rows.octetSealsSpec.post enc Try.prog Try.f5 false true false false) := by
  refine returnsInHanded_of_change_sized (C := Try.checked) own started (by kernel_rfl) Try.func5
    (ChangeSpec.witness6 (enc := enc) (C := Try.checked) false ⟨#[], #[.int .i64 0, .slice none 0 0, .slice none 0 0, .slice none 0 0, .int .i64 0, .int .i64 0, .int .u8 0], []⟩ 8 (by kernel_rfl) (by kernel_rfl) (by kernel_rfl) (by kernel_rfl)) ?_
  intro W base args ds gs before hval0 hW hcnd hsz0 _
  have hsz : (DataW.weightsEach Try.prog (Try.f5.params.toList ++ Rows.octetSealsSpec.plain.varTypes Try.prog) (ds ++ gs)).all (· ≤ reachBytes) = true := hsz0
  clear hsz0
  have hval : ∀ (j : Nat) t v, Try.f5.params[j]? = some t → args[j]? = some v → Value.okWide Try.prog W .any base t v := hval0
  have hW' := hW
  obtain ⟨p, q, hA0, hV, rfl, hfz, hnd⟩ := hW
  have hA : DataW.TrodAll enc Try.prog W 0 (fun _ => true) true Try.f5.params.toList args.toList ds p := hA0
  rw [Try.params5] at hA hval hsz
  obtain ⟨v0, vs0, d0, ds0, p0, q0, hargs, rfl, rfl, h0, r0⟩ := trodAll_cons hA
  obtain ⟨v1, vs1, d1, ds1, p1, q1, rfl, rfl, rfl, h1, r1⟩ := trodAll_cons r0
  obtain ⟨v2, vs2, d2, ds2, p2, q2, rfl, rfl, rfl, h2, r2⟩ := trodAll_cons r1
  obtain ⟨v3, vs3, d3, ds3, p3, q3, rfl, rfl, rfl, h3, r3⟩ := trodAll_cons r2
  obtain ⟨v4, vs4, d4, ds4, p4, q4, rfl, rfl, rfl, h4, r4⟩ := trodAll_cons r3
  obtain ⟨v5, vs5, d5, ds5, p5, q5, rfl, rfl, rfl, h5, r5⟩ := trodAll_cons r4
  obtain ⟨v6, vs6, d6, ds6, p6, q6, rfl, rfl, rfl, h6, r6⟩ := trodAll_cons r5
  obtain ⟨rfl, rfl, rfl⟩ := trodAll_nil r6
  obtain rfl : args = #[v0, v1, v2, v3, v4, v5, v6] := by cases args; simp_all
  obtain ⟨rfl, rfl⟩ := trodVars_none hV
  obtain ⟨a0, rfl, rfl, rfl, w0⟩ := open_int Try.underlying3 (hval 0 3 v0 rfl rfl) h0
  obtain ⟨a1, len1, cap1, rfl⟩ := okWide_slice Try.underlying29 (hval 1 29 v1 rfl rfl)
  have k1 := h1
  have lt1 : ∀ x ∈ p1, x.block < W.heap.size := by obtain ⟨m, hm⟩ := k1; exact DataW.trod_lt m _ _ _ hm
  obtain ⟨z1, w1⟩ : ∃ zs, IsRow .u8 W a1 len1 cap1 zs := by
    obtain ⟨fuel, hf⟩ := h1
    rcases open_ints Try.underlying29 Try.underlying5 (by kernel_rfl) hf with ⟨hcs, _⟩ | ⟨x, l, c, zs, hcs, _, hl, hm, hz, _, hcell, hwz⟩
    · simp [Value.cells] at hcs
      obtain ⟨rfl, rfl, rfl⟩ := hcs
      exact ⟨[], .inl ⟨rfl, rfl, rfl, rfl⟩⟩
    · simp [Value.cells] at hcs
      obtain ⟨rfl, rfl, rfl⟩ := hcs
      exact ⟨zs, .inr ⟨_, rfl, hl, hm, by simpa using hz, hcell, hwz⟩⟩
  obtain ⟨a2, len2, cap2, rfl⟩ := okWide_slice Try.underlying29 (hval 2 29 v2 rfl rfl)
  have k2 := h2
  have lt2 : ∀ x ∈ p2, x.block < W.heap.size := by obtain ⟨m, hm⟩ := k2; exact DataW.trod_lt m _ _ _ hm
  obtain ⟨z2, w2⟩ : ∃ zs, IsRow .u8 W a2 len2 cap2 zs := by
    obtain ⟨fuel, hf⟩ := h2
    rcases open_ints Try.underlying29 Try.underlying5 (by kernel_rfl) hf with ⟨hcs, _⟩ | ⟨x, l, c, zs, hcs, _, hl, hm, hz, _, hcell, hwz⟩
    · simp [Value.cells] at hcs
      obtain ⟨rfl, rfl, rfl⟩ := hcs
      exact ⟨[], .inl ⟨rfl, rfl, rfl, rfl⟩⟩
    · simp [Value.cells] at hcs
      obtain ⟨rfl, rfl, rfl⟩ := hcs
      exact ⟨zs, .inr ⟨_, rfl, hl, hm, by simpa using hz, hcell, hwz⟩⟩
  obtain ⟨a3, len3, cap3, rfl⟩ := okWide_slice Try.underlying29 (hval 3 29 v3 rfl rfl)
  have k3 := h3
  have lt3 : ∀ x ∈ p3, x.block < W.heap.size := by obtain ⟨m, hm⟩ := k3; exact DataW.trod_lt m _ _ _ hm
  obtain ⟨z3, w3, g3⟩ : ∃ zs, IsRow .u8 W a3 len3 cap3 zs ∧ cap3 ≤ 140737488351232 := by
    obtain ⟨fuel, hf⟩ := h3
    rcases open_ints Try.underlying29 Try.underlying5 (by kernel_rfl) hf with ⟨hcs, _⟩ | ⟨x, l, c, zs, hcs, _, hl, hm, hz, hx, hcell, hwz⟩
    · simp [Value.cells] at hcs
      obtain ⟨rfl, rfl, rfl⟩ := hcs
      exact ⟨[], .inl ⟨rfl, rfl, rfl, rfl⟩, by omega⟩
    · simp [Value.cells] at hcs
      obtain ⟨rfl, rfl, rfl⟩ := hcs
      injection hx with hd _
      have hz' : zs.length = cap3 := by simpa using hz
      have hr := sized_slice hsz (j := 3) (t := 29) (e := 5) rfl (by rw [hd]; rfl) Try.underlying29
      rw [show Try.prog.bytesOf 5 = 1 from by kernel_rfl] at hr
      simp only [lits, List.length_map, List.length_take, List.length_drop, reachBytes] at hr
      exact ⟨zs, .inr ⟨_, rfl, hl, hm, by simpa using hz, hcell, hwz⟩, by omega⟩
  obtain ⟨a4, rfl, rfl, rfl, w4⟩ := open_int Try.underlying3 (hval 4 3 v4 rfl rfl) h4
  obtain ⟨a5, rfl, rfl, rfl, w5⟩ := open_int Try.underlying3 (hval 5 3 v5 rfl rfl) h5
  obtain ⟨a6, rfl, rfl, rfl, w6⟩ := open_int Try.underlying5 (hval 6 5 v6 rfl rfl) h6
  clear hA0 hval0
  refine (walk a0 a1 len1 cap1 z1 a2 len2 cap2 z2 a3 len3 cap3 z3 a4 a5 a6 W w0 w1 w2 w3 w4 w5 w6 g3).mono fun e W' ⟨he, bel⟩ => ?_
  subst he
  exact ⟨_, rfl, _, _, _, [], _, [], hW', trodAll_mk1 (shut_bool Try.underlying4 _), (trodAll_cons_mk (shut_int Try.underlying3 w0) (trodAll_cons_mk (Below.trod laidOut (by kernel_rfl) (of_decide_eq_true (by kernel_rfl)) k1 bel lt1) (trodAll_cons_mk (Below.trod laidOut (by kernel_rfl) (of_decide_eq_true (by kernel_rfl)) k2 bel lt2) (trodAll_cons_mk (Below.trod laidOut (by kernel_rfl) (of_decide_eq_true (by kernel_rfl)) k3 bel lt3) (trodAll_cons_mk (shut_int Try.underlying3 w4) (trodAll_cons_mk (shut_int Try.underlying3 w5) (trodAll_cons_mk (shut_int Try.underlying5 w6) trodAll_mk0))))))), rfl, bel.frame _, fun h => by cases h⟩

theorem over : Rows.octetSealsRow.holds Try.pinned (OpenSpec.ofChange Rows.octetSealsSpec) :=
  OpenClaim.holds_of_wide 5 Try.f5 rfl rfl rfl rfl rfl rfl rfl ⟨rfl, rfl, rfl, rfl, rfl⟩ rfl rfl rfl rfl rfl (by kernel_rfl) Try.func5 (by kernel_rfl)
    (of_decide_eq_true (by kernel_rfl)) (by unfold Func.isWrapper; first | (rw [if_pos (by decide +kernel)]; kernel_rfl) | (rw [if_neg (by decide +kernel)]; exact ⟨rfl, rfl⟩))
    (fun os started H enc _ => lifted os started H enc)

theorem proved : Rows.OctetSealsSaid := over
#print axioms proved
end Go.Proofs.Ytjmbpnogicdkgaa.octetSeals
