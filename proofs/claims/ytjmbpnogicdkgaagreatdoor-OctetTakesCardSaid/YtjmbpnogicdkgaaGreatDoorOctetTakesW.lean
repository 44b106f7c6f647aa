/-
  The walk of abaculuslaw4.OctetTakes.
-/
import Derived.Test.YtjmbpnogicdkgaaGreatDoorTab
import Derived.Test.YtjmbpnogicdkgaaGreatDoorTakes
import Derived.Test.YtjmbpnogicdkgaaGreatDoorKnown4
import Derived.WalkKit
import Derived.Deep.DeepCutAuto
import Derived.Deep.CutBlock
namespace Go.Proofs.YtjmbpnogicdkgaaGreatDoor
open Go.RowKit
set_option linter.unusedVariables false
set_option linter.unusedSimpArgs false

/-- numbers that can be read -/
def IntsIn (w : World) (B : Nat) (A : Option Addr) (n : Nat) : Prop := ∀ i, i < n → ∃ ad z, A = some ad ∧ ad.block < B ∧ w.cell? (ad.add i) = some (.int .i64 z) ∧ -9223372036854775808 ≤ z ∧ z ≤ 9223372036854775807
theorem IntsIn.below {w w' : World} {B n : Nat} {A : Option Addr} (h : IntsIn w B A n) (hb : Below B w w') : IntsIn w' B A n := fun i hi => by
  obtain ⟨ad, z, h1, h2, h3, h4, h5⟩ := h i hi
  refine ⟨ad, z, h1, h2, ?_, h4, h5⟩
  rw [World.cell?_of_block (hb.block (ad.add i).block (by rw [block_of_add]; exact h2))]
  exact h3
theorem Tab.below' {w w' : World} {B : Nat} (h : Tab w) (hb : Below B w w') (hB : 3 < B) : Tab w' := fun i hi => by
  rw [World.cell?_of_block (hb.block _ hB)]
  exact h i hi
/-- the laid bytes, with some turned -/
def TurnRel (w : World) (g N c : Nat) (A : Option Addr) (wr : World) : Prop := ∃ m : List UInt8, m.length = N ∧ Own wr 5 u8v (.slice A N c) m ∧ Exc g w wr
/-- the bytes to be read and the steps that read them -/
def MadeRel (w : World) (vb vo : Value) (wc : World) : Prop :=
  ∃ bl ol A n c, Own wc 5 u8v vb bl ∧ bl.length ≤ 3000 ∧ vo = .slice A n c ∧ ReadsW wc wc.heap.size 6 stepC A n ol ∧ (∀ x ∈ ol, StepOK wc w.heap.size x) ∧ n ≤ 9223372036854775807 ∧ Below w.heap.size w wc
/-- so many steps are laid -/
def LaidTo (W : World) (B b : Nat) (l : List StepD) (u : Value) (wr : World) : Prop := ∃ L v A N c, u = .slice A N c ∧ L.length = N ∧ N ≤ 2520 ∧ N ≤ c ∧ c ≤ 9223372036854775807 ∧ Pair wr B b v (.slice A N c) L L ∧ Below B W wr
theorem Tryz.eltStep : EltW Tryz.prog 42 24 (.agg #[.int .i64 0, .int .i64 0, .slice none 0 0, .slice none 0 0, .bool false, .string ⟨#[]⟩]) 6 88 := ⟨Tryz.underlying42, by kernel_rfl, by kernel_rfl⟩
theorem stepC_one (x : StepD) : ∀ u ∈ stepC x, u.oneCell' = true := by
  intro u hu
  simp [stepC] at hu
  rcases hu with rfl | rfl | rfl | rfl | rfl | rfl <;> rfl
theorem OwnW.lit0 {α : Type} (w : World) (e : TypeId) (k : Nat) (f : α → List Value) : OwnW (w.alloc (.cells #[] e)) e k f (.slice (some ⟨w.heap.size, 0, none⟩) 0 0) [] :=
  ⟨by simp, .inr ⟨w.heap.size, 0, #[], rfl, Nat.zero_le _, heap_alloc_new w _, Nat.le_refl _, by unfold maxLen; omega, by simp, by simp⟩⟩
set_option maxRecDepth 100000 in
set_option maxHeartbeats 16000000 in
theorem octetTakes_walk (A0 : Option Addr) (n0 c0 : Nat) (raw : List UInt8) (A1 : Option Addr) (n1 c1 : Nat) (l1 : List StepD) (A2 : Option Addr) (n2 c2 : Nat) (l2 : List StepD) (A3 : Option Addr) (n3 c3 : Nat) (by0 : UInt8) (laid : Bool) (w : World)
    (h0 : Bytes w w.heap.size A0 n0 raw) (hc0 : n0 ≤ c0) (hc0' : c0 ≤ 9223372036854775807)
    (h1 : ReadsW w w.heap.size 6 stepC A1 n1 l1) (ok1 : ∀ x ∈ l1, StepOK w w.heap.size x) (hc1 : n1 ≤ c1) (hc1' : c1 ≤ 9223372036854775807)
    (h2 : ReadsW w w.heap.size 6 stepC A2 n2 l2) (ok2 : ∀ x ∈ l2, StepOK w w.heap.size x) (hc2 : n2 ≤ c2) (hc2' : c2 * 88 ≤ 140737488351232)
    (h3 : IntsIn w w.heap.size A3 n3) (hn3 : n3 ≤ 9223372036854775807) (hT : Tab w) :
    Calls Tryz.prog 4 #[.slice A0 n0 c0, .slice A1 n1 c1, .slice A2 n2 c2, .slice A3 n3 c3, .int .u8 (by0.toNat : Int), .bool laid] w fun e w' => e = .returned (.bool true) ∧ Below w.heap.size w w' := by
  have H0 := Lib.hid h0
  have H1 := Lib.hid h1
  have H2 := Lib.hid h2
  have H3 := Lib.hid h3
  have OK1 := Lib.hid ok1
  have OK2 := Lib.hid ok2
  have HT := Lib.hid hT
  have HL1 := Lib.hid h1.len
  have HL2 := Lib.hid h2.len
  clear h0 h1 h2 h3 ok1 ok2 hT
  go_enter Tryz.func4, Tryz.ntmps4
  go_wp2_with fail
  refine (new_writer w).mono ?_
  rintro e w1 ⟨rfl, rfl⟩
  have h1 := IsW.new w
  have hB1 := balloc1 w (.cells #[.slice none 0 0] 99)
  generalize w.alloc (.cells #[.slice none 0 0] 99) = x1 at *
  go_wp2_with fail
  refine (octet_known x1).mono ?_
  rintro e x2 ⟨rfl, hb2⟩
  have h2 := h1.below hb2
  have hB2 := bthen hB1 hb2
  clear h1 hB1 hb2
  have hfw := hand_few A0 n0 c0 _ raw 300 x2 (Reads.below H0.out hB2) hB2.size (by omega) hc0 (by omega)
  have HFW := Lib.hid hfw
  clear hfw
  go_wp2_with fail
  refine HFW.out.mono ?_
  rintro e x3 ⟨v3, rfl, ho3, hb3, hf3⟩
  have h3 := h2.below hb3
  have hB3 := bthen hB2 hb3
  have hl3 : (raw.take 300).length ≤ 300 := by rw [List.length_take]; omega
  obtain ⟨b, hb⟩ : ∃ b, w.heap.size = b := ⟨_, rfl⟩
  have HP0 : Pair x3 w.heap.size b (.slice none 0 0) (.slice none 0 0) [] [] := by
    rw [← hb]
    exact Pair.start (w' := w) h3 hB3.size (Nat.le_refl _)
  have hwb : w.heap.size ≤ b := by omega
  rw [hb]
  have hb3s := hB2.size
  clear hb h2 h3 hB2 HFW hb3
  generalize raw.take 300 = bl0 at *
  go_upto_if 29 with fail
  go_cut [14, 2] (fun vb vo wc => MadeRel w vb vo wc)
  case first =>
    cases laid with
    | false =>
      have HF := Lib.hid (And.intro ho3 hB3)
      clear ho3 HP0 hf3
      go_wp2
      go_meet
      exact ⟨bl0, l2, A2, n2, c2, HF.out.1, by omega, rfl, (H2.out.below HF.out.2).more HF.out.2.size, fun x hx => (OK2.out x hx).below HF.out.2, by omega, HF.out.2⟩
    | true =>
      clear ho3 hf3 hl3 H0
      go_upto_block 0 with fail
      go_cut [14] (fun u wc => LaidTo w w.heap.size b l1 u wc)
      case first =>
        go_wp2_with fail
        go_loopw [14, 15] (fun u i wr => ∃ k : Nat, k ≤ n1 ∧ k ≤ 12 ∧ i = .int .i64 (k : Int) ∧ LaysRel w w.heap.size b l1 k u wr) (fun _ i _ => 12 - (intOf i).toNat)
        case atStart => exact ⟨0, by omega, by omega, rfl, _, HP0, hB3⟩
        case round =>
          obtain ⟨k, hk, hk12, rfl, v, hpr, hbel⟩ := hrel
          clear HP0 hB3
          rename World => wr
          have hlen : (allB (l1.take k)).length ≤ 2520 := by
            have := allB_len (l1.take k)
            rw [List.length_take] at this
            omega
          by_cases hlt : k < n1 ∧ k < 12
          · obtain ⟨hlt1, hlt2⟩ := hlt
            obtain ⟨ad, g, o, x, rfl, hP, hgB, hx, x0, x1, x2, x3, x4, x5⟩ := ReadsS.cells (H1.out.below hbel) hlt1
            have ok := (OK1.out x (List.mem_of_getElem? hx)).below hbel
            have hly := law_lay x.what x.n x.A1 x.A2 x.na x.ca x.nb x.cb w.heap.size b x.neg x.s v u14 (allB (l1.take k)) (allB (l1.take k)) _ hpr x.al x.bl ok.ha ok.hb (Nat.le_trans ok.ca ok.ca2) (Nat.le_trans ok.cb ok.cb2) ok.ca ok.cb ok.hs (HT.out.next hbel) ok.w0 ok.w1 ok.n1 (by omega) (by omega)
            have htk := allB_take l1 k x hx
            unfold stepL at htk
            have HTK := Lib.hid htk
            have HLY := Lib.hid hly
            have HB := Lib.hid hbel
            clear hly htk hx ok hpr hbel hlen
            obtain ⟨xw, xn, xA1, xna, xca, xA2, xnb, xcb, xneg, xs, xal, xbl⟩ := x
            simp only [] at x0 x1 x2 x3 x4 x5 HLY HTK
            have k1 : (k : Int) < (n1 : Int) := by omega
            have k2 : (k : Int) < 12 := by omega
            go_wp2_with fail
            refine HLY.out.mono ?_
            rintro e w1 ⟨v', u', rfl, hp', hb', _⟩
            have hb9 := HB.out.trans hb'
            rw [← HTK.out] at hp'
            have HF := Lib.hid (And.intro hp' hb9)
            clear hp' hb9 hb' HLY HB HTK x0 x1 x2 x3 x4 x5 hP
            go_wp2
            exact ⟨⟨k + 1, by omega, by omega, by go_num, v', HF.out.1, HF.out.2⟩, by simp [intOf]; omega⟩
          · have hcase : (¬ (k : Int) < (n1 : Int)) ∨ ((k : Int) < (n1 : Int) ∧ ¬ (k : Int) < 12) := by omega
            obtain ⟨Au, cu, hu, hu1, hu2⟩ := hpr.own.form
            subst hu
            have HF : Hid (LaidTo w w.heap.size b l1 (.slice Au (allB (l1.take k)).length cu) wr) := Lib.hid ⟨_, v, Au, _, cu, rfl, rfl, hlen, hu1, by unfold maxLen at hu2; omega, hpr, hbel⟩
            clear hlt hpr hbel
            rcases hcase with k1 | ⟨k1, k2⟩
            all_goals
              go_wp2
              go_meet
              exact HF.out
      case rest =>
        obtain ⟨L, v, Au, N, cu, rfl, hN, hN2, hNc, hcu, hpr, hbel⟩ := hcut
        rename World => w4
        clear HP0 hB3
        obtain ⟨g, hg1, hg2⟩ : ∃ g, (0 < N → Au = some ⟨g, 0, none⟩) ∧ w.heap.size ≤ g := by
          rcases Nat.eq_zero_or_pos N with h0 | h0
          · exact ⟨w.heap.size, (fun h => by omega), Nat.le_refl _⟩
          · obtain ⟨g, hg⟩ := hpr.own.addr (by omega)
            exact ⟨g, (fun _ => hg), hpr.lu g (by rw [hg]; rfl)⟩
        have HG1 := Lib.hid hg1
        have HO := Lib.hid hpr.own
        have HBL := Lib.hid hbel
        clear hpr hg1 hbel
        go_upto_block 2 with fail
        go_cut [16] (fun _ wc => TurnRel w4 g N cu Au wc)
        case first =>
          go_wp2_with fail
          go_loopw [16] (fun i wr => ∃ j : Nat, j ≤ n3 ∧ j ≤ 2 ∧ i = .int .i64 (j : Int) ∧ TurnRel w4 g N cu Au wr) (fun i _ => 2 - (intOf i).toNat)
          case atStart => exact ⟨0, by omega, by omega, rfl, L, hN, HO.out, Exc.refl _ _⟩
          case round =>
            obtain ⟨j, hj, hj2, rfl, m, hm, hom, hex⟩ := hrel
            rename World => wr
            have hBr : Below w.heap.size w wr := HBL.out.trans (hex.below HBL.out.size hg2)
            by_cases hgo : j < n3 ∧ j < 2 ∧ 0 < N
            · obtain ⟨hj3, hj4, hN0⟩ := hgo
              obtain ⟨ad3, z, rfl, hbk, hcell, hz0, hz1⟩ := (H3.out.below hBr) j hj3
              have hAu := HG1.out hN0
              subst hAu
              have hpk := hand_pick z N wr hz0 hz1 (by omega) (by omega)
              obtain ⟨i0, hi0⟩ := Int.eq_ofNat_of_zero_le (Int.emod_nonneg z (b := (N : Int)) (by omega))
              have hi1 : i0 < N := by
                have := Int.emod_lt_of_pos z (b := (N : Int)) (by omega)
                omega
              rw [hi0] at hpk
              obtain ⟨y, hy⟩ : ∃ y, m[i0]? = some y := ⟨_, List.getElem?_eq_getElem (by rw [hm]; exact hi1)⟩
              rw [← hm] at hom
              have q1 := hom.cellf hy
              have f1 := hom.frozenf i0
              have st := hom.store i0 (y ^^^ by0)
              rw [hm] at hom st
              have hx1 : bits .xor .u8 (y.toNat : Int) (by0.toNat : Int) = (((y ^^^ by0).toNat : Nat) : Int) := by
                rw [xor_u8 _ _ y.toNat_lt by0.toNat_lt, UInt8.toNat_xor]
              have HF := Lib.hid (And.intro st (hex.set_ i0 (u8v (y ^^^ by0))))
              obtain ⟨y2, hy2⟩ : ∃ y2, y ^^^ by0 = y2 := ⟨_, rfl⟩
              rw [hy2] at hx1 HF
              have HM := Lib.hid hm
              have HPK := Lib.hid hpk
              unfold u8v at q1
              have j1 : (j : Int) < (n3 : Int) := by omega
              have j2 : (j : Int) < 2 := by omega
              have j3 : (0 : Int) < (N : Int) := by omega
              have i1 : (i0 : Int) < (N : Int) := by omega
              clear hom hex st hy hy2 hm hpk hi0 hBr
              go_wp2_with fail
              refine HPK.out.mono ?_
              rintro e w5 ⟨rfl, rfl⟩
              go_wp2
              exact ⟨⟨j + 1, by omega, by omega, by go_num, m.set i0 y2, by rw [List.length_set]; exact HM.out, HF.out.1, HF.out.2⟩, by simp [intOf]; omega⟩
            · have hcase : (¬ (j : Int) < (n3 : Int)) ∨ ((j : Int) < (n3 : Int) ∧ ¬ (j : Int) < 2) ∨ ((j : Int) < (n3 : Int) ∧ (j : Int) < 2 ∧ ¬ (0 : Int) < (N : Int)) := by omega
              have HF := Lib.hid (show TurnRel w4 g N cu Au wr from ⟨m, hm, hom, hex⟩)
              clear hgo hm hom hex hBr
              rcases hcase with k1 | ⟨k1, k2⟩ | ⟨k1, k2, k3⟩
              all_goals
                go_wp2
                go_meet
                exact HF.out
        case rest =>
          obtain ⟨m, hm, hom, hex⟩ := hcut
          rename World => w5
          have hB5 : Below w.heap.size w w5 := HBL.out.trans (hex.below HBL.out.size hg2)
          clear HBL HO hN
          obtain ⟨k, hk⟩ : ∃ k, min n1 12 = k := ⟨_, rfl⟩
          have hmin : min (n1 : Int) 12 = (k : Int) := by omega
          have hk1 : k ≤ n1 := by omega
          have hk12 : k ≤ 12 := by omega
          have hk2 : (k : Int) ≤ (c1 : Int) := by omega
          have ho := OwnW.lit0 w5 24 6 stepC
          have hal := balloc1 w5 (.cells #[] 24)
          have hr1 := ((H1.out.below hB5).alloc hB5.size (.cells #[] 24)).front stepC_len hk1
          have hlk : (l1.take k).length = k := by rw [List.length_take, HL1.out]; omega
          have HLK := Lib.hid hlk
          clear hlk hk
          have HHO := Lib.hid (And.intro hom hm)
          have HHX := Lib.hid hex
          clear hom hm hex
          go_wp2_with (at_builtin; refine appW Tryz.eltStep (by omega) rfl (.tmp 75) (.tmp 80) rfl (w5.alloc (.cells #[] 24)) _ [] w.heap.size A1 k c1 (l1.take k) rfl ho rfl hr1 stepC_one ?c1 ?c2 ?_)
          case c1 => unfold maxLen; simp; omega
          case c2 => simp; omega
          intro v6 w6 ho6 hgr6
          have hb6 : Below w5.heap.size w5 w6 := ((Below.refl _ _).alloc (Nat.le_refl _) _).trans (Grew.below (B := w5.heap.size) hgr6 (by simp) (by intro k hk; simp [Value.ownBlock] at hk; omega))
          have hf6 := Grew.fresh (B := w5.heap.size) hgr6 (by simp) (by intro k hk; simp [Value.ownBlock] at hk; omega)
          have hB6 := bthen hB5 hb6
          have hr2 := H2.out.below hB6
          clear ho hgr6 hr1 hal
          go_wp2_with (at_builtin; refine appW Tryz.eltStep (by omega) rfl (.tmp 81) (.tmp 82) rfl w6 _ (l1.take k) w.heap.size A2 n2 c2 l2 rfl ho6 rfl hr2 stepC_one ?c1 ?c2 ?_)
          case c1 => rw [HLK.out]; unfold maxLen; omega
          case c2 => rw [HLK.out]; omega
          intro v7 w7 ho7 hgr7
          have hb7 := Grew.below (B := w5.heap.size) hgr7 hb6.size hf6
          have hB7 := hB6.trans (hb7.mono hB5.size)
          have hu7 := (HHO.out.1.below hb6 HHO.out.1.lt).below hb7 HHO.out.1.lt
          obtain ⟨A7, c7, hv7, hc7, hc7'⟩ := ho7.form
          subst hv7
          have hr7 := ho7.reads
          have hln7 : (l1.take k ++ l2).length ≤ 9223372036854775807 := by
            rw [List.length_append, HLK.out, HL2.out]; omega
          have HF : Hid (MadeRel w (.slice Au N cu) (.slice A7 (l1.take k ++ l2).length c7) w7) := Lib.hid ⟨m, l1.take k ++ l2, A7, _, c7, hu7, by rw [HHO.out.2]; omega, rfl, hr7, fun x hx => by
            rcases List.mem_append.1 hx with h | h
            · exact (OK1.out x (List.mem_of_mem_take h)).below hB7
            · exact (OK2.out x h).below hB7, hln7, hB7⟩
          clear ho7 hgr7 hb7 hu7 hr7 hln7 hc7 hc7' ho6 hf6 hb6 hr2 HHO HHX
          go_wp2
          go_meet
          exact HF.out
  case rest =>
    obtain ⟨bl, ol, A, n, c, hob, hbl, rfl, hro, hoko, hnn, hBc⟩ := hcut
    rename World => w8
    clear HP0 hB3 ho3 hf3 hl3
    obtain ⟨Ab, cb, hvb, hcb1, hcb2⟩ := hob.form
    subst hvb
    have hrb := Own.reads hob
    obtain ⟨M, hM⟩ : ∃ M, bl.length = M := ⟨_, rfl⟩
    rw [hM] at hrb hcb1 hob hbl ⊢
    have hcb3 : M ≤ 9223372036854775807 := by omega
    have htk : bl.take M = bl := by rw [← hM]; exact List.take_length
    have hfw := fun w' (hb : Below w8.heap.size w8 w') => hand_few Ab M cb _ bl M w' (Reads.below hrb hb) hb.size hcb3 hcb1 (by omega)
    rw [htk] at hfw
    have HFW := Lib.hid hfw
    have HRO := Lib.hid hro
    have HOKO := Lib.hid hoko
    have HM := Lib.hid hM
    clear hfw htk hrb hob hcb2 hro hoko hM
    go_wp2_with fail
    refine (HFW.out w8 (Below.refl _ _)).mono ?_
    rintro e w9 ⟨v9, rfl, ho9, hb9, hf9⟩
    obtain ⟨A9, c9, hv9, hc9, hc9'⟩ := ho9.form
    subst hv9
    have hrd9 := Own.reads ho9
    rw [HM.out] at hrd9 hc9 ⊢
    have hnr := new_reader A9 M c9 _ bl w9 hrd9 (Nat.le_refl _) (by omega)
    have HNR := Lib.hid hnr
    clear hnr hrd9 ho9 hf9
    go_wp2_with fail
    refine HNR.out.mono ?_
    rintro e w10 ⟨r, Br, rfl, hR, hb10, hr10⟩
    have hB10 := bthen hb9 hb10
    have hr8 : w8.heap.size ≤ r := Nat.le_trans hb9.size hr10
    clear HNR hb9 hb10
    go_wp2_with fail
    refine (HFW.out w10 hB10).mono ?_
    rintro e w11 ⟨v11, rfl, ho11, hb11, hf11⟩
    obtain ⟨A11, c11, hv11, hc11, hc11'⟩ := ho11.form
    subst hv11
    have hrd11 := Own.reads ho11
    have hR := hR.below hb11
    have hB11 := bthen hB10 hb11
    rw [HM.out] at hrd11 hc11 ⊢
    have hal := balloc1 w11 (.cells #[.slice A11 M c11, .bool false] 48)
    have hrp : r < w11.heap.size := hR.lt
    have hP : IsP (w11.alloc (.cells #[.slice A11 M c11, .bool false] 48)) w11.heap.size w11.heap.size (bl, false) :=
      ⟨A11, M, c11, Blk.new _ _ _, hrd11.alloc (Nat.le_refl _) _, by simp, fun ad hA => by
        subst hA
        rcases Nat.eq_zero_or_pos M with h0 | h0
        · intro e
          have := hf11 w11.heap.size (by rw [← e]; rfl)
          have := ho11.lt w11.heap.size (by rw [← e]; rfl)
          omega
        · obtain ⟨ad', e1, e2, _⟩ := hrd11.2 h0
          obtain rfl := Option.some.inj e1
          omega, hc11, by unfold maxLen at hc11'; omega⟩
    have hD : Duo (w11.alloc (.cells #[.slice A11 M c11, .bool false] 48)) r Br w11.heap.size w11.heap.size w8.heap.size (bl, false) :=
      ⟨hR.below hal, hP, good_ok _, by omega, hr8, hB11.size, by show bl.length ≤ _; rw [HM.out]; omega⟩
    have hB12 := bthen hB11 hal
    have hT8 := HT.out.next hBc
    have HT8 := Lib.hid hT8
    have HD := Lib.hid hD
    have HB12 := Lib.hid hB12
    have HBC := Lib.hid hBc
    clear HFW hP hD hR hal hrd11 ho11 hf11 hB10 hB11 hb11 hT8 hB12 hBc hc11'
    go_wp2_with fail
    have hw11 := hrp
    generalize w11.alloc (.cells #[.slice A11 M c11, .bool false] 48) = w12 at *
    generalize w11.heap.size = p at *
    obtain ⟨B0, hB0⟩ : ∃ B0, w8.heap.size = B0 := ⟨_, rfl⟩
    have hTB : 3 < B0 := by rw [← hB0]; exact HT8.out.lt
    have hTr : 3 ≠ r := by omega
    rw [hB0] at HD HB12 HRO
    go_loopw [19] (fun i wr => ∃ k : Nat, k ≤ n ∧ k ≤ 24 ∧ i = .int .i64 (k : Int) ∧ (∃ s, Duo wr r Br p p B0 s) ∧ Below B0 w8 wr) (fun i _ => 24 - (intOf i).toNat)
    case atStart => exact ⟨0, by omega, by omega, rfl, ⟨_, HD.out⟩, HB12.out⟩
    case round =>
      obtain ⟨k, hk, hk24, rfl, ⟨s, hd⟩, hbel⟩ := hrel
      rename World => wr
      clear HD HB12
      by_cases hlt : k < n ∧ k < 24
      · obtain ⟨hlt1, hlt2⟩ := hlt
        obtain ⟨ad, g, o, x, rfl, hPP, hgB, hx, x0, x1, x2, x3, x4, x5⟩ := ReadsS.cells (HRO.out.below hbel) hlt1
        have ok := HOKO.out x (List.mem_of_getElem? hx)
        have htk : ∀ w', Duo w' r Br p p B0 s → Tab w' → Calls Tryz.prog 18 #[.pointer (some ⟨r, 0, none⟩), .pointer (some ⟨p, 0, none⟩), .agg #[.int .i64 x.what, .int .i64 x.n, .slice x.A1 x.na x.ca, .slice x.A2 x.nb x.cb, .bool x.neg, .string x.s]] w' (TakeP r Br p p B0 w') := fun w' h1 h2 =>
          take_step r Br p p B0 x.what x.n x.A1 x.A2 x.na x.ca x.nb x.cb x.neg x.s s w' h1 ok.w0 ok.w1 ok.n0 ok.n1 h2 hTr
        have hTd : Tab wr.drew := Tab.below' HT8.out (hbel.trans ((bdrew0 wr).mono (by have := hd.lr; have := hd.isr.lt; omega))) hTB
        have HTK := Lib.hid htk
        have HD := Lib.hid (hd.below (bdrew0 wr))
        have HTD := Lib.hid hTd
        have HBL := Lib.hid (hbel.trans ((bdrew0 wr).mono (by have := hd.lr; have := hd.isr.lt; omega)))
        clear htk hTd ok hx hd hbel
        obtain ⟨xw, xn, xA1, xna, xca, xA2, xnb, xcb, xneg, xs, xal, xbl⟩ := x
        simp only [] at x0 x1 x2 x3 x4 x5 HTK
        have k1 : (k : Int) < (n : Int) := by omega
        have k2 : (k : Int) < 24 := by omega
        go_upto_region 23 with fail
        go_cut [133] from 97 to 133 (fun v wc => v = .bool false ∧ (∃ s', Duo wc r Br p p B0 s') ∧ Below B0 w8 wc)
        case first =>
          have hund : undef = Value.tuple #[] := rfl
          first | (go_region_with (first | (go_at_call 18; (with_reducible refine (HTK.out _ HD.out HTD.out).mono ?_); rintro e w20 ⟨rfl, ⟨s', hd'⟩, hb'⟩; have hP' := hd'.isp; obtain ⟨Ar, nr, cr, r1, r2, r3, r4, r5⟩ := hP'; have rq0 := r1.cell 0; have rq1 := r1.cell 1; simp at rq0 rq1; have hlr := r2.len; have hBd := reader_bad r Br s' w20 hd'.isr; have hLf := reader_left r Br s' w20 hd'.isr; rw [hlr] at hLf; generalize s'.2 = bd at *; have HBD := Lib.hid hBd; have HLF := Lib.hid hLf; clear hBd hLf r1 r2 r3 r4 r5) | (go_at_call 19; (with_reducible refine HBD.out.mono ?_); rintro e w21 ⟨rfl, rfl⟩) | (go_at_call 20; (with_reducible refine HLF.out.mono ?_); rintro e w22 ⟨rfl, rfl⟩))) | fail
          all_goals
            go_wp2
            go_meet
            exact ⟨rfl, ⟨_, hd'⟩, HBL.out.trans hb'⟩
        case rest =>
          obtain ⟨rfl, ⟨s', hd'⟩, hbc⟩ := hcut
          go_wp2
          exact ⟨⟨k + 1, by omega, by omega, by go_num, ⟨_, hd'⟩, hbc⟩, by simp [intOf]; omega⟩
      · have hcase : (¬ (k : Int) < (n : Int)) ∨ ((k : Int) < (n : Int) ∧ ¬ (k : Int) < 24) := by omega
        have HF := Lib.hid (bthen HBC.out (hB0 ▸ hbel))
        clear hlt hd
        rcases hcase with k1 | ⟨k1, k2⟩
        all_goals
          go_wp2
          go_ret
          exact ⟨rfl, HF.out⟩
end Go.Proofs.YtjmbpnogicdkgaaGreatDoor
