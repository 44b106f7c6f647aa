/-
  Proved here: for every list of steps, abaculuslaw4.OctetLays returns true and leaves its arguments as they were, where math/bits.deBruijn64tab starts as the program's text lays it (the card ties it).
-/
import Derived.Test.YtjmbpnogicdkgaaDoorCards
import Derived.Test.YtjmbpnogicdkgaaDoorTie
import Derived.Test.YtjmbpnogicdkgaaDoorTab
import Derived.Test.YtjmbpnogicdkgaaDoorLays
import Derived.Test.YtjmbpnogicdkgaaDoorKnown4
import Derived.WalkKit
import Derived.ProofKit
import Derived.OpenShut
import Derived.ShutString
import Derived.ChangeOld
import Derived.Below
-- CUSTOM 1
-- ARGV .slice none 0 0
-- WITNESS .nil
-- MID obtain ⟨a0, len0, cap0, rfl⟩ := okWide_slice Tryd.underlying22 (hval 0 22 v0 rfl rfl)
-- MID have k0 := h0
-- MID have lt0 : ∀ x ∈ p0, x.block < W.heap.size := by obtain ⟨m, hm⟩ := k0; exact DataW.trod_lt m _ _ _ hm
-- MID obtain ⟨l0, w0, o0, c0, c0'⟩ := open_steps h0
-- WALK a0 len0 cap0 l0 W w0 o0 c0 c0'
-- SP Below.trod laidOut (by kernel_rfl) (of_decide_eq_true (by kernel_rfl)) k0 hg lt0
namespace Go.Proofs.YtjmbpnogicdkgaaDoor.octetLays
open Go.ChangeShapes Go.WideShapes Go.ChangeAt Go.RowKit
open Go.ChangeMaps (open_string shut_string)
set_option linter.unusedVariables false
set_option linter.unusedSimpArgs false

theorem own : ownKnob Tryd.prog.godebug = none := by kernel_rfl
theorem laidOut : laidOutB Tryd.prog = true := by kernel_rfl

/-- some bytes of the copy are turned -/
def IncRel (w : World) (g N c : Nat) (A : Option Addr) (wr : World) : Prop := ∃ m : List UInt8, m.length = N ∧ Own wr 5 u8v (.slice A N c) m ∧ Exc g w wr

set_option maxRecDepth 100000 in
set_option maxHeartbeats 2000000 in
theorem walk (A : Option Addr) (n c : Nat) (l : List StepD) (w : World) (h : ReadsW w w.heap.size 6 stepC A n l) (hok : ∀ x ∈ l, StepOK w w.heap.size x) (hn : n ≤ c) (hc : c ≤ 9223372036854775807) (hT : Tab w) :
    Calls Tryd.prog 3 #[.slice A n c] w fun e w' => e = .returned (.bool true) ∧ Below w.heap.size w w' := by
  have H := Lib.hid h
  have HOK := Lib.hid hok
  have HT := Lib.hid hT
  have hlen := h.len
  have HLEN := Lib.hid hlen
  clear h hok hT hlen
  go_enter Tryd.func3, Tryd.ntmps3
  go_wp2_with fail
  refine (new_writer w).mono ?_
  rintro e w1 ⟨rfl, rfl⟩
  have h1 := IsW.new w
  have hB1 := balloc1 w (.cells #[.slice none 0 0] 59)
  generalize w.alloc (.cells #[.slice none 0 0] 59) = x1 at *
  go_wp2_with fail
  refine (octet_known x1).mono ?_
  rintro e x2 ⟨rfl, hb2⟩
  have h2 := h1.below hb2
  have hB2 := bthen hB1 hb2
  clear h1 hB1 hb2
  obtain ⟨b, hb⟩ : ∃ b, w.heap.size = b := ⟨_, rfl⟩
  have HP0 : Pair x2 w.heap.size b (.slice none 0 0) (.slice none 0 0) [] := by
    rw [← hb]
    exact Pair.start (w' := w) h2 hB2.size (Nat.le_refl _)
  rw [hb]
  have hwb : w.heap.size ≤ b := by omega
  clear hb h2
  go_wp2_with fail
  go_loopw [4, 5] (fun u i wr => ∃ k : Nat, k ≤ n ∧ k ≤ 30 ∧ i = .int .i64 (k : Int) ∧ LaysRel w w.heap.size b l k u wr) (fun _ i _ => 30 - (intOf i).toNat)
  case atStart => exact ⟨0, by omega, by omega, rfl, _, HP0, hB2⟩
  case round =>
    obtain ⟨k, hk, hk30, rfl, v, hpr, hbel⟩ := hrel
    clear HP0 hB2
    by_cases hlt : k < n ∧ k < 30
    · obtain ⟨hlt1, hlt2⟩ := hlt
      obtain ⟨ad, g, o, x, rfl, hP, hgB, hx, x0, x1, x2, x3, x4, x5⟩ := ReadsS.cells (H.out.below hbel) hlt1
      have ok := (HOK.out x (List.mem_of_getElem? hx)).below hbel
      have hlen : (allB (l.take k)).length ≤ 6300 := by
        have := allB_len (l.take k)
        rw [List.length_take] at this
        omega
      have hly := law_lay x.what x.n x.A1 x.A2 x.na x.ca x.nb x.cb w.heap.size b x.neg x.s v u4 (allB (l.take k)) _ hpr x.al x.bl ok.ha ok.hb (Nat.le_trans ok.ca ok.ca2) (Nat.le_trans ok.cb ok.cb2) ok.ca ok.cb ok.hs (HT.out.next hbel) ok.w0 ok.w1 ok.n1 (by omega)
      have htk := allB_take l k x hx
      unfold stepL at htk
      have HTK := Lib.hid htk
      have HLY := Lib.hid hly
      have HB := Lib.hid hbel
      clear hly htk hx ok hpr hbel hlen
      obtain ⟨xw, xn, xA1, xna, xca, xA2, xnb, xcb, xneg, xs, xal, xbl⟩ := x
      simp only [] at x0 x1 x2 x3 x4 x5 HLY HTK
      have k1 : (k : Int) < (n : Int) := by omega
      have k2 : (k : Int) < 30 := by omega
      go_wp2_with fail
      refine HLY.out.mono ?_
      rintro e w1 ⟨v', u', rfl, hp', hb'⟩
      have hb9 := HB.out.trans hb'
      rw [← HTK.out] at hp'
      have HF := Lib.hid (And.intro hp' hb9)
      clear hp' hb9 hb' HLY HB HTK x0 x1 x2 x3 x4 x5 hP
      go_wp2
      exact ⟨⟨k + 1, by omega, by omega, by go_num, v', HF.out.1, HF.out.2⟩, by simp [intOf]; omega⟩
    · obtain ⟨L, hL⟩ : ∃ L, allB (l.take k) = L := ⟨_, rfl⟩
      have hLl : L.length ≤ 6300 := by
        have := allB_len (l.take k)
        rw [List.length_take] at this
        rw [← hL]
        omega
      rw [hL] at hpr
      have hcase : (¬ (k : Int) < (n : Int)) ∨ ((k : Int) < (n : Int) ∧ ¬ (k : Int) < 30) := by omega
      clear hL hlt
      have HPR := Lib.hid hpr
      have HB := Lib.hid hbel
      rename World => wr
      have hby := writer_bytes b v L wr hpr.isw (by omega)
      have HBY := Lib.hid hby
      obtain ⟨Au, cu, hu, _, _⟩ := hpr.own.form
      subst hu
      clear hpr hbel hby
      rcases hcase with k1 | ⟨k1, k2⟩
      all_goals
        go_wp2_with fail
        refine HBY.out.mono ?_
        rintro e w2 ⟨v2, rfl, ho2, hb2, hf2⟩
        have hw2 := HPR.out.isw.below hb2
        have hu2 := HPR.out.own.below hb2 HPR.out.own.lt
        have hB2 := HB.out.trans (hb2.mono HB.out.size)
        obtain ⟨A2, c2, hv2, hc3, hc4⟩ := ho2.form
        rw [hv2] at ho2 hf2 ⊢
        have hs1 := run_string (P := Tryd.prog) w2 26 9 5 A2 L.length c2 _ _ Tryd.underlying26 Tryd.underlying5 Tryd.underlying9 (Own.reads ho2)
        have hs2 := run_string (P := Tryd.prog) w2 26 9 5 Au L.length cu _ _ Tryd.underlying26 Tryd.underlying5 Tryd.underlying9 (Own.reads hu2)
        obtain ⟨N, hN⟩ : ∃ N, L.length = N := ⟨_, rfl⟩
        have hbz := hb2.size
        have hlv := HPR.out.isw.2.lt
        have hlu := HPR.out.own.lt
        have hlb := HPR.out.isw.1.lt
        have HLV := Lib.hid (And.intro hlv hlu)
        obtain ⟨g, hg1, hg2⟩ : ∃ g, (0 < L.length → A2 = some ⟨g, 0, none⟩) ∧ wr.heap.size ≤ g := by
          rcases Nat.eq_zero_or_pos L.length with h0 | h0
          · exact ⟨wr.heap.size, (fun h => by omega), Nat.le_refl _⟩
          · obtain ⟨g, hg⟩ := ho2.addr h0
            exact ⟨g, (fun _ => hg), hf2 g (by rw [hg]; rfl)⟩
        rw [hN] at hs1 hs2 ho2 hg1
        rw [hN]
        have HN := Lib.hid hN
        have HW2 := Lib.hid hw2
        have HU2 := Lib.hid hu2
        have hg0 := HB.out.size
        have HG1 := Lib.hid hg1
        have HO2 := Lib.hid ho2
        have hNl : N ≤ 6300 := by rw [← hN]; exact hLl
        clear hN hv2 hf2 hb2 hw2 hu2 hlv hlu hg1 ho2 HBY
        go_wp2_with fail
        clear hs1 hs2
        go_loopw [7] (fun i wv => ∃ j : Nat, j ≤ N ∧ i = .int .i64 (j : Int) ∧ IncRel w2 g N c2 A2 wv) (fun i _ => N - (intOf i).toNat)
        case atStart => exact ⟨0, by omega, rfl, L, HN.out, HO2.out, Exc.refl _ _⟩
        case round =>
          obtain ⟨j, hj, rfl, m, hm, hom, hex⟩ := hrel
          by_cases hjn : j < N
          · have hA2 := HG1.out (by omega)
            subst hA2
            obtain ⟨y, hy⟩ : ∃ y, m[j]? = some y := ⟨_, List.getElem?_eq_getElem (by rw [hm]; exact hjn)⟩
            rw [← hm] at hom
            have q1 := hom.cellf hy
            have f1 := hom.frozenf j
            have st := hom.store j (y + 1)
            rw [hm] at hom st
            have hinc : IntKind.u8.wrap ((y.toNat : Int) + 1) = (((y + 1).toNat : Nat) : Int) := by
              have e := wrap_u8_nat (y.toNat + 1)
              rw [UInt8.toNat_add]
              simpa using e
            have HF := Lib.hid (And.intro st (hex.set_ j (u8v (y + 1))))
            obtain ⟨y2, hy2⟩ : ∃ y2, y + 1 = y2 := ⟨_, rfl⟩
            rw [hy2] at hinc HF
            have HM := Lib.hid hm
            unfold u8v at q1
            have j1 : (j : Int) < (N : Int) := by omega
            clear hom hex st hy hy2 hm
            go_wp2
            exact ⟨⟨j + 1, by omega, by go_num, m.set j y2, by rw [List.length_set]; exact HM.out, HF.out.1, HF.out.2⟩, by simp [intOf]; omega⟩
          · obtain rfl : j = N := by omega
            rename World => w3
            have hi3 : IsW w3 b v L := ⟨HW2.out.1.exc hex (by omega), HW2.out.2.exc hex (fun e => by have := HLV.out.1 g e; omega)⟩
            have hu3 : Own w3 5 u8v (.slice Au L.length cu) L := HU2.out.exc hex (fun e => by have := HLV.out.2 g e; omega)
            have hB3 : Below w.heap.size w w3 := hB2.trans (hex.below hB2.size (by omega))
            have hs3 := run_string (P := Tryd.prog) w3.drew 26 9 5 Au L.length cu _ _ Tryd.underlying26 Tryd.underlying5 Tryd.underlying9 (Own.reads (hu3.drewN 1))
            have hby := writer_bytes b v L w3.drew ⟨hi3.1.drew, hi3.2.drewN 1⟩ (by omega)
            rw [HN.out] at hs3
            have HU3 := Lib.hid hu3
            have HBY := Lib.hid hby
            have j1 : ¬ (j : Int) < (j : Int) := by omega
            clear hom hex hi3 hu3 hby
            go_wp2_with fail
            go_region_with (go_at_call 9; refine HBY.out.mono ?_; rintro e5 w5 ⟨v5, rfl, ho5, hb5, hf5⟩; obtain ⟨A5, c5, hv5, _, _⟩ := ho5.form; rw [hv5] at ho5 ⊢; have hs5 := run_string (P := Tryd.prog) w5 26 9 5 A5 L.length c5 _ _ Tryd.underlying26 Tryd.underlying5 Tryd.underlying9 (Own.reads ho5); have hu5 := (HU3.out.drewN 1).below hb5 (HU3.out.drewN 1).lt; have hs6 := run_string (P := Tryd.prog) w5 26 9 5 Au L.length cu _ _ Tryd.underlying26 Tryd.underlying5 Tryd.underlying9 (Own.reads hu5); rw [HN.out] at hs5 hs6 ⊢; clear ho5 hv5 hu5 hf5)
            all_goals
              go_wp2
              go_ret
              exact ⟨rfl, bthen hB3 (bdrew ‹_›)⟩

set_option maxRecDepth 100000 in
/-- what the walk gives, for every argument and every world that holds the listed variables -/
theorem contract (H : Type) (enc : TypeId × Value → H) (W : World) (base : Nat) (args : Array Value) (ds gs : List (DataW H)) (before : List MemPlace)
    (hval0 : ∀ (j : Nat) t v, Tryd.f3.params[j]? = some t → args[j]? = some v → Value.okWide Tryd.prog W .any base t v)
    (hW : DataW.Whole enc Tryd.prog Tryd.f3.params.toList Rows.octetLaysSpec.vars false W args.toList ds gs before) (hL : laidMetH Tryd.prog Rows.octetLaysRow.laid W) :
    Calls Tryd.prog 3 args W fun e W' => ∃ v, e = .returned v ∧ Rows.octetLaysSpec.post enc Tryd.prog Tryd.f3 false true false false W args v W' := by
  have hval : ∀ (j : Nat) t v, Tryd.f3.params[j]? = some t → args[j]? = some v → Value.okWide Tryd.prog W .any base t v := hval0
  have hW' := hW
  obtain ⟨p, q, hA0, hV, rfl, hfz, hnd⟩ := hW
  have hA : DataW.TrodAll enc Tryd.prog W 0 (fun _ => true) true Tryd.f3.params.toList args.toList ds p := hA0
  rw [Tryd.params3] at hA hval
  obtain ⟨v0, vs0, d0, ds0, p0, q0, hargs, rfl, rfl, h0, r0⟩ := trodAll_cons hA
  obtain ⟨rfl, rfl, rfl⟩ := trodAll_nil r0
  obtain rfl : args = #[v0] := by cases args; simp_all
  obtain ⟨rfl, rfl⟩ := trodVars_none hV
  obtain ⟨a0, len0, cap0, rfl⟩ := okWide_slice Tryd.underlying22 (hval 0 22 v0 rfl rfl)
  have k0 := h0
  have lt0 : ∀ x ∈ p0, x.block < W.heap.size := by obtain ⟨m, hm⟩ := k0; exact DataW.trod_lt m _ _ _ hm
  obtain ⟨l0, w0, o0, c0, c0'⟩ := open_steps h0
  clear hA0 hval0
  simp only [List.append_nil] at hW'
  refine (walk a0 len0 cap0 l0 W w0 o0 c0 c0' (tab_of (rest := []) hL)).mono fun e W' ⟨he, hg⟩ => ?_
  subst he
  exact ⟨_, rfl, _, _, _, [], _, [], hW', trodAll_mk1 (shut_bool Tryd.underlying4 _), (trodAll_cons_mk (Below.trod laidOut (by kernel_rfl) (of_decide_eq_true (by kernel_rfl)) k0 hg lt0) trodAll_mk0), rfl, hg.frame _, fun h => by cases h⟩

noncomputable def laidWorld (os : Os) : World :=
  { World.holding Tryd.prog os ⟨#[], #[], []⟩ with heap := ((World.holding Tryd.prog os ⟨#[], #[], []⟩).heap).modify 3 fun
      | .cells _ t frozen => .cells ((Lib.deBruijn64tab.map (fun n : Nat => Value.int .u8 (n : Int))).toArray) t frozen
      | o => o }
theorem laid_met (os : Os) : laidMet Tryd.prog Rows.octetLaysRow.laid ((laidWorld os).forCall (fun _ _ => 0) ⟨#[], #[.slice none 0 0], []⟩).memory :=
  laidMet_of_run' 80 (by kernel_rfl) (by kernel_rfl)
theorem reads (os : Os) {H : Type} (enc : TypeId × Value → H) : ∃ places, DataW.whole enc Tryd.prog ((laidWorld os).forCall (fun _ _ => 0) ⟨#[], #[.slice none 0 0], []⟩).memory Tryd.f3.params.toList Rows.octetLaysSpec.vars false (#[.slice none 0 0] : Array Value).toList 8 = some ([.nil], [], places) :=
  ⟨[], by kernel_rfl⟩

set_option maxRecDepth 100000 in
theorem lifted (os : Os) (started : os.Started) (H : Type) (enc : TypeId × Value → H) (F : Stop.Interp) :
    ReturnsInHanded {} Tryd.checked os 3 .any ((OpenSpec.ofChange Rows.octetLaysSpec).preRow enc Tryd.prog Tryd.f3 Rows.octetLaysRow.domain false Rows.octetLaysRow.laid) (((OpenSpec.ofChange Rows.octetLaysSpec).at F).post enc Tryd.prog Tryd.f3 false true false false) := by
  obtain ⟨places, hx⟩ := reads os enc
  refine returnsInHanded_of_row (C := Tryd.checked) (s := OpenSpec.ofChange Rows.octetLaysSpec) own started (by kernel_rfl) Tryd.func3
    (witness_row_at (enc := enc) (C := Tryd.checked) false (laidWorld os) #[.slice none 0 0] rfl (by kernel_rfl) (by kernel_rfl) (by kernel_rfl)
      (OpenSpec.preRow_of_cond 8 hx (by kernel_rfl) (fun k hk => by cases hk) (by kernel_rfl) (laid_met os))) ?_
  intro W base args ds gs before hval hW _ _ _ hL _ _
  exact contract H enc W base args ds gs before hval hW hL

theorem said : Rows.OctetLaysSaid :=
  OpenClaim.holds_of_cond 3 Tryd.f3 rfl rfl rfl rfl rfl rfl rfl ⟨rfl, rfl, rfl, rfl, rfl⟩ rfl rfl rfl rfl rfl (by kernel_rfl) Tryd.func3 (by kernel_rfl)
    (of_decide_eq_true (by kernel_rfl)) (by unfold Func.isWrapper; first | (rw [if_pos (by decide +kernel)]; kernel_rfl) | (rw [if_neg (by decide +kernel)]; exact ⟨rfl, rfl⟩))
    (fun os started H enc _ F => by rw [OpenClaim.pre_eq_preRow]; exact lifted os started H enc F)

theorem plain (f : FuncId) (fn : Func) (hf : Tryd.pinned.checked.prog.funcNamed "abaculus/abaculuslaw4.OctetLays" = some f) (hfn : Tryd.pinned.checked.prog.funcs[f]? = some fn) :
    false = Tryd.pinned.checked.prog.looks [] ∧ ∀ (j : Nat) t, fn.params[j]? = some t → Tryd.pinned.checked.prog.wantsStandIn t = false := by
  obtain rfl : f = 3 := Option.some.inj ((show Tryd.prog.funcNamed "abaculus/abaculuslaw4.OctetLays" = some 3 by kernel_rfl).symm.trans hf) |>.symm
  obtain rfl : fn = Tryd.f3 := (Option.some.inj (Tryd.func3.symm.trans hfn)).symm
  refine ⟨by kernel_rfl, fun j t ht => ?_⟩
  have hall : Tryd.f3.params.all (fun t => !Tryd.prog.wantsStandIn t) = true := by kernel_rfl
  have := Array.all_eq_true_iff_forall_mem.1 hall t (Array.mem_of_getElem? ht)
  have h2 : Tryd.prog.wantsStandIn t = false := by simpa using this
  exact h2

theorem proved : Rows.OctetLaysCardSaid :=
  Claim7.holds_tied_plain_at .later [] _ _ _ _ said (fun _ h => by cases h) (by kernel_rfl) (fun _ h => by cases h) octetLays_row_tie rfl ⟨rfl, rfl⟩ (by kernel_rfl) rfl plain (by kernel_rfl)
#print axioms proved
end Go.Proofs.YtjmbpnogicdkgaaDoor.octetLays
