/-
  Proved here: for every seed and every number, abaculuslaw5.DiceEven returns true and leaves its arguments as they were, where math/bits.deBruijn64tab starts as the program's text lays it (the card ties it).
-/
import Derived.Test.YtjmbpnogicdkgaaDoorCards
import Derived.Test.YtjmbpnogicdkgaaDoorTie
import Derived.Test.YtjmbpnogicdkgaaDoorTab
import Derived.Test.YtjmbpnogicdkgaaDoorPick
import Derived.Test.YtjmbpnogicdkgaaDoorDiceW
import Derived.Test.YtjmbpnogicdkgaaDoorRowQ
import Derived.Test.YtjmbpnogicdkgaaDoorOctet
import Derived.Test.YtjmbpnogicdkgaaDoorNatC
import Derived.Test.YtjmbpnogicdkgaaDoorNatA
import Derived.WalkKit
import Derived.ProofKit
import Derived.OpenShut
import Derived.ShutString
import Derived.ChangeOld
import Derived.Below
namespace Go.Proofs.YtjmbpnogicdkgaaDoor.diceEven
open Go.ChangeShapes Go.WideShapes Go.ChangeAt Go.RowKit
open Go.ChangeMaps (open_string shut_string)
set_option linter.unusedVariables false
set_option linter.unusedSimpArgs false

theorem own : ownKnob Tryd.prog.godebug = none := by kernel_rfl

set_option maxRecDepth 100000 in
set_option maxHeartbeats 2000000 in
theorem walkN (s : Nat) (hs : s < 18446744073709551616) (n0 : Int) (hn0 : -9223372036854775808 ≤ n0) (hn1 : n0 ≤ 9223372036854775807) (w : World) (hT : Tab w) :
    Calls Tryd.prog 4 #[.int .u64 (s : Int), .int .i64 n0] w (Ret (.bool true) w) := by
  obtain ⟨n', hn'⟩ := Int.eq_ofNat_of_zero_le (Int.emod_nonneg n0 (b := 30) (by omega))
  have hn2 : n' < 30 := by omega
  have HN := Lib.hid hn'
  have HT := Lib.hid hT
  clear hn' hT
  go_enter Tryd.func4, Tryd.ntmps4
  go_wp2_with fail
  refine (hand_pick n0 30 _ hn0 hn1 (by omega) (by omega)).mono ?_
  rintro e x2 ⟨rfl, rfl⟩
  rw [show ((30 : Nat) : Int) = 30 from rfl, HN.out]
  obtain ⟨n, hn⟩ : ∃ n, n = 1 + n' := ⟨_, rfl⟩
  have hn3 : n ≤ 30 := by omega
  have hn4 : 1 ≤ n := by omega
  go_wp2_with fail
  rw [show (1 + (n' : Int)) = (n : Int) from by omega]
  clear hn hn2 HN hn0 hn1
  refine (dice_new _ _).mono ?_
  rintro e w1 ⟨rfl, rfl⟩
  go_wp2_with fail
  refine (dice_new _ _).mono ?_
  rintro e w1 ⟨rfl, rfl⟩
  go_wp2_with fail
  refine (dice_known _).mono ?_
  rintro e x1 ⟨rfl, hb1⟩
  have da : Blk x1 w.heap.size 82 #[.int .u64 (s : Int)] := ((Blk.new _ _ _).alloc _).below hb1 (by simp; omega)
  have db : Blk x1 (w.heap.size + 1) 82 #[.int .u64 (s : Int)] := by
    have h := (Blk.new (w.alloc (.cells #[.int .u64 (s : Int)] 82)) 82 #[.int .u64 (s : Int)]).below hb1 (by simp)
    simpa using h
  have hB : Below w.heap.size w x1 := (((Below.refl _ _).alloc (Nat.le_refl _) _).alloc (by simp) _).trans (hb1.mono (by simp; omega))
  clear hb1
  have hof := fun w => frac_of 1 w (by omega) (by omega)
  obtain ⟨q1, hq1⟩ : ∃ q : Rat, ((1 : Int) : Rat) = q := ⟨_, rfl⟩
  rw [hq1] at hof
  have HQ1 := Lib.hid hq1
  unfold qV at hof
  have HOF := Lib.hid hof
  clear hq1 hof
  go_wp2_with fail
  go_loopw [7, 8] (fun v i wr => ∃ k : Nat, k ≤ n ∧ i = .int .i64 (k : Int) ∧ OwnQ wr v (List.replicate k q1) ∧ Hid (∀ b, v.ownBlock = some b → x1.heap.size ≤ b) ∧ Below x1.heap.size x1 wr) (fun _ i _ => n - (intOf i).toNat)
  case atStart => exact ⟨0, by omega, rfl, OwnW.nil_ _ _ _ _, Lib.hid (fun b h => by cases h), Below.refl _ _⟩
  case round =>
    obtain ⟨k, hk, rfl, hown, hfr, hbel⟩ := hrel
    rename World => wr
    by_cases hlt : k < n
    · have hkn : (k : Int) < (n : Int) := by omega
      go_wp2_with fail
      refine (HOF.out wr).mono ?_
      rintro e w1 ⟨rfl, hw1⟩
      have hown1 := hown.next hw1
      have hbel1 := hbel.trans (hw1.mono hbel.size)
      go_wp2_with (at_builtin; refine appQ rfl (.tmp 36) (.tmp 38) rfl w1 _ (List.replicate k q1) q1 rfl hown1 rfl (by simp; omega) ?_; intro v' w2 hown2 hgr)
      have hbel2 := hbel1.trans (hgr.below hbel1.size hfr.out)
      have hfr2 := hgr.fresh hbel1.size hfr.out
      rw [← List.replicate_succ'] at hown2
      exact ⟨⟨k + 1, by omega, by go_num, hown2, Lib.hid hfr2, hbel2⟩, by simp [intOf]; omega⟩
    · obtain rfl : k = n := by omega
      have hkn : ¬ (k : Int) < (k : Int) := by omega
      obtain ⟨A, c, hv, hc1, hc2⟩ := hown.form
      rw [List.length_replicate] at hv hc1
      rw [hv] at hown
      rw [hv]
      have hrd := hown.reads
      rw [List.length_replicate] at hrd
      have da2 := da.below hbel da.lt
      have db2 := db.below hbel db.lt
      have hBw := hB.trans (hbel.mono hB.size)
      have hT2 := HT.out.next hBw
      have hl : ∀ x ∈ List.replicate k q1, QS 1 x := fun x hx => by
        rw [(List.mem_replicate.1 hx).2, ← HQ1.out]
        exact QS.one 1 (Nat.le_refl _)
      have hpk := dice_pick w.heap.size s A k c wr.heap.size 1 (List.replicate k q1) wr hs da2 hrd (Nat.le_refl _) (by omega) (by omega) hl hT2
      have HPK := Lib.hid hpk
      have HDB := Lib.hid db2
      have HBW := Lib.hid hBw
      have HTW := Lib.hid hT2
      clear hpk db2 hBw hT2 hl hrd hown hfr hbel da db hB da2 hv
      go_wp2_with fail
      refine HPK.out.mono ?_
      rintro e w2 hpost
      have hq1 := HQ1.out
      rw [← hq1] at hpost
      rcases hpost with ⟨hbad, _, _⟩ | ⟨_, _, i, ok, hres, rfl, hon, hbk⟩
      · exfalso
        rcases hbad with ⟨x, hx, hs0⟩ | h0
        · rw [(List.mem_replicate.1 hx).2] at hs0
          revert hs0
          decide
        · exact ones_pos k hn4 h0
      · obtain ⟨rfl, hi⟩ := even_pick hres hn4 (Dice.next_lt s)
        have hzw := HBW.out.size
        have db2 := HDB.out.exc hon.exc (by omega)
        have hne := db2.lt
        clear hres hbk hq1
        have hB2 : Below w.heap.size w w2 := Only.chain HBW.out hon (Nat.le_refl _)
        have hT2 : Tab w2 := HT.out.next hB2
        obtain ⟨u, hu⟩ : ∃ u, Dice.next s = u := ⟨_, rfl⟩
        have hul : u < 18446744073709551616 := by rw [← hu]; exact Dice.next_lt s
        rw [hu] at hi
        have HI := Lib.hid hi
        have HU := Lib.hid hu
        clear hi hu
        have hof1 := fun w => nat_of u w hul
        have hof2 := fun w => nat_of k w (by omega)
        have hbu := blen_small u hul
        have hbk := blen_small k (by omega)
        have hmu := fun w => nat_mul u k w (by omega) (by omega)
        have hbm := blen_mul u k
        have hsh := fun w => nat_shift_down (u * k) 64 w (by omega) (by omega) (by omega)
        have e64 : (2 : Nat) ^ 64 = 18446744073709551616 := rfl
        rw [e64] at hsh
        have hm1 : u * k / 18446744073709551616 < 18446744073709551616 := by
          have := Nat.mul_le_mul (Nat.le_of_lt hul) hn3
          generalize u * k = z at *
          omega
        have hsm := fun w => nat_small (u * k / 18446744073709551616) w
        rw [if_pos hm1] at hsm
        have hik : i < k := by
          rw [HI.out, Nat.div_lt_iff_lt_mul (by omega)]
          have := Nat.mul_lt_mul_of_pos_right hul (show 0 < k by omega)
          rwa [Nat.mul_comm 18446744073709551616 k] at this
        rw [← HI.out] at hsh hsm
        clear hbu hbk hbm hm1 e64
        generalize u * k = z at *
        unfold natV at hof1 hof2 hmu hsh hsm
        have H1 := Lib.hid hof1
        have H2 := Lib.hid hof2
        have H3 := Lib.hid hmu
        have H4 := Lib.hid hsh
        have H5 := Lib.hid hsm
        have kk : IntKind.u64.wrap (k : Int) = (k : Int) := by rw [wrap_u64_nat, Nat.mod_eq_of_lt (by omega)]
        have ki : IntKind.u64.wrap (i : Int) = (i : Int) := by rw [wrap_u64_nat, Nat.mod_eq_of_lt (by omega)]
        clear hof1 hof2 hmu hsh hsm
        go_wp2_with fail
        refine (dice_next _ s w2 hs (db2.cell 0) (db2.frozen 0)).mono ?_
        rintro e w3 ⟨rfl, rfl⟩
        have hB3 := hB2.setCell (p := ⟨w.heap.size + 1, 0, none⟩) (by simp) (.int .u64 ((Dice.step s : Nat) : Int))
        generalize w2.setCell ⟨w.heap.size + 1, 0, none⟩ (.int .u64 ((Dice.step s : Nat) : Int)) = w3 at *
        rw [HU.out]
        clear hB2 hT2 db2 hon
        go_wp2_with fail
        refine (H1.out w3).mono ?_
        rintro e w4 ⟨rfl, hw4⟩
        go_wp2_with fail
        refine (H2.out w4).mono ?_
        rintro e w5 ⟨rfl, hw5⟩
        go_wp2_with fail
        refine (H3.out w5).mono ?_
        rintro e w6 ⟨rfl, hw6⟩
        go_wp2_with fail
        refine (H4.out w6).mono ?_
        rintro e w7 ⟨rfl, hw7⟩
        have hB7 := bthen (bthen (bthen (bthen hB3 hw4) hw5) hw6) hw7
        clear hw4 hw5 hw6 hw7 hB3
        have hB8 := bthen hB7 (balloc1 w7 (.cells #[.int .u64 (lo i : Int), .string (mo i)] 38))
        go_wp2_with fail
        refine (H5.out _).mono ?_
        rintro e w9 ⟨rfl, hw9⟩
        have hB9 := bthen hB8 hw9
        go_wp2
        go_ret
        exact ⟨rfl, hB9⟩

/-! ### the walk -/
theorem walk (a0 : Int) (a1 : Int) (w0 : (Lit.int .u64 a0).wf = true) (w1 : (Lit.int .i64 a1).wf = true) (w : World) (hT : Tab w) :
    Calls Tryd.prog 4 #[.int .u64 a0, .int .i64 a1] w fun e w' => e = .returned (.bool true) ∧ Below w.heap.size w w' := by
  obtain ⟨h0, h1⟩ := bounds_u64 w0
  obtain ⟨b0, b1⟩ := bounds_i64 w1
  obtain ⟨s, rfl⟩ := Int.eq_ofNat_of_zero_le h0
  exact walkN s (by omega) a1 (by omega) (by omega) w hT

set_option maxRecDepth 100000 in
/-- what the walk gives, for every argument and every world that holds the listed variables -/
theorem contract (H : Type) (enc : TypeId × Value → H) (W : World) (base : Nat) (args : Array Value) (ds gs : List (DataW H)) (before : List MemPlace)
    (hval0 : ∀ (j : Nat) t v, Tryd.f4.params[j]? = some t → args[j]? = some v → Value.okWide Tryd.prog W .any base t v)
    (hW : DataW.Whole enc Tryd.prog Tryd.f4.params.toList Rows.diceEvenSpec.vars false W args.toList ds gs before) (hL : laidMetH Tryd.prog Rows.diceEvenRow.laid W) :
    Calls Tryd.prog 4 args W fun e W' => ∃ v, e = .returned v ∧ Rows.diceEvenSpec.post enc Tryd.prog Tryd.f4 false true false false W args v W' := by
  have hval : ∀ (j : Nat) t v, Tryd.f4.params[j]? = some t → args[j]? = some v → Value.okWide Tryd.prog W .any base t v := hval0
  have hW' := hW
  obtain ⟨p, q, hA0, hV, rfl, hfz, hnd⟩ := hW
  have hA : DataW.TrodAll enc Tryd.prog W 0 (fun _ => true) true Tryd.f4.params.toList args.toList ds p := hA0
  rw [Tryd.params4] at hA hval
  obtain ⟨v0, vs0, d0, ds0, p0, q0, hargs, rfl, rfl, h0, r0⟩ := trodAll_cons hA
  obtain ⟨v1, vs1, d1, ds1, p1, q1, rfl, rfl, rfl, h1, r1⟩ := trodAll_cons r0
  obtain ⟨rfl, rfl, rfl⟩ := trodAll_nil r1
  obtain rfl : args = #[v0, v1] := by cases args; simp_all
  obtain ⟨rfl, rfl⟩ := trodVars_none hV
  obtain ⟨a0, rfl, rfl, rfl, w0⟩ := open_int Tryd.underlying32 (hval 0 32 v0 rfl rfl) h0
  obtain ⟨a1, rfl, rfl, rfl, w1⟩ := open_int Tryd.underlying3 (hval 1 3 v1 rfl rfl) h1
  clear hA0 hval0
  simp only [List.append_nil] at hW'
  refine (walk a0 a1 w0 w1 W (tab_of (rest := []) hL)).mono fun e W' ⟨he, hg⟩ => ?_
  subst he
  exact ⟨_, rfl, _, _, _, [], _, [], hW', trodAll_mk1 (shut_bool Tryd.underlying4 _), (trodAll_cons_mk (shut_int Tryd.underlying32 w0) (trodAll_cons_mk (shut_int Tryd.underlying3 w1) trodAll_mk0)), rfl, hg.frame _, fun h => by cases h⟩

noncomputable def laidWorld (os : Os) : World :=
  { World.holding Tryd.prog os ⟨#[], #[], []⟩ with heap := ((World.holding Tryd.prog os ⟨#[], #[], []⟩).heap).modify 3 fun
      | .cells _ t frozen => .cells ((Lib.deBruijn64tab.map (fun n : Nat => Value.int .u8 (n : Int))).toArray) t frozen
      | o => o }
theorem laid_met (os : Os) : laidMet Tryd.prog Rows.diceEvenRow.laid ((laidWorld os).forCall (fun _ _ => 0) ⟨#[], #[.int .u64 0, .int .i64 0], []⟩).memory :=
  laidMet_of_run' 80 (by kernel_rfl) (by kernel_rfl)
theorem reads (os : Os) {H : Type} (enc : TypeId × Value → H) : ∃ places, DataW.whole enc Tryd.prog ((laidWorld os).forCall (fun _ _ => 0) ⟨#[], #[.int .u64 0, .int .i64 0], []⟩).memory Tryd.f4.params.toList Rows.diceEvenSpec.vars false (#[.int .u64 0, .int .i64 0] : Array Value).toList 8 = some ([.lit (.int .u64 0), .lit (.int .i64 0)], [], places) :=
  ⟨[], by kernel_rfl⟩

set_option maxRecDepth 100000 in
theorem lifted (os : Os) (started : os.Started) (H : Type) (enc : TypeId × Value → H) (F : Stop.Interp) :
    ReturnsInHanded {} Tryd.checked os 4 .any ((OpenSpec.ofChange Rows.diceEvenSpec).preRow enc Tryd.prog Tryd.f4 Rows.diceEvenRow.domain false Rows.diceEvenRow.laid) (((OpenSpec.ofChange Rows.diceEvenSpec).at F).post enc Tryd.prog Tryd.f4 false true false false) := by
  obtain ⟨places, hx⟩ := reads os enc
  refine returnsInHanded_of_row (C := Tryd.checked) (s := OpenSpec.ofChange Rows.diceEvenSpec) own started (by kernel_rfl) Tryd.func4
    (witness_row_at (enc := enc) (C := Tryd.checked) false (laidWorld os) #[.int .u64 0, .int .i64 0] rfl (by kernel_rfl) (by kernel_rfl) (by kernel_rfl)
      (OpenSpec.preRow_of_cond 8 hx (by kernel_rfl) (fun k hk => by cases hk) (by kernel_rfl) (laid_met os))) ?_
  intro W base args ds gs before hval hW _ _ _ hL _ _
  exact contract H enc W base args ds gs before hval hW hL

theorem said : Rows.DiceEvenSaid :=
  OpenClaim.holds_of_cond 4 Tryd.f4 rfl rfl rfl rfl rfl rfl rfl ⟨rfl, rfl, rfl, rfl, rfl⟩ rfl rfl rfl rfl rfl (by kernel_rfl) Tryd.func4 (by kernel_rfl)
    (of_decide_eq_true (by kernel_rfl)) (by unfold Func.isWrapper; first | (rw [if_pos (by decide +kernel)]; kernel_rfl) | (rw [if_neg (by decide +kernel)]; exact ⟨rfl, rfl⟩))
    (fun os started H enc _ F => by rw [OpenClaim.pre_eq_preRow]; exact lifted os started H enc F)

theorem plain (f : FuncId) (fn : Func) (hf : Tryd.pinned.checked.prog.funcNamed "abaculus/abaculuslaw5.DiceEven" = some f) (hfn : Tryd.pinned.checked.prog.funcs[f]? = some fn) :
    false = Tryd.pinned.checked.prog.looks [] ∧ ∀ (j : Nat) t, fn.params[j]? = some t → Tryd.pinned.checked.prog.wantsStandIn t = false := by
  obtain rfl : f = 4 := Option.some.inj ((show Tryd.prog.funcNamed "abaculus/abaculuslaw5.DiceEven" = some 4 by kernel_rfl).symm.trans hf) |>.symm
  obtain rfl : fn = Tryd.f4 := (Option.some.inj (Tryd.func4.symm.trans hfn)).symm
  refine ⟨by kernel_rfl, fun j t ht => ?_⟩
  have hall : Tryd.f4.params.all (fun t => !Tryd.prog.wantsStandIn t) = true := by kernel_rfl
  have := Array.all_eq_true_iff_forall_mem.1 hall t (Array.mem_of_getElem? ht)
  have h2 : Tryd.prog.wantsStandIn t = false := by simpa using this
  exact h2

theorem proved : Rows.DiceEvenCardSaid :=
  Claim7.holds_tied_plain_at .later [] _ _ _ _ said (fun _ h => by cases h) (by kernel_rfl) (fun _ h => by cases h) diceEven_row_tie rfl ⟨rfl, rfl⟩ (by kernel_rfl) rfl plain (by kernel_rfl)
#print axioms proved
end Go.Proofs.YtjmbpnogicdkgaaDoor.diceEven
