/-
  Proved here: abaculuslaw5.DiceKnown returns true, where math/bits.deBruijn64tab starts as the program's text lays it (the card ties it).
-/
import Derived.Test.YtjmbpnogicdkgaaDoorCards
import Derived.Test.YtjmbpnogicdkgaaDoorTie
import Derived.Test.YtjmbpnogicdkgaaDoorTab
import Derived.Test.YtjmbpnogicdkgaaDoorDiceMore
import Derived.Test.YtjmbpnogicdkgaaDoorDiceW
import Derived.WalkKit
import Derived.ProofKit
import Derived.OpenShut
import Derived.ShutString
import Derived.ChangeOld
import Derived.Below
namespace Go.Proofs.YtjmbpnogicdkgaaDoor.diceKnown
open Go.ChangeShapes Go.WideShapes Go.ChangeAt Go.RowKit
open Go.ChangeMaps (open_string shut_string)
set_option linter.unusedVariables false
set_option linter.unusedSimpArgs false

theorem own : ownKnob Tryd.prog.godebug = none := by kernel_rfl

theorem blk_chain {w x x' : World} {b : Nat} {t : TypeId} {cs : Array Value} (h : Blk x b t cs) (hb : Below x.heap.size x x') : Blk x' b t cs := h.below hb h.lt

set_option maxRecDepth 100000 in
set_option maxHeartbeats 4000000 in
theorem walk (w : World) (hT : Tab w) : Calls Tryd.prog 5 #[] w fun e w' => e = .returned (.bool true) ∧ Below w.heap.size w w' := by
  have HT := Lib.hid hT
  clear hT
  have hof0 : ∀ w, Calls Tryd.prog 13 #[.int .i64 0] w (Ret (qV ((0 : Int) : Rat)) w) := fun w => frac_of 0 w (by omega) (by omega)
  have hof2 : ∀ w, Calls Tryd.prog 13 #[.int .i64 2] w (Ret (qV ((2 : Int) : Rat)) w) := fun w => frac_of 2 w (by omega) (by omega)
  have hofm : ∀ w, Calls Tryd.prog 13 #[.int .i64 (-1)] w (Ret (qV ((-1 : Int) : Rat)) w) := fun w => frac_of (-1) w (by omega) (by omega)
  have hof3 : ∀ w, Calls Tryd.prog 13 #[.int .i64 3] w (Ret (qV ((3 : Int) : Rat)) w) := fun w => frac_of 3 w (by omega) (by omega)
  obtain ⟨q0, hq0⟩ : ∃ q : Rat, ((0 : Int) : Rat) = q := ⟨_, rfl⟩
  obtain ⟨q2, hq2⟩ : ∃ q : Rat, ((2 : Int) : Rat) = q := ⟨_, rfl⟩
  obtain ⟨qm, hqm⟩ : ∃ q : Rat, ((-1 : Int) : Rat) = q := ⟨_, rfl⟩
  obtain ⟨q3, hq3⟩ : ∃ q : Rat, ((3 : Int) : Rat) = q := ⟨_, rfl⟩
  rw [hq0] at hof0
  rw [hq2] at hof2
  rw [hqm] at hofm
  rw [hq3] at hof3
  have l0 : QS 2 q0 := by rw [← hq0]; exact ⟨by decide, by decide⟩
  have l2 : QS 2 q2 := by rw [← hq2]; exact ⟨by decide, by decide⟩
  have lm : QS 2 qm := by rw [← hqm]; exact ⟨by decide, by decide⟩
  have l3 : QS 2 q3 := by rw [← hq3]; exact ⟨by decide, by decide⟩
  have HQ := Lib.hid (And.intro hq0 (And.intro hq2 (And.intro hqm hq3)))
  have HL0 := Lib.hid l0
  have HL2 := Lib.hid l2
  have HLM := Lib.hid lm
  have HL3 := Lib.hid l3
  unfold qV at hof0 hof2 hofm hof3
  have H0 := Lib.hid hof0
  have H2 := Lib.hid hof2
  have HM := Lib.hid hofm
  have H3 := Lib.hid hof3
  clear hq0 hq2 hqm hq3 l0 l2 lm l3 hof0 hof2 hofm hof3
  go_enter Tryd.func5, Tryd.ntmps5
  go_wp2_with fail
  refine (dice_new 5 _).mono ?_
  rintro e w1 ⟨rfl, rfl⟩
  have d0 := Blk.new w 82 #[.int .u64 ((5 : Nat) : Int)]
  have hB0 := balloc1 w (.cells #[.int .u64 ((5 : Nat) : Int)] 82)
  generalize w.alloc (.cells #[.int .u64 ((5 : Nat) : Int)] 82) = x0 at *
  obtain ⟨g, hg⟩ : ∃ g, w.heap.size = g := ⟨_, rfl⟩
  have hgw : w.heap.size ≤ g := by omega
  rw [hg] at d0
  rw [hg]
  clear hg
  go_wp2_with fail
  refine (dice_known _).mono ?_
  rintro e x1 ⟨rfl, hb1⟩
  have d1 := blk_chain (w := w) d0 hb1
  have hB1 := bthen hB0 hb1
  clear d0 hB0 hb1
  go_wp2_with fail
  refine (dice_below_none g 0 x1 (by omega)).mono ?_
  rintro e x2 ⟨rfl, rfl⟩
  go_wp2_with fail
  have hbl : Calls Tryd.prog 20 #[.pointer (some ⟨g, 0, none⟩), .int .i64 1] x1 _ := dice_below g 5 1 x1 (by omega) (by omega) (by omega) d1
  refine hbl.mono ?_
  rintro e x2 ⟨rfl, rfl⟩
  have hst := Dice.below_state 1 5 (by omega)
  have hfst : (Dice.below 1 5).1 = 0 := by rw [Dice.below_fst, Nat.mod_one]
  rw [hfst]
  clear hbl hfst
  generalize (Dice.below 1 5).2 = s at *
  have d2 : Blk _ g 82 #[.int .u64 (s : Int)] := d1.set_ 0 (.int .u64 (s : Int))
  have hB2 := hB1.setCell (p := ⟨g, 0, none⟩) hgw (.int .u64 (s : Int))
  generalize x1.setCell ⟨g, 0, none⟩ (.int .u64 (s : Int)) = x2 at *
  clear d1 hB1
  have c2 : ((0 : Nat) : Int) = 0 := rfl
  go_wp2_with fail
  refine (dice_state _ s x2 (d2.cell 0)).mono ?_
  rintro e x3 ⟨rfl, rfl⟩
  go_wp2_with fail
  refine (dice_order_none g 0 x2 (by omega)).mono ?_
  rintro e x3 ⟨rfl, rfl⟩
  go_wp2_with fail
  have hdr : Calls Tryd.prog 23 #[.pointer (some ⟨g, 0, none⟩), .int .i64 3, .int .i64 0] x2 _ := dice_draw_none g 3 x2 (by omega) (by omega)
  refine hdr.mono ?_
  rintro e x3 ⟨rfl, rfl⟩
  clear hdr
  go_wp2_with fail
  refine (H0.out x2).mono ?_
  rintro e x3 ⟨rfl, hw3⟩
  have d3 := (blk_chain (w := w) d2 hw3).alloc (.cells #[.bool (decide (q0.num < 0)), .int .u64 (lo q0.num.natAbs : Int), .string (mo q0.num.natAbs), .int .u64 (lo ((qden q0)) : Int), .string (mo ((qden q0)))] 42)
  have hB3 := bthen (bthen hB2 hw3) (balloc1 x3 (.cells #[.bool (decide (q0.num < 0)), .int .u64 (lo q0.num.natAbs : Int), .string (mo q0.num.natAbs), .int .u64 (lo ((qden q0)) : Int), .string (mo ((qden q0)))] 42))
  have r3 := readsQL [q0] (Blk.new x3 42 #[.bool (decide (q0.num < 0)), .int .u64 (lo q0.num.natAbs : Int), .string (mo q0.num.natAbs), .int .u64 (lo ((qden q0)) : Int), .string (mo ((qden q0)))])
  clear d2 hB2 hw3
  have hz3 : (x3.alloc (.cells #[.bool (decide (q0.num < 0)), .int .u64 (lo q0.num.natAbs : Int), .string (mo q0.num.natAbs), .int .u64 (lo ((qden q0)) : Int), .string (mo ((qden q0)))] 42)).heap.size = x3.heap.size + 1 := World.size_alloc _ _
  have HZ3 := Lib.hid hz3
  clear hz3
  go_wp2_with fail
  generalize x3.alloc (.cells #[.bool (decide (q0.num < 0)), .int .u64 (lo q0.num.natAbs : Int), .string (mo q0.num.natAbs), .int .u64 (lo ((qden q0)) : Int), .string (mo ((qden q0)))] 42) = x4 at *
  refine (dice_pick g s _ 1 1 _ 2 [q0] x4 hst d3 r3 (by have := HZ3.out; omega) (by omega) (by omega) (by intro x hx; simp at hx; rw [hx]; exact HL0.out) (HT.out.next hB3)).mono ?_
  rintro e x5 hpost
  have hpost2 : e = .returned (.tuple #[.int .i64 0, .bool false]) ∧ Below x4.heap.size x4 x5 := by
    rcases hpost with ⟨_, h1, h2⟩ | ⟨_, h1, _⟩
    · exact ⟨h1, h2⟩
    · exfalso
      apply h1
      rw [← HQ.out.1]
      decide +kernel
  clear hpost
  obtain ⟨rfl, hw5⟩ := hpost2
  have d5 := blk_chain (w := w) d3 hw5
  have hB5 := bthen hB3 hw5
  clear d3 hB3 hw5 r3 HZ3
  go_wp2_with fail
  refine (H2.out x5).mono ?_
  rintro e x6 ⟨rfl, hw6⟩
  go_wp2_with fail
  refine (HM.out x6).mono ?_
  rintro e x7 ⟨rfl, hw7⟩
  have d7 := (blk_chain (w := w) (blk_chain (w := w) d5 hw6) hw7).alloc (.cells #[.bool (decide (q2.num < 0)), .int .u64 (lo q2.num.natAbs : Int), .string (mo q2.num.natAbs), .int .u64 (lo ((qden q2)) : Int), .string (mo ((qden q2))), .bool (decide (qm.num < 0)), .int .u64 (lo qm.num.natAbs : Int), .string (mo qm.num.natAbs), .int .u64 (lo ((qden qm)) : Int), .string (mo ((qden qm)))] 42)
  have hB7 := bthen (bthen (bthen hB5 hw6) hw7) (balloc1 x7 (.cells #[.bool (decide (q2.num < 0)), .int .u64 (lo q2.num.natAbs : Int), .string (mo q2.num.natAbs), .int .u64 (lo ((qden q2)) : Int), .string (mo ((qden q2))), .bool (decide (qm.num < 0)), .int .u64 (lo qm.num.natAbs : Int), .string (mo qm.num.natAbs), .int .u64 (lo ((qden qm)) : Int), .string (mo ((qden qm)))] 42))
  have r7 := readsQL [q2, qm] (Blk.new x7 42 #[.bool (decide (q2.num < 0)), .int .u64 (lo q2.num.natAbs : Int), .string (mo q2.num.natAbs), .int .u64 (lo ((qden q2)) : Int), .string (mo ((qden q2))), .bool (decide (qm.num < 0)), .int .u64 (lo qm.num.natAbs : Int), .string (mo qm.num.natAbs), .int .u64 (lo ((qden qm)) : Int), .string (mo ((qden qm)))])
  clear d5 hB5 hw6 hw7
  have hz7 : (x7.alloc (.cells #[.bool (decide (q2.num < 0)), .int .u64 (lo q2.num.natAbs : Int), .string (mo q2.num.natAbs), .int .u64 (lo ((qden q2)) : Int), .string (mo ((qden q2))), .bool (decide (qm.num < 0)), .int .u64 (lo qm.num.natAbs : Int), .string (mo qm.num.natAbs), .int .u64 (lo ((qden qm)) : Int), .string (mo ((qden qm)))] 42)).heap.size = x7.heap.size + 1 := World.size_alloc _ _
  have HZ7 := Lib.hid hz7
  clear hz7
  go_wp2_with fail
  generalize x7.alloc (.cells #[.bool (decide (q2.num < 0)), .int .u64 (lo q2.num.natAbs : Int), .string (mo q2.num.natAbs), .int .u64 (lo ((qden q2)) : Int), .string (mo ((qden q2))), .bool (decide (qm.num < 0)), .int .u64 (lo qm.num.natAbs : Int), .string (mo qm.num.natAbs), .int .u64 (lo ((qden qm)) : Int), .string (mo ((qden qm)))] 42) = x8 at *
  refine (dice_pick g s _ 2 2 _ 2 [q2, qm] x8 hst d7 r7 (by have := HZ7.out; omega) (by omega) (by omega) (by intro x hx; simp at hx; rcases hx with hx | hx <;> rw [hx] <;> first | exact HL2.out | exact HLM.out) (HT.out.next hB7)).mono ?_
  rintro e x9 hpost
  have hpost2 : e = .returned (.tuple #[.int .i64 0, .bool false]) ∧ Below x8.heap.size x8 x9 := by
    rcases hpost with ⟨_, h1, h2⟩ | ⟨h1, _, _⟩
    · exact ⟨h1, h2⟩
    · exfalso
      have := h1 qm (by simp)
      rw [← HQ.out.2.2.1] at this
      revert this
      decide
  clear hpost
  obtain ⟨rfl, hw9⟩ := hpost2
  have d9 := blk_chain (w := w) d7 hw9
  have hB9 := bthen hB7 hw9
  clear d7 hB7 hw9 r7 HZ7
  go_wp2_with fail
  refine (dice_state _ s x9 (d9.cell 0)).mono ?_
  rintro e x10 ⟨rfl, rfl⟩
  go_wp2_with fail
  refine (H0.out x9).mono ?_
  rintro e x10 ⟨rfl, hw10⟩
  go_wp2_with fail
  refine (H3.out x10).mono ?_
  rintro e x11 ⟨rfl, hw11⟩
  go_wp2_with fail
  refine (H0.out x11).mono ?_
  rintro e x12 ⟨rfl, hw12⟩
  have d12 := (blk_chain (w := w) (blk_chain (w := w) (blk_chain (w := w) d9 hw10) hw11) hw12).alloc (.cells #[.bool (decide (q0.num < 0)), .int .u64 (lo q0.num.natAbs : Int), .string (mo q0.num.natAbs), .int .u64 (lo ((qden q0)) : Int), .string (mo ((qden q0))), .bool (decide (q3.num < 0)), .int .u64 (lo q3.num.natAbs : Int), .string (mo q3.num.natAbs), .int .u64 (lo ((qden q3)) : Int), .string (mo ((qden q3))), .bool (decide (q0.num < 0)), .int .u64 (lo q0.num.natAbs : Int), .string (mo q0.num.natAbs), .int .u64 (lo ((qden q0)) : Int), .string (mo ((qden q0)))] 42)
  have hB12 := bthen (bthen (bthen (bthen hB9 hw10) hw11) hw12) (balloc1 x12 (.cells #[.bool (decide (q0.num < 0)), .int .u64 (lo q0.num.natAbs : Int), .string (mo q0.num.natAbs), .int .u64 (lo ((qden q0)) : Int), .string (mo ((qden q0))), .bool (decide (q3.num < 0)), .int .u64 (lo q3.num.natAbs : Int), .string (mo q3.num.natAbs), .int .u64 (lo ((qden q3)) : Int), .string (mo ((qden q3))), .bool (decide (q0.num < 0)), .int .u64 (lo q0.num.natAbs : Int), .string (mo q0.num.natAbs), .int .u64 (lo ((qden q0)) : Int), .string (mo ((qden q0)))] 42))
  have r12 := readsQL [q0, q3, q0] (Blk.new x12 42 #[.bool (decide (q0.num < 0)), .int .u64 (lo q0.num.natAbs : Int), .string (mo q0.num.natAbs), .int .u64 (lo ((qden q0)) : Int), .string (mo ((qden q0))), .bool (decide (q3.num < 0)), .int .u64 (lo q3.num.natAbs : Int), .string (mo q3.num.natAbs), .int .u64 (lo ((qden q3)) : Int), .string (mo ((qden q3))), .bool (decide (q0.num < 0)), .int .u64 (lo q0.num.natAbs : Int), .string (mo q0.num.natAbs), .int .u64 (lo ((qden q0)) : Int), .string (mo ((qden q0)))])
  clear d9 hB9 hw10 hw11 hw12
  have hz12 : (x12.alloc (.cells #[.bool (decide (q0.num < 0)), .int .u64 (lo q0.num.natAbs : Int), .string (mo q0.num.natAbs), .int .u64 (lo ((qden q0)) : Int), .string (mo ((qden q0))), .bool (decide (q3.num < 0)), .int .u64 (lo q3.num.natAbs : Int), .string (mo q3.num.natAbs), .int .u64 (lo ((qden q3)) : Int), .string (mo ((qden q3))), .bool (decide (q0.num < 0)), .int .u64 (lo q0.num.natAbs : Int), .string (mo q0.num.natAbs), .int .u64 (lo ((qden q0)) : Int), .string (mo ((qden q0)))] 42)).heap.size = x12.heap.size + 1 := World.size_alloc _ _
  have HZ12 := Lib.hid hz12
  clear hz12
  go_wp2_with fail
  generalize x12.alloc (.cells #[.bool (decide (q0.num < 0)), .int .u64 (lo q0.num.natAbs : Int), .string (mo q0.num.natAbs), .int .u64 (lo ((qden q0)) : Int), .string (mo ((qden q0))), .bool (decide (q3.num < 0)), .int .u64 (lo q3.num.natAbs : Int), .string (mo q3.num.natAbs), .int .u64 (lo ((qden q3)) : Int), .string (mo ((qden q3))), .bool (decide (q0.num < 0)), .int .u64 (lo q0.num.natAbs : Int), .string (mo q0.num.natAbs), .int .u64 (lo ((qden q0)) : Int), .string (mo ((qden q0)))] 42) = x13 at *
  refine (dice_pick g s _ 3 3 _ 2 [q0, q3, q0] x13 hst d12 r12 (by have := HZ12.out; omega) (by omega) (by omega) (by intro x hx; simp at hx; rcases hx with hx | hx | hx <;> rw [hx] <;> first | exact HL0.out | exact HL3.out) (HT.out.next hB12)).mono ?_
  rintro e x14 hpost
  have hpost2 : e = .returned (.tuple #[.int .i64 1, .bool true]) ∧ Only g x13 x14 ∧ Blk x14 g 82 #[.int .u64 ((Dice.step s : Nat) : Int)] := by
    have hq := HQ.out
    rw [← hq.1, ← hq.2.2.2] at hpost
    rcases hpost with ⟨h1, _, _⟩ | ⟨_, _, i, ok, h1, h2, h3, h4⟩
    · exfalso
      rcases h1 with ⟨x, hx, h1⟩ | h1
      · simp at hx
        rcases hx with hx | hx | hx <;> rw [hx] at h1 <;> revert h1 <;> decide
      · revert h1
        decide +kernel
    · obtain ⟨rfl, rfl⟩ := known_pick h1 (Dice.next_lt s)
      exact ⟨h2, h3, h4⟩
  clear hpost
  obtain ⟨rfl, hon, d14⟩ := hpost2
  have hB14 := Only.chain hB12 hon hgw
  have hst2 := Dice.step_lt s
  clear d12 hB12 hon r12 HZ12
  generalize Dice.step s = t at *
  go_wp2_with fail
  have hor : Calls Tryd.prog 22 #[.pointer (some ⟨g, 0, none⟩), .int .i64 7] x14 _ := dice_order g t 7 x14 hst2 (by omega) (by omega) d14
  refine hor.mono ?_
  rintro e x15 ⟨rfl, _, d15, hb15⟩
  have hB15 := (hB14.setCell (p := ⟨g, 0, none⟩) hgw (.int .u64 (((Dice.order 7 t).2 : Nat) : Int))).trans (hb15.mono hB14.size)
  have hst3 := Dice.order_state 7 t hst2
  clear hor d14 hB14 hb15
  generalize (Dice.order 7 t).2 = t2 at *
  go_wp2_with fail
  refine (dice_fork g t2 ⟨#[120]⟩ x15 hst3 (d15.cell 0) (d15.frozen 0) (by decide)).mono ?_
  rintro e x16 ⟨gg, rfl, _, _, hb16⟩
  have hB16 := (hB15.setCell (p := ⟨g, 0, none⟩) hgw (.int .u64 ((Dice.step t2 : Nat) : Int))).trans (hb16.mono hB15.size)
  go_wp2
  go_ret
  exact ⟨rfl, hB16⟩

set_option maxRecDepth 100000 in
/-- what the walk gives, for every argument and every world that holds the listed variables -/
theorem contract (H : Type) (enc : TypeId × Value → H) (W : World) (base : Nat) (args : Array Value) (ds gs : List (DataW H)) (before : List MemPlace)
    (hval0 : ∀ (j : Nat) t v, Tryd.f5.params[j]? = some t → args[j]? = some v → Value.okWide Tryd.prog W .any base t v)
    (hW : DataW.Whole enc Tryd.prog Tryd.f5.params.toList Rows.diceKnownSpec.vars false W args.toList ds gs before) (hL : laidMetH Tryd.prog Rows.diceKnownRow.laid W) :
    Calls Tryd.prog 5 args W fun e W' => ∃ v, e = .returned v ∧ Rows.diceKnownSpec.post enc Tryd.prog Tryd.f5 false true false false W args v W' := by
  have hval : ∀ (j : Nat) t v, Tryd.f5.params[j]? = some t → args[j]? = some v → Value.okWide Tryd.prog W .any base t v := hval0
  have hW' := hW
  obtain ⟨p, q, hA0, hV, rfl, hfz, hnd⟩ := hW
  have hA : DataW.TrodAll enc Tryd.prog W 0 (fun _ => true) true Tryd.f5.params.toList args.toList ds p := hA0
  rw [Tryd.params5] at hA hval
  obtain ⟨rfl, rfl, rfl⟩ := trodAll_none hA
  obtain ⟨rfl, rfl⟩ := trodVars_none hV
  clear hA0 hval0
  simp only [List.append_nil] at hW'
  refine (walk  W (tab_of (rest := []) hL)).mono fun e W' ⟨he, hg⟩ => ?_
  subst he
  exact ⟨_, rfl, _, _, _, [], _, [], hW', trodAll_mk1 (shut_bool Tryd.underlying4 _), rfl, rfl, hg.frame _, fun h => by cases h⟩

noncomputable def laidWorld (os : Os) : World :=
  { World.holding Tryd.prog os ⟨#[], #[], []⟩ with heap := ((World.holding Tryd.prog os ⟨#[], #[], []⟩).heap).modify 3 fun
      | .cells _ t frozen => .cells ((Lib.deBruijn64tab.map (fun n : Nat => Value.int .u8 (n : Int))).toArray) t frozen
      | o => o }
theorem laid_met (os : Os) : laidMet Tryd.prog Rows.diceKnownRow.laid ((laidWorld os).forCall (fun _ _ => 0) ⟨#[], #[], []⟩).memory :=
  laidMet_of_run' 80 (by kernel_rfl) (by kernel_rfl)
theorem reads (os : Os) {H : Type} (enc : TypeId × Value → H) : ∃ places, DataW.whole enc Tryd.prog ((laidWorld os).forCall (fun _ _ => 0) ⟨#[], #[], []⟩).memory Tryd.f5.params.toList Rows.diceKnownSpec.vars false (#[] : Array Value).toList 8 = some ([], [], places) :=
  ⟨[], by kernel_rfl⟩

set_option maxRecDepth 100000 in
theorem lifted (os : Os) (started : os.Started) (H : Type) (enc : TypeId × Value → H) (F : Stop.Interp) :
    ReturnsInHanded {} Tryd.checked os 5 .any ((OpenSpec.ofChange Rows.diceKnownSpec).preRow enc Tryd.prog Tryd.f5 Rows.diceKnownRow.domain false Rows.diceKnownRow.laid) (((OpenSpec.ofChange Rows.diceKnownSpec).at F).post enc Tryd.prog Tryd.f5 false true false false) := by
  obtain ⟨places, hx⟩ := reads os enc
  refine returnsInHanded_of_row (C := Tryd.checked) (s := OpenSpec.ofChange Rows.diceKnownSpec) own started (by kernel_rfl) Tryd.func5
    (witness_row_at (enc := enc) (C := Tryd.checked) false (laidWorld os) #[] rfl (by kernel_rfl) (by kernel_rfl) (by kernel_rfl)
      (OpenSpec.preRow_of_cond 8 hx (by kernel_rfl) (fun k hk => by cases hk) (by kernel_rfl) (laid_met os))) ?_
  intro W base args ds gs before hval hW _ _ _ hL _ _
  exact contract H enc W base args ds gs before hval hW hL

theorem said : Rows.DiceKnownSaid :=
  OpenClaim.holds_of_cond 5 Tryd.f5 rfl rfl rfl rfl rfl rfl rfl ⟨rfl, rfl, rfl, rfl, rfl⟩ rfl rfl rfl rfl rfl (by kernel_rfl) Tryd.func5 (by kernel_rfl)
    (of_decide_eq_true (by kernel_rfl)) (by unfold Func.isWrapper; first | (rw [if_pos (by decide +kernel)]; kernel_rfl) | (rw [if_neg (by decide +kernel)]; exact ⟨rfl, rfl⟩))
    (fun os started H enc _ F => by rw [OpenClaim.pre_eq_preRow]; exact lifted os started H enc F)

theorem plain (f : FuncId) (fn : Func) (hf : Tryd.pinned.checked.prog.funcNamed "abaculus/abaculuslaw5.DiceKnown" = some f) (hfn : Tryd.pinned.checked.prog.funcs[f]? = some fn) :
    false = Tryd.pinned.checked.prog.looks [] ∧ ∀ (j : Nat) t, fn.params[j]? = some t → Tryd.pinned.checked.prog.wantsStandIn t = false := by
  obtain rfl : f = 5 := Option.some.inj ((show Tryd.prog.funcNamed "abaculus/abaculuslaw5.DiceKnown" = some 5 by kernel_rfl).symm.trans hf) |>.symm
  obtain rfl : fn = Tryd.f5 := (Option.some.inj (Tryd.func5.symm.trans hfn)).symm
  refine ⟨by kernel_rfl, fun j t ht => ?_⟩
  have hall : Tryd.f5.params.all (fun t => !Tryd.prog.wantsStandIn t) = true := by kernel_rfl
  have := Array.all_eq_true_iff_forall_mem.1 hall t (Array.mem_of_getElem? ht)
  have h2 : Tryd.prog.wantsStandIn t = false := by simpa using this
  exact h2

theorem proved : Rows.DiceKnownCardSaid :=
  Claim7.holds_tied_plain_at .later [] _ _ _ _ said (fun _ h => by cases h) (by kernel_rfl) (fun _ h => by cases h) diceKnown_row_tie rfl ⟨rfl, rfl⟩ (by kernel_rfl) rfl plain (by kernel_rfl)
#print axioms proved
end Go.Proofs.YtjmbpnogicdkgaaDoor.diceKnown
