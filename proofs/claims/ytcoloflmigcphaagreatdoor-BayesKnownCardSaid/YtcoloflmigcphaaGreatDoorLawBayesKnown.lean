/-
  Proved here: abaculuslaw25.BayesKnown returns true, where math/bits.deBruijn64tab starts as the program's text lays it (the card ties it).
-/
import Derived.Test.YtcoloflmigcphaaGreatDoorCards
import Derived.Test.YtcoloflmigcphaaGreatDoorTab
import Derived.Test.YtcoloflmigcphaaGreatDoorTie
import Derived.Test.YtcoloflmigcphaaGreatDoorBayesKnownW
import Derived.WalkKit
import Derived.ProofKit
import Derived.OpenShut
import Derived.ShutString
import Derived.ChangeOld
import Derived.Below
namespace Go.Proofs.YtcoloflmigcphaaGreatDoor.bayesKnown
open Go.ChangeShapes Go.WideShapes Go.ChangeAt Go.RowKit
open Go.ChangeMaps (open_string shut_string)
set_option linter.unusedVariables false
set_option linter.unusedSimpArgs false

theorem own : ownKnob Tryz.prog.godebug = none := by kernel_rfl
theorem laidOut : laidOutB Tryz.prog = true := by kernel_rfl

/-! ### the Jm8 -/
theorem Jm8 (w : World) (hT : Tab w) :
    Calls Tryz.prog 10 #[] w fun e w' => e = .returned (.bool true) ∧ Below w.heap.size w w' :=
  Jb6 w hT

set_option maxRecDepth 100000 in
/-- what the Jm8 gives, for every argument and every world that holds the listed variables -/
theorem Jlr (H : Type) (enc : TypeId × Value → H) (W : World) (base : Nat) (args : Array Value) (ds gs : List (DataW H)) (before : List MemPlace)
    (j0 : ∀ (j : Nat) t v, Tryz.f10.params[j]? = some t → args[j]? = some v → Value.okWide Tryz.prog W .any base t v)
    (hW : DataW.Whole enc Tryz.prog Tryz.f10.params.toList Rows.bayesKnownSpec.vars false W args.toList ds gs before) (hL : laidMetH Tryz.prog Rows.bayesKnownRow.laid W) :
    Calls Tryz.prog 10 args W fun e W' => ∃ v, e = .returned v ∧ Rows.bayesKnownSpec.post enc Tryz.prog Tryz.f10 false true false false W args v W' := by
  have j6 : ∀ (j : Nat) t v, Tryz.f10.params[j]? = some t → args[j]? = some v → Value.okWide Tryz.prog W .any base t v := j0
  have j8 := hW
  obtain ⟨p, q, j9, hV, rfl, l6, l7⟩ := hW
  have hA : DataW.TrodAll enc Tryz.prog W 0 (fun _ => true) true Tryz.f10.params.toList args.toList ds p := j9
  rw [Tryz.params10] at hA j6
  obtain ⟨rfl, rfl, rfl⟩ := trodAll_none hA
  obtain ⟨rfl, rfl⟩ := trodVars_none hV
  clear j9 j0
  simp only [List.append_nil] at j8
  refine (Jm8  W (Jna (rest := []) hL)).mono fun e W' ⟨he, hg⟩ => ?_
  subst he
  exact ⟨_, rfl, _, _, _, [], _, [], j8, trodAll_mk1 (shut_bool Tryz.underlying4 _), rfl, rfl, hg.frame _, fun h => by cases h⟩

noncomputable def Jbf (os : Os) : World :=
  { World.holding Tryz.prog os ⟨#[], #[], []⟩ with heap := Array.modify ((World.holding Tryz.prog os ⟨#[], #[], []⟩).heap) 2 (fun | .cells _ t frozen => .cells ((Lib.deBruijn64tab.map (fun n : Nat => Value.int .u8 (n : Int))).toArray) t frozen | o => o) }
theorem Jlc (os : Os) : laidMet Tryz.prog Rows.bayesKnownRow.laid ((Jbf os).forCall (fun _ _ => 0) ⟨#[], #[], []⟩).memory :=
  laidMet_of_run' 80 (by kernel_rfl) (by kernel_rfl)
theorem reads (os : Os) {H : Type} (enc : TypeId × Value → H) : ∃ places, DataW.whole enc Tryz.prog ((Jbf os).forCall (fun _ _ => 0) ⟨#[], #[], []⟩).memory Tryz.f10.params.toList Rows.bayesKnownSpec.vars false (#[] : Array Value).toList 8 = some ([], [], places) :=
  ⟨[], by kernel_rfl⟩

set_option maxRecDepth 100000 in
theorem Jnk (os : Os) (started : os.Started) (H : Type) (enc : TypeId × Value → H) (F : Stop.Interp) :
    ReturnsInHanded {} Tryz.checked os 10 .any ((OpenSpec.ofChange Rows.bayesKnownSpec).preRow enc Tryz.prog Tryz.f10 Rows.bayesKnownRow.domain false Rows.bayesKnownRow.laid) (((OpenSpec.ofChange Rows.bayesKnownSpec).at F).post enc Tryz.prog Tryz.f10 false true false false) := by
  obtain ⟨places, hx⟩ := reads os enc
  refine returnsInHanded_of_row (C := Tryz.checked) (s := OpenSpec.ofChange Rows.bayesKnownSpec) own started (by kernel_rfl) Tryz.func10
    (witness_row_at (enc := enc) (C := Tryz.checked) false (Jbf os) #[] rfl (by kernel_rfl) (by kernel_rfl) (by kernel_rfl)
      (OpenSpec.preRow_of_cond 8 hx (by kernel_rfl) (fun k hk => by cases hk) (by kernel_rfl) (Jlc os))) ?_
  intro W base args ds gs before j6 hW _ _ _ hL _ _
  exact Jlr H enc W base args ds gs before j6 hW hL

theorem said : Rows.BayesKnownSaid :=
  OpenClaim.holds_of_cond 10 Tryz.f10 rfl rfl rfl rfl rfl rfl rfl ⟨rfl, rfl, rfl, rfl, rfl⟩ rfl rfl rfl rfl rfl (by kernel_rfl) Tryz.func10 (by kernel_rfl)
    (of_decide_eq_true (by kernel_rfl)) (by unfold Func.isWrapper; first | (rw [if_pos (by decide +kernel)]; kernel_rfl) | (rw [if_neg (by decide +kernel)]; exact ⟨rfl, rfl⟩))
    (fun os started H enc _ F => by rw [OpenClaim.pre_eq_preRow]; exact Jnk os started H enc F)

theorem plain (f : FuncId) (fn : Func) (hf : Tryz.pinned.checked.prog.funcNamed "abaculus/abaculuslaw25.BayesKnown" = some f) (l5 : Tryz.pinned.checked.prog.funcs[f]? = some fn) :
    false = Tryz.pinned.checked.prog.looks [] ∧ ∀ (j : Nat) t, fn.params[j]? = some t → Tryz.pinned.checked.prog.wantsStandIn t = false := by
  obtain rfl : f = 10 := Option.some.inj ((show Tryz.prog.funcNamed "abaculus/abaculuslaw25.BayesKnown" = some 10 by kernel_rfl).symm.trans hf) |>.symm
  obtain rfl : fn = Tryz.f10 := (Option.some.inj (Tryz.func10.symm.trans l5)).symm
  refine ⟨by kernel_rfl, fun j t ht => ?_⟩
  have j7 : Tryz.f10.params.all (fun t => !Tryz.prog.wantsStandIn t) = true := by kernel_rfl
  have := Array.all_eq_true_iff_forall_mem.1 j7 t (Array.mem_of_getElem? ht)
  have h2 : Tryz.prog.wantsStandIn t = false := by simpa using this
  exact h2

theorem proved : Rows.BayesKnownCardSaid :=
  Claim7.holds_tied_plain_at .later [] _ _ _ _ said (fun _ h => by cases h) (by kernel_rfl) (fun _ h => by cases h) bayesKnown_row_tie rfl ⟨rfl, rfl⟩ (by kernel_rfl) rfl plain (by kernel_rfl)
#print axioms proved
end Go.Proofs.YtcoloflmigcphaaGreatDoor.bayesKnown
