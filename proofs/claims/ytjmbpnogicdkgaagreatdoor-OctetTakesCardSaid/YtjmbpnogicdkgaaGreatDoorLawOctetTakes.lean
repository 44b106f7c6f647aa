/-
  Proved here: for any bytes, any two lists of steps, any numbers and any byte, abaculuslaw4.OctetTakes returns true and leaves its arguments as they were, where math/bits.deBruijn64tab starts as the program's text lays it (the card ties it).
-/
import Derived.Test.YtjmbpnogicdkgaaGreatDoorCards
import Derived.Test.YtjmbpnogicdkgaaGreatDoorTie
import Derived.Test.YtjmbpnogicdkgaaGreatDoorTab
import Derived.Test.YtjmbpnogicdkgaaGreatDoorOctetTakesW
import Derived.WalkKit
import Derived.ProofKit
import Derived.OpenShut
import Derived.ShutString
import Derived.ChangeOld
import Derived.Below
import Derived.SizedLaws
-- SIZEDCARD 1
-- CUSTOM 6
-- ARGV .slice none 0 0, .slice none 0 0, .slice none 0 0, .slice none 0 0, .int .u8 0, .bool false
-- WITNESS .nil, .nil, .nil, .nil, .lit (.int .u8 0), .lit (.bool false)
-- MID obtain ⟨a0, len0, cap0, rfl⟩ := okWide_slice Tryz.underlying22 (hval 0 22 v0 rfl rfl)
-- MID have k0 := h0
-- MID have lt0 : ∀ x ∈ p0, x.block < W.heap.size := by obtain ⟨m, hm⟩ := k0; exact DataW.trod_lt m _ _ _ hm
-- MID obtain ⟨l0, b0, c0, c0'⟩ := open_bytesT h0
-- MID obtain ⟨a1, len1, cap1, rfl⟩ := okWide_slice Tryz.underlying42 (hval 1 42 v1 rfl rfl)
-- MID have k1 := h1
-- MID have lt1 : ∀ x ∈ p1, x.block < W.heap.size := by obtain ⟨m, hm⟩ := k1; exact DataW.trod_lt m _ _ _ hm
-- MID obtain ⟨l1, w1, o1, c1, c1'⟩ := open_steps h1
-- MID obtain ⟨a2, len2, cap2, rfl⟩ := okWide_slice Tryz.underlying42 (hval 2 42 v2 rfl rfl)
-- MID have k2 := h2
-- MID have lt2 : ∀ x ∈ p2, x.block < W.heap.size := by obtain ⟨m, hm⟩ := k2; exact DataW.trod_lt m _ _ _ hm
-- MID have c2'' : cap2 * 88 ≤ 140737488351232 := steps_reach hsz h2
-- MID obtain ⟨l2, w2, o2, c2, c2'⟩ := open_steps h2
-- MID obtain ⟨a3, len3, cap3, rfl⟩ := okWide_slice Tryz.underlying43 (hval 3 43 v3 rfl rfl)
-- MID have k3 := h3
-- MID have lt3 : ∀ x ∈ p3, x.block < W.heap.size := by obtain ⟨m, hm⟩ := k3; exact DataW.trod_lt m _ _ _ hm
-- MID obtain ⟨w3, c3⟩ := open_intsT h3
-- MID obtain ⟨a4, rfl, rfl, rfl, w4⟩ := open_int Tryz.underlying5 (hval 4 5 v4 rfl rfl) h4
-- MID obtain ⟨by0, rfl⟩ := byte_of w4
-- MID obtain ⟨a5, rfl, rfl, rfl⟩ := open_bool Tryz.underlying4 (hval 5 4 v5 rfl rfl) h5
-- WALK a0 len0 cap0 l0 a1 len1 cap1 l1 a2 len2 cap2 l2 a3 len3 by0 a5 W b0 c0 c0' w1 o1 c1 c1' w2 o2 c2 c2'' w3 c3 cap3
-- SP Below.trod laidOut (by kernel_rfl) (of_decide_eq_true (by kernel_rfl)) k0 hg lt0
-- SP Below.trod laidOut (by kernel_rfl) (of_decide_eq_true (by kernel_rfl)) k1 hg lt1
-- SP Below.trod laidOut (by kernel_rfl) (of_decide_eq_true (by kernel_rfl)) k2 hg lt2
-- SP Below.trod laidOut (by kernel_rfl) (of_decide_eq_true (by kernel_rfl)) k3 hg lt3
-- SP shut_int Tryz.underlying5 w4
-- SP shut_bool Tryz.underlying4 _
namespace Go.Proofs.YtjmbpnogicdkgaaGreatDoor.octetTakes
open Go.ChangeShapes Go.WideShapes Go.ChangeAt Go.RowKit Go.Deep
open Go.ChangeMaps (open_string shut_string)
set_option linter.unusedVariables false
set_option linter.unusedSimpArgs false

theorem own : ownKnob Tryz.prog.godebug = none := by kernel_rfl
theorem laidOut : laidOutB Tryz.prog = true := by kernel_rfl

theorem byte_of {z : Int} (h : (Lit.int .u8 z).wf = true) : ∃ b : UInt8, z = (b.toNat : Int) := by
  obtain ⟨h0, h1⟩ := bounds_u8 h
  refine ⟨UInt8.ofNat z.toNat, ?_⟩
  rw [UInt8.toNat_ofNat']
  omega
section
variable {H : Type} {enc : TypeId × Value → H}
theorem open_bytesT {W : World} {A : Option Addr} {n c : Nat} {d : DataW H} {p : List MemPlace} (h : DataW.Trod enc Tryz.prog W 0 (fun _ => true) true 22 (.slice A n c) d p) :
    ∃ l, Bytes W W.heap.size A n l ∧ n ≤ c ∧ c ≤ 9223372036854775807 := by
  obtain ⟨fuel, hf⟩ := h
  have hf' : DataW.trod enc Tryz.prog W 0 (fun _ => true) true fuel 22 [.slice A n c] = some (d, p) := hf
  obtain ⟨A', m, c', l, e, hb, h1, h2⟩ := open_bytes hf'
  injection e with e1 e2 e3
  subst e1; subst e2; subst e3
  exact ⟨l, hb, h1, h2⟩
theorem open_intsT {W : World} {A : Option Addr} {n c : Nat} {d : DataW H} {p : List MemPlace} (h : DataW.Trod enc Tryz.prog W 0 (fun _ => true) true 43 (.slice A n c) d p) :
    IntsIn W W.heap.size A n ∧ n ≤ 9223372036854775807 := by
  obtain ⟨fuel, hf⟩ := h
  rcases open_ints Tryz.underlying43 Tryz.underlying3 (by kernel_rfl) hf with ⟨hcs, _⟩ | ⟨x, l, c', zs, hcs, _, hl, hm, hz, _, hcell, hwz⟩
  · simp [Value.cells] at hcs
    obtain ⟨rfl, rfl, rfl⟩ := hcs
    exact ⟨fun i hi => by omega, by omega⟩
  · simp [Value.cells] at hcs
    obtain ⟨rfl, rfl, rfl⟩ := hcs
    have hz' : zs.length = c := by simpa using hz
    refine ⟨fun i hi => ?_, by unfold maxLen at hm; omega⟩
    have h1 := hcell i (by omega)
    have hmem : zs.getD i 0 ∈ zs := by
      rw [List.getD_eq_getElem?_getD, List.getElem?_eq_getElem (by omega)]
      exact List.getElem_mem _
    have h2 := bounds_i64 (hwz _ hmem)
    have h3 := cell_lt h1
    rw [block_of_add] at h3
    exact ⟨x, _, rfl, h3, h1, h2.1, h2.2⟩
theorem steps_reach {W : World} {A : Option Addr} {n c : Nat} {t0 t1 : TypeId} {ts : List TypeId} {d0 d1 d2 : DataW H} {ds : List (DataW H)} {p : List MemPlace} (hsz : (DataW.weightsEach Tryz.prog (t0 :: t1 :: 42 :: ts) (d0 :: d1 :: d2 :: ds)).all (· ≤ reachBytes) = true)
    (h : DataW.Trod enc Tryz.prog W 0 (fun _ => true) true 42 (.slice A n c) d2 p) : c * 88 ≤ 140737488351232 := by
  obtain ⟨fuel, hf⟩ := h
  rcases open_slice Tryz.underlying42 hf with ⟨hcs, _⟩ | ⟨a, len, cap, m, k, D, Pl, hcs, hb, hl, hm, hmm, hx, hi⟩
  · simp [Value.cells] at hcs
    obtain ⟨rfl, rfl, rfl⟩ := hcs
    omega
  · simp [Value.cells] at hcs
    obtain ⟨rfl, rfl, rfl⟩ := hcs
    simp only [if_true] at hmm
    subst hmm
    injection hx with hd _
    have hr := sized_slice hsz (j := 2) (t := 42) (e := 24) rfl (by rw [hd]; rfl) Tryz.underlying42
    rw [show Tryz.prog.bytesOf 24 = 88 from by kernel_rfl] at hr
    simp only [List.length_map, List.length_range, reachBytes] at hr
    omega
end

/-! ### the walk -/
theorem walk (A0 : Option Addr) (n0 c0 : Nat) (raw : List UInt8) (A1 : Option Addr) (n1 c1 : Nat) (l1 : List StepD) (A2 : Option Addr) (n2 c2 : Nat) (l2 : List StepD) (A3 : Option Addr) (n3 : Nat) (by0 : UInt8) (laid : Bool) (w : World)
    (h0 : Bytes w w.heap.size A0 n0 raw) (hc0 : n0 ≤ c0) (hc0' : c0 ≤ 9223372036854775807)
    (h1 : ReadsW w w.heap.size 6 stepC A1 n1 l1) (ok1 : ∀ x ∈ l1, StepOK w w.heap.size x) (hc1 : n1 ≤ c1) (hc1' : c1 ≤ 9223372036854775807)
    (h2 : ReadsW w w.heap.size 6 stepC A2 n2 l2) (ok2 : ∀ x ∈ l2, StepOK w w.heap.size x) (hc2 : n2 ≤ c2) (hc2' : c2 * 88 ≤ 140737488351232)
    (h3 : IntsIn w w.heap.size A3 n3) (hn3 : n3 ≤ 9223372036854775807) (c3 : Nat) (hT : Tab w) :
    Calls Tryz.prog 4 #[.slice A0 n0 c0, .slice A1 n1 c1, .slice A2 n2 c2, .slice A3 n3 c3, .int .u8 (by0.toNat : Int), .bool laid] w fun e w' => e = .returned (.bool true) ∧ Below w.heap.size w w' :=
  octetTakes_walk A0 n0 c0 raw A1 n1 c1 l1 A2 n2 c2 l2 A3 n3 c3 by0 laid w h0 hc0 hc0' h1 ok1 hc1 hc1' h2 ok2 hc2 hc2' h3 hn3 hT

set_option maxRecDepth 100000 in
/-- what the walk gives, for every argument and every world that holds the listed variables -/
theorem contract (H : Type) (enc : TypeId × Value → H) (W : World) (base : Nat) (args : Array Value) (ds gs : List (DataW H)) (before : List MemPlace)
    (hval0 : ∀ (j : Nat) t v, Tryz.f4.params[j]? = some t → args[j]? = some v → Value.okWide Tryz.prog W .any base t v)
    (hW : DataW.Whole enc Tryz.prog Tryz.f4.params.toList Rows.octetTakesSpec.vars false W args.toList ds gs before) (hL : laidMetH Tryz.prog Rows.octetTakesRow.laid W) (hsz0 : (DataW.weightsEach Tryz.prog (Tryz.f4.params.toList ++ Rows.octetTakesSpec.plain.varTypes Tryz.prog) (ds ++ gs)).all (· ≤ reachBytes) = true) :
    Calls Tryz.prog 4 args W fun e W' => ∃ v, e = .returned v ∧ Rows.octetTakesSpec.post enc Tryz.prog Tryz.f4 false true false false W args v W' := by
  have hval : ∀ (j : Nat) t v, Tryz.f4.params[j]? = some t → args[j]? = some v → Value.okWide Tryz.prog W .any base t v := hval0
  have hW' := hW
  obtain ⟨p, q, hA0, hV, rfl, hfz, hnd⟩ := hW
  have hA : DataW.TrodAll enc Tryz.prog W 0 (fun _ => true) true Tryz.f4.params.toList args.toList ds p := hA0
  have hsz := hsz0
  rw [Tryz.params4] at hA hval hsz
  obtain ⟨v0, vs0, d0, ds0, p0, q0, hargs, rfl, rfl, h0, r0⟩ := trodAll_cons hA
  obtain ⟨v1, vs1, d1, ds1, p1, q1, rfl, rfl, rfl, h1, r1⟩ := trodAll_cons r0
  obtain ⟨v2, vs2, d2, ds2, p2, q2, rfl, rfl, rfl, h2, r2⟩ := trodAll_cons r1
  obtain ⟨v3, vs3, d3, ds3, p3, q3, rfl, rfl, rfl, h3, r3⟩ := trodAll_cons r2
  obtain ⟨v4, vs4, d4, ds4, p4, q4, rfl, rfl, rfl, h4, r4⟩ := trodAll_cons r3
  obtain ⟨v5, vs5, d5, ds5, p5, q5, rfl, rfl, rfl, h5, r5⟩ := trodAll_cons r4
  obtain ⟨rfl, rfl, rfl⟩ := trodAll_nil r5
  obtain rfl : args = #[v0, v1, v2, v3, v4, v5] := by cases args; simp_all
  obtain ⟨rfl, rfl⟩ := trodVars_none hV
  obtain ⟨a0, len0, cap0, rfl⟩ := okWide_slice Tryz.underlying22 (hval 0 22 v0 rfl rfl)
  have k0 := h0
  have lt0 : ∀ x ∈ p0, x.block < W.heap.size := by obtain ⟨m, hm⟩ := k0; exact DataW.trod_lt m _ _ _ hm
  obtain ⟨l0, b0, c0, c0'⟩ := open_bytesT h0
  obtain ⟨a1, len1, cap1, rfl⟩ := okWide_slice Tryz.underlying42 (hval 1 42 v1 rfl rfl)
  have k1 := h1
  have lt1 : ∀ x ∈ p1, x.block < W.heap.size := by obtain ⟨m, hm⟩ := k1; exact DataW.trod_lt m _ _ _ hm
  obtain ⟨l1, w1, o1, c1, c1'⟩ := open_steps h1
  obtain ⟨a2, len2, cap2, rfl⟩ := okWide_slice Tryz.underlying42 (hval 2 42 v2 rfl rfl)
  have k2 := h2
  have lt2 : ∀ x ∈ p2, x.block < W.heap.size := by obtain ⟨m, hm⟩ := k2; exact DataW.trod_lt m _ _ _ hm
  have c2'' : cap2 * 88 ≤ 140737488351232 := steps_reach hsz h2
  obtain ⟨l2, w2, o2, c2, c2'⟩ := open_steps h2
  obtain ⟨a3, len3, cap3, rfl⟩ := okWide_slice Tryz.underlying43 (hval 3 43 v3 rfl rfl)
  have k3 := h3
  have lt3 : ∀ x ∈ p3, x.block < W.heap.size := by obtain ⟨m, hm⟩ := k3; exact DataW.trod_lt m _ _ _ hm
  obtain ⟨w3, c3⟩ := open_intsT h3
  obtain ⟨a4, rfl, rfl, rfl, w4⟩ := open_int Tryz.underlying5 (hval 4 5 v4 rfl rfl) h4
  obtain ⟨by0, rfl⟩ := byte_of w4
  obtain ⟨a5, rfl, rfl, rfl⟩ := open_bool Tryz.underlying4 (hval 5 4 v5 rfl rfl) h5
  clear hA0 hval0
  simp only [List.append_nil] at hW'
  refine (walk a0 len0 cap0 l0 a1 len1 cap1 l1 a2 len2 cap2 l2 a3 len3 by0 a5 W b0 c0 c0' w1 o1 c1 c1' w2 o2 c2 c2'' w3 c3 cap3 (tab_of (rest := []) hL)).mono fun e W' ⟨he, hg⟩ => ?_
  subst he
  exact ⟨_, rfl, _, _, _, [], _, [], hW', trodAll_mk1 (shut_bool Tryz.underlying4 _), (trodAll_cons_mk (Below.trod laidOut (by kernel_rfl) (of_decide_eq_true (by kernel_rfl)) k0 hg lt0) (trodAll_cons_mk (Below.trod laidOut (by kernel_rfl) (of_decide_eq_true (by kernel_rfl)) k1 hg lt1) (trodAll_cons_mk (Below.trod laidOut (by kernel_rfl) (of_decide_eq_true (by kernel_rfl)) k2 hg lt2) (trodAll_cons_mk (Below.trod laidOut (by kernel_rfl) (of_decide_eq_true (by kernel_rfl)) k3 hg lt3) (trodAll_cons_mk (shut_int Tryz.underlying5 w4) (trodAll_cons_mk (shut_bool Tryz.underlying4 _) trodAll_mk0)))))), rfl, hg.frame _, fun h => by cases h⟩

noncomputable def laidWorld (os : Os) : World :=
  { World.holding Tryz.prog os ⟨#[], #[], []⟩ with heap := ((World.holding Tryz.prog os ⟨#[], #[], []⟩).heap).modify 3 fun
      | .cells _ t frozen => .cells ((Lib.deBruijn64tab.map (fun n : Nat => Value.int .u8 (n : Int))).toArray) t frozen
      | o => o }
theorem laid_met (os : Os) : laidMet Tryz.prog Rows.octetTakesRow.laid ((laidWorld os).forCall (fun _ _ => 0) ⟨#[], #[.slice none 0 0, .slice none 0 0, .slice none 0 0, .slice none 0 0, .int .u8 0, .bool false], []⟩).memory :=
  laidMet_of_run' 80 (by kernel_rfl) (by kernel_rfl)
theorem reads (os : Os) {H : Type} (enc : TypeId × Value → H) : ∃ places, DataW.whole enc Tryz.prog ((laidWorld os).forCall (fun _ _ => 0) ⟨#[], #[.slice none 0 0, .slice none 0 0, .slice none 0 0, .slice none 0 0, .int .u8 0, .bool false], []⟩).memory Tryz.f4.params.toList Rows.octetTakesSpec.vars false (#[.slice none 0 0, .slice none 0 0, .slice none 0 0, .slice none 0 0, .int .u8 0, .bool false] : Array Value).toList 8 = some ([.nil, .nil, .nil, .nil, .lit (.int .u8 0), .lit (.bool false)], [], places) :=
  ⟨[], by kernel_rfl⟩

set_option maxRecDepth 100000 in
theorem lifted (os : Os) (started : os.Started) (H : Type) (enc : TypeId × Value → H) (F : Stop.Interp) :
    ReturnsInHanded {} Tryz.checked os 4 .any ((OpenSpec.ofChange Rows.octetTakesSpec).preRow enc Tryz.prog Tryz.f4 Rows.octetTakesRow.domain false Rows.octetTakesRow.laid) (((OpenSpec.ofChange Rows.octetTakesSpec).at F).post enc Tryz.prog Tryz.f4 false true false false) := by
  obtain ⟨places, hx⟩ := reads os enc
  refine returnsInHanded_of_row (C := Tryz.checked) (s := OpenSpec.ofChange Rows.octetTakesSpec) own started (by kernel_rfl) Tryz.func4
    (witness_row_at (enc := enc) (C := Tryz.checked) false (laidWorld os) #[.slice none 0 0, .slice none 0 0, .slice none 0 0, .slice none 0 0, .int .u8 0, .bool false] rfl (by kernel_rfl) (by kernel_rfl) (by kernel_rfl)
      (OpenSpec.preRow_of_cond 8 hx (by kernel_rfl) (fun k hk => by cases hk) (by kernel_rfl) (laid_met os))) ?_
  intro W base args ds gs before hval hW _ _ hsz hL _ _
  exact contract H enc W base args ds gs before hval hW hL hsz

theorem said : Rows.OctetTakesSaid :=
  OpenClaim.holds_of_cond 4 Tryz.f4 rfl rfl rfl rfl rfl rfl rfl ⟨rfl, rfl, rfl, rfl, rfl⟩ rfl rfl rfl rfl rfl (by kernel_rfl) Tryz.func4 (by kernel_rfl)
    (of_decide_eq_true (by kernel_rfl)) (by unfold Func.isWrapper; first | (rw [if_pos (by decide +kernel)]; kernel_rfl) | (rw [if_neg (by decide +kernel)]; exact ⟨rfl, rfl⟩))
    (fun os started H enc _ F => by rw [OpenClaim.pre_eq_preRow]; exact lifted os started H enc F)

theorem plain (f : FuncId) (fn : Func) (hf : Tryz.pinned.checked.prog.funcNamed "abaculus/abaculuslaw4.OctetTakes" = some f) (hfn : Tryz.pinned.checked.prog.funcs[f]? = some fn) :
    false = Tryz.pinned.checked.prog.looks [] ∧ ∀ (j : Nat) t, fn.params[j]? = some t → Tryz.pinned.checked.prog.wantsStandIn t = false := by
  obtain rfl : f = 4 := Option.some.inj ((show Tryz.prog.funcNamed "abaculus/abaculuslaw4.OctetTakes" = some 4 by kernel_rfl).symm.trans hf) |>.symm
  obtain rfl : fn = Tryz.f4 := (Option.some.inj (Tryz.func4.symm.trans hfn)).symm
  refine ⟨by kernel_rfl, fun j t ht => ?_⟩
  have hall : Tryz.f4.params.all (fun t => !Tryz.prog.wantsStandIn t) = true := by kernel_rfl
  have := Array.all_eq_true_iff_forall_mem.1 hall t (Array.mem_of_getElem? ht)
  have h2 : Tryz.prog.wantsStandIn t = false := by simpa using this
  exact h2

theorem proved : Rows.OctetTakesCardSaid :=
  Claim7.holds_tied_plain_at .later [] _ _ _ _ said (fun _ h => by cases h) (by kernel_rfl) (fun _ h => by cases h) octetTakes_row_tie rfl ⟨rfl, rfl⟩ (by kernel_rfl) rfl plain (by kernel_rfl)
#print axioms proved
end Go.Proofs.YtjmbpnogicdkgaaGreatDoor.octetTakes
