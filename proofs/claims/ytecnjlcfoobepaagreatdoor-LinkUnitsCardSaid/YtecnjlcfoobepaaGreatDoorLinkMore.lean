import Derived.Test.YtecnjlcfoobepaaGreatDoorLinkFine
namespace Go.Proofs.YtecnjlcfoobepaaGreatDoor
open Go.RowKit
set_option linter.unusedSimpArgs false
set_option linter.unusedVariables false
theorem far_at {w : World} {gf n c : Nat} {f : List (List Rat)} (h : OwnQQ w (.slice (some ⟨gf, 0, none⟩) n c) f) (hs : SymF f) {a b : Nat} (ha : a < f.length) (hb : b < f.length) :
  ∃ gr c', At1 w gf a (.slice (some ⟨gr, 0, none⟩) f.length c') ∧ AtQ w gr (b * 5) (dOf f a b) := by
 obtain ⟨l, hl⟩ : ∃ l, f[a]? = some l := ⟨_, List.getElem?_eq_getElem ha⟩
 have hld : f.getD a [] = l := by rw [List.getD_eq_getElem?_getD, hl]; rfl
 have hlen := hs.row a ha
 rw [hld] at hlen
 obtain ⟨A, m, k, hc, ho⟩ := OwnS.at_ h hl
 obtain ⟨g, rfl, hm⟩ := OwnQ.addr' ho (by omega)
 rw [hm, hlen] at hc
 obtain ⟨x, hx⟩ : ∃ x, l[b]? = some x := ⟨_, List.getElem?_eq_getElem (by omega)⟩
 have hd : dOf f a b = x := by
  unfold dOf
  rw [hld, List.getD_eq_getElem?_getD, hx]
  rfl
 rw [hd]
 exact ⟨g, k, At1.mk' hc, OwnQ.at_ ho hx⟩
theorem dOf_QS {f : List (List Rat)} {m : Nat} (h : ∀ l ∈ f, ∀ x ∈ l, QS m x) (hm : 1 ≤ m) (a b : Nat) : QS m (dOf f a b) := by
 unfold dOf
 rw [List.getD_eq_getElem?_getD (l := f)]
 cases hl : f[a]? with
 | none => exact QS.getD (fun x hx => by cases hx) hm b
 | some l => exact QS.getD (h l (List.mem_of_getElem? hl)) hm b
end Go.Proofs.YtecnjlcfoobepaaGreatDoor
