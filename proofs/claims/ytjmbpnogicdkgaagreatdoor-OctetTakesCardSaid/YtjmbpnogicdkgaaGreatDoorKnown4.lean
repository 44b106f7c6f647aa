/-
  Chapter 4's example, as the statements of that chapter check it.
-/
import Derived.Test.YtjmbpnogicdkgaaGreatDoorWriter
namespace Go.Proofs.YtjmbpnogicdkgaaGreatDoor
open Go.RowKit
set_option linter.unusedSimpArgs false
set_option linter.unusedVariables false

theorem known_bytes : countB 300 ++ wholeB (-1) = [172, 2, 3, 1] := by decide +kernel

set_option maxRecDepth 100000 in
set_option maxHeartbeats 400000 in
theorem octet_known (w : World) : Calls Tryz.prog 9 #[] w (Ret (.bool true) w) := by
  go_enter Tryz.func9, Tryz.ntmps9
  go_wp2_with fail
  refine (new_writer w).mono ?_
  rintro e w1 ⟨rfl, rfl⟩
  have h1 := IsW.new w
  have hB1 := (Below.refl w.heap.size w).alloc (Nat.le_refl _) (.cells #[.slice none 0 0] 99)
  have hz1 : w.heap.size ≤ (w.alloc (.cells #[.slice none 0 0] 99)).heap.size := by simp
  generalize w.alloc (.cells #[.slice none 0 0] 99) = x1 at *
  go_wp2_with fail
  refine (writer_count _ _ _ 300 x1 h1 (by omega) (by simp)).mono ?_
  rintro e x2 ⟨v2, rfl, h2, g2⟩
  have hB2 := hB1.trans (WGrew.below g2 hz1 (Nat.le_refl _) (by intro k hk; simp [Value.ownBlock] at hk))
  have hf2 := WGrew.fresh (B := w.heap.size) g2 hz1 (by intro k hk; simp [Value.ownBlock] at hk)
  clear h1 g2 hB1
  go_wp2_with fail
  refine (whole_of (-1) x2 (by omega) (by omega)).mono ?_
  rintro e x3 ⟨rfl, hb3⟩
  have h3 := h2.below hb3
  have hB3 := hB2.trans (hb3.mono hB2.size)
  clear h2 hb3 hB2
  go_wp2_with fail
  refine (writer_whole _ _ _ (-1) x3 h3 (by decide) (by simp; decide)).mono ?_
  rintro e x4 ⟨v4, rfl, h4, g4⟩
  have hB4 := hB3.trans (WGrew.below g4 hB3.size (Nat.le_refl _) hf2)
  rw [show (300 : Int).toNat = 300 from rfl, List.nil_append, known_bytes] at h4
  clear h3 g4 hB3
  go_wp2_with fail
  refine (writer_bytes _ _ _ x4 h4 (by simp)).mono ?_
  rintro e x5 ⟨v5, rfl, ho5, hb5, hf5⟩
  have hB5 := hB4.trans (hb5.mono hB4.size)
  obtain ⟨A5, c5, hv5, _, _⟩ := ho5.form
  rw [hv5] at ho5 ⊢
  have hstr := run_string (P := Tryz.prog) x5 22 9 5 A5 4 c5 _ _ Tryz.underlying22 Tryz.underlying5 Tryz.underlying9 (Own.reads ho5)
  clear hv5 ho5 hf5 hb5 h4 hB4
  go_wp2
  go_ret
  exact ⟨rfl, hB5⟩
end Go.Proofs.YtjmbpnogicdkgaaGreatDoor
