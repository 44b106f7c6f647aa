import Derived.Test.YtecnjlcfoobepaaGreatDoorLinkBuildP
import Derived.Test.YtecnjlcfoobepaaGreatDoorHandPick
namespace Go.Proofs.YtecnjlcfoobepaaGreatDoor
open Go.RowKit
set_option linter.unusedSimpArgs false
set_option linter.unusedVariables false
theorem pick_of (z : Int) (m : Nat) (w : World) (b0 : -9223372036854775808 <= z) (b1 : z <= 9223372036854775807) (hm : 1 <= m) (hm2 : m <= 4611686018427387904) :
  ∃ n : Nat, n < m /\ ∀ w, Calls Tryz.prog 14 #[.int .i64 z, .int .i64 (m : Int)] w fun e w' => e = .returned (.int .i64 (n : Int)) /\ w = w' := by
 have h0 : 0 <= z % (m : Int) := Int.emod_nonneg _ (by omega)
 have h1 : z % (m : Int) < (m : Int) := Int.emod_lt_of_pos _ (by omega)
 obtain ⟨n, hn⟩ := Int.eq_ofNat_of_zero_le h0
 refine ⟨n, by omega, fun w => ?_⟩
 have := hand_pick z m w b0 b1 hm hm2
 rw [hn] at this
 exact this
theorem OwnRR.readsRR {w : World} {A : Option Addr} {n c : Nat} {f : List (List Rat)} (h : OwnRR w (.slice A n c) f) : ReadsRR w w.heap.size A n f := OwnS.readS (fun h => OwnR.reads_ h) h
structure ArgZ (w : World) (A : Option Addr) (n c : Nat) (zl : List Int) : Prop where
 rd : ReadsZ w w.heap.size A n zl
 cap : n <= c
 most : c <= 9223372036854775807
def I64 (z : Int) : Prop := -9223372036854775808 <= z /\ z <= 9223372036854775807
structure FarF (f : List (List Rat)) : Prop where
 chk : checkFar f = 0
 one : 1 <= f.length
 most : f.length <= 7
 qs : ∀ l ∈ f, ∀ x ∈ l, QS 47 x
section
variable {w wr w1 : World} {m2 gg g8 gj : Nat} {vs vs' : Value} {sz : List Int} {go : List Bool} {la : Rat} {tj : TypeId} {ja : Array Value}
end
structure JB (m : Nat) (j : Jn) : Prop where
 size : -1000 <= j.size /\ j.size <= 1000
 high : QS m j.high
theorem build_bound {how m : Nat} {f : List (List Rat)} (hf : SymF f) (hm : 1 <= m) (hq : ∀ l ∈ f, ∀ x ∈ l, QS m x) (h7 : f.length <= 7) : ∀ j ∈ buildJ how f, JB (64 * m + 2520) j := by
 intro j hj
 obtain ⟨k, hk, rfl⟩ := List.mem_map.1 hj
 have hk := List.mem_range.1 hk
 obtain ⟨A, B, hj, hc⟩ := joined_at (how := how) (k := k) hf (by omega)
 have hi := inv_at (how := how) hf k (by omega)
 have hw := walkC_at (how := how) (m := m) (k := k) hf hm hq (by omega) (by omega)
 have la := nodup_le (hi.nodup A) fun r hr => ((hi.mem A r).1 hr).1
 have lb := nodup_le (hi.nodup B) fun r hr => ((hi.mem B r).1 hr).1
 rw [hj.eq]
 refine ⟨?_, hw.qs.betw (by omega) A B⟩
 show -1000 <= (((partAt f.length (joinAt how f) k A).length + (partAt f.length (joinAt how f) k B).length : Nat) : Int) /\ (((partAt f.length (joinAt how f) k A).length + (partAt f.length (joinAt how f) k B).length : Nat) : Int) <= 1000
 omega
section
variable {α : Type} {n i : Nat} {r : Nat -> α} {z : α}
end
structure LJ (f : List (List Rat)) (how : Nat) (l : List Jn) : Prop where
 fine : fineB f.length l = true
 jb : ∀ j ∈ l, JB 5528 j
 len : l.length + 1 = f.length
 sym : SymF f
 pos : PosF f
 diag : ∀ i, i < f.length -> dOf f i i = 0
 at_ : ∀ k, k + 1 < f.length -> l.getD k default = joinAt how f k
theorem lj_of (how : Nat) {f : List (List Rat)} (hF : FarF f) : LJ f how (buildJ how f) := by
 obtain ⟨hf, hp, hd, h1, h64⟩ := symF_of hF.chk
 exact ⟨fine_build hf hp h1 h64, fun j hj => build_bound hf (by omega) hF.qs hF.most j hj, by rw [buildJ_len]; omega, hf, hp, hd, fun k hk => buildJ_at hk⟩
end Go.Proofs.YtecnjlcfoobepaaGreatDoor
