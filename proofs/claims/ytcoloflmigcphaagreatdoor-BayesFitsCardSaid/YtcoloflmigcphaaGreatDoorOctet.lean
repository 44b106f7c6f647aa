import Derived.Test.YtcoloflmigcphaaGreatDoorProg
import Derived.Test.YtcoloflmigcphaaGreatDoorMathA
import Derived.Deep.RegionWith
import Derived.Deep.RegionHeld3
import Derived.Deep.QuietTactic
import Derived.BigQuiet
namespace Go.Proofs.YtcoloflmigcphaaGreatDoor
open Go.RowKit
set_option linter.all false
theorem Jpj (n : Int) (m : Nat) (hm : 1 <= m) : n % (m : Int) = if n.tmod m < 0 then n.tmod m + m else n.tmod m := by
 have j6 : n.tmod m < m := Int.tmod_lt_of_pos n (by omega)
 have j7 : -(m : Int) < n.tmod m := Int.lt_tmod_of_pos n (by omega)
 have hq := Int.mul_tdiv_add_tmod n m
 have e : n % (m : Int) = (n.tmod m) % (m : Int) := by
  conv => lhs; rw [<- hq]
  exact Int.mul_add_emod_self_left _ _ _
 rw [e]
 split
 ·rw [<- Int.add_emod_right, Int.emod_eq_of_lt (by omega) (by omega)]
 rw [Int.emod_eq_of_lt (by omega) (by omega)]
theorem Jpd (n : Int) (m : Nat) (w : World) (h0 : -9223372036854775808 <= n) (h1 : n <= 9223372036854775807) (hm : 1 <= m) (j8 : m <= 4611686018427387904) :
  Calls Tryz.prog 13 #[.int .i64 n, .int .i64 (m : Int)] w fun e w' => e = .returned (.int .i64 (n % (m : Int))) /\ w = w' := by
 have j6 : n.tmod m < m := Int.tmod_lt_of_pos n (by omega)
 have j7 : -(m : Int) < n.tmod m := Int.lt_tmod_of_pos n (by omega)
 have he := lh (Jpj n m hm)
 have hz : ((m : Int) == 0) = false := by simp; omega
 by_cases h : n.tmod m < 0
 ·go_enter Tryz.func13, Tryz.ntmps13
  go_wp2
  go_ret
  exact ⟨Jb9 (by rw [he.out, if_pos h]), rfl⟩
 go_enter Tryz.func13, Tryz.ntmps13
 go_wp2
 go_ret
 exact ⟨Jb9 (by rw [he.out, if_neg (by omega)]), rfl⟩
theorem Tryz.infoU8 : (Tryz.prog.info? 5).map (fun i => (i.zero, i.size, i.bytes)) = some (some (.int .u8 0), 1, 1) := by kernel_rfl
def NewB (w w' : World) (v : Value) (l : List UInt8) : Prop := Own w' 5 u8v v l /\ Below w.heap.size w w' /\ ∀ k, v.ownBlock = some k -> w.heap.size <= k
theorem Own.ofBlk {α : Type} {w : World} {e : TypeId} {f : α -> Value} {l : List α} {g : Nat} (h : Row w g e f l) (hm : l.length <= maxLen) : Own w e f (.slice (some ⟨g, 0, none⟩) l.length l.length) l :=
 ⟨by simp, .inr ⟨g, l.length, (l.map f).toArray, rfl, Nat.zero_le _, h, Nat.le_refl _, hm, by simp, by rw [Nat.mul_one, List.take_of_length_le (by simp)]⟩⟩
theorem Jjj {α : Type} (l : List α) (k : Nat) (x : α) (h : l[k]? = some x) : l.take (k + 1) = l.take k ++ [x] := by
 rw [List.take_add_one, h]
 rfl
theorem Vr (c : UInt8) : IntKind.u64.wrap (c.toNat : Int) = (c.toNat : Int) := by
 rw [Jf, Nat.mod_eq_of_lt (by have := c.toNat_lt; omega)]
def Zr (h i : Nat) : UInt8 := UInt8.ofNat (h / 256 ^ i % 256)
theorem Jeo (h i : Nat) : (h : Int) / 2 ^ (8 * i) % 256 = ((Zr h i).toNat : Int) := by
 unfold Zr
 rw [UInt8.toNat_ofNat', Nat.mod_mod_of_dvd _ (by decide), show (256 : Nat) ^ i = 2 ^ (8 * i) from by rw [Nat.pow_mul]]
 rw [Int.natCast_emod, Int.natCast_ediv, Int.natCast_pow]
 rfl
def IsRow (k : IntKind) (w : World) (a : Option Addr) (len cap : Nat) (zs : List Int) : Prop :=
 (a = none /\ len = 0 /\ cap = 0 /\ zs = []) \/
 ∃ x, a = some x /\ len <= cap /\ cap <= maxLen /\ zs.length = cap /\ (∀ i, i < zs.length -> w.cell? (x.add i) = some (.int k (zs.getD i 0))) /\ ∀ n ∈ zs, (Lit.int k n).wf = true
theorem Xw {w : World} {p : Addr} {v : Value} (h : w.cell? p = some v) : p.block < w.heap.size := by
 rcases Nat.lt_or_ge p.block w.heap.size with h1 | h1
 ·exact h1
 unfold World.cell? at h
 rw [Array.getElem?_eq_none h1] at h
 simp at h
theorem Own.addr {α : Type} {w : World} {e : TypeId} {f : α -> Value} {l : List α} {A : Option Addr} {n c : Nat} (h : Own w e f (.slice A n c) l) (hn : 0 < l.length) : ∃ g, A = some ⟨g, 0, none⟩ := by
 rcases h.2 with ⟨h1, h2⟩ | ⟨g, cap, cur, h1, _⟩
 ·omega
 injection h1 with h1 _ _
 exact ⟨g, h1⟩
theorem Own.store {α : Type} {w : World} {e : TypeId} {f : α -> Value} {l : List α} {g c : Nat} (h : Own w e f (.slice (some ⟨g, 0, none⟩) l.length c) l) (k : Nat) (y : α) :
  Own (w.setCell ⟨g, k, none⟩ (f y)) e f (.slice (some ⟨g, 0, none⟩) l.length c) (l.set k y) := by
 have := (World.ownsRow.stored h k (f y)).1
 unfold Own
 rw [List.length_set, List.map_set]
 exact this
theorem Own.cellf {α : Type} {w : World} {e : TypeId} {f : α -> Value} {l : List α} {g c : Nat} (h : Own w e f (.slice (some ⟨g, 0, none⟩) l.length c) l) {k : Nat} {x : α} (hx : l[k]? = some x) :
  w.cell? ⟨g, k, none⟩ = some (f x) := by
 have hk : k < l.length := (List.getElem?_eq_some_iff.1 hx).1
 rw [World.ownsRow.cellAt h k (by omega), List.getElem?_map, hx]
 rfl
theorem Own.frozenf {α : Type} {w : World} {e : TypeId} {f : α -> Value} {l : List α} {g c : Nat} (h : Own w e f (.slice (some ⟨g, 0, none⟩) l.length c) l) (k : Nat) : w.frozen? ⟨g, k, none⟩ = false := World.ownsRow.frozenAt h k
def Xh (l : List UInt8) : Nat := l.foldl (fun a b => a * 256 + b.toNat) 0
theorem Jiq (l : List UInt8) (k : Nat) (x : UInt8) (h : l[k]? = some x) : Xh (l.take (k + 1)) = Xh (l.take k) * 256 + x.toNat := by
 unfold Xh
 rw [Jjj l k x h, List.foldl_append, List.foldl_cons, List.foldl_nil]
theorem Jhg (l : List UInt8) : Xh l < 256 ^ l.length := by
 have : ∀ (l : List UInt8) (a : Nat), l.foldl (fun a b => a * 256 + b.toNat) a < (a + 1) * 256 ^ l.length := by
  intro l
  induction l with
  | nil => intro a; simp
  | cons b r ih =>
   intro a
   have h1 := ih (a * 256 + b.toNat)
   have h2 := b.toNat_lt
   rw [List.foldl_cons, List.length_cons, Nat.pow_succ]
   refine Nat.lt_of_lt_of_le h1 ?_
   rw [Nat.mul_comm (256 ^ r.length) 256, <- Nat.mul_assoc]
   exact Nat.mul_le_mul_right _ (by omega)
 have h := this l 0
 unfold Xh
 simpa using h
