/-
  octet.appendCount: a count as bytes of seven bits, the lowest first.
  octet.exact and hand.Few: copies of bytes in new memory.
  octet.Sum: the hash of a list of bytes.
  octet.Seal: a record's bytes.
  How the arguments of a statement are read: slices of bytes.
  octet.readCount.
  octet.Next.
  hand.SameInts over two equal lists, hand.Pick.
-/
import Derived.Test.YtjmbpnogicdkgaaGreatDoorProg
import Derived.Test.YtjmbpnogicdkgaaGreatDoorMathA
import Derived.Test.YtjmbpnogicdkgaaGreatDoorMem
import Derived.Deep.RegionWith
import Derived.Deep.RegionHeld3
import Derived.Deep.QuietTactic
import Derived.BigQuiet
/-! octet.appendCount: a count as bytes of seven bits, the lowest first. -/
namespace Go.Proofs.YtjmbpnogicdkgaaGreatDoor
open Go.RowKit
set_option linter.unusedSimpArgs false
set_option linter.unusedVariables false

def countF : Nat → Nat → List UInt8
  | 0, n => [UInt8.ofNat n]
  | f + 1, n => if n < 128 then [UInt8.ofNat n] else UInt8.ofNat (n % 128 + 128) :: countF f (n / 128)
def countB (n : Nat) : List UInt8 := countF 9 n
theorem countF_small (f n : Nat) (h : n < 128) : countF f n = [UInt8.ofNat n] := by
  cases f <;> simp [countF, h]
theorem countF_big (f n : Nat) (h : ¬ n < 128) : countF (f + 1) n = UInt8.ofNat (n % 128 + 128) :: countF f (n / 128) := by
  simp [countF, h]
theorem countF_len (f : Nat) : ∀ n, (countF f n).length ≤ f + 1 := by
  induction f with
  | zero => intro n; simp [countF]
  | succ f ih =>
    intro n
    by_cases h : n < 128
    · rw [countF_small _ _ h]; simp
    · rw [countF_big _ _ h]
      have := ih (n / 128)
      simp; omega
theorem or128 : ∀ m : Nat, m < 256 → m ||| 128 = m % 128 + 128 := by decide +kernel
theorem count_walk (n : Nat) : bits .or .u8 ((n : Int) % 256) 128 = ((UInt8.ofNat (n % 128 + 128)).toNat : Int) := by
  rw [show (n : Int) % 256 = ((n % 256 : Nat) : Int) from by omega]
  have h : n % 256 < 256 := Nat.mod_lt _ (by omega)
  have e := or_u8 (n % 256) 128 h (by omega)
  rw [show ((128 : Nat) : Int) = 128 from rfl] at e
  rw [e, or128 _ h, UInt8.toNat_ofNat']
  omega
theorem Tryz.infoU8 : (Tryz.prog.info? 5).map (fun i => (i.zero, i.size, i.bytes)) = some (some (.int .u8 0), 1, 1) := by kernel_rfl

theorem Tryz.eltU8 : Elt Tryz.prog 22 5 (.int .u8 0) 1 := ⟨Tryz.underlying22, Tryz.infoU8, rfl⟩
theorem u8v_one (b : UInt8) : (u8v b).oneCell' = true := rfl

def CountRel (w : World) (v0 : Value) (goal : List UInt8) (m : Nat) (v : Value) (wr : World) : Prop :=
  ∃ f l, m < 128 ^ (f + 1) ∧ l ++ countF f m = goal ∧ Own wr 5 u8v v l ∧ Grew w wr v0 v

set_option maxRecDepth 100000 in
set_option maxHeartbeats 400000 in
theorem append_count_int (v : Value) (l : List UInt8) (z : Int) (n : Nat) (hz : z.toNat = n) (w : World) (ho : Own w 5 u8v v l) (hn : n ≤ 9223372036854775807) (hl : l.length ≤ 1099511627776) :
    Calls Tryz.prog 107 #[v, .int .i64 z] w fun e w' => ∃ v', e = .returned v' ∧ Own w' 5 u8v v' (l ++ countB n) ∧ Grew w w' v v' := by
  obtain ⟨A, c, rfl, hc1, hc2⟩ := ho.form
  have hmx : (if z < 0 then (0 : Int) else z) = (n : Int) := by split <;> omega
  have hmx2 : (if (0 : Int) < z then z else 0) = (n : Int) := by split <;> omega
  have hmx3 : max z 0 = (n : Int) := by omega
  clear hz
  go_enter Tryz.func107, Tryz.ntmps107
  go_wp2
  clear hmx hmx2 hmx3
  go_loopw [0, 1] (fun v x wr => ∃ m : Nat, m ≤ n ∧ x = .int .i64 m ∧ CountRel w (.slice A l.length c) (l ++ countB n) m v wr) (fun _ x _ => (intOf x).toNat)
  case atStart => exact ⟨n, Nat.le_refl _, rfl, 9, l, by omega, rfl, ho, Grew.refl _ _⟩
  case round =>
    obtain ⟨m, hm, rfl, f, l1, hm2, hl1, ho1, hg1⟩ := hrel
    obtain ⟨A1, c1, rfl, hc3, hc4⟩ := ho1.form
    have hlen := congrArg List.length hl1
    have hcl := countF_len 9 n
    have hll : l1.length ≤ 1099511627786 := by
      simp only [List.length_append, countB] at hlen
      omega
    have HL1 := Lib.hid hl1
    have HM2 := Lib.hid hm2
    clear hl1 hlen hcl hm2 ho hc1 hc2
    by_cases hlt : m < 128
    · have HX : Hid (.int .u8 (m : Int) = u8v (UInt8.ofNat m)) := by
        show .int .u8 (m : Int) = u8v (UInt8.ofNat m)
        unfold u8v
        rw [UInt8.toNat_ofNat', Nat.mod_eq_of_lt (by omega)]
      go_wp2_with (at_builtin; refine app1 Tryz.eltU8 rfl (.tmp 17) (.tmp 20) rfl wr _ l1 (UInt8.ofNat m) _ HX.out rfl ho1 rfl (u8v_one _) ?c1 ?c2 ?_)
      case c1 => unfold maxLen; omega
      case c2 => omega
      intro v' w1 hown' hgr
      go_wp2
      go_ret
      refine ⟨v', rfl, ?_, hg1.trans hgr⟩
      have := HL1.out
      rw [countF_small _ _ hlt] at this
      rw [← this]
      exact hown'
    · have e1 := count_walk m
      obtain ⟨x, hx⟩ : ∃ x, UInt8.ofNat (m % 128 + 128) = x := ⟨_, rfl⟩
      rw [hx] at e1
      have HX := Lib.hid hx
      clear hx
      obtain ⟨g, rfl⟩ : ∃ g, f = g + 1 := by
        cases f with
        | zero => have := HM2.out; omega
        | succ g => exact ⟨g, rfl⟩
      go_wp2_with (at_builtin; refine app1 Tryz.eltU8 rfl (.tmp 9) (.tmp 13) rfl wr _ l1 x _ rfl rfl ho1 rfl (u8v_one _) ?d1 ?d2 ?_)
      case d1 => unfold maxLen; omega
      case d2 => omega
      intro v' w1 hown' hgr
      go_wp2
      have h1 := HL1.out
      rw [countF_big _ _ hlt, HX.out] at h1
      have h2 := HM2.out
      refine ⟨⟨m / 128, by omega, by go_num, g, l1 ++ [x], ?_, by rw [List.append_assoc]; exact h1, hown', hg1.trans hgr⟩, by simp [intOf]; omega⟩
      rw [Nat.pow_succ] at h2
      omega
theorem append_count (v : Value) (l : List UInt8) (n : Nat) (w : World) (ho : Own w 5 u8v v l) (hn : n ≤ 9223372036854775807) (hl : l.length ≤ 1099511627776) :
    Calls Tryz.prog 107 #[v, .int .i64 (n : Int)] w fun e w' => ∃ v', e = .returned v' ∧ Own w' 5 u8v v' (l ++ countB n) ∧ Grew w w' v v' :=
  append_count_int v l (n : Int) n (Int.toNat_natCast n) w ho hn hl
end Go.Proofs.YtjmbpnogicdkgaaGreatDoor

/-! octet.exact and hand.Few: copies of bytes in new memory. -/
namespace Go.Proofs.YtjmbpnogicdkgaaGreatDoor
open Go.RowKit
set_option linter.unusedSimpArgs false
set_option linter.unusedVariables false

/-- v is a slice of new memory that holds the bytes l; nothing that was there has changed -/
def NewB (w w' : World) (v : Value) (l : List UInt8) : Prop := Own w' 5 u8v v l ∧ Below w.heap.size w w' ∧ ∀ k, v.ownBlock = some k → w.heap.size ≤ k

theorem Tryz.sizeU8 : (Tryz.prog.info? 5).map (·.size) = some 1 := by kernel_rfl
theorem Own.ofBlk {α : Type} {w : World} {e : TypeId} {f : α → Value} {l : List α} {g : Nat} (h : Row w g e f l) (hm : l.length ≤ maxLen) : Own w e f (.slice (some ⟨g, 0, none⟩) l.length l.length) l :=
  ⟨by simp, .inr ⟨g, l.length, (l.map f).toArray, rfl, Nat.zero_le _, h, Nat.le_refl _, hm, by simp, by rw [Nat.mul_one, List.take_of_length_le (by simp)]⟩⟩

set_option maxRecDepth 100000 in
set_option maxHeartbeats 400000 in
theorem octet_exact_full (A : Option Addr) (n c B : Nat) (bs : List UInt8) (w : World) (h : Bytes w B A n bs) (hB : B ≤ w.heap.size) (hn : n ≤ 1099511627800) :
    Calls Tryz.prog 75 #[.slice A n c] w fun e w' => ∃ g, e = .returned (.slice (some ⟨g, 0, none⟩) n n) ∧ NewB w w' (.slice (some ⟨g, 0, none⟩) n n) bs := by
  have hmk := make_row (P := Tryz.prog) (fun b : UInt8 => u8v b) 0 22 5 1 Tryz.underlying22 Tryz.infoU8 rfl .i64 .i64 n (by omega) (by omega)
  have hl := h.len
  have HL := Lib.hid hl
  clear hl
  have C3 : Hid (0 < (bs.map u8v).length → (some ⟨w.heap.size, 0, none⟩ : Option Addr) = some ⟨w.heap.size, 0, none⟩ ∧ ∃ ad, A = some ad ∧ ∀ j v, (bs.map u8v)[j]? = some v → (w.alloc (.cells (Array.replicate n (u8v 0)) 5)).cell? (ad.add j) = some v) := by
    intro hp
    have hl := HL.out
    rw [List.length_map] at hp
    obtain ⟨ad, e, hb, hc⟩ := (Reads.alloc h hB (.cells (Array.replicate n (u8v 0)) 5)).2 (by omega)
    exact ⟨rfl, ad, e, hc⟩
  have C1 : Hid ((w.alloc (.cells (Array.replicate n (u8v 0)) 5)).heap[w.heap.size]? = some (.cells (List.replicate n (u8v 0)).toArray 5 (0, 0))) := by
    have := heap_alloc_new w (.cells (Array.replicate n (u8v 0)) 5)
    show _ = _
    simpa using this
  have C2 : Hid ((bs.map u8v).length = Nat.min n n) := by
    have := HL.out
    show _ = _
    simp [this]
  have C4 : Hid (0 + (bs.map u8v).length ≤ (List.replicate n (u8v 0)).length) := by
    have := HL.out
    show _ ≤ _
    simp [this]
  have C5 : Hid (∀ v ∈ bs.map u8v, v.oneCell' = true) := by
    intro u hu
    simp at hu
    obtain ⟨x, _, rfl⟩ := hu
    rfl
  go_enter Tryz.func75, Tryz.ntmps75
  go_wp2_with (with_reducible refine wpList_copy_splice rfl (.tmp 7) (.tmp 8) 22 22 rfl 5 Tryz.underlying22 Tryz.sizeU8 (some ⟨w.heap.size, 0, none⟩) A n n n c rfl rfl w.heap.size 0 (List.replicate n (u8v 0)) 5 C1.out (bs.map u8v) C2.out C3.out C4.out C5.out w.heap.size w ((Below.refl _ _).alloc (Nat.le_refl _) _) (Nat.le_refl _) ?_)
  intro w1 HR hb1
  have hn2 : (n : Int) ≤ (n : Int) := Int.le_refl _
  go_wp2
  go_ret
  have hl := HL.out
  have hr : Row w1 w.heap.size 5 u8v bs := by
    have := HR.out
    unfold splice at this
    simp [hl] at this
    unfold Row Blk
    simpa using this
  have ho := Own.ofBlk hr (by unfold maxLen; omega)
  rw [hl] at ho
  exact ⟨_, rfl, ho, hb1, fun k hk => by simp [Value.ownBlock] at hk; omega⟩

theorem octet_exact (A : Option Addr) (n c B : Nat) (bs : List UInt8) (w : World) (h : Bytes w B A n bs) (hB : B ≤ w.heap.size) (hn : n ≤ 1099511627800) :
    Calls Tryz.prog 75 #[.slice A n c] w fun e w' => ∃ v', e = .returned v' ∧ NewB w w' v' bs :=
  (octet_exact_full A n c B bs w h hB hn).mono fun _ _ ⟨_, h1, h2⟩ => ⟨_, h1, h2⟩
/-- 'append([]byte{}, b[:min(len(b), n)]...)' -/
theorem hand_few (A : Option Addr) (n c B : Nat) (bs : List UInt8) (m : Nat) (w : World) (h : Bytes w B A n bs) (hB : B ≤ w.heap.size) (hn : n ≤ 9223372036854775807) (hc : n ≤ c) (hm : m ≤ 140737488355328) :
    Calls Tryz.prog 15 #[.slice A n c, .int .i64 (m : Int)] w fun e w' => ∃ v', e = .returned v' ∧ NewB w w' v' (bs.take m) := by
  have hl := h.len
  have HL := Lib.hid hl
  clear hl
  obtain ⟨k, hk⟩ : ∃ k, min n m = k := ⟨_, rfl⟩
  have hmin : (if m < n then (m : Int) else (n : Int)) = (k : Int) := by split <;> omega
  have hk1 : k ≤ n := by omega
  have hk3 : k ≤ 140737488355328 := by omega
  have hk2 : (k : Int) ≤ (c : Int) := by omega
  have hr : Bytes (w.alloc (.cells #[] 5)) B A k (bs.take m) := by
    have h1 := (Reads.alloc h hB (.cells #[] 5)).front hk1
    rw [Nat.mul_one, ← List.map_take] at h1
    have h2 : bs.take k = bs.take m := by
      have := HL.out
      rw [← hk, ← this]
      exact (List.take_eq_take_iff.2 (by omega))
    rw [h2] at h1
    exact h1
  have HK := Lib.hid hk
  clear hk
  have ho : Own (w.alloc (.cells #[] 5)) 5 u8v (.slice (some ⟨w.heap.size, 0, none⟩) 0 0) [] := Own.lit w 5 u8v [] (by unfold maxLen; simp)
  go_enter Tryz.func15, Tryz.ntmps15
  go_wp2_with (at_builtin; refine appN Tryz.eltU8 rfl (.tmp 5) (.tmp 11) rfl (w.alloc (.cells #[] 5)) _ [] B A k c (bs.take m) rfl ho rfl hr u8v_one ?c1 ?c2 ?_)
  case c1 => unfold maxLen; simp; omega
  case c2 => simp; omega
  intro v' w1 hown hgr
  go_wp2
  go_ret
  have hb := Grew.below (B := w.heap.size) hgr (by simp) (by intro k hk; simp [Value.ownBlock] at hk; omega)
  have hfr := Grew.fresh (B := w.heap.size) hgr (by simp) (by intro k hk; simp [Value.ownBlock] at hk; omega)
  exact ⟨v', rfl, by simpa using hown, ((Below.refl _ _).alloc (Nat.le_refl _) _).trans hb, hfr⟩
end Go.Proofs.YtjmbpnogicdkgaaGreatDoor

/-! octet.Sum: the hash of a list of bytes. -/
namespace Go.Proofs.YtjmbpnogicdkgaaGreatDoor
open Go.RowKit
set_option linter.unusedSimpArgs false
set_option linter.unusedVariables false

def fnvStep (h : Nat) (c : UInt8) : Nat := ((h ^^^ c.toNat) * 1099511628211) % 18446744073709551616
def fnv (bs : List UInt8) : Nat := bs.foldl fnvStep 14695981039346656037
theorem fnvStep_lt (h : Nat) (c : UInt8) : fnvStep h c < 18446744073709551616 := Nat.mod_lt _ (by omega)
theorem foldl_lt (bs : List UInt8) : ∀ h, h < 18446744073709551616 → bs.foldl fnvStep h < 18446744073709551616 := by
  induction bs with
  | nil => intro h hh; exact hh
  | cons c bs ih => intro h _; exact ih _ (fnvStep_lt _ _)
theorem fnv_lt (bs : List UInt8) : fnv bs < 18446744073709551616 := by
  unfold fnv
  exact foldl_lt bs _ (by omega)
theorem take_snoc {α : Type} (l : List α) (k : Nat) (x : α) (h : l[k]? = some x) : l.take (k + 1) = l.take k ++ [x] := by
  rw [List.take_add_one, h]
  rfl
theorem fnv_take (bs : List UInt8) (k : Nat) (x : UInt8) (h : bs[k]? = some x) : fnv (bs.take (k + 1)) = fnvStep (fnv (bs.take k)) x := by
  unfold fnv
  rw [take_snoc bs k x h, List.foldl_append, List.foldl_cons, List.foldl_nil]
theorem fnvStep_walk (h : Nat) (c : UInt8) (hh : h < 18446744073709551616) : IntKind.u64.wrap (bits .xor .u64 (h : Int) (c.toNat : Int) * 1099511628211) = ((fnvStep h c : Nat) : Int) := by
  rw [xor_u64 h c.toNat hh (by have := c.toNat_lt; omega)]
  exact wrap_u64_nat ((h ^^^ c.toNat) * 1099511628211)
theorem wrap_u64_byte (c : UInt8) : IntKind.u64.wrap (c.toNat : Int) = (c.toNat : Int) := by
  rw [wrap_u64_nat, Nat.mod_eq_of_lt (by have := c.toNat_lt; omega)]

set_option maxHeartbeats 400000 in
theorem octet_sum (A : Option Addr) (n c : Nat) (bs : List UInt8) (B : Nat) (w : World) (hr : Bytes w B A n bs) (hn : n ≤ 9223372036854775807) :
    Calls Tryz.prog 105 #[.slice A n c] w fun e w' => e = .returned (.int .u64 ((fnv bs : Nat) : Int)) ∧ w = w' := by
  have hl := hr.len
  go_enter Tryz.func105, Tryz.ntmps105
  go_wp2
  go_loop [3, 5, 8] (fun h x i => ∃ k : Nat, k ≤ n ∧ i = .int .i64 k ∧ h = .int .u64 ((fnv (bs.take k) : Nat) : Int)) (fun _ _ i => n - (intOf i).toNat)
  case atStart => exact ⟨0, Nat.zero_le _, rfl, rfl⟩
  case round =>
    obtain ⟨k, hk, rfl, rfl⟩ := hrel
    by_cases hlt : k < n
    · obtain ⟨ad, x, hA, hb, hx, hc⟩ := hr.at_ hlt
      subst hA
      have e1 := fnvStep_walk (fnv (bs.take k)) x (fnv_lt _)
      have e2 := wrap_u64_byte x
      have HS := Lib.hid (fnv_take bs k x hx)
      clear hx
      go_wp2
      go_round
      case rel => exact ⟨k + 1, by omega, by go_num, by rw [HS.out]⟩
      case measure => simp [intOf]; omega
    · go_wp2
      go_ret
      exact ⟨ret_int (by rw [List.take_of_length_le (by omega)]), rfl⟩
end Go.Proofs.YtjmbpnogicdkgaaGreatDoor

/-! octet.Seal: a record's bytes. -/
namespace Go.Proofs.YtjmbpnogicdkgaaGreatDoor
open Go.RowKit
set_option linter.unusedSimpArgs false
set_option linter.unusedVariables false

/-- the byte number i, from the lowest on -/
def byteAt (h i : Nat) : UInt8 := UInt8.ofNat (h / 256 ^ i % 256)
/-- the first j of the eight bytes of h, the highest first -/
def beTake (h : Nat) : Nat → List UInt8
  | 0 => []
  | j + 1 => beTake h j ++ [byteAt h (7 - j)]
def beBytes (h : Nat) : List UInt8 := beTake h 8
theorem beTake_len (h j : Nat) : (beTake h j).length = j := by
  induction j with
  | zero => rfl
  | succ j ih => simp [beTake, ih]
theorem byte_walk (h i : Nat) : (h : Int) / 2 ^ (8 * i) % 256 = ((byteAt h i).toNat : Int) := by
  unfold byteAt
  rw [UInt8.toNat_ofNat', Nat.mod_mod_of_dvd _ (by decide), show (256 : Nat) ^ i = 2 ^ (8 * i) from by rw [Nat.pow_mul]]
  rw [Int.natCast_emod, Int.natCast_ediv, Int.natCast_pow]
  rfl
def headB (kind : Nat) (body : List UInt8) : List UInt8 := [UInt8.ofNat kind] ++ countB body.length ++ body
def sealB (kind : Nat) (body : List UInt8) : List UInt8 := headB kind body ++ beBytes (fnv (headB kind body))

def SealRel (w : World) (hd : List UInt8) (i : Int) (v : Value) (wr : World) : Prop :=
  ∃ j : Nat, j ≤ 8 ∧ i = 7 - (j : Int) ∧ Own wr 5 u8v v (hd ++ beTake (fnv hd) j) ∧ Below w.heap.size w wr ∧ ∀ k, v.ownBlock = some k → w.heap.size ≤ k

end Go.Proofs.YtjmbpnogicdkgaaGreatDoor

/-! How the arguments of a statement are read: slices of bytes. -/
namespace Go.Proofs.YtjmbpnogicdkgaaGreatDoor
open Go.RowKit
set_option linter.unusedSimpArgs false
set_option linter.unusedVariables false

/-- a slice of integers that came in: nil, or a row of 'cap' cells, the numbers zs, each fitting its kind -/
def IsRow (k : IntKind) (w : World) (a : Option Addr) (len cap : Nat) (zs : List Int) : Prop :=
  (a = none ∧ len = 0 ∧ cap = 0 ∧ zs = []) ∨
  ∃ x, a = some x ∧ len ≤ cap ∧ cap ≤ maxLen ∧ zs.length = cap ∧ (∀ i, i < zs.length → w.cell? (x.add i) = some (.int k (zs.getD i 0))) ∧ ∀ n ∈ zs, (Lit.int k n).wf = true

theorem cell_lt {w : World} {p : Addr} {v : Value} (h : w.cell? p = some v) : p.block < w.heap.size := by
  rcases Nat.lt_or_ge p.block w.heap.size with h1 | h1
  · exact h1
  · unfold World.cell? at h
    rw [Array.getElem?_eq_none h1] at h
    simp at h

/-- the bytes of a slice that came in -/
theorem IsRow.bytes {w : World} {a : Option Addr} {len cap : Nat} {zs : List Int} (h : IsRow .u8 w a len cap zs) : ∃ bs : List UInt8, Bytes w w.heap.size a len bs ∧ len ≤ cap ∧ cap ≤ 9223372036854775807 := by
  rcases h with ⟨rfl, rfl, rfl, rfl⟩ | ⟨x, rfl, hl, hm, hz, hc, hw⟩
  · exact ⟨[], Reads.none_, by omega, by omega⟩
  · refine ⟨(zs.take len).map (fun z => UInt8.ofNat z.toNat), ⟨by simp [hz]; omega, fun hn => ⟨x, rfl, ?_, fun j u hu => ?_⟩⟩, hl, by unfold maxLen at hm; omega⟩
    · have := cell_lt (hc 0 (by omega))
      rw [block_of_add] at this
      exact this
    · have hj : j < len := by
        have := (List.getElem?_eq_some_iff.1 hu).1
        simp at this
        omega
      rw [hc j (by omega)]
      have hzj : zs.getD j 0 ∈ zs := by
        rw [List.getD_eq_getElem?_getD, List.getElem?_eq_getElem (by omega)]
        exact List.getElem_mem _
      obtain ⟨h0, h1⟩ := bounds_u8 (hw _ hzj)
      rw [List.getElem?_map, List.getElem?_map, List.getElem?_take, if_pos hj, List.getElem?_eq_getElem (by omega)] at hu
      simp only [Option.map_some, Option.some.injEq] at hu
      rw [← hu]
      rw [List.getD_eq_getElem?_getD, List.getElem?_eq_getElem (by omega)] at h0 h1 ⊢
      simp only [Option.getD_some] at h0 h1 ⊢
      unfold u8v
      rw [UInt8.toNat_ofNat', Nat.mod_eq_of_lt (by omega)]
      congr 2
      omega
theorem Own.addr {α : Type} {w : World} {e : TypeId} {f : α → Value} {l : List α} {A : Option Addr} {n c : Nat} (h : Own w e f (.slice A n c) l) (hn : 0 < l.length) : ∃ g, A = some ⟨g, 0, none⟩ := by
  rcases h.2 with ⟨h1, h2⟩ | ⟨g, cap, cur, h1, _⟩
  · omega
  · injection h1 with h1 _ _
    exact ⟨g, h1⟩
theorem Own.store {α : Type} {w : World} {e : TypeId} {f : α → Value} {l : List α} {g c : Nat} (h : Own w e f (.slice (some ⟨g, 0, none⟩) l.length c) l) (k : Nat) (y : α) :
    Own (w.setCell ⟨g, k, none⟩ (f y)) e f (.slice (some ⟨g, 0, none⟩) l.length c) (l.set k y) := by
  have := (World.ownsRow.stored h k (f y)).1
  unfold Own
  rw [List.length_set, List.map_set]
  exact this
theorem Own.cellf {α : Type} {w : World} {e : TypeId} {f : α → Value} {l : List α} {g c : Nat} (h : Own w e f (.slice (some ⟨g, 0, none⟩) l.length c) l) {k : Nat} {x : α} (hx : l[k]? = some x) :
    w.cell? ⟨g, k, none⟩ = some (f x) := by
  have hk : k < l.length := (List.getElem?_eq_some_iff.1 hx).1
  rw [World.ownsRow.cellAt h k (by omega), List.getElem?_map, hx]
  rfl
theorem Own.frozenf {α : Type} {w : World} {e : TypeId} {f : α → Value} {l : List α} {g c : Nat} (h : Own w e f (.slice (some ⟨g, 0, none⟩) l.length c) l) (k : Nat) : w.frozen? ⟨g, k, none⟩ = false := World.ownsRow.frozenAt h k
end Go.Proofs.YtjmbpnogicdkgaaGreatDoor

/-! octet.readCount. -/
namespace Go.Proofs.YtjmbpnogicdkgaaGreatDoor
open Go.RowKit
set_option linter.unusedSimpArgs false
set_option linter.unusedVariables false

/-- how many bytes at the beginning have their highest bit set -/
def lead : List UInt8 → Nat
  | [] => 0
  | b :: r => if 128 ≤ b.toNat then lead r + 1 else 0
/-- the number of the groups of seven bits, the lowest first -/
def valB : List UInt8 → Nat
  | [] => 0
  | b :: r => b.toNat % 128 + 128 * valB r
theorem lead_le (bs : List UInt8) : lead bs ≤ bs.length := by
  induction bs with
  | nil => simp [lead]
  | cons b r ih => simp only [lead]; split <;> simp <;> omega
theorem lead_hi (bs : List UInt8) : ∀ (k : Nat) (x : UInt8), k < lead bs → bs[k]? = some x → 128 ≤ x.toNat := by
  induction bs with
  | nil => intro k x h; simp [lead] at h
  | cons b r ih =>
    intro k x h hx
    simp only [lead] at h
    split at h
    · cases k with
      | zero => simp at hx; subst hx; assumption
      | succ k => exact ih k x (by omega) (by simpa using hx)
    · omega
theorem lead_lo (bs : List UInt8) : ∀ (x : UInt8), bs[lead bs]? = some x → x.toNat < 128 := by
  induction bs with
  | nil => intro x h; simp [lead] at h
  | cons b r ih =>
    intro x hx
    simp only [lead] at hx
    split at hx
    · exact ih x (by simpa using hx)
    · simp at hx; subst hx; omega
theorem valB_lt (bs : List UInt8) : valB bs < 128 ^ bs.length := by
  induction bs with
  | nil => simp [valB]
  | cons b r ih =>
    simp only [valB, List.length_cons, Nat.pow_succ]
    have : b.toNat % 128 < 128 := Nat.mod_lt _ (by omega)
    omega
theorem valB_drop (bs : List UInt8) (k : Nat) (x : UInt8) (h : bs[k]? = some x) : valB (bs.drop k) = x.toNat % 128 + 128 * valB (bs.drop (k + 1)) := by
  have hk : k < bs.length := (List.getElem?_eq_some_iff.1 h).1
  have hx : bs[k] = x := (List.getElem?_eq_some_iff.1 h).2
  rw [List.drop_eq_getElem_cons hk, hx]
  rfl

/-- readCount: the number, its size, the error -/
def readC (bs : List UInt8) : Nat × Nat × Nat :=
  let s := lead bs
  if s = bs.length then (0, 0, 3)
  else if 0 < s ∧ bs[s]? = some 0 then (0, 0, 2)
  else if 9 < s + 1 then (0, 0, 4)
  else if 4611686018427387904 < valB (bs.take (s + 1)) then (0, 0, 4)
  else (valB (bs.take (s + 1)), s + 1, 0)

theorem or_i64 (a b : Nat) (hb : b < 128) (ha : a < 72057594037927936) : bits .or .i64 ((a : Int) * 128) (b : Int) = ((a * 128 + b : Nat) : Int) := by
  have hx : bits .or .i64 ((a : Int) * 128) (b : Int) = (a : Int) * 128 + (b : Int) :=
    bits_join .i64 63 (by decide) (fun n h0 h1 => IntWalk.i64_in n (by omega)) 7 _ _ (by omega) (by omega) (by omega) (by omega) (by omega) (by omega)
  rw [hx]
  omega
theorem and_u8_127 (x : UInt8) : bits .and .u8 (x.toNat : Int) 127 = ((x.toNat % 128 : Nat) : Int) := by
  have h := x.toNat_lt
  have e := and_u8 x.toNat 127 (by omega) (by omega)
  rw [show ((127 : Nat) : Int) = 127 from rfl] at e
  rw [e, show (127 : Nat) = 2 ^ 7 - 1 from rfl, Nat.and_two_pow_sub_one_eq_mod]

set_option maxRecDepth 100000 in
set_option maxHeartbeats 1000000 in
theorem read_count (A : Option Addr) (n c B : Nat) (bs : List UInt8) (w : World) (h : Bytes w B A n bs) (hn : n ≤ 9223372036854775000) :
    Calls Tryz.prog 95 #[.slice A n c] w fun e w' => e = .returned (.tuple #[.int .i64 ((readC bs).1 : Int), .int .i64 ((readC bs).2.1 : Int), .int .i64 ((readC bs).2.2 : Int)]) ∧ w = w' := by
  have hl := h.len
  have hle := lead_le bs
  rw [hl] at hle
  have HL := Lib.hid hl
  clear hl
  obtain ⟨s, hs⟩ : ∃ s, lead bs = s := ⟨_, rfl⟩
  rw [hs] at hle
  have HS := Lib.hid hs
  clear hs
  go_enter Tryz.func95, Tryz.ntmps95
  go_wp2_with fail
  go_loop [3] (fun x => ∃ k : Nat, k ≤ s ∧ x = .int .i64 k) (fun x => s - (intOf x).toNat)
  case atStart => exact ⟨0, Nat.zero_le _, rfl⟩
  case round =>
    obtain ⟨k, hk, rfl⟩ := hrel
    by_cases hks : k < s
    · obtain ⟨ad, x, hA, hb, hx, hc⟩ := h.at_ (show k < n by omega)
      have hge := lead_hi bs k x (by rw [HS.out]; exact hks) hx
      subst hA
      clear hx
      have hk2 : (k : Int) < (n : Int) := by omega
      go_wp2
      exact ⟨⟨k + 1, by omega, by go_num⟩, by simp [intOf]; omega⟩
    · obtain rfl : k = s := by omega
      by_cases hsn : k = n
      · subst hsn
        go_wp2
        go_ret3
        have h1 := HL.out
        have h2 := HS.out
        have e : readC bs = (0, 0, 3) := by unfold readC; simp [h1, h2]
        rw [e]
        exact ⟨rfl, rfl⟩
      · obtain ⟨ad, x, hA, hb, hx, hc⟩ := h.at_ (show k < n by omega)
        have hlo := lead_lo bs x (by rw [HS.out]; exact hx)
        subst hA
        have HXX := Lib.hid hx
        clear hx
        have hk2 : (k : Int) < (n : Int) := by omega
        by_cases hF : 0 < k ∧ x.toNat = 0
        · obtain ⟨hF1, hF2⟩ := hF
          have hF3 : ((x.toNat : Int) == 0) = true := by simp [hF2]
          have HF2 := Lib.hid hF2
          clear hF2
          go_wp2
          go_ret3
          have h1 := HL.out
          have h2 := HS.out
          have h3 : bs[k]? = some 0 := by
            rw [HXX.out]
            have : x = 0 := UInt8.toNat_inj.1 HF2.out
            rw [this]
          have e : readC bs = (0, 0, 2) := by unfold readC; simp [h1, h2, hsn, hF1, h3]
          rw [e]
          exact ⟨rfl, rfl⟩
        · have h3 : ¬ (0 < k ∧ bs[k]? = some 0) := by
            rintro ⟨h3, h4⟩
            rw [HXX.out] at h4
            have := Option.some.inj h4
            subst this
            exact hF ⟨h3, rfl⟩
          have H3 := Lib.hid h3
          clear h3
          have hD : (k < 1) ∨ (0 < k ∧ ((x.toNat : Int) == 0) = false) := by
            by_cases h0 : k < 1
            · exact .inl h0
            · refine .inr ⟨by omega, ?_⟩
              simp
              intro h4
              exact hF ⟨by omega, h4⟩
          clear hF
          have e0 : readC bs = if 9 < k + 1 then (0, 0, 4) else if 4611686018427387904 < valB (bs.take (k + 1)) then (0, 0, 4) else (valB (bs.take (k + 1)), k + 1, 0) := by
            unfold readC
            have h1 := HL.out
            have h2 := HS.out
            have h3 := H3.out
            simp only [h2, h1]
            rw [if_neg hsn, if_neg h3]
          have E0 := Lib.hid e0
          clear e0
          by_cases hL : 9 < k + 1
          · rcases hD with hD1 | ⟨hD1, hD2⟩
            · omega
            · go_wp2
              go_ret3
              rw [E0.out, if_pos hL]
              exact ⟨rfl, rfl⟩
          · have hfin := valB_lt (bs.take (k + 1))
            have hlen : (bs.take (k + 1)).length = k + 1 := by rw [List.length_take, HL.out]; omega
            rw [hlen] at hfin
            have hfin2 : valB (bs.take (k + 1)) < 9223372036854775808 := Nat.lt_of_lt_of_le hfin (Nat.le_trans (Nat.pow_le_pow_right (by omega) (show k + 1 ≤ 9 by omega)) (by decide))
            clear hfin
            have HLEN := Lib.hid hlen
            clear hlen
            rcases hD with hD1 | ⟨hD1, hD2⟩
            all_goals
              go_wp2
              go_loop [2, 5] (fun x y => ∃ i : Nat, i ≤ k + 1 ∧ y = .int .i64 ((i : Int) - 1) ∧ x = .int .i64 ((valB ((bs.take (k + 1)).drop i) : Nat) : Int)) (fun _ y => (intOf y + 1).toNat)
              case atStart => exact ⟨k + 1, Nat.le_refl _, by go_num, by rw [List.drop_of_length_le (by rw [HLEN.out]; omega)]; rfl⟩
              case round =>
                obtain ⟨i, hi, rfl, rfl⟩ := hrel
                by_cases hi0 : 0 < i
                · obtain ⟨i, rfl⟩ : ∃ j, i = j + 1 := ⟨i - 1, by omega⟩
                  obtain ⟨ad', y, hA', hb', hy, hcy⟩ := h.at_ (show i < n by omega)
                  injection hA' with hA'
                  subst hA'
                  have hy2 : (bs.take (k + 1))[i]? = some y := by rw [List.getElem?_take, if_pos (by omega)]; exact hy
                  have hstep := valB_drop _ i y hy2
                  have hlt7 := valB_lt ((bs.take (k + 1)).drop (i + 1))
                  rw [List.length_drop, HLEN.out] at hlt7
                  have hlt8 : valB ((bs.take (k + 1)).drop (i + 1)) < 72057594037927936 := Nat.lt_of_lt_of_le hlt7 (Nat.le_trans (Nat.pow_le_pow_right (by omega) (show k + 1 - (i + 1) ≤ 8 by omega)) (by decide))
                  clear hlt7
                  have e1 := and_u8_127 y
                  have hm : y.toNat % 128 < 128 := Nat.mod_lt _ (by omega)
                  have e2 := or_i64 (valB ((bs.take (k + 1)).drop (i + 1))) (y.toNat % 128) hm hlt8
                  have HST := Lib.hid hstep
                  clear hstep hy hy2
                  generalize valB ((bs.take (k + 1)).drop (i + 1)) = u at *
                  obtain ⟨d, hd⟩ : ∃ d, y.toNat % 128 = d := ⟨_, rfl⟩
                  rw [hd] at e1 e2 HST hm
                  clear hd
                  have hi2 : ((i + 1 : Nat) : Int) - 1 = (i : Int) := by omega
                  have hi3 : (i : Int) < (n : Int) := by omega
                  go_wp2
                  refine ⟨⟨i, by omega, rfl, ?_⟩, by simp [intOf] <;> omega⟩
                  rw [HST.out]
                  exact congrArg (Value.int IntKind.i64) (by omega)
                · obtain rfl : i = 0 := by omega
                  rw [List.drop_zero]
                  by_cases hbig : 4611686018427387904 < valB (bs.take (k + 1))
                  · have hbig2 : (4611686018427387904 : Int) < (valB (bs.take (k + 1)) : Int) := by omega
                    go_wp2
                    go_ret3
                    rw [E0.out, if_neg hL, if_pos hbig]
                    exact ⟨rfl, rfl⟩
                  · have hbig2 : ¬ (4611686018427387904 : Int) < (valB (bs.take (k + 1)) : Int) := by omega
                    go_wp2
                    go_ret3
                    rw [E0.out, if_neg hL, if_neg hbig]
                    exact ⟨rfl, rfl⟩
end Go.Proofs.YtjmbpnogicdkgaaGreatDoor

/-! octet.Next. -/
namespace Go.Proofs.YtjmbpnogicdkgaaGreatDoor
open Go.RowKit
set_option linter.unusedSimpArgs false
set_option linter.unusedVariables false

def beVal (l : List UInt8) : Nat := l.foldl (fun a b => a * 256 + b.toNat) 0
/-- Next: the kind, the body, the size, the error -/
def nextR : List UInt8 → Nat × List UInt8 × Nat × Nat
  | [] => (0, [], 0, 3)
  | b :: r =>
    if b = 0 then (0, [], 0, 2)
    else if (readC r).2.2 ≠ 0 then (0, [], 0, (readC r).2.2)
    else if 4194304 < (readC r).1 then (0, [], 0, 4)
    else if r.length < (readC r).2.1 + (readC r).1 + 8 then (0, [], 0, 3)
    else if beVal ((r.drop ((readC r).2.1 + (readC r).1)).take 8) ≠ fnv (b :: r.take ((readC r).2.1 + (readC r).1)) then (0, [], 0, 13)
    else (b.toNat, (r.drop (readC r).2.1).take (readC r).1, 1 + (readC r).2.1 + (readC r).1 + 8, 0)

theorem readC_bounds (bs : List UInt8) : (readC bs).1 ≤ 4611686018427387904 ∧ (readC bs).2.1 ≤ bs.length ∧ (readC bs).2.1 ≤ 9 ∧ (readC bs).2.2 ≤ 4 := by
  have := lead_le bs
  unfold readC
  simp only []
  split
  · simp
  · split
    · simp
    · split
      · simp
      · split
        · simp
        · simp; omega

theorem nextR_cons (b : UInt8) (r : List UInt8) (hb0 : ¬ b = 0) : nextR (b :: r) = if (readC r).2.2 ≠ 0 then (0, [], 0, (readC r).2.2)
    else if 4194304 < (readC r).1 then (0, [], 0, 4)
    else if r.length < (readC r).2.1 + (readC r).1 + 8 then (0, [], 0, 3)
    else if beVal ((r.drop ((readC r).2.1 + (readC r).1)).take 8) ≠ fnv (b :: r.take ((readC r).2.1 + (readC r).1)) then (0, [], 0, 13)
    else (b.toNat, (r.drop (readC r).2.1).take (readC r).1, 1 + (readC r).2.1 + (readC r).1 + 8, 0) := by
  simp only [nextR]
  rw [if_neg hb0]
theorem NewB.nil_ (w : World) : NewB w w (.slice none 0 0) [] := ⟨Own.nil_ _ _ _, Below.refl _ _, fun k hk => by simp [Value.ownBlock] at hk⟩

theorem below_of_drew {w w' : World} (h : Below w.drew.heap.size w.drew w') : Below w.heap.size w w' := ⟨h.os, h.tape, h.output, h.size, h.block⟩
theorem beVal_take (l : List UInt8) (k : Nat) (x : UInt8) (h : l[k]? = some x) : beVal (l.take (k + 1)) = beVal (l.take k) * 256 + x.toNat := by
  unfold beVal
  rw [take_snoc l k x h, List.foldl_append, List.foldl_cons, List.foldl_nil]
theorem beVal_lt (l : List UInt8) : beVal l < 256 ^ l.length := by
  have : ∀ (l : List UInt8) (a : Nat), l.foldl (fun a b => a * 256 + b.toNat) a < (a + 1) * 256 ^ l.length := by
    intro l
    induction l with
    | nil => intro a; simp
    | cons b r ih =>
      intro a
      have h1 := ih (a * 256 + b.toNat)
      have h2 := b.toNat_lt
      rw [List.foldl_cons, List.length_cons, Nat.pow_succ]
      refine Nat.lt_of_lt_of_le h1 ?_
      rw [Nat.mul_comm (256 ^ r.length) 256, ← Nat.mul_assoc]
      exact Nat.mul_le_mul_right _ (by omega)
  have h := this l 0
  unfold beVal
  simpa using h
theorem or_u64_byte (s : Nat) (x : UInt8) (hs : s < 72057594037927936) : bits .or .u64 ((s : Int) * 256) (x.toNat : Int) = ((s * 256 + x.toNat : Nat) : Int) := by
  have hx := x.toNat_lt
  have := or_u64 (s * 256) x.toNat (by omega) (by omega)
  rw [show ((s * 256 : Nat) : Int) = (s : Int) * 256 from by omega] at this
  rw [this, show s * 256 = 2 ^ 8 * s from by omega, Nat.two_pow_add_eq_or_of_lt (by omega)]

end Go.Proofs.YtjmbpnogicdkgaaGreatDoor

/-! hand.SameInts over two equal lists, hand.Pick. -/
namespace Go.Proofs.YtjmbpnogicdkgaaGreatDoor
open Go.RowKit
set_option linter.unusedSimpArgs false
set_option linter.unusedVariables false

theorem emod_of_tmod (n : Int) (m : Nat) (hm : 1 ≤ m) : n % (m : Int) = if n.tmod m < 0 then n.tmod m + m else n.tmod m := by
  have hr1 : n.tmod m < m := Int.tmod_lt_of_pos n (by omega)
  have hr2 : -(m : Int) < n.tmod m := Int.lt_tmod_of_pos n (by omega)
  have hq := Int.mul_tdiv_add_tmod n m
  have e : n % (m : Int) = (n.tmod m) % (m : Int) := by
    conv => lhs; rw [← hq]
    exact Int.mul_add_emod_self_left _ _ _
  rw [e]
  split
  · rw [← Int.add_emod_right, Int.emod_eq_of_lt (by omega) (by omega)]
  · rw [Int.emod_eq_of_lt (by omega) (by omega)]

theorem hand_pick (n : Int) (m : Nat) (w : World) (h0 : -9223372036854775808 ≤ n) (h1 : n ≤ 9223372036854775807) (hm : 1 ≤ m) (hm2 : m ≤ 4611686018427387904) :
    Calls Tryz.prog 11 #[.int .i64 n, .int .i64 (m : Int)] w fun e w' => e = .returned (.int .i64 (n % (m : Int))) ∧ w = w' := by
  have hr1 : n.tmod m < m := Int.tmod_lt_of_pos n (by omega)
  have hr2 : -(m : Int) < n.tmod m := Int.lt_tmod_of_pos n (by omega)
  have he := Lib.hid (emod_of_tmod n m hm)
  have hz : ((m : Int) == 0) = false := by simp; omega
  by_cases h : n.tmod m < 0
  · go_enter Tryz.func11, Tryz.ntmps11
    go_wp2
    go_ret
    exact ⟨ret_int (by rw [he.out, if_pos h]), rfl⟩
  · go_enter Tryz.func11, Tryz.ntmps11
    go_wp2
    go_ret
    exact ⟨ret_int (by rw [he.out, if_neg (by omega)]), rfl⟩

set_option maxHeartbeats 400000 in
theorem same_ints (A A' : Option Addr) (n c c' : Nat) (l : List Nat) (B B' : Nat) (w : World) (h : Reads w B 1 A n (l.map iv)) (h' : Reads w B' 1 A' n (l.map iv)) (hn : n ≤ 9223372036854775807) :
    Calls Tryz.prog 48 #[.slice A n c, .slice A' n c'] w fun e w' => e = .returned (.bool true) ∧ ∃ k, w' = w.drewN k := by
  go_enter Tryz.func48, Tryz.ntmps48
  go_wp2
  go_loopw [5] (fun i wr => ∃ k : Nat, k ≤ n ∧ i = .int .i64 k ∧ ∃ d, wr = w.drewN d) (fun i _ => n - (intOf i).toNat)
  case atStart => exact ⟨0, Nat.zero_le _, rfl, 0, rfl⟩
  case round =>
    obtain ⟨k, hk, rfl, d, rfl⟩ := hrel
    by_cases hlt : k < n
    · obtain ⟨ad, x, hA, hb, hx, hc⟩ := h.atf hlt
      obtain ⟨ad', x', hA', hb', hx', hc'⟩ := h'.atf hlt
      have hxx : x = x' := Option.some.inj (hx.symm.trans hx')
      subst hxx
      clear hx hx'
      subst hA hA'
      unfold iv at hc hc'
      have hlt2 : (k : Int) < (n : Int) := by omega
      go_wp2
      go_quiet (fail)
      go_wp2
      exact ⟨⟨k + 1, by omega, by go_num, _, rfl⟩, by simp [intOf]; omega⟩
    · go_wp2
      go_ret
      exact ⟨rfl, d, rfl⟩
end Go.Proofs.YtjmbpnogicdkgaaGreatDoor
