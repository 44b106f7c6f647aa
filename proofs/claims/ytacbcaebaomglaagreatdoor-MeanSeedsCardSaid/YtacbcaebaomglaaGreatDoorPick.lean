import Derived.Test.YtacbcaebaomglaaGreatDoorProg
import Derived.Deep.LoopGhost
import Derived.RegionTactic
import Derived.BigRegion
import Derived.Test.YtacbcaebaomglaaGreatDoorRowQ
import Derived.Test.YtacbcaebaomglaaGreatDoorFracMul
import Derived.Test.YtacbcaebaomglaaGreatDoorFracCmp
namespace Go.Proofs.YtacbcaebaomglaaGreatDoor
set_option maxRecDepth 100000
set_option maxHeartbeats 4000000
open Go.RowKit
set_option linter.all false
theorem Jst (s : Nat) (w : World) :
  Calls Tryz.prog 55 #[.int .u64 (s : Int)] w fun e w' => e = .returned (.pointer (some ⟨w.heap.size, 0, none⟩)) /\ w.alloc (.cells #[.int .u64 (s : Int)] 156) = w' := by
 go_enter Tryz.func55, Tryz.ntmps55
 go_wp2
 go_ret
 exact ⟨rfl, rfl⟩
theorem Jq0 (b s : Nat) (w : World) (hs : s < 18446744073709551616) (hc : w.cell? ⟨b, 0, none⟩ = some (.int .u64 (s : Int))) (hf : w.frozen? ⟨b, 0, none⟩ = false) :
  Calls Tryz.prog 139 #[.pointer (some ⟨b, 0, none⟩)] w fun e w' => e = .returned (.int .u64 ((Dice.next s : Nat) : Int)) /\ w.setCell ⟨b, 0, none⟩ (.int .u64 ((Dice.step s : Nat) : Int)) = w' := by
 have e1 := Dice.step_walk s
 have e2 := Dice.mixA_walk (Dice.step s) (Dice.step_lt s)
 have e3 := Dice.mixB_walk (Dice.mixA (Dice.step s)) (Dice.mixA_lt _)
 have e4 := Dice.mixC_walk (Dice.mixB (Dice.mixA (Dice.step s))) (Dice.mixB_lt _)
 go_enter Tryz.func139, Tryz.ntmps139
 go_wp2
 go_ret
 exact ⟨rfl, rfl⟩
theorem Jqr (w : World) (b o : Nat) (v v' : Value) : (w.setCell ⟨b, o, none⟩ v).setCell ⟨b, o, none⟩ v' = w.setCell ⟨b, o, none⟩ v' := by
 unfold World.setCell
 congr 1
 apply Array.ext
 ·simp
 intro i h1 h2
 simp only [Array.getElem_modify]
 split
 ·cases w.heap[i]'(by simpa using h2) <;> simp
 rfl
theorem Blk.setCell_self {w : World} {g : Nat} {t : TypeId} {cs : Array Value} (h : Blk w g t cs) (o : Nat) (v : Value) (hv : cs[o]? = some v) : w.setCell ⟨g, o, none⟩ v = w := by
 unfold Blk at h
 have : w.heap.modify g (fun | .cells c elem frozen => .cells (if (none : Option Nat).isSome then c else c.setIfInBounds o v) elem frozen | o => o) = w.heap := by
  apply Array.ext
  ·simp
  intro i h1 h2
  simp only [Array.getElem_modify]
  split
  ·rename_i he
   subst he
   have h' : w.heap[g] = .cells cs t (0, 0) := by
    rw [Array.getElem?_eq_getElem h2] at h
    exact Option.some.inj h
   rw [h']
   simp
   apply Array.ext
   ·simp
   intro j h3 h4
   rw [Array.getElem_setIfInBounds]
   split
   ·rename_i hj
    subst hj
    rw [Array.getElem?_eq_getElem h4] at hv
    exact (Option.some.inj hv).symm
   rfl
  rfl
 have e : w.setCell ⟨g, o, none⟩ v = { w with heap := w.heap.modify g (fun | .cells c elem frozen => .cells (if (none : Option Nat).isSome then c else c.setIfInBounds o v) elem frozen | o => o) } := rfl
 rw [e, this]
theorem Jsa (n : Nat) (aD : 1 <= n) (hn2 : n <= 9223372036854775807) :
  IntKind.u64.wrap (18446744073709551615 - (IntKind.u64.wrap (18446744073709551615 % (n : Int) + 1)).tmod (n : Int)) = ((Dice.last n : Nat) : Int) := by
 have h1 : 18446744073709551615 % n < n := Nat.mod_lt _ aD
 have e1 : (18446744073709551615 % (n : Int) + 1) = ((18446744073709551615 % n + 1 : Nat) : Int) := by
  rw [Int.natCast_add, Int.natCast_emod]; rfl
 have h2 : (18446744073709551615 % n + 1) % n < n := Nat.mod_lt _ aD
 rw [e1, Jg, Nat.mod_eq_of_lt (by omega), Int.tmod_eq_emod_of_nonneg (by omega), <- Int.natCast_emod]
 have e2 : (18446744073709551615 : Int) - (((18446744073709551615 % n + 1) % n : Nat) : Int) = ((18446744073709551615 - (18446744073709551615 % n + 1) % n : Nat) : Int) := by omega
 rw [e2, Jg, Nat.mod_eq_of_lt (by omega)]
 rfl
theorem Jrr (u n : Nat) (aD : 1 <= n) (hn2 : n <= 9223372036854775807) : IntKind.i64.wrap ((u : Int) % (n : Int)) = ((u % n : Nat) : Int) := by
 have h1 : u % n < n := Nat.mod_lt _ aD
 rw [<- Int.natCast_emod, IntWalk.i64_in _ (by omega)]
def Jry (w : World) (b n s0 : Nat) (k : Nat) (wr : World) : Prop :=
 ∃ s, s < 18446744073709551616 /\ Dice.Gap s k /\ 1 <= k /\ wr = w.setCell ⟨b, 0, none⟩ (.int .u64 (s : Int)) /\ Dice.draw (Dice.last n) s = Dice.draw (Dice.last n) s0
theorem Jr3 (b s n : Nat) (w : World) (hs : s < 18446744073709551616) (aD : 1 <= n) (hn2 : n <= 9223372036854775807) (hd : Blk w b 156 #[.int .u64 (s : Int)]) :
  Calls Tryz.prog 100 #[.pointer (some ⟨b, 0, none⟩), .int .i64 (n : Int)] w fun e w' => e = .returned (.int .i64 (((Dice.below n s).1 : Nat) : Int)) /\ w.setCell ⟨b, 0, none⟩ (.int .u64 (((Dice.below n s).2 : Nat) : Int)) = w' := by
 have e3 := Jsa n aD hn2
 obtain ⟨k0, bF, cN, cO⟩ := Dice.gap_exists s hs
 clear cN
 have eJ : decide ((n : Int) < 1) = false := by simp; omega
 go_enter Tryz.func100, Tryz.ntmps100
 go_wp2_with fail
 go_loopg [7] k0 (fun k u wr => Jry w b n s k wr)
 case atStart => exact ⟨s, hs, cO, bF, (hd.setCell_self 0 _ rfl).symm, rfl⟩
 case round =>
  obtain ⟨r, hr, hg, hk, rfl, cP⟩ := hrel
  have HD := lh cP
  clear cP hs cO bF e3
  have bG := hd.set_ 0 (.int .u64 (r : Int))
  have es := Jqr w b 0 (.int .u64 (r : Int)) (.int .u64 ((Dice.step r : Nat) : Int))
  have hx := lh (Dice.draw_step (Dice.last n) r hr)
  by_cases cQ : Dice.next r <= Dice.last n
  ·have e4 := Jrr (Dice.next r) n aD hn2
   go_wp2_with fail
   refine (Jq0 b r _ hr (bG.cell 0) (bG.frozen 0)).mono ?_
   rintro e w1 ⟨rfl, rfl⟩
   rw [es]
   go_wp2_with fail
   go_ret
   have aM := hx.out
   rw [if_pos cQ, HD.out] at aM
   refine ⟨Jas ?_, ?_⟩
   ·rw [Dice.below_fst, aM]
    exact (Int.natCast_emod _ _).symm
   rw [Dice.below_snd, aM]
  go_wp2_with fail
  refine (Jq0 b r _ hr (bG.cell 0) (bG.frozen 0)).mono ?_
  rintro e w1 ⟨rfl, rfl⟩
  rw [es]
  go_wp2_with fail
  have cN : 2 <= gk := by
   rcases Nat.lt_or_ge gk 2 with h | h
   ·obtain rfl : gk = 1 := by omega
    have := Dice.gap_zero r hg
    omega
   exact h
  obtain ⟨g', rfl⟩ : ∃ g', gk = g' + 1 := ⟨gk - 1, by omega⟩
  go_roundg g'
  case rel =>
   have aM := hx.out
   rw [if_neg cQ] at aM
   exact ⟨Dice.step r, Dice.step_lt _, Dice.gap_step r g' hg, by omega, rfl, by rw [<- aM]; exact HD.out⟩
  case measure => omega
namespace Dice
def Js5 (l : List Nat) (i j : Nat) : List Nat := (l.set i (l.getD j 0)).set j (l.getD i 0)
noncomputable def Jr5 : Nat -> List Nat -> Nat -> List Nat × Nat
 | 0, l, s => (l, s)
 | i + 1, l, s => Jr5 i (Js5 l (i + 1) (below (i + 2) s).1) (below (i + 2) s).2
noncomputable def draws (n : Nat) : Nat -> Nat -> List Nat × Nat
 | 0, s => ([], s)
 | k + 1, s => ((draws n k s).1 ++ [(below n (draws n k s).2).1], (below n (draws n k s).2).2)
theorem Jr1 (n s : Nat) : draws n 0 s = ([], s) := by simp only [draws]
theorem draws_succ (n k s : Nat) : draws n (k + 1) s = ((draws n k s).1 ++ [(below n (draws n k s).2).1], (below n (draws n k s).2).2) := by simp only [draws]
theorem draws_len (n k s : Nat) : (draws n k s).1.length = k := by
 induction k with
 | zero => rw [Jr1]; rfl
 | succ k ih => rw [draws_succ]; simp [ih]
noncomputable def order (n s : Nat) : List Nat × Nat := Jr5 (n - 1) (List.range n) s
end Dice
theorem Jsf {B : Nat} {w w' : World} (h : Below B w w') {b : Nat} (hb : b < B) (v : Value) : Below B (w.setCell ⟨b, 0, none⟩ v) (w'.setCell ⟨b, 0, none⟩ v) := by
 refine ⟨h.os, h.tape, h.output, by simpa [World.setCell] using h.size, fun k hk => ?_⟩
 simp only [World.setCell, Array.getElem?_modify]
 rw [h.block k hk]
def Jrp (w : World) (b n k0 s0 i : Nat) (wr : World) : Prop :=
 Row wr w.heap.size 3 iv ((Dice.draws n i s0).1 ++ List.replicate (k0 - i) 0) /\ Blk wr b 156 #[.int .u64 (((Dice.draws n i s0).2 : Nat) : Int)] /\
  Below w.heap.size (w.setCell ⟨b, 0, none⟩ (.int .u64 (((Dice.draws n i s0).2 : Nat) : Int))) wr
theorem Jss (n k i s : Nat) (hi : i < k) : ((Dice.draws n i s).1 ++ List.replicate (k - i) 0).set i (Dice.below n (Dice.draws n i s).2).1 = (Dice.draws n (i + 1) s).1 ++ List.replicate (k - (i + 1)) 0 := by
 rw [Dice.draws_succ]
 have hl := Dice.draws_len n i s
 obtain ⟨m, rfl⟩ : ∃ m, k = i + 1 + m := ⟨k - (i + 1), by omega⟩
 rw [show i + 1 + m - i = m + 1 from by omega, show i + 1 + m - (i + 1) = m from by omega, List.replicate_succ, List.set_append_right _ _ (by omega), hl, Nat.sub_self, List.set_cons_zero, List.append_assoc]
 rfl
theorem draw_step {w x1 : World} {b n k0 s0 i : Nat} (hi : i < k0) (eB : b < w.heap.size) (h : Jrp w b n k0 s0 i x1) :
  Jrp w b n k0 s0 (i + 1) ((x1.setCell ⟨b, 0, none⟩ (.int .u64 (((Dice.below n (Dice.draws n i s0).2).2 : Nat) : Int))).setCell ⟨w.heap.size, i, none⟩ (.int .i64 (((Dice.below n (Dice.draws n i s0).2).1 : Nat) : Int))) := by
 obtain ⟨h1, h2, h3⟩ := h
 have e : (Dice.draws n (i + 1) s0).2 = (Dice.below n (Dice.draws n i s0).2).2 := by rw [Dice.draws_succ]
 unfold Jrp
 rw [e]
 refine ⟨?_, ?_, ?_⟩
 ·rw [<- Jss n k0 i s0 hi]
  exact (h1.far (by simp; omega) _).set_ i (Dice.below n (Dice.draws n i s0).2).1
 ·exact (h2.set_ 0 _).far (by simp; omega) _
 have := Jsf h3 eB (.int .u64 (((Dice.below n (Dice.draws n i s0).2).2 : Nat) : Int))
 rw [Jqr] at this
 exact this.setCell zd _
namespace Dice
def marks (l : List Nat) (n k : Nat) : List Nat := (l.take k).foldl (fun m x => m.set x 1) (List.replicate n 0)
end Dice
def Jqy (l : List Rat) (u : Nat) (i : Nat) (ok : Bool) : Prop :=
 (ok = true /\ i < l.length /\ ((u : Int) : Rat) * Jqm l < Jqm (l.take (i + 1)) * ((18446744073709551616 : Int) : Rat) /\ ∀ j, j < i -> ¬ ((u : Int) : Rat) * Jqm l < Jqm (l.take (j + 1)) * ((18446744073709551616 : Int) : Rat)) \/
 (ok = false /\ i = 0 /\ ∀ j, j < l.length -> ¬ ((u : Int) : Rat) * Jqm l < Jqm (l.take (j + 1)) * ((18446744073709551616 : Int) : Rat))
theorem QS.one (m : Nat) (hm : 1 <= m) : QS m ((1 : Int) : Rat) := ⟨by show Je 1 <= m; exact nt (by decide) hm, by show Je 1 <= m; exact nt (by decide) hm⟩
def Jra (b s : Nat) (l : List Rat) (w : World) (e : Ending) (w' : World) : Prop :=
 (((∃ x ∈ l, x.num.sign < 0) \/ Jqm l = 0) /\ e = .returned (.tuple #[.int .i64 0, .bool false]) /\ Below w.heap.size w w') \/
 ((∀ x ∈ l, 0 <= x.num.sign) /\ Jqm l ≠ 0 /\ ∃ i ok, Jqy l (Dice.next s) i ok /\ e = .returned (.tuple #[.int .i64 (i : Int), .bool ok]) /\ Only b w w' /\ Blk w' b 156 #[.int .u64 ((Dice.step s : Nat) : Int)])
theorem Tab.ne {w : World} {b s : Nat} {t : TypeId} (h : Tab w) (hd : Blk w b t #[.int .u64 (s : Int)]) : 2 ≠ b := by
 intro e
 have h0 := h 0 (by decide)
 rw [<- e] at hd
 have h1 := hd.cell 0
 simp [Addr.add] at h0
 rw [h0] at h1
 simp at h1
theorem ReadsQ.only {w w' : World} {B b s n : Nat} {A : Option Addr} {t : TypeId} {l : List Rat} (h : ReadsQ w B A n l) (hB : B <= w.heap.size) (ho : Only b w w') (hd : Blk w b t #[.int .u64 (s : Int)]) : ReadsQ w' B A n l := by
 rcases Nat.eq_zero_or_pos n with h0 | h0
 ·subst h0
  obtain rfl : l = [] := List.eq_nil_of_length_eq_zero h.len
  exact ReadsW.nil
 refine ⟨h.1, h.2.exc ho.exc hB ?_⟩
 obtain ⟨ad, g, o, x, h1, h2, h3, h4, h5, _⟩ := ReadsQ.cells h h0
 intro ad' e1 e2
 rw [h1] at e1
 injection e1 with e1
 subst e1
 have e3 := Jt ad (0 * 5)
 rw [h2] at e3
 have e4 : g = b := e3.trans e2
 subst e4
 have h6 := hd.cell o
 rw [h5] at h6
 cases o with
 | zero => simp at h6
 | succ o => simp at h6
theorem Jq8 (n : Int) : Rat.divInt n 1 = (n : Rat) := by
 show mkRat n 1 = _
 rw [Rat.mkRat_one]
theorem Jru (a b : Rat) : (0 < Vq a b) ↔ b < a := by
 unfold Vq
 by_cases h1 : a < b
 ·rw [if_pos h1]
  exact ⟨fun h => absurd h (by decide), fun h => absurd (Std.lt_trans h1 h) (Std.lt_irrefl)⟩
 rw [if_neg h1]
 by_cases h2 : b < a
 ·rw [if_pos h2]; exact ⟨fun _ => h2, fun _ => by decide⟩
 rw [if_neg h2]; exact ⟨fun h => absurd h (by decide), fun h => absurd h h2⟩
theorem Jsc (b s : Nat) (A : Option Addr) (n c B m : Nat) (l : List Rat) (w : World) (hs : s < 18446744073709551616) (hd : Blk w b 156 #[.int .u64 (s : Int)]) (h : ReadsQ w B A n l) (hB : B <= w.heap.size)
  (hn : n <= 1000000) (hm : m <= 100000) (hl : ∀ x ∈ l, QS m x) (hT : Tab w) :
  Calls Tryz.prog 101 #[.pointer (some ⟨b, 0, none⟩), .slice A n c] w (Jra b s l w) := by
 have HS := lh (QS.sum l hl)
 have HL := lh hl
 have HR := lh h
 have HT := lh hT
 have HD := lh hd
 have HLN := lh h.len
 clear hl h hT hd
 go_enter Tryz.func101, Tryz.ntmps101
 go_wp2_with fail
 go_loopw [19] (fun p wr => ∃ k : Nat, k <= n /\ p = .int .i64 (k : Int) /\ Hid (∀ j, j < k -> ∀ x, l[j]? = some x -> 0 <= x.num.sign) /\ Below w.heap.size w wr) (fun p _ => n - (intOf p).toNat)
 case atStart => exact ⟨0, by omega, rfl, lh (fun j hj => absurd hj (by omega)), Below.refl _ _⟩
 case round =>
  obtain ⟨k, hk, rfl, bM, hb⟩ := hrel
  rename World => wr
  by_cases cS : k < n
  ·obtain ⟨ad, g, o, x, rfl, hP, eC, hx, x0, x1, x2, x3, x4⟩ := ReadsQ.cells (HR.out.below (hb.mono hB)) cS
   have eD : (k : Int) < n := by omega
   have bF : (k : Int) + 1 <= 9223372036854775807 := by omega
   have x8 := fun w => Jco x w ((HL.out x (List.mem_of_getElem? hx)).mono (by omega))
   unfold qV at x8
   obtain ⟨sg, j9⟩ : ∃ sg, x.num.sign = sg := ⟨_, rfl⟩
   rw [j9] at x8
   have HSN := lh j9
   have HSG := lh x8
   clear x8 j9
   have aB := Ja hb (Jb wr (.cells #[.bool (decide (x.num < 0)), .int .u64 (lo x.num.natAbs : Int), .string (mo x.num.natAbs), .int .u64 (lo ((qden x)) : Int), .string (mo ((qden x)))] 65))
   have HX := lh hx
   clear hx
   go_wp2_with fail
   refine (HSG.out _).mono ?_
   rintro e w1 ⟨rfl, o6⟩
   have aC := Ja aB o6
   by_cases aN : sg < 0
   ·go_wp2
    go_returns
    exact .inl ⟨.inl ⟨x, List.mem_of_getElem? HX.out, by rw [HSN.out]; exact aN⟩, rfl, aC⟩
   have HX0 := lh aN
   have eK : decide (sg < 0) = false := decide_eq_false aN
   clear aN x0 x1 x2 x3 x4 hP
   go_wp2
   have aN : 0 <= sg := by have := HX0.out; omega
   refine ⟨⟨k + 1, by omega, by simp, lh (fun j hj y hy => ?_), aC⟩, by simp [intOf]; omega⟩
   rcases Nat.lt_or_ge j k with h | h
   ·exact bM.out j h y hy
   obtain rfl : j = k := by omega
   rw [HX.out] at hy
   have hy := Option.some.inj hy
   rw [<- hy, HSN.out]
   exact aN
  obtain rfl : k = n := by omega
  have cT : ∀ x ∈ l, 0 <= x.num.sign := by
   intro x hx
   obtain ⟨j, hj, e⟩ := List.getElem_of_mem hx
   exact bM.out j (by have := HLN.out; omega) x (by rw [List.getElem?_eq_getElem hj, e])
  have HNN := lh cT
  clear cT bM cS
  have cU : ¬ (k : Int) < (k : Int) := by omega
  have hsm := Jsq A k c B m l wr (HR.out.below (hb.mono hB)) (nt hB hb.size) hn hm HL.out (HT.out.next hb)
  have bH : QS 137438953472 (Jqm l) := by
   have h1 := HS.out k
   rw [List.take_of_length_le (by have := HLN.out; omega)] at h1
   refine h1.mono ?_
   have := Nat.mul_le_mul (show k <= 1000000 by omega) (show m + 1 <= 100001 by omega)
   omega
  obtain ⟨t, ht⟩ : ∃ t, Jqm l = t := ⟨_, rfl⟩
  rw [ht] at hsm bH
  have HTT := lh ht
  clear ht
  have x8 := fun w => Jco t w (bH.mono (by omega))
  unfold qV at x8 hsm
  obtain ⟨sg, j9⟩ : ∃ sg, t.num.sign = sg := ⟨_, rfl⟩
  rw [j9] at x8
  have HSN := lh j9
  clear j9
  have HSG := lh x8
  have HTQ := lh bH
  clear x8 bH
  go_wp2_with fail
  refine hsm.mono ?_
  rintro e w1 ⟨rfl, o6⟩
  have aB := Ja hb o6
  have b8 := Blk.new w1 65 #[.bool (decide (t.num < 0)), .int .u64 (lo t.num.natAbs : Int), .string (mo t.num.natAbs), .int .u64 (lo ((qden t)) : Int), .string (mo ((qden t)))]
  have aC := Ja aB (Jb w1 (.cells #[.bool (decide (t.num < 0)), .int .u64 (lo t.num.natAbs : Int), .string (mo t.num.natAbs), .int .u64 (lo ((qden t)) : Int), .string (mo ((qden t)))] 65))
  clear hb o6 hsm
  go_wp2_with fail
  generalize w1.alloc (.cells #[.bool (decide (t.num < 0)), .int .u64 (lo t.num.natAbs : Int), .string (mo t.num.natAbs), .int .u64 (lo ((qden t)) : Int), .string (mo ((qden t)))] 65) = w2 at *
  refine (HSG.out _).mono ?_
  rintro e w3 ⟨rfl, bN⟩
  have o0 := Ja aC bN
  have b8 := b8.below bN b8.lt
  have eE := aB.size
  generalize w1.heap.size = a8 at *
  clear aC bN aB
  by_cases aO : sg = 0
  ·have cV : (sg == 0) = true := by simp [aO]
   have HT0 := lh aO
   clear aO
   go_wp2
   go_returns
   refine .inl ⟨.inr ?_, rfl, o0⟩
   rw [HTT.out]
   exact Rat.num_eq_zero.1 (Int.sign_eq_zero_iff_zero.1 (HSN.out.trans HT0.out))
  have cV : (sg == 0) = false := by simpa using aO
  have HT0 := lh aO
  clear aO
  have dB : Blk w3 b 156 #[.int .u64 (s : Int)] := HD.out.below o0 HD.out.lt
  have aT : a8 ≠ b := fun e => by
   have := HD.out.lt
   omega
  go_wp2_with fail
  refine (Jq0 b s w3 hs (dB.cell 0) (dB.frozen 0)).mono ?_
  rintro e w4 ⟨rfl, rfl⟩
  have ho := (Only.of_below (g := b) o0).setCell ⟨b, 0, none⟩ rfl (.int .u64 ((Dice.step s : Nat) : Int))
  have dN : Blk _ b 156 #[.int .u64 ((Dice.step s : Nat) : Int)] := dB.set_ 0 (.int .u64 ((Dice.step s : Nat) : Int))
  have b8 := b8.far (p := ⟨b, 0, none⟩) aT (.int .u64 ((Dice.step s : Nat) : Int))
  have cW := o0.size
  rw [<- World.size_setCell w3 ⟨b, 0, none⟩ (.int .u64 ((Dice.step s : Nat) : Int))] at cW
  generalize w3.setCell ⟨b, 0, none⟩ (.int .u64 ((Dice.step s : Nat) : Int)) = w4 at *
  clear dB o0 cV HSG cU
  have cZ := HR.out.only hB ho HD.out
  have tT := HT.out.only ho (HT.out.ne HD.out)
  obtain ⟨u, hu⟩ : ∃ u, Dice.next s = u := ⟨_, rfl⟩
  have bO : u < 18446744073709551616 := by rw [<- hu]; exact Dice.next_lt s
  have bP := fun w => Jgj u w bO
  have ubl : Je u <= 64 := Zw u 64 bO
  have aP := fun w => Qc false u w (by omega)
  rw [show signed false u = (u : Int) from rfl] at aP
  have bQ := fun w => Jli 1 w (by omega) (by omega)
  have aE := fun w (hT : Tab w) => Jk3 (u : Int) 1 w (by rw [Int.natAbs_natCast]; omega) (by decide) hT
  rw [Jq8, decide_eq_true (show (1 : Int) ≠ 0 by decide)] at aE
  obtain ⟨i1, bR⟩ : ∃ i : Nat, 1 = i := ⟨_, rfl⟩
  obtain ⟨M, hM⟩ : ∃ i : Nat, 18446744073709551616 = i := ⟨_, rfl⟩
  have dA : Je M <= 65 := by rw [<- hM]; decide +kernel
  have aF : ∀ w, Calls Tryz.prog 122 #[.int .u64 1] w (Ret (Jh i1) w) := fun w => by rw [<- bR]; exact Jgj 1 w (by omega)
  have bS : ∀ w, Calls Tryz.prog 141 #[Jh i1, .int .i64 64] w (Ret (Jh M) w) := fun w => by rw [<- hM, <- bR]; exact Jgi 1 64 w (by decide) (by omega)
  have aQ := fun w => Qc false M w (by omega)
  rw [show signed false M = (M : Int) from rfl] at aQ
  have aG := fun w (hT : Tab w) => Jk3 (M : Int) 1 w (by rw [Int.natAbs_natCast]; omega) (by decide) hT
  rw [Jq8, decide_eq_true (show (1 : Int) ≠ 0 by decide)] at aG
  have bT : QS 64 ((u : Int) : Rat) := ⟨by show Je ((u : Int)).natAbs <= 64; rw [Int.natAbs_natCast]; exact ubl, by show Je 1 <= 64; decide⟩
  have bU : QS 65 ((M : Int) : Rat) := ⟨by show Je ((M : Int)).natAbs <= 65; rw [Int.natAbs_natCast]; exact dA, by show Je 1 <= 65; decide⟩
  have x9 := fun w (hT : Tab w) => Jid ((u : Int) : Rat) t w (bT.mono (by omega)) (HTQ.out.mono (by omega)) hT
  have bI : QS 549755813888 (((u : Int) : Rat) * t) := (bT.mul HTQ.out).mono (by omega)
  obtain ⟨U, hU⟩ : ∃ U : Rat, ((u : Int) : Rat) = U := ⟨_, rfl⟩
  obtain ⟨V, hV⟩ : ∃ V : Rat, ((M : Int) : Rat) = V := ⟨_, rfl⟩
  rw [hU] at aE x9 bI
  rw [hV] at aG bU
  obtain ⟨R, hR⟩ : ∃ R : Rat, U * t = R := ⟨_, rfl⟩
  rw [hR] at x9 bI
  have HRU : Hid ((((Dice.next s : Nat) : Int) : Rat) * Jqm l = R) := lh (by rw [HTT.out, hu, hU, hR])
  have HVM : Hid (((18446744073709551616 : Int) : Rat) = V) := lh (by rw [<- hV, <- hM]; rfl)
  have HUU := lh hu
  rw [hu]
  have HBQ := lh bI
  have HAQ := lh bU
  clear hR hU hV hM bR dA ubl bT bU bI hu bO
  unfold Jh at bP aP aF bS aQ
  unfold Jx at aP bQ aE aQ aG
  unfold qV at aE aG x9
  rw [Int.natAbs_natCast] at aP aE aQ aG
  generalize decide ((1 : Int) < 0) = n1 at *
  generalize Int.natAbs 1 = o1 at *
  generalize decide ((u : Int) < 0) = nu at *
  generalize decide ((M : Int) < 0) = nM at *
  have HOF := lh bP
  have HFU := lh aP
  have HO1 := lh bQ
  have HMK := lh aE
  have HOF2 := lh aF
  have HSH := lh bS
  have HFA := lh aQ
  have HMA := lh aG
  have HML := lh x9
  clear bP aP bQ aE aF bS aQ aG x9
  go_wp2_with fail
  refine (HOF.out w4).mono ?_
  rintro e w5 ⟨rfl, dC⟩
  go_wp2_with fail
  refine (HFU.out w5).mono ?_
  rintro e w6 ⟨rfl, dD⟩
  go_wp2_with fail
  refine (HO1.out w6).mono ?_
  rintro e w7 ⟨rfl, dE⟩
  have bV := Ja (Ja dC dD) dE
  clear dC dD dE
  go_wp2_with fail
  refine (HMK.out w7 (tT.next bV)).mono ?_
  rintro e w8 ⟨rfl, dF⟩
  have dG := Ja bV dF
  have b9 := Blk.new w8 65 #[.bool (decide (U.num < 0)), .int .u64 (lo U.num.natAbs : Int), .string (mo U.num.natAbs), .int .u64 (lo ((qden U)) : Int), .string (mo ((qden U)))]
  have bW := Ja dG (Jb w8 (.cells #[.bool (decide (U.num < 0)), .int .u64 (lo U.num.natAbs : Int), .string (mo U.num.natAbs), .int .u64 (lo ((qden U)) : Int), .string (mo ((qden U)))] 65))
  clear bV dF dG HOF HFU HMK
  go_wp2_with fail
  generalize w8.alloc (.cells #[.bool (decide (U.num < 0)), .int .u64 (lo U.num.natAbs : Int), .string (mo U.num.natAbs), .int .u64 (lo ((qden U)) : Int), .string (mo ((qden U)))] 65) = w9 at *
  generalize w8.heap.size = a9 at *
  refine (HOF2.out w9).mono ?_
  rintro e w10 ⟨rfl, aU⟩
  go_wp2_with fail
  refine (HSH.out w10).mono ?_
  rintro e w11 ⟨rfl, aV⟩
  go_wp2_with fail
  refine (HFA.out w11).mono ?_
  rintro e w12 ⟨rfl, aW⟩
  go_wp2_with fail
  refine (HO1.out w12).mono ?_
  rintro e w13 ⟨rfl, aX⟩
  have aH := Ja (Ja (Ja aU aV) aW) aX
  clear aU aV aW aX
  go_wp2_with fail
  refine (HMA.out w13 (tT.next (Ja bW aH))).mono ?_
  rintro e w14 ⟨rfl, aY⟩
  have aI := Ja aH aY
  have aJ := Ja bW aI
  have b9 := (b9.below aI b9.lt).alloc (.cells #[.bool (decide (V.num < 0)), .int .u64 (lo V.num.natAbs : Int), .string (mo V.num.natAbs), .int .u64 (lo ((qden V)) : Int), .string (mo ((qden V)))] 65)
  have b8 := (b8.below aJ b8.lt).alloc (.cells #[.bool (decide (V.num < 0)), .int .u64 (lo V.num.natAbs : Int), .string (mo V.num.natAbs), .int .u64 (lo ((qden V)) : Int), .string (mo ((qden V)))] 65)
  have b11 := Blk.new w14 65 #[.bool (decide (V.num < 0)), .int .u64 (lo V.num.natAbs : Int), .string (mo V.num.natAbs), .int .u64 (lo ((qden V)) : Int), .string (mo ((qden V)))]
  have aK := Ja aJ (Jb w14 (.cells #[.bool (decide (V.num < 0)), .int .u64 (lo V.num.natAbs : Int), .string (mo V.num.natAbs), .int .u64 (lo ((qden V)) : Int), .string (mo ((qden V)))] 65))
  clear bW aH aY aI aJ HOF2 HSH HFA HMA HO1
  obtain ⟨bX, bY, bZ, cA, cB⟩ := b8.c5; obtain ⟨cC, cD, cE, cF, cG⟩ := b9.c5
  go_wp2_with fail
  generalize w14.alloc (.cells #[.bool (decide (V.num < 0)), .int .u64 (lo V.num.natAbs : Int), .string (mo V.num.natAbs), .int .u64 (lo ((qden V)) : Int), .string (mo ((qden V)))] 65) = w15 at *
  generalize w14.heap.size = a11 at *
  refine (HML.out w15 (tT.next aK)).mono ?_
  rintro e w16 ⟨rfl, aL⟩
  have aZ := Ja aK aL
  have b11 := (b11.below aL b11.lt).alloc (.cells #[.bool (decide (R.num < 0)), .int .u64 (lo R.num.natAbs : Int), .string (mo R.num.natAbs), .int .u64 (lo ((qden R)) : Int), .string (mo ((qden R)))] 65)
  have b13 := Blk.new w16 65 #[.bool (decide (R.num < 0)), .int .u64 (lo R.num.natAbs : Int), .string (mo R.num.natAbs), .int .u64 (lo ((qden R)) : Int), .string (mo ((qden R)))]
  have o7 := Ja aZ (Jb w16 (.cells #[.bool (decide (R.num < 0)), .int .u64 (lo R.num.natAbs : Int), .string (mo R.num.natAbs), .int .u64 (lo ((qden R)) : Int), .string (mo ((qden R)))] 65))
  have cH : (w16.alloc (.cells #[.bool (decide (R.num < 0)), .int .u64 (lo R.num.natAbs : Int), .string (mo R.num.natAbs), .int .u64 (lo ((qden R)) : Int), .string (mo ((qden R)))] 65)).heap.size = w16.heap.size + 1 := World.size_alloc _ _
  have b14 := Blk.new2 w16 (.cells #[.bool (decide (R.num < 0)), .int .u64 (lo R.num.natAbs : Int), .string (mo R.num.natAbs), .int .u64 (lo ((qden R)) : Int), .string (mo ((qden R)))] 65) 65 #[.bool false, .int .u64 0, .string ⟨#[]⟩, .int .u64 0, .string ⟨#[]⟩]
  have bA := Jb (w16.alloc (.cells #[.bool (decide (R.num < 0)), .int .u64 (lo R.num.natAbs : Int), .string (mo R.num.natAbs), .int .u64 (lo ((qden R)) : Int), .string (mo ((qden R)))] 65)) (.cells #[.bool false, .int .u64 0, .string ⟨#[]⟩, .int .u64 0, .string ⟨#[]⟩] 65)
  clear bX bY bZ cA cB cC cD cE cF cG
  clear b8 b9 aK aL aZ HML
  go_wp2_with fail
  generalize w16.alloc (.cells #[.bool (decide (R.num < 0)), .int .u64 (lo R.num.natAbs : Int), .string (mo R.num.natAbs), .int .u64 (lo ((qden R)) : Int), .string (mo ((qden R)))] 65) = w17 at *
  generalize w16.heap.size = a13 at *
  have bB := cZ.below (o7.mono (by omega))
  have bC : B <= w17.heap.size := by have := o7.size; omega
  have t17 := lh (tT.next o7)
  have HR17 := lh bB
  clear tT bB cZ
  have dH := dN.below o7 dN.lt
  have dI := ho.trans (Only.of_below o7)
  have HHO := lh (And.intro dI dH)
  clear dI dH ho dN o7 cW aT eE
  go_loopw [54] (fun p wr => ∃ (i : Nat) (σ : Rat), i <= k /\ p = .int .i64 (i : Int) /\ Hid (Jqm (l.take i) = σ) /\ Hid (∀ j, j < i -> ¬ R < Jqm (l.take (j + 1)) * V) /\ Blk wr (a13 + 1) 65 #[.bool (decide ((σ).num < 0)), .int .u64 (lo (((σ).num).natAbs) : Int), .string (mo (((σ).num).natAbs)), .int .u64 (lo ((qden (σ))) : Int), .string (mo ((qden (σ))))] /\ Below w17.heap.size w17 wr) (fun p _ => k - (intOf p).toNat)
  case atStart => exact ⟨0, 0, by omega, rfl, lh rfl, lh (fun j hj => absurd hj (by omega)), b14, bA⟩
  case round =>
   obtain ⟨i, σ, hi, rfl, hσ, bJ, c14, aR⟩ := hrel
   clear b14 bA
   rename World => wr
   by_cases eF : i < k
   ·obtain ⟨ad, g, o, x, rfl, hP, eC, hx, x0, x1, x2, x3, x4⟩ := ReadsQ.cells (HR17.out.below (aR.mono bC)) eF
    have eD : (i : Int) < k := by omega
    have bF : (i : Int) + 1 <= 9223372036854775807 := by omega
    have cI : ∀ z, QS 137438953472 (Jqm (l.take (min z k))) := fun z => (HS.out (min z k)).mono (by
     have := Nat.mul_le_mul (show min z k <= 1000000 by omega) (show m + 1 <= 100001 by omega)
     omega)
    have hqσ : QS 137438953472 σ := by rw [<- hσ.out]; have := cI i; rwa [show min i k = i by omega] at this
    have dJ : QS 137438953472 x := (HL.out x (List.mem_of_getElem? hx)).mono (by omega)
    have cJ : Jqm (l.take (i + 1)) = σ + x := by rw [Jqw l i x hx, hσ.out]
    have cK : QS 137438953472 (σ + x) := by rw [<- cJ]; have := cI (i + 1); rwa [show min (i + 1) k = i + 1 by omega] at this
    have cL := fun w (hT : Tab w) => Jbz σ x w hqσ dJ hT
    have x9 := fun w (hT : Tab w) => Jid (σ + x) V w (cK.mono (by omega)) (HAQ.out.mono (by omega)) hT
    have cM := fun w => Jie ((σ + x) * V) R w ((cK.mul HAQ.out).mono (by omega)) HBQ.out
    have dK := Jru ((σ + x) * V) R
    have HS' := lh cJ
    clear cJ cI hqσ dJ cK hσ hx
    generalize σ + x = τ at *
    generalize Vq (τ * V) R = cv at *
    have HCP := lh dK
    clear dK
    generalize hY : τ * V = Y at *
    have HY := lh hY
    clear hY
    unfold qV at cL x9 cM
    have HAD := lh cL
    have HML := lh x9
    have HCM := lh cM
    clear cL x9 cM
    obtain ⟨e8, j0, j6, j7, j8⟩ := c14.c5
    have cl14 := c14.lt
    have tT := t17.out.next (Ja aR (Jb wr (.cells #[.bool (decide (x.num < 0)), .int .u64 (lo x.num.natAbs : Int), .string (mo x.num.natAbs), .int .u64 (lo ((qden x)) : Int), .string (mo ((qden x)))] 65)))
    have d14 := c14.alloc (.cells #[.bool (decide (x.num < 0)), .int .u64 (lo x.num.natAbs : Int), .string (mo x.num.natAbs), .int .u64 (lo ((qden x)) : Int), .string (mo ((qden x)))] 65)
    have aB := Ja aR (Jb wr (.cells #[.bool (decide (x.num < 0)), .int .u64 (lo x.num.natAbs : Int), .string (mo x.num.natAbs), .int .u64 (lo ((qden x)) : Int), .string (mo ((qden x)))] 65))
    go_wp2_with fail
    refine (HAD.out _ tT).mono ?_
    rintro e w1 ⟨rfl, o6⟩
    have aC := Ja aB o6
    have d14 := d14.below o6 d14.lt
    obtain ⟨f0, f1, f2, f3, f4⟩ : w17.heap.size <= a13 + 1 /\ True /\ True /\ True /\ True := ⟨by omega, trivial, trivial, trivial, trivial⟩
    have o0 := Yt (g := a13 + 1) aC f0 (.bool (decide (τ.num < 0))) (.int .u64 (lo τ.num.natAbs : Int)) (.string (mo τ.num.natAbs)) (.int .u64 (lo (qden τ) : Int)) (.string (mo (qden τ)))
    have e14 := ((((d14.set_ 0 (.bool (decide (τ.num < 0)))).set_ 1 (.int .u64 (lo τ.num.natAbs : Int))).set_ 2 (.string (mo τ.num.natAbs))).set_ 3 (.int .u64 (lo (qden τ) : Int))).set_ 4 (.string (mo (qden τ)))
    simp only [Array.set!_eq_setIfInBounds, List.setIfInBounds_toArray, List.set_cons_zero, List.set_cons_succ] at e14
    obtain ⟨d14q0, d14q1, d14q2, d14q3, d14q4, d14f0, d14f1, d14f2, d14f3, d14f4, d14s0, d14s1, d14s2, d14s3, d14s4⟩ := d14.f5
    clear e8 j0 j6 j7 j8 c14 cl14 x0 x1 x2 x3 x4 hP aB o6 aC tT aR
    have HE := lh (And.intro o0 e14)
    clear o0 e14
    go_upto_region 18 with fail
    obtain ⟨o0, b14⟩ := HE.out
    clear HE d14q0 d14q1 d14q2 d14q3 d14q4 d14f0 d14f1 d14f2 d14f3 d14f4 d14s0 d14s1 d14s2 d14s3 d14s4 d14
    generalize ((((w1.setCell ⟨a13 + 1, 0, none⟩ (.bool (decide (τ.num < 0)))).setCell ⟨a13 + 1, 1, none⟩ (.int .u64 (lo τ.num.natAbs : Int))).setCell ⟨a13 + 1, 2, none⟩ (.string (mo τ.num.natAbs))).setCell ⟨a13 + 1, 3, none⟩ (.int .u64 (lo (qden τ) : Int))).setCell ⟨a13 + 1, 4, none⟩ (.string (mo (qden τ))) = w2 at *
    have tT := t17.out.next o0
    have b11 := b11.below o0 b11.lt
    have b13 := b13.below o0 b13.lt
    go_cut [67] (fun v wc => v = .bool (decide (0 < cv)) /\ Blk wc (a13 + 1) 65 #[.bool (decide ((τ).num < 0)), .int .u64 (lo (((τ).num).natAbs) : Int), .string (mo (((τ).num).natAbs)), .int .u64 (lo ((qden (τ))) : Int), .string (mo ((qden (τ))))] /\ Below w17.heap.size w17 wc)
    case first =>
     obtain ⟨dL, dM, dO, dP, dQ⟩ := b14.c5; have eG := b14.lt; have c14 := b14.drew; have y8 := c14.lt; obtain ⟨dR, dS, dT, dU, dV⟩ := b11.c5; have eH := b11.lt; have c11 := b11.drew; have y9 := c11.lt; obtain ⟨dW, dX, dY, dZ, eA⟩ := b13.c5; have eI := b13.lt; have c13 := b13.drew; have aA := c13.lt; have hc := Ji w2; have tT : Tab w2.drew := tT; go_region_held3 (fun w' => w'.cell? ⟨a13 + 1, 0, none⟩ = some (.bool (decide ((τ).num < 0))) /\ w'.cell? ⟨a13 + 1, 1, none⟩ = some (.int .u64 (lo (((τ).num).natAbs) : Int)) /\ w'.cell? ⟨a13 + 1, 2, none⟩ = some (.string (mo (((τ).num).natAbs))) /\ w'.cell? ⟨a13 + 1, 3, none⟩ = some (.int .u64 (lo ((qden (τ))) : Int)) /\ w'.cell? ⟨a13 + 1, 4, none⟩ = some (.string (mo ((qden (τ))))) /\ w'.cell? ⟨a11, 0, none⟩ = some (.bool (decide (V.num < 0))) /\ w'.cell? ⟨a11, 1, none⟩ = some (.int .u64 (lo V.num.natAbs : Int)) /\ w'.cell? ⟨a11, 2, none⟩ = some (.string (mo V.num.natAbs)) /\ w'.cell? ⟨a11, 3, none⟩ = some (.int .u64 (lo ((qden V)) : Int)) /\ w'.cell? ⟨a11, 4, none⟩ = some (.string (mo ((qden V)))) /\ w'.cell? ⟨a13, 0, none⟩ = some (.bool (decide (R.num < 0))) /\ w'.cell? ⟨a13, 1, none⟩ = some (.int .u64 (lo R.num.natAbs : Int)) /\ w'.cell? ⟨a13, 2, none⟩ = some (.string (mo R.num.natAbs)) /\ w'.cell? ⟨a13, 3, none⟩ = some (.int .u64 (lo ((qden R)) : Int)) /\ w'.cell? ⟨a13, 4, none⟩ = some (.string (mo ((qden R))))) (go_keep) (first | (go_at_call 31; (first | refine (HML.out _ tT).mono ?_ | refine (HML.out _ (tT.next (Jb _ _))).mono ?_ | refine (HML.out _ (tT.next (Jj _ _ _))).mono ?_); rintro e w1 ⟨rfl, o6⟩; (try clear e8 j0 j6 j7 j8); obtain ⟨c14, e8, j0, j6, j7, j8⟩ := c14.zc5 o6; (try clear y8); have y8 := c14.lt; (try clear o8 p7 p8 p9 q8); obtain ⟨c11, o8, p7, p8, p9, q8⟩ := c11.zc5 o6; (try clear y9); have y9 := c11.lt; (try clear q9 s9 t7 t8 u4); obtain ⟨c13, q9, s9, t7, t8, u4⟩ := c13.zc5 o6; (try clear aA); have aA := c13.lt; have hc := Ja hc o6) | (go_at_call 32; refine (HCM.out _).mono ?_; rintro e w2 ⟨rfl, bK⟩; (try clear e8 j0 j6 j7 j8); obtain ⟨c14, e8, j0, j6, j7, j8⟩ := c14.zc5 bK; (try clear y8); have y8 := c14.lt; (try clear o8 p7 p8 p9 q8); obtain ⟨c11, o8, p7, p8, p9, q8⟩ := c11.zc5 bK; (try clear y9); have y9 := c11.lt; (try clear q9 s9 t7 t8 u4); obtain ⟨c13, q9, s9, t7, t8, u4⟩ := c13.zc5 bK; (try clear aA); have aA := c13.lt; have hc := Ja hc bK))
     all_goals
      go_wp2
      go_meet
      exact ⟨by first | rfl | simp, c14, Ja o0 hc⟩
    case rest =>
     obtain ⟨rfl, c14, bL⟩ := hcut
     clear o0 b14 b11 b13 tT HML HCM HAD
     by_cases aS : 0 < cv
     ·have HG := lh (HCP.out.1 aS)
      have x7 : decide (0 < cv) = true := decide_eq_true aS
      clear aS HCP f0 f1 f2 f3 f4
      have bD : Jra b s l w (.returned (.tuple #[.int .i64 (i : Int), .bool true])) wc := by
       refine .inr ⟨HNN.out, ?_, i, true, .inl ⟨rfl, by have := HLN.out; omega, ?_, ?_⟩, rfl, HHO.out.1.trans (Only.of_below bL), HHO.out.2.below bL HHO.out.2.lt⟩
       ·intro e
        rw [HTT.out] at e
        exact HT0.out (by rw [<- HSN.out, e]; rfl)
       ·rw [HRU.out, HVM.out, HS'.out, HY.out]
        exact HG.out
       intro j hj
       rw [HRU.out, HVM.out]
       exact bJ.out j hj
      have HFIN := lh bD
      clear bD HNN HLN HHO HTT HT0 HSN HRU HVM HS' HY HG bJ HS HL HT HD HTQ HUU HBQ HAQ t17 HR17 HR c14 bL bC cH hB hs
      refine (‹∀ (a : Act) (w : World), Code.wp Tryz.prog (Code.cond _ _ _) _ a w -> _› : ∀ (a : Act) (w : World), _ -> _) _ _ ?_
      rw [x7]
      clear x7
      go_wp2
      go_returns
      exact HFIN.out
     have bE : ¬ R < Y := fun h => aS (HCP.out.2 h)
     have HG := lh bE
     have x7 : decide (0 < cv) = false := decide_eq_false aS
     clear bE aS HCP f0 f1 f2 f3 f4
     rw [x7]
     clear x7
     go_wp2
     refine ⟨⟨i + 1, τ, by omega, by simp, HS', lh (fun j hj => ?_), c14, bL⟩, by simp [intOf]; omega⟩
     rcases Nat.lt_or_ge j i with h | h
     ·exact bJ.out j h
     obtain rfl : j = i := by omega
     rw [HS'.out, HY.out]
     exact HG.out
   obtain rfl : i = k := by omega
   have cU : ¬ (i : Int) < (i : Int) := by omega
   go_wp2
   go_returns
   refine .inr ⟨HNN.out, ?_, 0, false, .inr ⟨rfl, rfl, ?_⟩, rfl, HHO.out.1.trans (Only.of_below aR), HHO.out.2.below aR HHO.out.2.lt⟩
   ·intro e
    rw [HTT.out] at e
    exact HT0.out (by rw [<- HSN.out, e]; rfl)
   intro j hj
   rw [HRU.out, HVM.out]
   exact bJ.out j (by have := HLN.out; omega)
