import Derived.Test.YtacbcaebaomglaaGreatDoorLinkFarsP
namespace Go.Proofs.YtacbcaebaomglaaGreatDoor
set_option maxRecDepth 100000
set_option maxHeartbeats 2000000
open Go.RowKit
set_option linter.all false
def upA (n m : Nat) : Array Bool := ((List.range n).map fun j => decide (j < m)).toArray
theorem Jlk (n : Nat) : Array.replicate n false = upA n 0 := by
 refine Array.ext (by simp [upA]) fun i h1 h2 => by simp [upA]
theorem Jjv {n m : Nat} (h : m < n) : (upA n m).setIfInBounds m true = upA n (m + 1) := by
 unfold upA
 rw [List.setIfInBounds_toArray]
 congr 1
 refine List.ext_getElem (by simp) fun i h1 h2 => ?_
 rw [List.getElem_set]
 simp only [List.getElem_map, List.getElem_range]
 by_cases hi : m = i
 ·subst hi; simp
 rw [if_neg hi]
 by_cases h3 : i < m
 ·simp [h3, show i < m + 1 by omega]
 simp [h3, show ¬ i < m + 1 by omega]
section
variable {P : Program} {ops : Array Oper} {Q : Exit -> Act -> World -> Prop} {S : World -> Prop}
def Jam (P : Program) (ops : Array Oper) (Q : Exit -> Act -> World -> Prop) (S : World -> Prop) (m : Nat) (a : Act) (w : World) : Prop := wpAnyH P .any ops Q S (ops.size - m) (upA ops.size m) a w
theorem Yj {id : Nat} {a : Act} {w : World} (hm : P.follows .mixedOrders = true) (hS : S w.drew) (h : S w.drew -> Jam P ops Q S 0 a w.drew) : (Code.region id ops true).wp P Q a w :=
 wp_region_held_drew hm hS fun h1 => by rw [Jlk]; exact h h1
theorem Jw {m : Nat} {oi : Oper} {v : Value} {a : Act} {w : World} (hi : ops[m]? = some oi) (hk : (Region.noSelect ops && Region.free .any ops (upA ops.size m) m && (Region.ready .any ops (upA ops.size m)).contains m) = true)
  (hQ : ∀ c a w, Q (.panic c) (a.put oi.dst v) w -> Q (.panic c) a w) (hy : YieldsIf P ops S oi v a) (hS : S w) (h : Jam P ops Q S (m + 1) (a.put oi.dst v) w) : Jam P ops Q S m a w := by
 have hm : m < ops.size := (Array.getElem?_eq_some_iff.1 hi).1
 simp only [Bool.and_eq_true] at hk
 unfold Jam at *
 rw [show ops.size - m = (ops.size - (m + 1)) + 1 by omega]
 refine wpAnyH_take hi hk.1.1 hk.1.2 hk.2 hQ hy hS ?_
 rw [Jjv hm]
 exact h
theorem Uy {m : Nat} {o : Oper} {a : Act} {w : World} (ho : ops[m]? = some o) (hk : Region.ready .any ops (upA ops.size m) = [m])
  (h : ∀ K' : Act -> World -> Prop, Shut (∀ a w, S w -> (S w -> Jam P ops Q S (m + 1) a w) -> K' a w) -> if Region.wanted o (yielded ops a.tmps) = true then Oper.wp P o a w K' Q else K' (a.put o.dst undef) w) : Jam P ops Q S m a w := by
 have hm : m < ops.size := (Array.getElem?_eq_some_iff.1 ho).1
 unfold Jam at *
 rw [show ops.size - m = (ops.size - (m + 1)) + 1 by omega]
 refine wpAnyH_ready hk (by simp) (AllReadyH.cons ho (fun K' hK => h K' ?_) AllReadyH.nil)
 rw [<- Jjv hm]
 exact hK
theorem Kf {m : Nat} {a : Act} {w : World} (hr : Region.ready .any ops (upA ops.size m) = []) (h : Q .normal a w) : Jam P ops Q S m a w := wpAnyH_done hr h _
end
theorem Jfe (A : Option Addr) (n c B wd : Nat) (x : List (List Rat)) (w : World) (h : Zx w B A n x) (hB : B <= w.heap.size) (hn : n <= 1000) (hwd : 1 <= wd) (hw : ∀ l ∈ x, l.length = wd) :
  Calls Tryz.prog 62 #[.slice A n c] w (Ret (.bool (decide (1 <= n))) w) := by
 have j9 := h.len
 have H := lh h
 have HW := lh hw
 clear h hw
 go_enter Tryz.func62, Tryz.ntmps62
 go_wp2_with fail
 go_loopw [3] (fun i wr => ∃ k : Nat, k <= n /\ i = .int .i64 (k : Int) /\ Below w.heap.size w wr) (fun i _ => n - (intOf i).toNat)
 case atStart => exact ⟨0, by omega, rfl, Below.refl _ _⟩
 case round =>
  obtain ⟨k, hk, rfl, e8⟩ := hrel
  rename World => wr
  by_cases y9 : k < n
  ·have k1 : (k : Int) < (n : Int) := by omega
   have k0 : (0 : Int) < (n : Int) := by omega
   obtain ⟨l, hl⟩ : ∃ l, x[k]? = some l := ⟨_, List.getElem?_eq_getElem (by omega)⟩
   obtain ⟨l0, j0⟩ : ∃ l, x[0]? = some l := ⟨_, List.getElem?_eq_getElem (by omega)⟩
   obtain ⟨ad, A1, m1, c1, rfl, o0, e9, j6⟩ := (H.out.below Xf (e8.mono hB)).at_ hl
   obtain ⟨ad2, A2, m2, c2, p9, o6, j8, o9⟩ := (H.out.below Xf (e8.mono hB)).at_ j0
   obtain rfl := Option.some.inj p9
   have e1 : m1 = wd := by rw [<- j6.len]; exact HW.out l (List.mem_of_getElem? hl)
   have e2 : m2 = wd := by rw [<- o9.len]; exact HW.out l0 (List.mem_of_getElem? j0)
   subst e1
   subst e2
   have q0 : ¬ (m2 : Int) = 0 := by omega
   have q1 : ((m2 : Int) == (m2 : Int)) = true := by simp
   have q2 : ((m2 : Int) != (m2 : Int)) = false := by simp
   have q3 : ((m2 : Int) == 0) = false := by simp; omega
   have q4 : ¬ m2 = 0 := by omega
   obtain ⟨g4, o4, o7, q8⟩ := Xy j8
   obtain ⟨ga, oa, pa⟩ := ad
   have s9 : pa = none := by
    simp [Addr.add] at o7
    exact o7.2.2
   subst s9
   have b3 : At1 wr ga (oa + k) (.slice A1 m2 c1) := At1.mk' (by rw [show (⟨ga, oa, none⟩ : Addr).add k = ⟨ga, oa + k, none⟩ from by unfold Addr.add; by_cases o8 : k = 0 <;> simp [o8]] at e9; exact e9)
   have p7 : (⟨ga, oa, none⟩ : Addr).add 0 = ⟨ga, oa, none⟩ := by unfold Addr.add; simp
   have p8 : (⟨ga, oa, none⟩ : Addr).add k = ⟨ga, oa + k, none⟩ := by unfold Addr.add; by_cases o8 : k = 0 <;> simp [o8]
   have k0' : ¬ n = 0 := by omega
   have k0'' : 0 < n := by omega
   have b4 : At1 wr ga oa (.slice A2 m2 c2) := At1.mk' (by rw [show (⟨ga, oa, none⟩ : Addr).add 0 = ⟨ga, oa, none⟩ by unfold Addr.add; simp] at j8; exact j8)
   clear o7
   have HBL := lh e8
   clear e8 j6 o9 hl j0 o0 o6 e9 j8 q8
   go_upto_region 4 with fail
   obtain ⟨t7, t8⟩ := b3.c2; have c3 := b3.drew; have aA := c3.lt; obtain ⟨u4, x7⟩ := b4.c2; have c4 := b4.drew; have aB := c4.lt; have hc := Ji wr; go_region_held3 (fun w' => w'.cell? ⟨ga, oa + k, none⟩ = some (.slice A1 m2 c1) /\ w'.cell? ⟨ga, oa, none⟩ = some (.slice A2 m2 c2)) (go_keep) (first | (fail))
   all_goals
    go_wp2
    exact ⟨⟨k + 1, by omega, by go_num, HBL.out.trans (hc.mono HBL.out.size)⟩, by simp [intOf]; omega⟩
  obtain rfl : k = n := by omega
  have k1 : ¬ (k : Int) < (k : Int) := by omega
  have HBL := lh e8
  clear e8
  by_cases h1 : 1 <= k
  ·have p1 : (0 : Int) < (k : Int) := by omega
   have p2 : decide (1 <= k) = true := decide_eq_true h1
   rw [p2]
   go_wp2
   go_ret
   exact ⟨by first | rfl | (simp; omega), HBL.out⟩
  have p1 : ¬ (0 : Int) < (k : Int) := by omega
  have p2 : decide (1 <= k) = false := decide_eq_false h1
  rw [p2]
  go_wp2
  go_ret
  exact ⟨by first | rfl | (simp; omega), HBL.out⟩
theorem Jko (A : Option Addr) (n c B wd : Nat) (x : List (List Rat)) (w : World) (h : Zx w B A n x) (hB : B <= w.heap.size) (hn : n <= 300) (hwd : 1 <= wd) (x8 : wd <= 20) (hw : ∀ l ∈ x, l.length = wd) :
  Calls Tryz.prog 26 #[.slice A n c] w (Ret (.bool (decide (1 <= n))) w) := by
 have j9 := h.len
 have HR := lh (fun w' (hb : Below w.heap.size w w') => Jfe A n c B wd x w' (h.below Xf (hb.mono hB)) (nt hB hb.size) (by omega) hwd hw)
 have H := lh h
 have HW := lh hw
 clear h hw
 go_enter Tryz.func26, Tryz.ntmps26
 by_cases h1 : 1 <= n
 ·have p2 : decide (1 <= n) = true := decide_eq_true h1
  rw [p2] at HR ⊢
  have k0 : (0 : Int) < (n : Int) := by omega
  obtain ⟨l0, j0⟩ : ∃ l, x[0]? = some l := ⟨_, List.getElem?_eq_getElem (by omega)⟩
  obtain ⟨ad, A1, m1, c1, rfl, o0, e9, j6⟩ := H.out.at_ j0
  have e1 : m1 = wd := by rw [<- j6.len]; exact HW.out l0 (List.mem_of_getElem? j0)
  subst e1
  obtain ⟨g3, o3, x9, y8⟩ := Xy e9
  rw [x9] at e9
  have b3 := At1.mk' e9
  have q1 : (n : Int) <= 300 := by omega
  have q2 : (m1 : Int) <= 20 := by omega
  clear j6 j0 o0 e9 H HW y8
  go_wp2_with fail
  refine (HR.out _ (Below.refl _ _)).mono ?_
  rintro e w1 ⟨rfl, j7⟩
  have b3 := b3.below j7 b3.lt
  obtain ⟨x0, -⟩ := b3.c2
  have HW1 := lh j7
  clear j7 HR b3
  go_wp2
  go_ret
  exact ⟨by first | rfl | (simp; omega), HW1.out⟩
 have p2 : decide (1 <= n) = false := decide_eq_false h1
 rw [p2] at HR ⊢
 go_wp2_with fail
 refine (HR.out _ (Below.refl _ _)).mono ?_
 rintro e w1 ⟨rfl, j7⟩
 go_wp2
 go_ret
 exact ⟨rfl, j7⟩
theorem Tryz.eltM : Elt Tryz.prog 24 42 (.slice none 0 0) 24 := ⟨Tryz.underlying24, by kernel_rfl, by kernel_rfl⟩
