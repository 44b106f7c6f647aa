import Derived.Test.YtacbcaebaomglaaGreatDoorRefDiv
import Derived.Test.YtacbcaebaomglaaGreatDoorWholeM
import Derived.Deep.LoopGhost
namespace Go.Proofs.YtacbcaebaomglaaGreatDoor
set_option maxRecDepth 100000
set_option maxHeartbeats 1000000
open Go.RowKit
set_option linter.all false
set_option maxRecDepth 1000000 in
theorem Jgc (a b B B' : Nat) (va vb : Value) (w : World) (ha : IsN w B va a) (hb : IsN w B' vb b) (hB : B <= w.heap.size) (o8 : (Jc a).length <= 17179869184) (o7 : (Jc b).length <= 17179869184) (t8 : a < b) :
  Calls Tryz.prog 110 #[va, vb] w (Jka (a / b) (a % b) w) := by
 have e8 := Jav a b B B' va vb w ha hb (by omega) (by omega)
 rw [Zu t8] at e8
 rw [Nat.div_eq_of_lt t8, Nat.mod_eq_of_lt t8]
 have HC := lh e8
 have HA := lh ha
 clear e8 ha hb
 go_enter Tryz.func110, Tryz.ntmps110
 go_wp2_with fail
 refine HC.out.mono ?_
 rintro e w1 ⟨rfl, e9⟩
 go_wp2
 go_ret2
 exact ⟨_, _, rfl, IsN.nil _ _, (HA.out.next hB e9).more (nt hB e9.size), e9⟩
set_option maxRecDepth 1000000 in
theorem Jgb (a b B B' : Nat) (va vb : Value) (w : World) (ha : IsN w B va a) (hb : IsN w B' vb b) (hB : B <= w.heap.size) (p8 : B' <= w.heap.size) (o8 : (Jc a).length <= 17179869184) (t8 : b <= a) (u4 : b ≠ 0) (y9 : b < 4294967296) :
  Calls Tryz.prog 110 #[va, vb] w (Jka (a / b) (a % b) w) := by
 have o7 : (Jc b).length = 1 := by rw [Jfn b y9 u4]; rfl
 have e8 := Jav a b B B' va vb w ha hb (by omega) (by omega)
 obtain ⟨cv, aA⟩ : ∃ cv, Qx a b = cv := ⟨_, rfl⟩
 have bB : ¬ cv < 0 := by
  rw [<- aA]
  unfold Qx
  rw [if_neg (by omega)]
  split <;> decide
 rw [aA] at e8
 have q8 := fun w h hB => Jna a b B va w h hB (by omega) (by omega) y9
 have o9 := Nat.mod_lt a (show 0 < b by omega)
 have aL := fun w => Jat (a % b) w (by omega)
 obtain ⟨A', c', rfl, bC, bD, x7, _⟩ := hb
 rw [o7] at e8 x7
 rw [o7]
 rw [Jfn b y9 u4] at x7
 have HC := lh e8
 have HA := lh ha
 have HO := lh q8
 have HF := lh aL
 have HR := lh x7
 have hw : IntKind.u64.wrap ((a % b : Nat) : Int) = ((a % b : Nat) : Int) := by rw [Jg, Nat.mod_eq_of_lt (by omega)]
 clear e8 q8 aL ha o7 bC x7 aA
 generalize a % b = r at *
 generalize a / b = q at *
 go_enter Tryz.func110, Tryz.ntmps110
 go_wp2_with fail
 refine HC.out.mono ?_
 rintro e w1 ⟨rfl, e9⟩
 have aM := HR.out.below (e9.mono p8)
 obtain ⟨ad, x, hA, bE, hx, aN⟩ := aM.atf (show 0 < 1 by omega)
 obtain rfl : b = x := by simpa using hx
 subst hA
 have bF : w1.cell? ad = some (.int .u32 (b : Int)) := aN
 clear hx aM HR HC aN
 go_wp2_with fail
 refine (HO.out w1 (HA.out.next hB e9) (nt hB e9.size)).mono ?_
 rintro e w2 ⟨vq, rfl, aB, j0⟩
 go_wp2_with fail
 refine (HF.out w2).mono ?_
 rintro e w3 ⟨vr, rfl, x8, j6⟩
 go_wp2
 go_ret2
 exact ⟨_, _, rfl, (aB.next zd j6).more j6.size, x8, Ja (Ja e9 j0) j6⟩
theorem Jgd (a b B B' : Nat) (va vb : Value) (w : World) (ha : IsN w B va a) (hb : IsN w B' vb b) (hB : B <= w.heap.size) (p8 : B' <= w.heap.size) (o8 : (Jc a).length <= 17179869184) (o7 : (Jc b).length <= 17179869184) (u4 : b ≠ 0) :
  Calls Tryz.prog 110 #[va, vb] w (Jka (a / b) (a % b) w) := by
 rcases Nat.lt_or_ge a b with h | h
 ·exact Jgc a b B B' va vb w ha hb hB o8 o7 h
 rcases Nat.lt_or_ge b 4294967296 with h2 | h2
 ·exact Jgb a b B B' va vb w ha hb hB p8 o8 h u4 h2
 refine Jhr a b B B' va vb w ha hb hB p8 o8 h ?_
 rcases Nat.lt_or_ge (Jc b).length 2 with h3 | h3
 ·exfalso
  have h4 := Xj b
  have h5 : (4294967296 : Nat) ^ (Jc b).length <= 4294967296 ^ 1 := Nat.pow_le_pow_right (by omega) (by omega)
  omega
 exact h3
theorem Jnd (a b B B' : Nat) (va vb : Value) (w : World) (ha : IsN w B va a) (hb : IsN w B' vb b) (hB : B <= w.heap.size) (p8 : B' <= w.heap.size) (o8 : (Jc a).length <= 17179869184) (o7 : (Jc b).length <= 17179869184) :
  Calls Tryz.prog 109 #[va, vb] w (Jbm (Nat.gcd a b) w) := by
 have HA := lh (ha.more hB)
 have HB := lh (hb.more p8)
 clear ha hb
 go_enter Tryz.func109, Tryz.ntmps109
 go_wp2_with fail
 go_loopg [0, 1, 5, 6] b (fun y v0 v1 _ _ wr => ∃ x : Nat, Hid (Nat.gcd x y = Nat.gcd a b) /\ Hid (IsN wr wr.heap.size v0 x) /\ Hid (IsN wr wr.heap.size v1 y) /\ Hid ((Jc x).length <= 17179869184) /\ Hid ((Jc y).length <= 17179869184) /\ Below w.heap.size w wr)
 case atStart => exact ⟨a, lh rfl, HA, HB, lh o8, lh o7, Below.refl _ _⟩
 case round =>
  obtain ⟨x, HG, HX, HY, HLX, HLY, s9⟩ := hrel
  clear HA HB
  by_cases h0 : gk = 0
  ·subst h0
   obtain ⟨A', c', h1, h2, h3, h4, _⟩ := HY.out
   rw [Ql] at h1
   simp only [List.length_nil] at h1
   subst h1
   have HGG : Hid (x = Nat.gcd a b) := lh (by rw [<- HG.out, Nat.gcd_zero_right])
   clear h4 h2
   go_wp2
   go_ret
   exact ⟨_, rfl, by rw [<- HGG.out]; exact HX.out, s9⟩
  have aO := Jgd x gk wr.heap.size wr.heap.size _ _ wr HX.out HY.out zd zd HLX.out HLY.out h0
  have o9 := Nat.mod_lt x (show 0 < gk by omega)
  have aP : Nat.gcd gk (x % gk) = Nat.gcd a b := by rw [<- HG.out, Nat.gcd_comm x gk, Nat.gcd_rec gk x]; exact Nat.gcd_comm _ _
  have HG2 := lh aP
  have HM := lh o9
  obtain ⟨A', c', h1, h2, h3, h4, _⟩ := HY.out
  obtain ⟨L, hL⟩ : ∃ L, (Jc gk).length = L := ⟨_, rfl⟩
  have bS : 0 < L := by
   rcases Nat.eq_zero_or_pos L with h | h
   ·exact absurd ((Kn gk).1 (by omega)) h0
   exact h
  rw [hL] at h1
  subst h1
  have HD := lh aO
  have bT : (0 : Int) < (L : Int) := by omega
  clear aO aP o9 hL h4 h2 h0
  go_wp2_with fail
  refine HD.out.mono ?_
  rintro e w2 ⟨vq, vr, rfl, aB, x8, j0⟩
  have aQ := (HY.out.next zd j0).more j0.size
  have HV := lh x8
  have HY2 := lh aQ
  clear aB x8 aQ
  go_wp2
  go_roundg (x % gk)
  case rel =>
   refine ⟨gk, HG2, HY2, HV, HLY, lh ?_, Ja s9 j0⟩
   exact nt (Yc (Nat.le_of_lt HM.out)) HLY.out
  case measure => exact HM.out
def IsI (w : World) (B : Nat) (V : Value) (z : Int) : Prop := ∃ v, V = .agg #[.bool (decide (z < 0)), v] /\ IsN w B v z.natAbs
def IsQ (w : World) (B : Nat) (V : Value) (q : Rat) : Prop := ∃ vn vd, V = .agg #[.bool (decide (q.num < 0)), vn, vd] /\ IsN w B vn q.num.natAbs /\ IsN w B vd q.den
theorem IsI.next {w w' : World} {B : Nat} {V : Value} {z : Int} (h : IsI w B V z) (hB : B <= w.heap.size) (hb : Below w.heap.size w w') : IsI w' B V z := by
 obtain ⟨v, h1, h2⟩ := h
 exact ⟨v, h1, h2.next hB hb⟩
theorem IsI.more {w : World} {B B' : Nat} {V : Value} {z : Int} (h : IsI w B V z) (hB : B <= B') : IsI w B' V z := by
 obtain ⟨v, h1, h2⟩ := h
 exact ⟨v, h1, h2.more hB⟩
theorem IsQ.next {w w' : World} {B : Nat} {V : Value} {q : Rat} (h : IsQ w B V q) (hB : B <= w.heap.size) (hb : Below w.heap.size w w') : IsQ w' B V q := by
 obtain ⟨v, v', h1, h2, h3⟩ := h
 exact ⟨v, v', h1, h2.next hB hb, h3.next hB hb⟩
theorem IsQ.more {w : World} {B B' : Nat} {V : Value} {q : Rat} (h : IsQ w B V q) (hB : B <= B') : IsQ w B' V q := by
 obtain ⟨v, v', h1, h2, h3⟩ := h
 exact ⟨v, v', h1, h2.more hB, h3.more hB⟩
def Jal (z : Int) (w : World) (e : Ending) (w' : World) : Prop := ∃ v, e = .returned v /\ IsI w' w'.heap.size v z /\ Below w.heap.size w w'
def Jak (q : Rat) (w : World) (e : Ending) (w' : World) : Prop := ∃ v, e = .returned v /\ IsQ w' w'.heap.size v q /\ Below w.heap.size w w'
theorem Jae {w : World} {B n g : Nat} {A : Option Addr} {l : List Nat} {t : TypeId} {cs : Array Value} (h : Reads w B 1 A n (l.map Jo)) (hn : 0 < n) (hb : Blk w g t cs) (x9 : ∀ i x : Nat, cs[i]? ≠ some (Jo x)) : ∀ ad, A = some ad -> ad.block ≠ g := by
 intro ad hA e
 obtain ⟨ad', x, aR, _, _, hc⟩ := h.atf hn
 rw [hA] at aR
 obtain rfl := Option.some.inj aR
 have h0 : ad.add 0 = ad := rfl
 rw [h0] at hc
 have hs : ad.spot = none := by
  unfold World.cell? at hc
  split at hc
  ·split at hc
   ·cases hc
   rename_i h1
   simpa using h1
  cases hc
 have h2 := hb.cell ad.off
 have h3 : (⟨g, ad.off, none⟩ : Addr) = ad := by
  cases ad with
  | mk b o sp =>
   simp at hs e
   subst hs
   subst e
   rfl
 rw [h3, hc] at h2
 exact x9 ad.off x h2.symm
theorem IsN.far {w : World} {B n g : Nat} {v : Value} {t : TypeId} {cs : Array Value} (h : IsN w B v n) (hb : Blk w g t cs) (x9 : ∀ i x : Nat, cs[i]? ≠ some (Jo x)) (i : Nat) (u : Value) : IsN (w.setCell ⟨g, i, none⟩ u) B v n := by
 obtain ⟨A, c, h1, h2, h3, h4, h5⟩ := h
 rcases Nat.eq_zero_or_pos (Jc n).length with h0 | h0
 ·exact ⟨A, c, h1, h2, h3, ⟨h4.1, fun hn => absurd hn (by omega)⟩, fun hn => absurd hn (by omega)⟩
 refine ⟨A, c, h1, h2, h3, h4.setFar (fun ad hA => Jae h4 h0 hb x9 ad hA) u, fun hp ad hA => ?_⟩
 obtain ⟨cs', fr, h6⟩ := h5 hp ad hA
 exact ⟨cs', fr, (Below.heap_setCell w _ _ ad.block (Jae h4 h0 hb x9 ad hA)).trans h6⟩
theorem IsN.set2 {w : World} {B n g : Nat} {v : Value} {t : TypeId} {a b : Value} (h : IsN w B v n) (hb : Blk w g t #[a, b]) (ha : ∀ x, a ≠ Jo x) (t7 : ∀ x, b ≠ Jo x) (x y : Value) (hx : ∀ k, x ≠ Jo k) : IsN ((w.setCell ⟨g, 0, none⟩ x).setCell ⟨g, 1, none⟩ y) B v n := by
 have c1 : ∀ a b : Value, (∀ x, a ≠ Jo x) -> (∀ x, b ≠ Jo x) -> ∀ i k : Nat, (#[a, b] : Array Value)[i]? ≠ some (Jo k) := by
  intro a b h1 h2 i k e
  rcases i with _ | _ | i
  ·simp at e; exact h1 k e
  ·simp at e; exact h2 k e
  simp at e
 have b1 := hb.set_ 0 x
 simp at b1
 exact (h.far hb (c1 a b ha t7) 0 x).far b1 (c1 x b hx t7) 1 y
theorem IsN.set3 {w : World} {B n g : Nat} {v : Value} {t : TypeId} {a b c : Value} (h : IsN w B v n) (hb : Blk w g t #[a, b, c]) (ha : ∀ x, a ≠ Jo x) (t7 : ∀ x, b ≠ Jo x) (hc : ∀ x, c ≠ Jo x) (x y z : Value) (hx : ∀ k, x ≠ Jo k) (hy : ∀ k, y ≠ Jo k) :
  IsN (((w.setCell ⟨g, 0, none⟩ x).setCell ⟨g, 1, none⟩ y).setCell ⟨g, 2, none⟩ z) B v n := by
 have c1 : ∀ a b c : Value, (∀ x, a ≠ Jo x) -> (∀ x, b ≠ Jo x) -> (∀ x, c ≠ Jo x) -> ∀ i k : Nat, (#[a, b, c] : Array Value)[i]? ≠ some (Jo k) := by
  intro a b c h1 h2 h3 i k e
  rcases i with _ | _ | _ | i
  ·simp at e; exact h1 k e
  ·simp at e; exact h2 k e
  ·simp at e; exact h3 k e
  simp at e
 have b1 := hb.set_ 0 x
 simp at b1
 have b2 := b1.set_ 1 y
 simp at b2
 exact ((h.far hb (c1 a b c ha t7 hc) 0 x).far b1 (c1 x b c hx t7 hc) 1 y).far b2 (c1 x y c hx hy hc) 2 z
theorem IsN.form {w : World} {B n : Nat} {v : Value} (h : IsN w B v n) : ∃ A l c, v = .slice A l c := by
 obtain ⟨A, c, h1, _⟩ := h
 exact ⟨A, _, c, h1⟩
theorem IsN.ne {w : World} {B n : Nat} {v : Value} (h : IsN w B v n) : ∀ k, v ≠ Jo k := by
 obtain ⟨A, c, h1, _⟩ := h
 intro k e
 rw [h1] at e
 cases e
theorem Zl (b : Bool) : ∀ k, Value.bool b ≠ Jo k := fun k e => by cases e
theorem Qv (A : Option Addr) (n c : Nat) : ∀ k, Value.slice A n c ≠ Jo k := fun k e => by cases e
theorem Jnx (neg : Bool) (a B : Nat) (va : Value) (w : World) (h : IsN w B va a) (hB : B <= w.heap.size) :
  Calls Tryz.prog 70 #[.bool neg, va] w fun e w' => e = .returned (.agg #[.bool (decide (signed neg a < 0)), va]) /\ Below w.heap.size w w' := by
 obtain ⟨A, c, rfl, bG, bH, hr, _⟩ := h
 obtain ⟨n, hn⟩ : ∃ n, (Jc a).length = n := ⟨_, rfl⟩
 have hz := Kn a
 rw [hn] at hz
 rw [hn]
 clear hr bG
 have aS : decide (signed neg a < 0) = (neg && decide (0 < n)) := by
  unfold signed
  cases neg <;> simp <;> omega
 rw [aS]
 clear hn hz aS
 cases neg
 ·go_enter Tryz.func70, Tryz.ntmps70
  go_wp2
  refine bodyPost_ret (v := .agg #[.bool false, .slice A n c]) (by simp [results, Tryz.results70, go_sem]) rfl ?_
  exact ⟨rfl, by go_grown⟩
 by_cases h : 0 < n
 ·have h1 : decide (0 < n) = true := decide_eq_true h
  have h2 : (0 : Int) < (n : Int) := by omega
  go_enter Tryz.func70, Tryz.ntmps70
  go_wp2
  refine bodyPost_ret (v := .agg #[.bool true, .slice A n c]) (by simp [results, Tryz.results70, go_sem, h]) rfl ?_
  exact ⟨by rw [h1]; rfl, by go_grown⟩
 obtain rfl : n = 0 := by omega
 clear h
 go_enter Tryz.func70, Tryz.ntmps70
 go_wp2
 refine bodyPost_ret (v := .agg #[.bool false, .slice A 0 c]) (by simp [results, Tryz.results70, go_sem]) rfl ?_
 exact ⟨rfl, by go_grown⟩
theorem Jd2 (n d : Int) (hd : d ≠ 0) : (Rat.divInt n d).den = d.natAbs / Nat.gcd n.natAbs d.natAbs /\ (Rat.divInt n d).num.natAbs = n.natAbs / Nat.gcd n.natAbs d.natAbs /\
  decide ((Rat.divInt n d).num < 0) = decide (signed (decide (n < 0) != decide (d < 0)) (n.natAbs / Nat.gcd n.natAbs d.natAbs) < 0) := by
 have aT : 0 < Nat.gcd n.natAbs d.natAbs := Nat.gcd_pos_of_pos_right _ (by omega)
 obtain ⟨k, hk⟩ := Nat.gcd_dvd_left n.natAbs d.natAbs
 obtain ⟨m, hm⟩ := Nat.gcd_dvd_right n.natAbs d.natAbs
 have bI : n.natAbs / Nat.gcd n.natAbs d.natAbs = k := Nat.div_eq_of_eq_mul_right aT hk
 have hq : ∀ z : Int, z.natAbs = n.natAbs -> z / ((Nat.gcd n.natAbs d.natAbs : Nat) : Int) = if z < 0 then -(k : Int) else (k : Int) := by
  intro z hz
  generalize Nat.gcd n.natAbs d.natAbs = g at *
  by_cases h : z < 0
  ·rw [if_pos h]
   have e : z = (g : Int) * (-(k : Int)) := by
    rw [Int.mul_neg, <- Int.natCast_mul, <- hk]
    omega
   rw [e, Int.mul_ediv_cancel_left _ (by omega)]
  rw [if_neg h]
  have e : z = (g : Int) * (k : Int) := by
   rw [<- Int.natCast_mul, <- hk]
   omega
  rw [e, Int.mul_ediv_cancel_left _ (by omega)]
 rw [bI]
 have bU : n.natAbs = 0 ↔ k = 0 := by
  constructor
  ·intro h
   rw [h] at hk aT
   rcases Nat.mul_eq_zero.1 hk.symm with h1 | h1
   ·omega
   exact h1
  intro h
  rw [h, Nat.mul_zero] at hk
  exact hk
 rcases Int.lt_or_gt_of_ne hd with h | h
 ·have e1 : Rat.divInt n d = mkRat (-n) d.natAbs := by
   cases d with
   | ofNat d => exact absurd h (by simp)
   | negSucc d =>
    show Rat.normalize (-n) (d + 1) (Nat.succ_ne_zero d) = _
    rw [Rat.normalize_eq_mkRat]
    rfl
  rw [e1, Rat.num_mkRat, Rat.den_mkRat, if_neg (by omega), if_neg (by omega), Int.natAbs_neg, Nat.gcd_comm d.natAbs, hq (-n) (by omega)]
  refine ⟨rfl, by split <;> omega, ?_⟩
  unfold signed
  have aC : decide (d < 0) = true := decide_eq_true h
  rw [aC]
  by_cases hn : n < 0
  ·have : decide (n < 0) = true := decide_eq_true hn
   rw [this, if_neg (by omega)]
   simp
  have : decide (n < 0) = false := decide_eq_false hn
  rw [this]
  simp
  split <;> omega
 have e1 : Rat.divInt n d = mkRat n d.natAbs := by
  cases d with
  | ofNat d => rfl
  | negSucc d => exact absurd h (by simp)
 rw [e1, Rat.num_mkRat, Rat.den_mkRat, if_neg (by omega), if_neg (by omega), Nat.gcd_comm d.natAbs, hq n rfl]
 refine ⟨rfl, by split <;> omega, ?_⟩
 unfold signed
 have aC : decide (d < 0) = false := decide_eq_false (by omega)
 rw [aC]
 by_cases hn : n < 0
 ·have : decide (n < 0) = true := decide_eq_true hn
  rw [this, if_pos hn]
  simp
 have : decide (n < 0) = false := decide_eq_false hn
 rw [this, if_neg hn]
 simp
theorem Jbr (n d : Int) (B : Nat) (V1 V2 : Value) (w : World) (h1 : IsI w B V1 n) (h2 : IsI w B V2 d) (aD : B <= w.heap.size) (aU : (Jc n.natAbs).length <= 17179869184) (aE : (Jc d.natAbs).length <= 17179869184) (hd : d ≠ 0) :
  Calls Tryz.prog 63 #[V1, V2] w (Jak (Rat.divInt n d) w) := by
 obtain ⟨v1, rfl, aV⟩ := h1
 obtain ⟨v2, rfl, hn2⟩ := h2
 obtain ⟨p1, p2, p3⟩ := Jd2 n d hd
 obtain ⟨G, hG⟩ : ∃ G, Nat.gcd n.natAbs d.natAbs = G := ⟨_, rfl⟩
 have aW : G ≠ 0 := by rw [<- hG]; have := Nat.gcd_pos_of_pos_right n.natAbs (show 0 < d.natAbs by omega); omega
 have aX : (Jc G).length <= 17179869184 := by
  refine nt (Yc ?_) aE
  rw [<- hG]
  exact Nat.gcd_le_right _ (by omega)
 rw [hG] at p1 p2 p3
 obtain ⟨q, hq⟩ : ∃ q, Rat.divInt n d = q := ⟨_, rfl⟩
 rw [hq] at p1 p2 p3
 rw [hq]
 generalize bJ : n.natAbs = a at *
 generalize hda : d.natAbs = b at *
 generalize decide (n < 0) = ng at *
 generalize decide (d < 0) = nd at *
 have HP := lh (And.intro p1 (And.intro p2 p3))
 have H1 := lh aV
 have H2 := lh hn2
 have HG := lh hG
 clear p1 p2 p3 bJ hda hq aV hn2 hG hd
 obtain ⟨b0, b1, b2, hB, hZ⟩ := bx3 w 54 #[.bool ng, v1] 54 #[.bool nd, v2] 56 #[.bool false, .slice none 0 0, .slice none 0 0]
 go_enter Tryz.func63, Tryz.ntmps63
 go_wp2_with fail
 generalize (((w.alloc (.cells #[.bool ng, v1] 54)).alloc (.cells #[.bool nd, v2] 54)).alloc (.cells #[.bool false, .slice none 0 0, .slice none 0 0] 56)) = W at *
 have n1 := H1.out.next aD hB
 have n2 := H2.out.next aD hB
 have p9 : B <= W.heap.size := nt aD hB.size
 refine (Jnd a b B B v1 v2 W n1 n2 p9 p9 aU aE).mono ?_
 rintro e w1 ⟨vg, rfl, hg, e9⟩
 rw [HG.out] at hg
 have aY := Ja hB e9
 (try clear j7 j8); obtain ⟨b0, j7, j8⟩ := b0.zc2 e9; (try clear j9 o0); obtain ⟨b1, j9, o0⟩ := b1.zc2 e9
 have b2 := b2.below e9 b2.lt
 have n1 := n1.next p9 e9
 have n2 := n2.next p9 e9
 have o6 : B <= w1.heap.size := nt p9 e9.size
 clear e9 H1 H2 HG p9
 go_wp2_with fail
 refine (Jgd a G B w1.heap.size v1 vg w1 n1 hg o6 zd aU aX aW).mono ?_
 rintro e w2 ⟨va, va', rfl, ha, _, j0⟩
 have aZ := Ja aY j0
 (try clear j7 j8); obtain ⟨b0, j7, j8⟩ := b0.zc2 j0; (try clear j9 o0); obtain ⟨b1, j9, o0⟩ := b1.zc2 j0
 have b2 := b2.below j0 b2.lt
 have n2 := n2.next o6 j0
 have hg := hg.next zd j0
 have aF : B <= w2.heap.size := nt o6 j0.size
 have bA := j0.size
 clear j0 n1 aY o6
 go_wp2_with fail
 refine (Jgd b G B w1.heap.size v2 vg w2 n2 hg aF bA aE aX aW).mono ?_
 rintro e w3 ⟨vb, vb', rfl, y8, _, j6⟩
 have bK := Ja aZ j6
 (try clear j7 j8); obtain ⟨b0, j7, j8⟩ := b0.zc2 j6; (try clear j9 o0); obtain ⟨b1, j9, o0⟩ := b1.zc2 j6
 have b2 := b2.below j6 b2.lt
 have ha := ha.next zd j6
 have aG := j6.size
 clear j6 n2 hg aZ bA
 go_wp2_with fail
 refine (Jnx (ng != nd) (a / G) w2.heap.size va w3 ha aG).mono ?_
 rintro e w4 ⟨rfl, p7⟩
 have bL := Ja bK p7
 have b2 := b2.below p7 b2.lt
 have ha := (ha.next aG p7).more (nt aG p7.size)
 have y8 := (y8.next zd p7).more p7.size
 rw [<- HP.out.2.2]
 obtain ⟨nq, aH⟩ : ∃ nq, decide (q.num < 0) = nq := ⟨_, rfl⟩
 rw [aH]
 have HNQ := lh aH
 clear aH p7
 obtain ⟨A1, l1, c1, rfl⟩ := ha.form
 obtain ⟨A2, l2, c2, rfl⟩ := y8.form
 obtain ⟨bM, bN, bO, bP, bQ, bR, aI, aJ, aK⟩ := b2.f3
 go_wp2
 refine bodyPost_ret (v := .agg #[.bool nq, .slice A1 l1 c1, .slice A2 l2 c2]) (by simp [results, Tryz.results63, go_sem, aI, aJ, aK]) rfl ?_
 have bV := b2.lt
 refine ⟨_, rfl, ⟨_, _, by rw [HNQ.out], ?_, ?_⟩, Ki bL (by omega) _ _ _⟩
 ·rw [HP.out.2.1, World.size_setCell, World.size_setCell, World.size_setCell]
  exact ha.set3 b2 (Zl _) (Qv _ _ _) (Qv _ _ _) _ _ _ (Zl _) ha.ne
 rw [HP.out.1, World.size_setCell, World.size_setCell, World.size_setCell]
 exact y8.set3 b2 (Zl _) (Qv _ _ _) (Qv _ _ _) _ _ _ (Zl _) ha.ne
