import Derived.Test.YtcoloflmigcphaaGreatDoorRefDiv
import Derived.Test.YtcoloflmigcphaaGreatDoorWholeM
import Derived.Deep.LoopGhost
namespace Go.Proofs.YtcoloflmigcphaaGreatDoor
set_option maxRecDepth 100000
set_option maxHeartbeats 1000000
open Go.RowKit
set_option linter.all false
set_option maxRecDepth 1000000 in
theorem Je3 (a b B B' : Nat) (va vb : Value) (w : World) (ha : IsN w B va a) (hb : IsN w B' vb b) (hB : B <= w.heap.size) (cG : (Jd a).length <= 17179869184) (o9 : (Jd b).length <= 17179869184) (y9 : a < b) :
  Calls Tryz.prog 131 #[va, vb] w (Jjc (a / b) (a % b) w) := by
 have j0 := Jai a b B B' va vb w ha hb (by omega) (by omega)
 rw [Zq y9] at j0
 rw [Nat.div_eq_of_lt y9, Nat.mod_eq_of_lt y9]
 have HC := lh j0
 have HA := lh ha
 clear j0 ha hb
 go_enter Tryz.func131, Tryz.ntmps131
 go_wp2_with fail
 refine HC.out.mono ?_
 rintro e w1 ⟨rfl, j6⟩
 go_wp2
 go_ret2
 exact ⟨_, _, rfl, IsN.nil _ _, (HA.out.next hB j6).more (nt hB j6.size), j6⟩
set_option maxRecDepth 1000000 in
theorem Je2 (a b B B' : Nat) (va vb : Value) (w : World) (ha : IsN w B va a) (hb : IsN w B' vb b) (hB : B <= w.heap.size) (s9 : B' <= w.heap.size) (cG : (Jd a).length <= 17179869184) (y9 : b <= a) (aA : b ≠ 0) (aF : b < 4294967296) :
  Calls Tryz.prog 131 #[va, vb] w (Jjc (a / b) (a % b) w) := by
 have o9 : (Jd b).length = 1 := by rw [Jeb b aF aA]; rfl
 have j0 := Jai a b B B' va vb w ha hb (by omega) (by omega)
 obtain ⟨cv, aG⟩ : ∃ cv, Qz a b = cv := ⟨_, rfl⟩
 have bI : ¬ cv < 0 := by
  rw [<- aG]
  unfold Qz
  rw [if_neg (by omega)]
  split <;> decide
 rw [aG] at j0
 have cJ := fun w h hB => Jma a b B va w h hB (by omega) (by omega) aF
 have p9 := Nat.mod_lt a (show 0 < b by omega)
 have aR := fun w => Ja8 (a % b) w (by omega)
 obtain ⟨A', c', rfl, bJ, bK, aB, _⟩ := hb
 rw [o9] at j0 aB
 rw [o9]
 rw [Jeb b aF aA] at aB
 have HC := lh j0
 have HA := lh ha
 have HO := lh cJ
 have HF := lh aR
 have HR := lh aB
 have hw : IntKind.u64.wrap ((a % b : Nat) : Int) = ((a % b : Nat) : Int) := by rw [Jf, Nat.mod_eq_of_lt (by omega)]
 clear j0 cJ aR ha o9 bJ aB aG
 generalize a % b = r at *
 generalize a / b = q at *
 go_enter Tryz.func131, Tryz.ntmps131
 go_wp2_with fail
 refine HC.out.mono ?_
 rintro e w1 ⟨rfl, j6⟩
 have aS := HR.out.below (j6.mono s9)
 obtain ⟨ad, x, hA, bL, hx, aT⟩ := aS.atf (show 0 < 1 by omega)
 obtain rfl : b = x := by simpa using hx
 subst hA
 have bM : w1.cell? ad = some (.int .u32 (b : Int)) := aT
 clear hx aS HR HC aT
 go_wp2_with fail
 refine (HO.out w1 (HA.out.next hB j6) (nt hB j6.size)).mono ?_
 rintro e w2 ⟨vq, rfl, aH, j7⟩
 go_wp2_with fail
 refine (HF.out w2).mono ?_
 rintro e w3 ⟨vr, rfl, aC, j8⟩
 go_wp2
 go_ret2
 exact ⟨_, _, rfl, (aH.next zd j8).more j8.size, aC, Ja (Ja j6 j7) j8⟩
theorem Je4 (a b B B' : Nat) (va vb : Value) (w : World) (ha : IsN w B va a) (hb : IsN w B' vb b) (hB : B <= w.heap.size) (s9 : B' <= w.heap.size) (cG : (Jd a).length <= 17179869184) (o9 : (Jd b).length <= 17179869184) (aA : b ≠ 0) :
  Calls Tryz.prog 131 #[va, vb] w (Jjc (a / b) (a % b) w) := by
 rcases Nat.lt_or_ge a b with h | h
 ·exact Je3 a b B B' va vb w ha hb hB cG o9 h
 rcases Nat.lt_or_ge b 4294967296 with h2 | h2
 ·exact Je2 a b B B' va vb w ha hb hB s9 cG h aA h2
 refine Jgh a b B B' va vb w ha hb hB s9 cG h ?_
 rcases Nat.lt_or_ge (Jd b).length 2 with h3 | h3
 ·exfalso
  have h4 := Xz b
  have h5 : (4294967296 : Nat) ^ (Jd b).length <= 4294967296 ^ 1 := Nat.pow_le_pow_right (by omega) (by omega)
  omega
 exact h3
theorem Jmb (a b B B' : Nat) (va vb : Value) (w : World) (ha : IsN w B va a) (hb : IsN w B' vb b) (hB : B <= w.heap.size) (s9 : B' <= w.heap.size) (cG : (Jd a).length <= 17179869184) (o9 : (Jd b).length <= 17179869184) :
  Calls Tryz.prog 130 #[va, vb] w (Jkl (Nat.gcd a b) w) := by
 have HA := lh (ha.more hB)
 have HB := lh (hb.more s9)
 clear ha hb
 go_enter Tryz.func130, Tryz.ntmps130
 go_wp2_with fail
 go_loopg [0, 1, 5, 6] b (fun y v0 v1 _ _ wr => ∃ x : Nat, Hid (Nat.gcd x y = Nat.gcd a b) /\ Hid (IsN wr wr.heap.size v0 x) /\ Hid (IsN wr wr.heap.size v1 y) /\ Hid ((Jd x).length <= 17179869184) /\ Hid ((Jd y).length <= 17179869184) /\ Below w.heap.size w wr)
 case atStart => exact ⟨a, lh rfl, HA, HB, lh cG, lh o9, Below.refl _ _⟩
 case round =>
  obtain ⟨x, HG, HX, HY, HLX, HLY, cK⟩ := hrel
  clear HA HB
  by_cases h0 : gk = 0
  ·subst h0
   obtain ⟨A', c', h1, h2, h3, h4, _⟩ := HY.out
   rw [Qi] at h1
   simp only [List.length_nil] at h1
   subst h1
   have HGG : Hid (x = Nat.gcd a b) := lh (by rw [<- HG.out, Nat.gcd_zero_right])
   clear h4 h2
   go_wp2
   go_ret
   exact ⟨_, rfl, by rw [<- HGG.out]; exact HX.out, cK⟩
  have aU := Je4 x gk wr.heap.size wr.heap.size _ _ wr HX.out HY.out zd zd HLX.out HLY.out h0
  have p9 := Nat.mod_lt x (show 0 < gk by omega)
  have aV : Nat.gcd gk (x % gk) = Nat.gcd a b := by rw [<- HG.out, Nat.gcd_comm x gk, Nat.gcd_rec gk x]; exact Nat.gcd_comm _ _
  have HG2 := lh aV
  have HM := lh p9
  obtain ⟨A', c', h1, h2, h3, h4, _⟩ := HY.out
  obtain ⟨L, hL⟩ : ∃ L, (Jd gk).length = L := ⟨_, rfl⟩
  have cA : 0 < L := by
   rcases Nat.eq_zero_or_pos L with h | h
   ·exact absurd ((Ks gk).1 (by omega)) h0
   exact h
  rw [hL] at h1
  subst h1
  have HD := lh aU
  have cB : (0 : Int) < (L : Int) := by omega
  clear aU aV p9 hL h4 h2 h0
  go_wp2_with fail
  refine HD.out.mono ?_
  rintro e w2 ⟨vq, vr, rfl, aH, aC, j7⟩
  have aW := (HY.out.next zd j7).more j7.size
  have HV := lh aC
  have HY2 := lh aW
  clear aH aC aW
  go_wp2
  go_roundg (x % gk)
  case rel =>
   refine ⟨gk, HG2, HY2, HV, HLY, lh ?_, Ja cK j7⟩
   exact nt (Zv (Nat.le_of_lt HM.out)) HLY.out
  case measure => exact HM.out
def IsI (w : World) (B : Nat) (V : Value) (z : Int) : Prop := ∃ v, V = .agg #[.bool (decide (z < 0)), v] /\ IsN w B v z.natAbs
def IsQ (w : World) (B : Nat) (V : Value) (q : Rat) : Prop := ∃ vn vd, V = .agg #[.bool (decide (q.num < 0)), vn, vd] /\ IsN w B vn q.num.natAbs /\ IsN w B vd q.den
theorem IsI.next {w w' : World} {B : Nat} {V : Value} {z : Int} (h : IsI w B V z) (hB : B <= w.heap.size) (hb : Below w.heap.size w w') : IsI w' B V z := by
 obtain ⟨v, h1, h2⟩ := h
 exact ⟨v, h1, h2.next hB hb⟩
theorem IsI.more {w : World} {B B' : Nat} {V : Value} {z : Int} (h : IsI w B V z) (hB : B <= B') : IsI w B' V z := by
 obtain ⟨v, h1, h2⟩ := h
 exact ⟨v, h1, h2.more hB⟩
theorem IsQ.next {w w' : World} {B : Nat} {V : Value} {q : Rat} (h : IsQ w B V q) (hB : B <= w.heap.size) (hb : Below w.heap.size w w') : IsQ w' B V q := by
 obtain ⟨v, v', h1, h2, h3⟩ := h
 exact ⟨v, v', h1, h2.next hB hb, h3.next hB hb⟩
theorem IsQ.more {w : World} {B B' : Nat} {V : Value} {q : Rat} (h : IsQ w B V q) (hB : B <= B') : IsQ w B' V q := by
 obtain ⟨v, v', h1, h2, h3⟩ := h
 exact ⟨v, v', h1, h2.more hB, h3.more hB⟩
def Jiv (z : Int) (w : World) (e : Ending) (w' : World) : Prop := ∃ v, e = .returned v /\ IsI w' w'.heap.size v z /\ Below w.heap.size w w'
def Jmv (q : Rat) (w : World) (e : Ending) (w' : World) : Prop := ∃ v, e = .returned v /\ IsQ w' w'.heap.size v q /\ Below w.heap.size w w'
theorem Jbw {w : World} {B n g : Nat} {A : Option Addr} {l : List Nat} {t : TypeId} {cs : Array Value} (h : Reads w B 1 A n (l.map Ju)) (hn : 0 < n) (hb : Blk w g t cs) (aD : ∀ i x : Nat, cs[i]? ≠ some (Ju x)) : ∀ ad, A = some ad -> ad.block ≠ g := by
 intro ad hA e
 obtain ⟨ad', x, aX, _, _, hc⟩ := h.atf hn
 rw [hA] at aX
 obtain rfl := Option.some.inj aX
 have h0 : ad.add 0 = ad := rfl
 rw [h0] at hc
 have hs : ad.spot = none := by
  unfold World.cell? at hc
  split at hc
  ·split at hc
   ·cases hc
   rename_i h1
   simpa using h1
  cases hc
 have h2 := hb.cell ad.off
 have h3 : (⟨g, ad.off, none⟩ : Addr) = ad := by
  cases ad with
  | mk b o sp =>
   simp at hs e
   subst hs
   subst e
   rfl
 rw [h3, hc] at h2
 exact aD ad.off x h2.symm
theorem IsN.far {w : World} {B n g : Nat} {v : Value} {t : TypeId} {cs : Array Value} (h : IsN w B v n) (hb : Blk w g t cs) (aD : ∀ i x : Nat, cs[i]? ≠ some (Ju x)) (i : Nat) (u : Value) : IsN (w.setCell ⟨g, i, none⟩ u) B v n := by
 obtain ⟨A, c, h1, h2, h3, h4, h5⟩ := h
 rcases Nat.eq_zero_or_pos (Jd n).length with h0 | h0
 ·exact ⟨A, c, h1, h2, h3, ⟨h4.1, fun hn => absurd hn (by omega)⟩, fun hn => absurd hn (by omega)⟩
 refine ⟨A, c, h1, h2, h3, h4.setFar (fun ad hA => Jbw h4 h0 hb aD ad hA) u, fun hp ad hA => ?_⟩
 obtain ⟨cs', fr, h6⟩ := h5 hp ad hA
 exact ⟨cs', fr, (Below.heap_setCell w _ _ ad.block (Jbw h4 h0 hb aD ad hA)).trans h6⟩
theorem IsN.set2 {w : World} {B n g : Nat} {v : Value} {t : TypeId} {a b : Value} (h : IsN w B v n) (hb : Blk w g t #[a, b]) (ha : ∀ x, a ≠ Ju x) (cL : ∀ x, b ≠ Ju x) (x y : Value) (hx : ∀ k, x ≠ Ju k) : IsN ((w.setCell ⟨g, 0, none⟩ x).setCell ⟨g, 1, none⟩ y) B v n := by
 have c1 : ∀ a b : Value, (∀ x, a ≠ Ju x) -> (∀ x, b ≠ Ju x) -> ∀ i k : Nat, (#[a, b] : Array Value)[i]? ≠ some (Ju k) := by
  intro a b h1 h2 i k e
  rcases i with _ | _ | i
  ·simp at e; exact h1 k e
  ·simp at e; exact h2 k e
  simp at e
 have b1 := hb.set_ 0 x
 simp at b1
 exact (h.far hb (c1 a b ha cL) 0 x).far b1 (c1 x b hx cL) 1 y
theorem IsN.set3 {w : World} {B n g : Nat} {v : Value} {t : TypeId} {a b c : Value} (h : IsN w B v n) (hb : Blk w g t #[a, b, c]) (ha : ∀ x, a ≠ Ju x) (cL : ∀ x, b ≠ Ju x) (hc : ∀ x, c ≠ Ju x) (x y z : Value) (hx : ∀ k, x ≠ Ju k) (hy : ∀ k, y ≠ Ju k) :
  IsN (((w.setCell ⟨g, 0, none⟩ x).setCell ⟨g, 1, none⟩ y).setCell ⟨g, 2, none⟩ z) B v n := by
 have c1 : ∀ a b c : Value, (∀ x, a ≠ Ju x) -> (∀ x, b ≠ Ju x) -> (∀ x, c ≠ Ju x) -> ∀ i k : Nat, (#[a, b, c] : Array Value)[i]? ≠ some (Ju k) := by
  intro a b c h1 h2 h3 i k e
  rcases i with _ | _ | _ | i
  ·simp at e; exact h1 k e
  ·simp at e; exact h2 k e
  ·simp at e; exact h3 k e
  simp at e
 have b1 := hb.set_ 0 x
 simp at b1
 have b2 := b1.set_ 1 y
 simp at b2
 exact ((h.far hb (c1 a b c ha cL hc) 0 x).far b1 (c1 x b c hx cL hc) 1 y).far b2 (c1 x y c hx hy hc) 2 z
theorem IsN.form {w : World} {B n : Nat} {v : Value} (h : IsN w B v n) : ∃ A l c, v = .slice A l c := by
 obtain ⟨A, c, h1, _⟩ := h
 exact ⟨A, _, c, h1⟩
theorem IsN.ne {w : World} {B n : Nat} {v : Value} (h : IsN w B v n) : ∀ k, v ≠ Ju k := by
 obtain ⟨A, c, h1, _⟩ := h
 intro k e
 rw [h1] at e
 cases e
theorem Xx (b : Bool) : ∀ k, Value.bool b ≠ Ju k := fun k e => by cases e
theorem Qs (A : Option Addr) (n c : Nat) : ∀ k, Value.slice A n c ≠ Ju k := fun k e => by cases e
theorem Jm1 (neg : Bool) (a B : Nat) (va : Value) (w : World) (h : IsN w B va a) (hB : B <= w.heap.size) :
  Calls Tryz.prog 115 #[.bool neg, va] w fun e w' => e = .returned (.agg #[.bool (decide (signed neg a < 0)), va]) /\ Below w.heap.size w w' := by
 obtain ⟨A, c, rfl, bN, bO, hr, _⟩ := h
 obtain ⟨n, hn⟩ : ∃ n, (Jd a).length = n := ⟨_, rfl⟩
 have hz := Ks a
 rw [hn] at hz
 rw [hn]
 clear hr bN
 have aY : decide (signed neg a < 0) = (neg && decide (0 < n)) := by
  unfold signed
  cases neg <;> simp <;> omega
 rw [aY]
 clear hn hz aY
 cases neg
 ·go_enter Tryz.func115, Tryz.ntmps115
  go_wp2
  refine bodyPost_ret (v := .agg #[.bool false, .slice A n c]) (by simp [results, Tryz.results115, go_sem]) rfl ?_
  exact ⟨rfl, by go_grown⟩
 by_cases h : 0 < n
 ·have h1 : decide (0 < n) = true := decide_eq_true h
  have h2 : (0 : Int) < (n : Int) := by omega
  go_enter Tryz.func115, Tryz.ntmps115
  go_wp2
  refine bodyPost_ret (v := .agg #[.bool true, .slice A n c]) (by simp [results, Tryz.results115, go_sem, h]) rfl ?_
  exact ⟨by rw [h1]; rfl, by go_grown⟩
 obtain rfl : n = 0 := by omega
 clear h
 go_enter Tryz.func115, Tryz.ntmps115
 go_wp2
 refine bodyPost_ret (v := .agg #[.bool false, .slice A 0 c]) (by simp [results, Tryz.results115, go_sem]) rfl ?_
 exact ⟨rfl, by go_grown⟩
theorem Jh1 (n d : Int) (hd : d ≠ 0) : (Rat.divInt n d).den = d.natAbs / Nat.gcd n.natAbs d.natAbs /\ (Rat.divInt n d).num.natAbs = n.natAbs / Nat.gcd n.natAbs d.natAbs /\
  decide ((Rat.divInt n d).num < 0) = decide (signed (decide (n < 0) != decide (d < 0)) (n.natAbs / Nat.gcd n.natAbs d.natAbs) < 0) := by
 have aZ : 0 < Nat.gcd n.natAbs d.natAbs := Nat.gcd_pos_of_pos_right _ (by omega)
 obtain ⟨k, hk⟩ := Nat.gcd_dvd_left n.natAbs d.natAbs
 obtain ⟨m, hm⟩ := Nat.gcd_dvd_right n.natAbs d.natAbs
 have bP : n.natAbs / Nat.gcd n.natAbs d.natAbs = k := Nat.div_eq_of_eq_mul_right aZ hk
 have hq : ∀ z : Int, z.natAbs = n.natAbs -> z / ((Nat.gcd n.natAbs d.natAbs : Nat) : Int) = if z < 0 then -(k : Int) else (k : Int) := by
  intro z hz
  generalize Nat.gcd n.natAbs d.natAbs = g at *
  by_cases h : z < 0
  ·rw [if_pos h]
   have e : z = (g : Int) * (-(k : Int)) := by
    rw [Int.mul_neg, <- Int.natCast_mul, <- hk]
    omega
   rw [e, Int.mul_ediv_cancel_left _ (by omega)]
  rw [if_neg h]
  have e : z = (g : Int) * (k : Int) := by
   rw [<- Int.natCast_mul, <- hk]
   omega
  rw [e, Int.mul_ediv_cancel_left _ (by omega)]
 rw [bP]
 have cN : n.natAbs = 0 ↔ k = 0 := by
  constructor
  ·intro h
   rw [h] at hk aZ
   rcases Nat.mul_eq_zero.1 hk.symm with h1 | h1
   ·omega
   exact h1
  intro h
  rw [h, Nat.mul_zero] at hk
  exact hk
 rcases Int.lt_or_gt_of_ne hd with h | h
 ·have e1 : Rat.divInt n d = mkRat (-n) d.natAbs := by
   cases d with
   | ofNat d => exact absurd h (by simp)
   | negSucc d =>
    show Rat.normalize (-n) (d + 1) (Nat.succ_ne_zero d) = _
    rw [Rat.normalize_eq_mkRat]
    rfl
  rw [e1, Rat.num_mkRat, Rat.den_mkRat, if_neg (by omega), if_neg (by omega), Int.natAbs_neg, Nat.gcd_comm d.natAbs, hq (-n) (by omega)]
  refine ⟨rfl, by split <;> omega, ?_⟩
  unfold signed
  have aI : decide (d < 0) = true := decide_eq_true h
  rw [aI]
  by_cases hn : n < 0
  ·have : decide (n < 0) = true := decide_eq_true hn
   rw [this, if_neg (by omega)]
   simp
  have : decide (n < 0) = false := decide_eq_false hn
  rw [this]
  simp
  split <;> omega
 have e1 : Rat.divInt n d = mkRat n d.natAbs := by
  cases d with
  | ofNat d => rfl
  | negSucc d => exact absurd h (by simp)
 rw [e1, Rat.num_mkRat, Rat.den_mkRat, if_neg (by omega), if_neg (by omega), Nat.gcd_comm d.natAbs, hq n rfl]
 refine ⟨rfl, by split <;> omega, ?_⟩
 unfold signed
 have aI : decide (d < 0) = false := decide_eq_false (by omega)
 rw [aI]
 by_cases hn : n < 0
 ·have : decide (n < 0) = true := decide_eq_true hn
  rw [this, if_pos hn]
  simp
 have : decide (n < 0) = false := decide_eq_false hn
 rw [this, if_neg hn]
 simp
theorem Jk1 (n d : Int) (B : Nat) (V1 V2 : Value) (w : World) (h1 : IsI w B V1 n) (h2 : IsI w B V2 d) (aJ : B <= w.heap.size) (bA : (Jd n.natAbs).length <= 17179869184) (aK : (Jd d.natAbs).length <= 17179869184) (hd : d ≠ 0) :
  Calls Tryz.prog 96 #[V1, V2] w (Jmv (Rat.divInt n d) w) := by
 obtain ⟨v1, rfl, bB⟩ := h1
 obtain ⟨v2, rfl, bC⟩ := h2
 obtain ⟨p1, p2, p3⟩ := Jh1 n d hd
 obtain ⟨G, hG⟩ : ∃ G, Nat.gcd n.natAbs d.natAbs = G := ⟨_, rfl⟩
 have bD : G ≠ 0 := by rw [<- hG]; have := Nat.gcd_pos_of_pos_right n.natAbs (show 0 < d.natAbs by omega); omega
 have bE : (Jd G).length <= 17179869184 := by
  refine nt (Zv ?_) aK
  rw [<- hG]
  exact Nat.gcd_le_right _ (by omega)
 rw [hG] at p1 p2 p3
 obtain ⟨q, hq⟩ : ∃ q, Rat.divInt n d = q := ⟨_, rfl⟩
 rw [hq] at p1 p2 p3
 rw [hq]
 generalize bQ : n.natAbs = a at *
 generalize hda : d.natAbs = b at *
 generalize decide (n < 0) = ng at *
 generalize decide (d < 0) = nd at *
 have HP := lh (And.intro p1 (And.intro p2 p3))
 have H1 := lh bB
 have H2 := lh bC
 have HG := lh hG
 clear p1 p2 p3 bQ hda hq bB bC hG hd
 obtain ⟨b0, b1, b2, hB, hZ⟩ := bx3 w 26 #[.bool ng, v1] 26 #[.bool nd, v2] 28 #[.bool false, .slice none 0 0, .slice none 0 0]
 go_enter Tryz.func96, Tryz.ntmps96
 go_wp2_with fail
 generalize (((w.alloc (.cells #[.bool ng, v1] 26)).alloc (.cells #[.bool nd, v2] 26)).alloc (.cells #[.bool false, .slice none 0 0, .slice none 0 0] 28)) = W at *
 have n1 := H1.out.next aJ hB
 have n2 := H2.out.next aJ hB
 have cI : B <= W.heap.size := nt aJ hB.size
 refine (Jmb a b B B v1 v2 W n1 n2 cI cI bA aK).mono ?_
 rintro e w1 ⟨vg, rfl, hg, j6⟩
 rw [HG.out] at hg
 have bF := Ja hB j6
 (try clear j9 bR); obtain ⟨b0, j9, bR⟩ := b0.zc2 j6; (try clear cE cF); obtain ⟨b1, cE, cF⟩ := b1.zc2 j6
 have b2 := b2.below j6 b2.lt
 have n1 := n1.next cI j6
 have n2 := n2.next cI j6
 have o0 : B <= w1.heap.size := nt cI j6.size
 clear j6 H1 H2 HG cI
 go_wp2_with fail
 refine (Je4 a G B w1.heap.size v1 vg w1 n1 hg o0 zd bA bE bD).mono ?_
 rintro e w2 ⟨va, va', rfl, ha, _, j7⟩
 have bG := Ja bF j7
 (try clear j9 bR); obtain ⟨b0, j9, bR⟩ := b0.zc2 j7; (try clear cE cF); obtain ⟨b1, cE, cF⟩ := b1.zc2 j7
 have b2 := b2.below j7 b2.lt
 have n2 := n2.next o0 j7
 have hg := hg.next zd j7
 have aL : B <= w2.heap.size := nt o0 j7.size
 have bH := j7.size
 clear j7 n1 bF o0
 go_wp2_with fail
 refine (Je4 b G B w1.heap.size v2 vg w2 n2 hg aL bH aK bE bD).mono ?_
 rintro e w3 ⟨vb, vb', rfl, aE, _, j8⟩
 have bS := Ja bG j8
 (try clear j9 bR); obtain ⟨b0, j9, bR⟩ := b0.zc2 j8; (try clear cE cF); obtain ⟨b1, cE, cF⟩ := b1.zc2 j8
 have b2 := b2.below j8 b2.lt
 have ha := ha.next zd j8
 have aM := j8.size
 clear j8 n2 hg bG bH
 go_wp2_with fail
 refine (Jm1 (ng != nd) (a / G) w2.heap.size va w3 ha aM).mono ?_
 rintro e w4 ⟨rfl, cH⟩
 have bT := Ja bS cH
 have b2 := b2.below cH b2.lt
 have ha := (ha.next aM cH).more (nt aM cH.size)
 have aE := (aE.next zd cH).more cH.size
 rw [<- HP.out.2.2]
 obtain ⟨nq, aN⟩ : ∃ nq, decide (q.num < 0) = nq := ⟨_, rfl⟩
 rw [aN]
 have HNQ := lh aN
 clear aN cH
 obtain ⟨A1, l1, c1, rfl⟩ := ha.form
 obtain ⟨A2, l2, c2, rfl⟩ := aE.form
 obtain ⟨bU, bV, bW, bX, bY, bZ, aO, aP, aQ⟩ := b2.f3
 go_wp2
 refine bodyPost_ret (v := .agg #[.bool nq, .slice A1 l1 c1, .slice A2 l2 c2]) (by simp [results, Tryz.results96, go_sem, aO, aP, aQ]) rfl ?_
 have cD := b2.lt
 refine ⟨_, rfl, ⟨_, _, by rw [HNQ.out], ?_, ?_⟩, Kw bT (by omega) _ _ _⟩
 ·rw [HP.out.2.1, World.size_setCell, World.size_setCell, World.size_setCell]
  exact ha.set3 b2 (Xx _) (Qs _ _ _) (Qs _ _ _) _ _ _ (Xx _) ha.ne
 rw [HP.out.1, World.size_setCell, World.size_setCell, World.size_setCell]
 exact aE.set3 b2 (Xx _) (Qs _ _ _) (Qs _ _ _) _ _ _ (Xx _) ha.ne
