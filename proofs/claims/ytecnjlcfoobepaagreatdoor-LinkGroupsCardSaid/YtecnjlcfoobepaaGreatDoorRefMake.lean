import Derived.Test.YtecnjlcfoobepaaGreatDoorRefDiv
import Derived.Test.YtecnjlcfoobepaaGreatDoorWholeM
import Derived.Deep.LoopGhost
namespace Go.Proofs.YtecnjlcfoobepaaGreatDoor
set_option maxRecDepth 100000
set_option maxHeartbeats 1000000
open Go.RowKit
set_option linter.all false
set_option maxRecDepth 1000000 in
theorem Jhb (a b B B' : Nat) (va vb : Value) (w : World) (ha : IsN w B va a) (hb : IsN w B' vb b) (hB : B <= w.heap.size) (x9 : (Jc a).length <= 17179869184) (x8 : (Jc b).length <= 17179869184) (aF : a < b) :
  Calls Tryz.prog 114 #[va, vb] w (Jmq (a / b) (a % b) w) := by
 have j6 := Jba a b B B' va vb w ha hb (by omega) (by omega)
 rw [Zs aF] at j6
 rw [Nat.div_eq_of_lt aF, Nat.mod_eq_of_lt aF]
 have HC := lh j6
 have HA := lh ha
 clear j6 ha hb
 go_enter Tryz.func114, Tryz.ntmps114
 go_wp2_with fail
 refine HC.out.mono ?_
 rintro e w1 ⟨rfl, j7⟩
 go_wp2
 go_ret2
 exact ⟨_, _, rfl, IsN.nil _ _, (HA.out.next hB j7).more (nt hB j7.size), j7⟩
set_option maxRecDepth 1000000 in
theorem Jha (a b B B' : Nat) (va vb : Value) (w : World) (ha : IsN w B va a) (hb : IsN w B' vb b) (hB : B <= w.heap.size) (aA : B' <= w.heap.size) (x9 : (Jc a).length <= 17179869184) (aF : b <= a) (aG : b ≠ 0) (aL : b < 4294967296) :
  Calls Tryz.prog 114 #[va, vb] w (Jmq (a / b) (a % b) w) := by
 have x8 : (Jc b).length = 1 := by rw [Jgb b aL aG]; rfl
 have j6 := Jba a b B B' va vb w ha hb (by omega) (by omega)
 obtain ⟨cv, aM⟩ : ∃ cv, Xd a b = cv := ⟨_, rfl⟩
 have bO : ¬ cv < 0 := by
  rw [<- aM]
  unfold Xd
  rw [if_neg (by omega)]
  split <;> decide
 rw [aM] at j6
 have aC := fun w h hB => Jq0 a b B va w h hB (by omega) (by omega) aL
 have y8 := Nat.mod_lt a (show 0 < b by omega)
 have aX := fun w => Ja8 (a % b) w (by omega)
 obtain ⟨A', c', rfl, bP, bQ, aH, _⟩ := hb
 rw [x8] at j6 aH
 rw [x8]
 rw [Jgb b aL aG] at aH
 have HC := lh j6
 have HA := lh ha
 have HO := lh aC
 have HF := lh aX
 have HR := lh aH
 have hw : IntKind.u64.wrap ((a % b : Nat) : Int) = ((a % b : Nat) : Int) := by rw [Ji, Nat.mod_eq_of_lt (by omega)]
 clear j6 aC aX ha x8 bP aH aM
 generalize a % b = r at *
 generalize a / b = q at *
 go_enter Tryz.func114, Tryz.ntmps114
 go_wp2_with fail
 refine HC.out.mono ?_
 rintro e w1 ⟨rfl, j7⟩
 have aY := HR.out.below (j7.mono aA)
 obtain ⟨ad, x, hA, bR, hx, aZ⟩ := aY.atf (show 0 < 1 by omega)
 obtain rfl : b = x := by simpa using hx
 subst hA
 have bS : w1.cell? ad = some (.int .u32 (b : Int)) := aZ
 clear hx aY HR HC aZ
 go_wp2_with fail
 refine (HO.out w1 (HA.out.next hB j7) (nt hB j7.size)).mono ?_
 rintro e w2 ⟨vq, rfl, aN, j8⟩
 go_wp2_with fail
 refine (HF.out w2).mono ?_
 rintro e w3 ⟨vr, rfl, aI, j9⟩
 go_wp2
 go_ret2
 exact ⟨_, _, rfl, (aN.next zd j9).more j9.size, aI, Ja (Ja j7 j8) j9⟩
theorem Jhc (a b B B' : Nat) (va vb : Value) (w : World) (ha : IsN w B va a) (hb : IsN w B' vb b) (hB : B <= w.heap.size) (aA : B' <= w.heap.size) (x9 : (Jc a).length <= 17179869184) (x8 : (Jc b).length <= 17179869184) (aG : b ≠ 0) :
  Calls Tryz.prog 114 #[va, vb] w (Jmq (a / b) (a % b) w) := by
 rcases Nat.lt_or_ge a b with h | h
 ·exact Jhb a b B B' va vb w ha hb hB x9 x8 h
 rcases Nat.lt_or_ge b 4294967296 with h2 | h2
 ·exact Jha a b B B' va vb w ha hb hB aA x9 h aG h2
 refine Jis a b B B' va vb w ha hb hB aA x9 h ?_
 rcases Nat.lt_or_ge (Jc b).length 2 with h3 | h3
 ·exfalso
  have h4 := Xk b
  have h5 : (4294967296 : Nat) ^ (Jc b).length <= 4294967296 ^ 1 := Nat.pow_le_pow_right (by omega) (by omega)
  omega
 exact h3
theorem Jq3 (a b B B' : Nat) (va vb : Value) (w : World) (ha : IsN w B va a) (hb : IsN w B' vb b) (hB : B <= w.heap.size) (aA : B' <= w.heap.size) (x9 : (Jc a).length <= 17179869184) (x8 : (Jc b).length <= 17179869184) :
  Calls Tryz.prog 113 #[va, vb] w (Jb4 (Nat.gcd a b) w) := by
 have HA := lh (ha.more hB)
 have HB := lh (hb.more aA)
 clear ha hb
 go_enter Tryz.func113, Tryz.ntmps113
 go_wp2_with fail
 go_loopg [0, 1, 5, 6] b (fun y v0 v1 _ _ wr => ∃ x : Nat, Hid (Nat.gcd x y = Nat.gcd a b) /\ Hid (IsN wr wr.heap.size v0 x) /\ Hid (IsN wr wr.heap.size v1 y) /\ Hid ((Jc x).length <= 17179869184) /\ Hid ((Jc y).length <= 17179869184) /\ Below w.heap.size w wr)
 case atStart => exact ⟨a, lh rfl, HA, HB, lh x9, lh x8, Below.refl _ _⟩
 case round =>
  obtain ⟨x, HG, HX, HY, HLX, HLY, aD⟩ := hrel
  clear HA HB
  by_cases h0 : gk = 0
  ·subst h0
   obtain ⟨A', c', h1, h2, h3, h4, _⟩ := HY.out
   rw [Qt] at h1
   simp only [List.length_nil] at h1
   subst h1
   have HGG : Hid (x = Nat.gcd a b) := lh (by rw [<- HG.out, Nat.gcd_zero_right])
   clear h4 h2
   go_wp2
   go_ret
   exact ⟨_, rfl, by rw [<- HGG.out]; exact HX.out, aD⟩
  have bA := Jhc x gk wr.heap.size wr.heap.size _ _ wr HX.out HY.out zd zd HLX.out HLY.out h0
  have y8 := Nat.mod_lt x (show 0 < gk by omega)
  have bB : Nat.gcd gk (x % gk) = Nat.gcd a b := by rw [<- HG.out, Nat.gcd_comm x gk, Nat.gcd_rec gk x]; exact Nat.gcd_comm _ _
  have HG2 := lh bB
  have HM := lh y8
  obtain ⟨A', c', h1, h2, h3, h4, _⟩ := HY.out
  obtain ⟨L, hL⟩ : ∃ L, (Jc gk).length = L := ⟨_, rfl⟩
  have cF : 0 < L := by
   rcases Nat.eq_zero_or_pos L with h | h
   ·exact absurd ((Ko gk).1 (by omega)) h0
   exact h
  rw [hL] at h1
  subst h1
  have HD := lh bA
  have cG : (0 : Int) < (L : Int) := by omega
  clear bA bB y8 hL h4 h2 h0
  go_wp2_with fail
  refine HD.out.mono ?_
  rintro e w2 ⟨vq, vr, rfl, aN, aI, j8⟩
  have bC := (HY.out.next zd j8).more j8.size
  have HV := lh aI
  have HY2 := lh bC
  clear aN aI bC
  go_wp2
  go_roundg (x % gk)
  case rel =>
   refine ⟨gk, HG2, HY2, HV, HLY, lh ?_, Ja aD j8⟩
   exact nt (Zx (Nat.le_of_lt HM.out)) HLY.out
  case measure => exact HM.out
def IsI (w : World) (B : Nat) (V : Value) (z : Int) : Prop := ∃ v, V = .agg #[.bool (decide (z < 0)), v] /\ IsN w B v z.natAbs
def IsQ (w : World) (B : Nat) (V : Value) (q : Rat) : Prop := ∃ vn vd, V = .agg #[.bool (decide (q.num < 0)), vn, vd] /\ IsN w B vn q.num.natAbs /\ IsN w B vd q.den
theorem IsI.next {w w' : World} {B : Nat} {V : Value} {z : Int} (h : IsI w B V z) (hB : B <= w.heap.size) (hb : Below w.heap.size w w') : IsI w' B V z := by
 obtain ⟨v, h1, h2⟩ := h
 exact ⟨v, h1, h2.next hB hb⟩
theorem IsI.more {w : World} {B B' : Nat} {V : Value} {z : Int} (h : IsI w B V z) (hB : B <= B') : IsI w B' V z := by
 obtain ⟨v, h1, h2⟩ := h
 exact ⟨v, h1, h2.more hB⟩
theorem IsQ.next {w w' : World} {B : Nat} {V : Value} {q : Rat} (h : IsQ w B V q) (hB : B <= w.heap.size) (hb : Below w.heap.size w w') : IsQ w' B V q := by
 obtain ⟨v, v', h1, h2, h3⟩ := h
 exact ⟨v, v', h1, h2.next hB hb, h3.next hB hb⟩
theorem IsQ.more {w : World} {B B' : Nat} {V : Value} {q : Rat} (h : IsQ w B V q) (hB : B <= B') : IsQ w B' V q := by
 obtain ⟨v, v', h1, h2, h3⟩ := h
 exact ⟨v, v', h1, h2.more hB, h3.more hB⟩
def Ja1 (z : Int) (w : World) (e : Ending) (w' : World) : Prop := ∃ v, e = .returned v /\ IsI w' w'.heap.size v z /\ Below w.heap.size w w'
def Vz (q : Rat) (w : World) (e : Ending) (w' : World) : Prop := ∃ v, e = .returned v /\ IsQ w' w'.heap.size v q /\ Below w.heap.size w w'
theorem Jas {w : World} {B n g : Nat} {A : Option Addr} {l : List Nat} {t : TypeId} {cs : Array Value} (h : Reads w B 1 A n (l.map Jr)) (hn : 0 < n) (hb : Blk w g t cs) (aJ : ∀ i x : Nat, cs[i]? ≠ some (Jr x)) : ∀ ad, A = some ad -> ad.block ≠ g := by
 intro ad hA e
 obtain ⟨ad', x, bD, _, _, hc⟩ := h.atf hn
 rw [hA] at bD
 obtain rfl := Option.some.inj bD
 have h0 : ad.add 0 = ad := rfl
 rw [h0] at hc
 have hs : ad.spot = none := by
  unfold World.cell? at hc
  split at hc
  ·split at hc
   ·cases hc
   rename_i h1
   simpa using h1
  cases hc
 have h2 := hb.cell ad.off
 have h3 : (⟨g, ad.off, none⟩ : Addr) = ad := by
  cases ad with
  | mk b o sp =>
   simp at hs e
   subst hs
   subst e
   rfl
 rw [h3, hc] at h2
 exact aJ ad.off x h2.symm
theorem IsN.far {w : World} {B n g : Nat} {v : Value} {t : TypeId} {cs : Array Value} (h : IsN w B v n) (hb : Blk w g t cs) (aJ : ∀ i x : Nat, cs[i]? ≠ some (Jr x)) (i : Nat) (u : Value) : IsN (w.setCell ⟨g, i, none⟩ u) B v n := by
 obtain ⟨A, c, h1, h2, h3, h4, h5⟩ := h
 rcases Nat.eq_zero_or_pos (Jc n).length with h0 | h0
 ·exact ⟨A, c, h1, h2, h3, ⟨h4.1, fun hn => absurd hn (by omega)⟩, fun hn => absurd hn (by omega)⟩
 refine ⟨A, c, h1, h2, h3, h4.setFar (fun ad hA => Jas h4 h0 hb aJ ad hA) u, fun hp ad hA => ?_⟩
 obtain ⟨cs', fr, h6⟩ := h5 hp ad hA
 exact ⟨cs', fr, (Below.heap_setCell w _ _ ad.block (Jas h4 h0 hb aJ ad hA)).trans h6⟩
theorem IsN.set2 {w : World} {B n g : Nat} {v : Value} {t : TypeId} {a b : Value} (h : IsN w B v n) (hb : Blk w g t #[a, b]) (ha : ∀ x, a ≠ Jr x) (aE : ∀ x, b ≠ Jr x) (x y : Value) (hx : ∀ k, x ≠ Jr k) : IsN ((w.setCell ⟨g, 0, none⟩ x).setCell ⟨g, 1, none⟩ y) B v n := by
 have c1 : ∀ a b : Value, (∀ x, a ≠ Jr x) -> (∀ x, b ≠ Jr x) -> ∀ i k : Nat, (#[a, b] : Array Value)[i]? ≠ some (Jr k) := by
  intro a b h1 h2 i k e
  rcases i with _ | _ | i
  ·simp at e; exact h1 k e
  ·simp at e; exact h2 k e
  simp at e
 have b1 := hb.set_ 0 x
 simp at b1
 exact (h.far hb (c1 a b ha aE) 0 x).far b1 (c1 x b hx aE) 1 y
theorem IsN.set3 {w : World} {B n g : Nat} {v : Value} {t : TypeId} {a b c : Value} (h : IsN w B v n) (hb : Blk w g t #[a, b, c]) (ha : ∀ x, a ≠ Jr x) (aE : ∀ x, b ≠ Jr x) (hc : ∀ x, c ≠ Jr x) (x y z : Value) (hx : ∀ k, x ≠ Jr k) (hy : ∀ k, y ≠ Jr k) :
  IsN (((w.setCell ⟨g, 0, none⟩ x).setCell ⟨g, 1, none⟩ y).setCell ⟨g, 2, none⟩ z) B v n := by
 have c1 : ∀ a b c : Value, (∀ x, a ≠ Jr x) -> (∀ x, b ≠ Jr x) -> (∀ x, c ≠ Jr x) -> ∀ i k : Nat, (#[a, b, c] : Array Value)[i]? ≠ some (Jr k) := by
  intro a b c h1 h2 h3 i k e
  rcases i with _ | _ | _ | i
  ·simp at e; exact h1 k e
  ·simp at e; exact h2 k e
  ·simp at e; exact h3 k e
  simp at e
 have b1 := hb.set_ 0 x
 simp at b1
 have b2 := b1.set_ 1 y
 simp at b2
 exact ((h.far hb (c1 a b c ha aE hc) 0 x).far b1 (c1 x b c hx aE hc) 1 y).far b2 (c1 x y c hx hy hc) 2 z
theorem IsN.form {w : World} {B n : Nat} {v : Value} (h : IsN w B v n) : ∃ A l c, v = .slice A l c := by
 obtain ⟨A, c, h1, _⟩ := h
 exact ⟨A, _, c, h1⟩
theorem IsN.ne {w : World} {B n : Nat} {v : Value} (h : IsN w B v n) : ∀ k, v ≠ Jr k := by
 obtain ⟨A, c, h1, _⟩ := h
 intro k e
 rw [h1] at e
 cases e
theorem Zg (b : Bool) : ∀ k, Value.bool b ≠ Jr k := fun k e => by cases e
theorem Xa (A : Option Addr) (n c : Nat) : ∀ k, Value.slice A n c ≠ Jr k := fun k e => by cases e
theorem Jry (neg : Bool) (a B : Nat) (va : Value) (w : World) (h : IsN w B va a) (hB : B <= w.heap.size) :
  Calls Tryz.prog 115 #[.bool neg, va] w fun e w' => e = .returned (.agg #[.bool (decide (signed neg a < 0)), va]) /\ Below w.heap.size w w' := by
 obtain ⟨A, c, rfl, bT, bU, hr, _⟩ := h
 obtain ⟨n, hn⟩ : ∃ n, (Jc a).length = n := ⟨_, rfl⟩
 have hz := Ko a
 rw [hn] at hz
 rw [hn]
 clear hr bT
 have bE : decide (signed neg a < 0) = (neg && decide (0 < n)) := by
  unfold signed
  cases neg <;> simp <;> omega
 rw [bE]
 clear hn hz bE
 cases neg
 ·go_enter Tryz.func115, Tryz.ntmps115
  go_wp2
  refine bodyPost_ret (v := .agg #[.bool false, .slice A n c]) (by simp [results, Tryz.results115, go_sem]) rfl ?_
  exact ⟨rfl, by go_grown⟩
 by_cases h : 0 < n
 ·have h1 : decide (0 < n) = true := decide_eq_true h
  have h2 : (0 : Int) < (n : Int) := by omega
  go_enter Tryz.func115, Tryz.ntmps115
  go_wp2
  refine bodyPost_ret (v := .agg #[.bool true, .slice A n c]) (by simp [results, Tryz.results115, go_sem, h]) rfl ?_
  exact ⟨by rw [h1]; rfl, by go_grown⟩
 obtain rfl : n = 0 := by omega
 clear h
 go_enter Tryz.func115, Tryz.ntmps115
 go_wp2
 refine bodyPost_ret (v := .agg #[.bool false, .slice A 0 c]) (by simp [results, Tryz.results115, go_sem]) rfl ?_
 exact ⟨rfl, by go_grown⟩
theorem Jet (n d : Int) (hd : d ≠ 0) : (Rat.divInt n d).den = d.natAbs / Nat.gcd n.natAbs d.natAbs /\ (Rat.divInt n d).num.natAbs = n.natAbs / Nat.gcd n.natAbs d.natAbs /\
  decide ((Rat.divInt n d).num < 0) = decide (signed (decide (n < 0) != decide (d < 0)) (n.natAbs / Nat.gcd n.natAbs d.natAbs) < 0) := by
 have bF : 0 < Nat.gcd n.natAbs d.natAbs := Nat.gcd_pos_of_pos_right _ (by omega)
 obtain ⟨k, hk⟩ := Nat.gcd_dvd_left n.natAbs d.natAbs
 obtain ⟨m, hm⟩ := Nat.gcd_dvd_right n.natAbs d.natAbs
 have bV : n.natAbs / Nat.gcd n.natAbs d.natAbs = k := Nat.div_eq_of_eq_mul_right bF hk
 have hq : ∀ z : Int, z.natAbs = n.natAbs -> z / ((Nat.gcd n.natAbs d.natAbs : Nat) : Int) = if z < 0 then -(k : Int) else (k : Int) := by
  intro z hz
  generalize Nat.gcd n.natAbs d.natAbs = g at *
  by_cases h : z < 0
  ·rw [if_pos h]
   have e : z = (g : Int) * (-(k : Int)) := by
    rw [Int.mul_neg, <- Int.natCast_mul, <- hk]
    omega
   rw [e, Int.mul_ediv_cancel_left _ (by omega)]
  rw [if_neg h]
  have e : z = (g : Int) * (k : Int) := by
   rw [<- Int.natCast_mul, <- hk]
   omega
  rw [e, Int.mul_ediv_cancel_left _ (by omega)]
 rw [bV]
 have cH : n.natAbs = 0 ↔ k = 0 := by
  constructor
  ·intro h
   rw [h] at hk bF
   rcases Nat.mul_eq_zero.1 hk.symm with h1 | h1
   ·omega
   exact h1
  intro h
  rw [h, Nat.mul_zero] at hk
  exact hk
 rcases Int.lt_or_gt_of_ne hd with h | h
 ·have e1 : Rat.divInt n d = mkRat (-n) d.natAbs := by
   cases d with
   | ofNat d => exact absurd h (by simp)
   | negSucc d =>
    show Rat.normalize (-n) (d + 1) (Nat.succ_ne_zero d) = _
    rw [Rat.normalize_eq_mkRat]
    rfl
  rw [e1, Rat.num_mkRat, Rat.den_mkRat, if_neg (by omega), if_neg (by omega), Int.natAbs_neg, Nat.gcd_comm d.natAbs, hq (-n) (by omega)]
  refine ⟨rfl, by split <;> omega, ?_⟩
  unfold signed
  have aO : decide (d < 0) = true := decide_eq_true h
  rw [aO]
  by_cases hn : n < 0
  ·have : decide (n < 0) = true := decide_eq_true hn
   rw [this, if_neg (by omega)]
   simp
  have : decide (n < 0) = false := decide_eq_false hn
  rw [this]
  simp
  split <;> omega
 have e1 : Rat.divInt n d = mkRat n d.natAbs := by
  cases d with
  | ofNat d => rfl
  | negSucc d => exact absurd h (by simp)
 rw [e1, Rat.num_mkRat, Rat.den_mkRat, if_neg (by omega), if_neg (by omega), Nat.gcd_comm d.natAbs, hq n rfl]
 refine ⟨rfl, by split <;> omega, ?_⟩
 unfold signed
 have aO : decide (d < 0) = false := decide_eq_false (by omega)
 rw [aO]
 by_cases hn : n < 0
 ·have : decide (n < 0) = true := decide_eq_true hn
  rw [this, if_pos hn]
  simp
 have : decide (n < 0) = false := decide_eq_false hn
 rw [this, if_neg hn]
 simp
theorem Jca (n d : Int) (B : Nat) (V1 V2 : Value) (w : World) (h1 : IsI w B V1 n) (h2 : IsI w B V2 d) (aP : B <= w.heap.size) (bG : (Jc n.natAbs).length <= 17179869184) (aQ : (Jc d.natAbs).length <= 17179869184) (hd : d ≠ 0) :
  Calls Tryz.prog 76 #[V1, V2] w (Vz (Rat.divInt n d) w) := by
 obtain ⟨v1, rfl, bH⟩ := h1
 obtain ⟨v2, rfl, bI⟩ := h2
 obtain ⟨p1, p2, p3⟩ := Jet n d hd
 obtain ⟨G, hG⟩ : ∃ G, Nat.gcd n.natAbs d.natAbs = G := ⟨_, rfl⟩
 have bJ : G ≠ 0 := by rw [<- hG]; have := Nat.gcd_pos_of_pos_right n.natAbs (show 0 < d.natAbs by omega); omega
 have bK : (Jc G).length <= 17179869184 := by
  refine nt (Zx ?_) aQ
  rw [<- hG]
  exact Nat.gcd_le_right _ (by omega)
 rw [hG] at p1 p2 p3
 obtain ⟨q, hq⟩ : ∃ q, Rat.divInt n d = q := ⟨_, rfl⟩
 rw [hq] at p1 p2 p3
 rw [hq]
 generalize bW : n.natAbs = a at *
 generalize hda : d.natAbs = b at *
 generalize decide (n < 0) = ng at *
 generalize decide (d < 0) = nd at *
 have HP := lh (And.intro p1 (And.intro p2 p3))
 have H1 := lh bH
 have H2 := lh bI
 have HG := lh hG
 clear p1 p2 p3 bW hda hq bH bI hG hd
 obtain ⟨b0, b1, b2, hB, hZ⟩ := bx3 w 68 #[.bool ng, v1] 68 #[.bool nd, v2] 70 #[.bool false, .slice none 0 0, .slice none 0 0]
 go_enter Tryz.func76, Tryz.ntmps76
 go_wp2_with fail
 generalize (((w.alloc (.cells #[.bool ng, v1] 68)).alloc (.cells #[.bool nd, v2] 68)).alloc (.cells #[.bool false, .slice none 0 0, .slice none 0 0] 70)) = W at *
 have n1 := H1.out.next aP hB
 have n2 := H2.out.next aP hB
 have aB : B <= W.heap.size := nt aP hB.size
 refine (Jq3 a b B B v1 v2 W n1 n2 aB aB bG aQ).mono ?_
 rintro e w1 ⟨vg, rfl, hg, j7⟩
 rw [HG.out] at hg
 have bL := Ja hB j7
 (try clear o0 o5); obtain ⟨b0, o0, o5⟩ := b0.zc2 j7; (try clear s9 t7); obtain ⟨b1, s9, t7⟩ := b1.zc2 j7
 have b2 := b2.below j7 b2.lt
 have n1 := n1.next aB j7
 have n2 := n2.next aB j7
 have t8 : B <= w1.heap.size := nt aB j7.size
 clear j7 H1 H2 HG aB
 go_wp2_with fail
 refine (Jhc a G B w1.heap.size v1 vg w1 n1 hg t8 zd bG bK bJ).mono ?_
 rintro e w2 ⟨va, va', rfl, ha, _, j8⟩
 have bM := Ja bL j8
 (try clear o0 o5); obtain ⟨b0, o0, o5⟩ := b0.zc2 j8; (try clear s9 t7); obtain ⟨b1, s9, t7⟩ := b1.zc2 j8
 have b2 := b2.below j8 b2.lt
 have n2 := n2.next t8 j8
 have hg := hg.next zd j8
 have aR : B <= w2.heap.size := nt t8 j8.size
 have bN := j8.size
 clear j8 n1 bL t8
 go_wp2_with fail
 refine (Jhc b G B w1.heap.size v2 vg w2 n2 hg aR bN aQ bK bJ).mono ?_
 rintro e w3 ⟨vb, vb', rfl, aK, _, j9⟩
 have bX := Ja bM j9
 (try clear o0 o5); obtain ⟨b0, o0, o5⟩ := b0.zc2 j9; (try clear s9 t7); obtain ⟨b1, s9, t7⟩ := b1.zc2 j9
 have b2 := b2.below j9 b2.lt
 have ha := ha.next zd j9
 have aS := j9.size
 clear j9 n2 hg bM bN
 go_wp2_with fail
 refine (Jry (ng != nd) (a / G) w2.heap.size va w3 ha aS).mono ?_
 rintro e w4 ⟨rfl, y9⟩
 have bY := Ja bX y9
 have b2 := b2.below y9 b2.lt
 have ha := (ha.next aS y9).more (nt aS y9.size)
 have aK := (aK.next zd y9).more y9.size
 rw [<- HP.out.2.2]
 obtain ⟨nq, aT⟩ : ∃ nq, decide (q.num < 0) = nq := ⟨_, rfl⟩
 rw [aT]
 have HNQ := lh aT
 clear aT y9
 obtain ⟨A1, l1, c1, rfl⟩ := ha.form
 obtain ⟨A2, l2, c2, rfl⟩ := aK.form
 obtain ⟨bZ, cA, cB, cC, cD, cE, aU, aV, aW⟩ := b2.f3
 go_wp2
 refine bodyPost_ret (v := .agg #[.bool nq, .slice A1 l1 c1, .slice A2 l2 c2]) (by simp [results, Tryz.results76, go_sem, aU, aV, aW]) rfl ?_
 have cI := b2.lt
 refine ⟨_, rfl, ⟨_, _, by rw [HNQ.out], ?_, ?_⟩, Kh bY (by omega) _ _ _⟩
 ·rw [HP.out.2.1, World.size_setCell, World.size_setCell, World.size_setCell]
  exact ha.set3 b2 (Zg _) (Xa _ _ _) (Xa _ _ _) _ _ _ (Zg _) ha.ne
 rw [HP.out.1, World.size_setCell, World.size_setCell, World.size_setCell]
 exact aK.set3 b2 (Zg _) (Xa _ _ _) (Xa _ _ _) _ _ _ (Zg _) ha.ne
