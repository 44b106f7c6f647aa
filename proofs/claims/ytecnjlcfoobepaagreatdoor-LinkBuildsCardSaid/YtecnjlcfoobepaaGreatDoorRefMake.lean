import Derived.Test.YtecnjlcfoobepaaGreatDoorRefDiv
import Derived.Test.YtecnjlcfoobepaaGreatDoorWholeM
import Derived.Test.YtecnjlcfoobepaaGreatDoorNatB
import Derived.Deep.LoopGhost
namespace Go.Proofs.YtecnjlcfoobepaaGreatDoor
set_option maxRecDepth 100000
set_option maxHeartbeats 1000000
open Go.RowKit
set_option linter.unusedSimpArgs false
set_option linter.unusedVariables false
set_option maxRecDepth 1000000 in
theorem ref_div_less (a b B B' : Nat) (va vb : Value) (w : World) (ha : IsN w B va a) (hb : IsN w B' vb b) (hB : B <= w.heap.size) (hla : (limbs a).length <= 17179869184) (hlb : (limbs b).length <= 17179869184) (hab : a < b) :
  Calls Tryz.prog 114 #[va, vb] w (RetNN (a / b) (a % b) w) := by
 have hcmp := ref_cmp a b B B' va vb w ha hb (by omega) (by omega)
 rw [cmpI_lt hab] at hcmp
 rw [Nat.div_eq_of_lt hab, Nat.mod_eq_of_lt hab]
 have HC := lh hcmp
 have HA := lh ha
 clear hcmp ha hb
 go_enter Tryz.func114, Tryz.ntmps114
 go_wp2_with fail
 refine HC.out.mono ?_
 rintro e w1 ⟨rfl, hw1⟩
 go_wp2
 go_ret2
 exact ⟨_, _, rfl, IsN.nil _ _, (HA.out.next hB hw1).more (nt hB hw1.size), hw1⟩
set_option maxRecDepth 1000000 in
theorem ref_div_limb (a b B B' : Nat) (va vb : Value) (w : World) (ha : IsN w B va a) (hb : IsN w B' vb b) (hB : B <= w.heap.size) (hB' : B' <= w.heap.size) (hla : (limbs a).length <= 17179869184) (hab : b <= a) (hb0 : b ≠ 0) (hbl : b < 4294967296) :
  Calls Tryz.prog 114 #[va, vb] w (RetNN (a / b) (a % b) w) := by
 have hlb : (limbs b).length = 1 := by rw [limbs_one b hbl hb0]; rfl
 have hcmp := ref_cmp a b B B' va vb w ha hb (by omega) (by omega)
 obtain ⟨cv, hcv⟩ : ∃ cv, cmpI a b = cv := ⟨_, rfl⟩
 have hcv0 : ¬ cv < 0 := by
  rw [<- hcv]
  unfold cmpI
  rw [if_neg (by omega)]
  split <;> decide
 rw [hcv] at hcmp
 have hone := fun w h hB => ref_one a b B va w h hB (by omega) (by omega) hbl
 have hmod := Nat.mod_lt a (show 0 < b by omega)
 have hof := fun w => ref_natOf (a % b) w (by omega)
 obtain ⟨A', c', rfl, hbc, hbc2, hrb, _⟩ := hb
 rw [hlb] at hcmp hrb
 rw [hlb]
 rw [limbs_one b hbl hb0] at hrb
 have HC := lh hcmp
 have HA := lh ha
 have HO := lh hone
 have HF := lh hof
 have HR := lh hrb
 have hw : IntKind.u64.wrap ((a % b : Nat) : Int) = ((a % b : Nat) : Int) := by rw [wrap_u64_nat, Nat.mod_eq_of_lt (by omega)]
 clear hcmp hone hof ha hlb hbc hrb hcv
 generalize a % b = r at *
 generalize a / b = q at *
 go_enter Tryz.func114, Tryz.ntmps114
 go_wp2_with fail
 refine HC.out.mono ?_
 rintro e w1 ⟨rfl, hw1⟩
 have hr1 := HR.out.below (hw1.mono hB')
 obtain ⟨ad, x, hA, hab1, hx, hcx⟩ := hr1.atf (show 0 < 1 by omega)
 obtain rfl : b = x := by simpa using hx
 subst hA
 have hcx0 : w1.cell? ad = some (.int .u32 (b : Int)) := hcx
 clear hx hr1 HR HC hcx
 go_wp2_with fail
 refine (HO.out w1 (HA.out.next hB hw1) (nt hB hw1.size)).mono ?_
 rintro e w2 ⟨vq, rfl, hvq, hw2⟩
 go_wp2_with fail
 refine (HF.out w2).mono ?_
 rintro e w3 ⟨vr, rfl, hvr, hw3⟩
 go_wp2
 go_ret2
 exact ⟨_, _, rfl, (hvq.next zd hw3).more hw3.size, hvr, bthen (bthen hw1 hw2) hw3⟩
theorem ref_div (a b B B' : Nat) (va vb : Value) (w : World) (ha : IsN w B va a) (hb : IsN w B' vb b) (hB : B <= w.heap.size) (hB' : B' <= w.heap.size) (hla : (limbs a).length <= 17179869184) (hlb : (limbs b).length <= 17179869184) (hb0 : b ≠ 0) :
  Calls Tryz.prog 114 #[va, vb] w (RetNN (a / b) (a % b) w) := by
 rcases Nat.lt_or_ge a b with h | h
 ·exact ref_div_less a b B B' va vb w ha hb hB hla hlb h
 rcases Nat.lt_or_ge b 4294967296 with h2 | h2
 ·exact ref_div_limb a b B B' va vb w ha hb hB hB' hla h hb0 h2
 refine ref_div_big a b B B' va vb w ha hb hB hB' hla h ?_
 rcases Nat.lt_or_ge (limbs b).length 2 with h3 | h3
 ·exfalso
  have h4 := limbs_lt b
  have h5 : (4294967296 : Nat) ^ (limbs b).length <= 4294967296 ^ 1 := Nat.pow_le_pow_right (by omega) (by omega)
  omega
 exact h3
theorem ref_gcd (a b B B' : Nat) (va vb : Value) (w : World) (ha : IsN w B va a) (hb : IsN w B' vb b) (hB : B <= w.heap.size) (hB' : B' <= w.heap.size) (hla : (limbs a).length <= 17179869184) (hlb : (limbs b).length <= 17179869184) :
  Calls Tryz.prog 113 #[va, vb] w (RetN (Nat.gcd a b) w) := by
 have HA := lh (ha.more hB)
 have HB := lh (hb.more hB')
 clear ha hb
 go_enter Tryz.func113, Tryz.ntmps113
 go_wp2_with fail
 go_loopg [0, 1, 5, 6] b (fun y v0 v1 _ _ wr => ∃ x : Nat, Hid (Nat.gcd x y = Nat.gcd a b) /\ Hid (IsN wr wr.heap.size v0 x) /\ Hid (IsN wr wr.heap.size v1 y) /\ Hid ((limbs x).length <= 17179869184) /\ Hid ((limbs y).length <= 17179869184) /\ Below w.heap.size w wr)
 case atStart => exact ⟨a, lh rfl, HA, HB, lh hla, lh hlb, Below.refl _ _⟩
 case round =>
  obtain ⟨x, HG, HX, HY, HLX, HLY, hbel⟩ := hrel
  clear HA HB
  by_cases h0 : gk = 0
  ·subst h0
   obtain ⟨A', c', h1, h2, h3, h4, _⟩ := HY.out
   rw [limbs_zero] at h1
   simp only [List.length_nil] at h1
   subst h1
   have HGG : Hid (x = Nat.gcd a b) := lh (by rw [<- HG.out, Nat.gcd_zero_right])
   clear h4 h2
   go_wp2
   go_ret
   exact ⟨_, rfl, by rw [<- HGG.out]; exact HX.out, hbel⟩
  have hd2 := ref_div x gk wr.heap.size wr.heap.size _ _ wr HX.out HY.out zd zd HLX.out HLY.out h0
  have hmod := Nat.mod_lt x (show 0 < gk by omega)
  have hg2 : Nat.gcd gk (x % gk) = Nat.gcd a b := by rw [<- HG.out, Nat.gcd_comm x gk, Nat.gcd_rec gk x]; exact Nat.gcd_comm _ _
  have HG2 := lh hg2
  have HM := lh hmod
  obtain ⟨A', c', h1, h2, h3, h4, _⟩ := HY.out
  obtain ⟨L, hL⟩ : ∃ L, (limbs gk).length = L := ⟨_, rfl⟩
  have hL0 : 0 < L := by
   rcases Nat.eq_zero_or_pos L with h | h
   ·exact absurd ((limbs_nil gk).1 (by omega)) h0
   exact h
  rw [hL] at h1
  subst h1
  have HD := lh hd2
  have hLi : (0 : Int) < (L : Int) := by omega
  clear hd2 hg2 hmod hL h4 h2 h0
  go_wp2_with fail
  refine HD.out.mono ?_
  rintro e w2 ⟨vq, vr, rfl, hvq, hvr, hw2⟩
  have hy2 := (HY.out.next zd hw2).more hw2.size
  have HV := lh hvr
  have HY2 := lh hy2
  clear hvq hvr hy2
  go_wp2
  go_roundg (x % gk)
  case rel =>
   refine ⟨gk, HG2, HY2, HV, HLY, lh ?_, bthen hbel hw2⟩
   exact nt (limbs_mono (Nat.le_of_lt HM.out)) HLY.out
  case measure => exact HM.out
def IsI (w : World) (B : Nat) (V : Value) (z : Int) : Prop := ∃ v, V = .agg #[.bool (decide (z < 0)), v] /\ IsN w B v z.natAbs
def IsQ (w : World) (B : Nat) (V : Value) (q : Rat) : Prop := ∃ vn vd, V = .agg #[.bool (decide (q.num < 0)), vn, vd] /\ IsN w B vn q.num.natAbs /\ IsN w B vd q.den
theorem IsI.next {w w' : World} {B : Nat} {V : Value} {z : Int} (h : IsI w B V z) (hB : B <= w.heap.size) (hb : Below w.heap.size w w') : IsI w' B V z := by
 obtain ⟨v, h1, h2⟩ := h
 exact ⟨v, h1, h2.next hB hb⟩
theorem IsI.more {w : World} {B B' : Nat} {V : Value} {z : Int} (h : IsI w B V z) (hB : B <= B') : IsI w B' V z := by
 obtain ⟨v, h1, h2⟩ := h
 exact ⟨v, h1, h2.more hB⟩
theorem IsQ.next {w w' : World} {B : Nat} {V : Value} {q : Rat} (h : IsQ w B V q) (hB : B <= w.heap.size) (hb : Below w.heap.size w w') : IsQ w' B V q := by
 obtain ⟨v, v', h1, h2, h3⟩ := h
 exact ⟨v, v', h1, h2.next hB hb, h3.next hB hb⟩
theorem IsQ.more {w : World} {B B' : Nat} {V : Value} {q : Rat} (h : IsQ w B V q) (hB : B <= B') : IsQ w B' V q := by
 obtain ⟨v, v', h1, h2, h3⟩ := h
 exact ⟨v, v', h1, h2.more hB, h3.more hB⟩
def RetI (z : Int) (w : World) (e : Ending) (w' : World) : Prop := ∃ v, e = .returned v /\ IsI w' w'.heap.size v z /\ Below w.heap.size w w'
def RetQ (q : Rat) (w : World) (e : Ending) (w' : World) : Prop := ∃ v, e = .returned v /\ IsQ w' w'.heap.size v q /\ Below w.heap.size w w'
theorem limbs_apart {w : World} {B n g : Nat} {A : Option Addr} {l : List Nat} {t : TypeId} {cs : Array Value} (h : Reads w B 1 A n (l.map u32v)) (hn : 0 < n) (hb : Blk w g t cs) (hcs : ∀ i x : Nat, cs[i]? ≠ some (u32v x)) : ∀ ad, A = some ad -> ad.block ≠ g := by
 intro ad hA e
 obtain ⟨ad', x, hA', _, _, hc⟩ := h.atf hn
 rw [hA] at hA'
 obtain rfl := Option.some.inj hA'
 have h0 : ad.add 0 = ad := rfl
 rw [h0] at hc
 have hs : ad.spot = none := by
  unfold World.cell? at hc
  split at hc
  ·split at hc
   ·cases hc
   rename_i h1
   simpa using h1
  cases hc
 have h2 := hb.cell ad.off
 have h3 : (⟨g, ad.off, none⟩ : Addr) = ad := by
  cases ad with
  | mk b o sp =>
   simp at hs e
   subst hs
   subst e
   rfl
 rw [h3, hc] at h2
 exact hcs ad.off x h2.symm
theorem IsN.far {w : World} {B n g : Nat} {v : Value} {t : TypeId} {cs : Array Value} (h : IsN w B v n) (hb : Blk w g t cs) (hcs : ∀ i x : Nat, cs[i]? ≠ some (u32v x)) (i : Nat) (u : Value) : IsN (w.setCell ⟨g, i, none⟩ u) B v n := by
 obtain ⟨A, c, h1, h2, h3, h4, h5⟩ := h
 rcases Nat.eq_zero_or_pos (limbs n).length with h0 | h0
 ·exact ⟨A, c, h1, h2, h3, ⟨h4.1, fun hn => absurd hn (by omega)⟩, fun hn => absurd hn (by omega)⟩
 refine ⟨A, c, h1, h2, h3, h4.setFar (fun ad hA => limbs_apart h4 h0 hb hcs ad hA) u, fun hp ad hA => ?_⟩
 obtain ⟨cs', fr, h6⟩ := h5 hp ad hA
 exact ⟨cs', fr, (Below.heap_setCell w _ _ ad.block (limbs_apart h4 h0 hb hcs ad hA)).trans h6⟩
theorem IsN.set2 {w : World} {B n g : Nat} {v : Value} {t : TypeId} {a b : Value} (h : IsN w B v n) (hb : Blk w g t #[a, b]) (ha : ∀ x, a ≠ u32v x) (hb' : ∀ x, b ≠ u32v x) (x y : Value) (hx : ∀ k, x ≠ u32v k) : IsN ((w.setCell ⟨g, 0, none⟩ x).setCell ⟨g, 1, none⟩ y) B v n := by
 have c1 : ∀ a b : Value, (∀ x, a ≠ u32v x) -> (∀ x, b ≠ u32v x) -> ∀ i k : Nat, (#[a, b] : Array Value)[i]? ≠ some (u32v k) := by
  intro a b h1 h2 i k e
  rcases i with _ | _ | i
  ·simp at e; exact h1 k e
  ·simp at e; exact h2 k e
  simp at e
 have b1 := hb.set_ 0 x
 simp at b1
 exact (h.far hb (c1 a b ha hb') 0 x).far b1 (c1 x b hx hb') 1 y
theorem IsN.set3 {w : World} {B n g : Nat} {v : Value} {t : TypeId} {a b c : Value} (h : IsN w B v n) (hb : Blk w g t #[a, b, c]) (ha : ∀ x, a ≠ u32v x) (hb' : ∀ x, b ≠ u32v x) (hc : ∀ x, c ≠ u32v x) (x y z : Value) (hx : ∀ k, x ≠ u32v k) (hy : ∀ k, y ≠ u32v k) :
  IsN (((w.setCell ⟨g, 0, none⟩ x).setCell ⟨g, 1, none⟩ y).setCell ⟨g, 2, none⟩ z) B v n := by
 have c1 : ∀ a b c : Value, (∀ x, a ≠ u32v x) -> (∀ x, b ≠ u32v x) -> (∀ x, c ≠ u32v x) -> ∀ i k : Nat, (#[a, b, c] : Array Value)[i]? ≠ some (u32v k) := by
  intro a b c h1 h2 h3 i k e
  rcases i with _ | _ | _ | i
  ·simp at e; exact h1 k e
  ·simp at e; exact h2 k e
  ·simp at e; exact h3 k e
  simp at e
 have b1 := hb.set_ 0 x
 simp at b1
 have b2 := b1.set_ 1 y
 simp at b2
 exact ((h.far hb (c1 a b c ha hb' hc) 0 x).far b1 (c1 x b c hx hb' hc) 1 y).far b2 (c1 x y c hx hy hc) 2 z
theorem IsN.form {w : World} {B n : Nat} {v : Value} (h : IsN w B v n) : ∃ A l c, v = .slice A l c := by
 obtain ⟨A, c, h1, _⟩ := h
 exact ⟨A, _, c, h1⟩
theorem IsN.ne {w : World} {B n : Nat} {v : Value} (h : IsN w B v n) : ∀ k, v ≠ u32v k := by
 obtain ⟨A, c, h1, _⟩ := h
 intro k e
 rw [h1] at e
 cases e
theorem bool_ne (b : Bool) : ∀ k, Value.bool b ≠ u32v k := fun k e => by cases e
theorem slice_ne (A : Option Addr) (n c : Nat) : ∀ k, Value.slice A n c ≠ u32v k := fun k e => by cases e
theorem ref_I (neg : Bool) (a B : Nat) (va : Value) (w : World) (h : IsN w B va a) (hB : B <= w.heap.size) :
  Calls Tryz.prog 115 #[.bool neg, va] w fun e w' => e = .returned (.agg #[.bool (decide (signed neg a < 0)), va]) /\ Below w.heap.size w w' := by
 obtain ⟨A, c, rfl, hac, hac2, hr, _⟩ := h
 obtain ⟨n, hn⟩ : ∃ n, (limbs a).length = n := ⟨_, rfl⟩
 have hz := limbs_nil a
 rw [hn] at hz
 rw [hn]
 clear hr hac
 have hsg : decide (signed neg a < 0) = (neg && decide (0 < n)) := by
  unfold signed
  cases neg <;> simp <;> omega
 rw [hsg]
 clear hn hz hsg
 cases neg
 ·go_enter Tryz.func115, Tryz.ntmps115
  go_wp2
  refine bodyPost_ret (v := .agg #[.bool false, .slice A n c]) (by simp [results, Tryz.results115, go_sem]) rfl ?_
  exact ⟨rfl, by go_grown⟩
 by_cases h : 0 < n
 ·have h1 : decide (0 < n) = true := decide_eq_true h
  have h2 : (0 : Int) < (n : Int) := by omega
  go_enter Tryz.func115, Tryz.ntmps115
  go_wp2
  refine bodyPost_ret (v := .agg #[.bool true, .slice A n c]) (by simp [results, Tryz.results115, go_sem, h]) rfl ?_
  exact ⟨by rw [h1]; rfl, by go_grown⟩
 obtain rfl : n = 0 := by omega
 clear h
 go_enter Tryz.func115, Tryz.ntmps115
 go_wp2
 refine bodyPost_ret (v := .agg #[.bool false, .slice A 0 c]) (by simp [results, Tryz.results115, go_sem]) rfl ?_
 exact ⟨rfl, by go_grown⟩
theorem make_parts (n d : Int) (hd : d ≠ 0) : (Rat.divInt n d).den = d.natAbs / Nat.gcd n.natAbs d.natAbs /\ (Rat.divInt n d).num.natAbs = n.natAbs / Nat.gcd n.natAbs d.natAbs /\
  decide ((Rat.divInt n d).num < 0) = decide (signed (decide (n < 0) != decide (d < 0)) (n.natAbs / Nat.gcd n.natAbs d.natAbs) < 0) := by
 have hg0 : 0 < Nat.gcd n.natAbs d.natAbs := Nat.gcd_pos_of_pos_right _ (by omega)
 obtain ⟨k, hk⟩ := Nat.gcd_dvd_left n.natAbs d.natAbs
 obtain ⟨m, hm⟩ := Nat.gcd_dvd_right n.natAbs d.natAbs
 have hq1 : n.natAbs / Nat.gcd n.natAbs d.natAbs = k := Nat.div_eq_of_eq_mul_right hg0 hk
 have hq : ∀ z : Int, z.natAbs = n.natAbs -> z / ((Nat.gcd n.natAbs d.natAbs : Nat) : Int) = if z < 0 then -(k : Int) else (k : Int) := by
  intro z hz
  generalize Nat.gcd n.natAbs d.natAbs = g at *
  by_cases h : z < 0
  ·rw [if_pos h]
   have e : z = (g : Int) * (-(k : Int)) := by
    rw [Int.mul_neg, <- Int.natCast_mul, <- hk]
    omega
   rw [e, Int.mul_ediv_cancel_left _ (by omega)]
  rw [if_neg h]
  have e : z = (g : Int) * (k : Int) := by
   rw [<- Int.natCast_mul, <- hk]
   omega
  rw [e, Int.mul_ediv_cancel_left _ (by omega)]
 rw [hq1]
 have hkn : n.natAbs = 0 ↔ k = 0 := by
  constructor
  ·intro h
   rw [h] at hk hg0
   rcases Nat.mul_eq_zero.1 hk.symm with h1 | h1
   ·omega
   exact h1
  intro h
  rw [h, Nat.mul_zero] at hk
  exact hk
 rcases Int.lt_or_gt_of_ne hd with h | h
 ·have e1 : Rat.divInt n d = mkRat (-n) d.natAbs := by
   cases d with
   | ofNat d => exact absurd h (by simp)
   | negSucc d =>
    show Rat.normalize (-n) (d + 1) (Nat.succ_ne_zero d) = _
    rw [Rat.normalize_eq_mkRat]
    rfl
  rw [e1, Rat.num_mkRat, Rat.den_mkRat, if_neg (by omega), if_neg (by omega), Int.natAbs_neg, Nat.gcd_comm d.natAbs, hq (-n) (by omega)]
  refine ⟨rfl, by split <;> omega, ?_⟩
  unfold signed
  have hdd : decide (d < 0) = true := decide_eq_true h
  rw [hdd]
  by_cases hn : n < 0
  ·have : decide (n < 0) = true := decide_eq_true hn
   rw [this, if_neg (by omega)]
   simp
  have : decide (n < 0) = false := decide_eq_false hn
  rw [this]
  simp
  split <;> omega
 have e1 : Rat.divInt n d = mkRat n d.natAbs := by
  cases d with
  | ofNat d => rfl
  | negSucc d => exact absurd h (by simp)
 rw [e1, Rat.num_mkRat, Rat.den_mkRat, if_neg (by omega), if_neg (by omega), Nat.gcd_comm d.natAbs, hq n rfl]
 refine ⟨rfl, by split <;> omega, ?_⟩
 unfold signed
 have hdd : decide (d < 0) = false := decide_eq_false (by omega)
 rw [hdd]
 by_cases hn : n < 0
 ·have : decide (n < 0) = true := decide_eq_true hn
  rw [this, if_pos hn]
  simp
 have : decide (n < 0) = false := decide_eq_false hn
 rw [this, if_neg hn]
 simp
theorem ref_make (n d : Int) (B : Nat) (V1 V2 : Value) (w : World) (h1 : IsI w B V1 n) (h2 : IsI w B V2 d) (hBB : B <= w.heap.size) (hln : (limbs n.natAbs).length <= 17179869184) (hld : (limbs d.natAbs).length <= 17179869184) (hd : d ≠ 0) :
  Calls Tryz.prog 76 #[V1, V2] w (RetQ (Rat.divInt n d) w) := by
 obtain ⟨v1, rfl, hn1⟩ := h1
 obtain ⟨v2, rfl, hn2⟩ := h2
 obtain ⟨p1, p2, p3⟩ := make_parts n d hd
 obtain ⟨G, hG⟩ : ∃ G, Nat.gcd n.natAbs d.natAbs = G := ⟨_, rfl⟩
 have hG0 : G ≠ 0 := by rw [<- hG]; have := Nat.gcd_pos_of_pos_right n.natAbs (show 0 < d.natAbs by omega); omega
 have hGl : (limbs G).length <= 17179869184 := by
  refine nt (limbs_mono ?_) hld
  rw [<- hG]
  exact Nat.gcd_le_right _ (by omega)
 rw [hG] at p1 p2 p3
 obtain ⟨q, hq⟩ : ∃ q, Rat.divInt n d = q := ⟨_, rfl⟩
 rw [hq] at p1 p2 p3
 rw [hq]
 generalize hna : n.natAbs = a at *
 generalize hda : d.natAbs = b at *
 generalize decide (n < 0) = ng at *
 generalize decide (d < 0) = nd at *
 have HP := lh (And.intro p1 (And.intro p2 p3))
 have H1 := lh hn1
 have H2 := lh hn2
 have HG := lh hG
 clear p1 p2 p3 hna hda hq hn1 hn2 hG hd
 have b0 := ((Blk.new w  68 #[.bool ng, v1]).alloc (.cells #[.bool nd, v2] 68)).alloc (.cells #[.bool false, .slice none 0 0, .slice none 0 0] 70); have b1 := (Blk.new2 w (.cells #[.bool ng, v1] 68) 68 #[.bool nd, v2]).alloc (.cells #[.bool false, .slice none 0 0, .slice none 0 0] 70); have b2 := Blk.new3 w (.cells #[.bool ng, v1] 68) (.cells #[.bool nd, v2] 68) 70 #[.bool false, .slice none 0 0, .slice none 0 0]; have hB := balloc3 w (.cells #[.bool ng, v1] 68) (.cells #[.bool nd, v2] 68) (.cells #[.bool false, .slice none 0 0, .slice none 0 0] 70); have hZ := lh (show (((w.alloc (.cells #[.bool ng, v1] 68)).alloc (.cells #[.bool nd, v2] 68)).alloc (.cells #[.bool false, .slice none 0 0, .slice none 0 0] 70)).heap.size = w.heap.size + 1 + 1 + 1 from by simp)
 go_enter Tryz.func76, Tryz.ntmps76
 go_wp2_with fail
 generalize (((w.alloc (.cells #[.bool ng, v1] 68)).alloc (.cells #[.bool nd, v2] 68)).alloc (.cells #[.bool false, .slice none 0 0, .slice none 0 0] 70)) = W at *
 have n1 := H1.out.next hBB hB
 have n2 := H2.out.next hBB hB
 have hBW : B <= W.heap.size := nt hBB hB.size
 refine (ref_gcd a b B B v1 v2 W n1 n2 hBW hBW hln hld).mono ?_
 rintro e w1 ⟨vg, rfl, hg, hw1⟩
 rw [HG.out] at hg
 have hB1 := bthen hB hw1
 (try clear b0q0 b0q1); have b0 := b0.below hw1 b0.lt; obtain ⟨b0q0, b0q1⟩ := b0.c2; (try clear b1q0 b1q1); have b1 := b1.below hw1 b1.lt; obtain ⟨b1q0, b1q1⟩ := b1.c2
 have b2 := b2.below hw1 b2.lt
 have n1 := n1.next hBW hw1
 have n2 := n2.next hBW hw1
 have hB1z : B <= w1.heap.size := nt hBW hw1.size
 clear hw1 H1 H2 HG hBW
 go_wp2_with fail
 refine (ref_div a G B w1.heap.size v1 vg w1 n1 hg hB1z zd hln hGl hG0).mono ?_
 rintro e w2 ⟨va, va', rfl, ha, _, hw2⟩
 have hB2 := bthen hB1 hw2
 (try clear b0q0 b0q1); have b0 := b0.below hw2 b0.lt; obtain ⟨b0q0, b0q1⟩ := b0.c2; (try clear b1q0 b1q1); have b1 := b1.below hw2 b1.lt; obtain ⟨b1q0, b1q1⟩ := b1.c2
 have b2 := b2.below hw2 b2.lt
 have n2 := n2.next hB1z hw2
 have hg := hg.next zd hw2
 have hB2z : B <= w2.heap.size := nt hB1z hw2.size
 have hzg := hw2.size
 clear hw2 n1 hB1 hB1z
 go_wp2_with fail
 refine (ref_div b G B w1.heap.size v2 vg w2 n2 hg hB2z hzg hld hGl hG0).mono ?_
 rintro e w3 ⟨vb, vb', rfl, hbb, _, hw3⟩
 have hB3 := bthen hB2 hw3
 (try clear b0q0 b0q1); have b0 := b0.below hw3 b0.lt; obtain ⟨b0q0, b0q1⟩ := b0.c2; (try clear b1q0 b1q1); have b1 := b1.below hw3 b1.lt; obtain ⟨b1q0, b1q1⟩ := b1.c2
 have b2 := b2.below hw3 b2.lt
 have ha := ha.next zd hw3
 have hz3 := hw3.size
 clear hw3 n2 hg hB2 hzg
 go_wp2_with fail
 refine (ref_I (ng != nd) (a / G) w2.heap.size va w3 ha hz3).mono ?_
 rintro e w4 ⟨rfl, hw4⟩
 have hB4 := bthen hB3 hw4
 have b2 := b2.below hw4 b2.lt
 have ha := (ha.next hz3 hw4).more (nt hz3 hw4.size)
 have hbb := (hbb.next zd hw4).more hw4.size
 rw [<- HP.out.2.2]
 obtain ⟨nq, hnq⟩ : ∃ nq, decide (q.num < 0) = nq := ⟨_, rfl⟩
 rw [hnq]
 have HNQ := lh hnq
 clear hnq hw4
 obtain ⟨A1, l1, c1, rfl⟩ := ha.form
 obtain ⟨A2, l2, c2, rfl⟩ := hbb.form
 obtain ⟨b2q0, b2q1, b2q2, b2f0, b2f1, b2f2, b2s0, b2s1, b2s2⟩ := b2.f3
 go_wp2
 refine bodyPost_ret (v := .agg #[.bool nq, .slice A1 l1 c1, .slice A2 l2 c2]) (by simp [results, Tryz.results76, go_sem, b2s0, b2s1, b2s2]) rfl ?_
 have hz4 := b2.lt
 refine ⟨_, rfl, ⟨_, _, by rw [HNQ.out], ?_, ?_⟩, bset3 hB4 (by omega) _ _ _⟩
 ·rw [HP.out.2.1, World.size_setCell, World.size_setCell, World.size_setCell]
  exact ha.set3 b2 (bool_ne _) (slice_ne _ _ _) (slice_ne _ _ _) _ _ _ (bool_ne _) ha.ne
 rw [HP.out.1, World.size_setCell, World.size_setCell, World.size_setCell]
 exact hbb.set3 b2 (bool_ne _) (slice_ne _ _ _) (slice_ne _ _ _) _ _ _ (bool_ne _) ha.ne
end Go.Proofs.YtecnjlcfoobepaaGreatDoor
