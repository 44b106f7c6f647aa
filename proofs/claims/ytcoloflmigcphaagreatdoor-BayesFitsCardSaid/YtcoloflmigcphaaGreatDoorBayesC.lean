import Derived.OrdersHeld
import Derived.StillTail
import Derived.Deep.RegionHeld
import Derived.Test.YtcoloflmigcphaaGreatDoorBayesJ
import Derived.Test.YtcoloflmigcphaaGreatDoorFracDivQ
namespace Go.Proofs.YtcoloflmigcphaaGreatDoor
set_option maxRecDepth 100000
set_option maxHeartbeats 16000000
open Go.RowKit
set_option linter.all false
def upB (n : Nat) (ts : List Nat) : Array Bool := ((List.range n).map fun j => ts.contains j).toArray
theorem Jks (n : Nat) (ts : List Nat) : (upB n ts).size = n := by simp [upB]
theorem Jf4 (n : Nat) (ts : List Nat) (j : Nat) (d : Bool) : (upB n ts).getD j d = if j < n then ts.contains j else d := by
 unfold upB
 by_cases h : j < n
 ·simp [h]
 simp [h]
theorem Jkr (n : Nat) : Array.replicate n false = upB n [] := by
 refine Array.ext (by simp [upB]) fun i h1 h2 => by simp [upB]
theorem Jiy (n i : Nat) (ts : List Nat) : (upB n ts).setIfInBounds i true = upB n (i :: ts) := by
 unfold upB
 rw [List.setIfInBounds_toArray]
 congr 1
 refine List.ext_getElem (by simp) fun k h1 h2 => ?_
 rw [List.getElem_set]
 simp only [List.getElem_map, List.getElem_range, List.contains_cons]
 by_cases hi : i = k
 ·subst hi; simp
 rw [if_neg hi]
 simp [show (k == i) = false from by simp; omega]
def Jli (ops : Array Oper) (n : Nat) (ts : List Nat) : Bool := ts.all fun j => decide (j < n) && match ops[j]? with
 | some oj => oj.after.all fun e => !(Region.binds .any e) || (ts.contains e.on && decide (e.on < ops.size))
 | none => true
theorem Jh8 {ops : Array Oper} {n : Nat} {ts : List Nat} (h : Jli ops n ts = true) : HeadInv .any ops n (upB ops.size ts) := by
 refine ⟨Jks _ _, fun j oj hj hl e he hb => ?_, fun t ht fV => ?_⟩
 ·rw [Jf4] at hl ⊢
  have fW := (Array.getElem?_eq_some_iff.1 hj).1
  rw [if_pos fW] at hl
  have h1 := List.all_eq_true.1 h j (by simpa using hl)
  rw [Bool.and_eq_true] at h1
  have h1 := h1.2
  rw [hj] at h1
  simp only [] at h1
  have h2 := Array.all_eq_true_iff_forall_mem.1 h1 e he
  rw [hb] at h2
  simp only [Bool.not_true, Bool.false_or, Bool.and_eq_true, decide_eq_true_iff] at h2
  rw [if_pos h2.2, h2.1]
 rw [Jf4, if_pos fV]
 cases hc : ts.contains t with
 | false => rfl
 | true =>
  have h1 := List.all_eq_true.1 h t (by simpa using hc)
  rw [Bool.and_eq_true] at h1
  have := of_decide_eq_true h1.1
  omega
section
variable {P : Program} {ops : Array Oper} {Q : Exit -> Act -> World -> Prop} {S : World -> Prop} {n : Nat} {L : Array Bool -> Act -> World -> Prop}
def Jd0 (P : Program) (ops : Array Oper) (Q : Exit -> Act -> World -> Prop) (S : World -> Prop) (n : Nat) (L : Array Bool -> Act -> World -> Prop) : Nat -> Array Bool -> Act -> World -> Prop
 | 0, listed, a, w => L listed a w
 | f + 1, listed, a, w => Region.ready .any ops listed ≠ [] /\ ∀ i ∈ Region.ready .any ops listed, i < n /\ wpOp P ops Q i (fun a' w' => S w' /\ Jd0 P ops Q S n L f (listed.setIfInBounds i true) a' w') a w
theorem Jdz {g : Nat} (hL : ∀ listed a w, L listed a w -> wpAny P .any ops Q g listed a w) : ∀ (f : Nat) (listed : Array Bool) (a : Act) (w : World), Jd0 P ops Q S n L f listed a w -> wpAny P .any ops Q (f + g) listed a w
 | 0, listed, a, w, h => by rw [Nat.zero_add]; exact hL _ _ _ h
 | f + 1, listed, a, w, h => by
  rw [show f + 1 + g = (f + g) + 1 by omega]
  exact ⟨fun h0 => absurd h0 h.1, fun i hi => wpOp_mono (fun a' w' h' => Jdz hL f _ a' w' h'.2) (h.2 i hi).2⟩
theorem Jf8 {i : Nat} {oi : Oper} {v : Value} (hi : ops[i]? = some oi) (bX : ∀ (j : Nat) (o : Oper) cs b, ops[j]? = some o -> o.op ≠ .select cs b)
  (hs : Region.sinkB .any ops n = true) (hc : Region.chainB .any ops n = true) (hn : n < ops.size) (cZ : i < n) (bY : ∀ listed a w, L listed a w -> ∀ j ∈ Region.ready .any ops listed, n <= j)
  (hQ : ∀ c a w, Q (.panic c) (a.put oi.dst v) w -> Q (.panic c) a w) :
  ∀ (f : Nat) (listed : Array Bool) (a : Act) (w : World), HeadInv .any ops n listed ->
   (∀ j oj, ops[j]? = some oj -> j ≠ i -> listed.getD j true = false -> (∀ e ∈ oj.after, Region.binds .any e = true -> e.on ≠ i) -> oi.apart ops oj = true) ->
   i ∈ Region.ready .any ops listed -> YieldsIf P ops S oi v a -> S w ->
   Jd0 P ops Q S n L f (listed.setIfInBounds i true) (a.put oi.dst v) w -> Jd0 P ops Q S n L (f + 1) listed a w := by
 intro f
 induction f with
 | zero =>
  intro listed a w inv _ hr hy hS H
  have aZ := (mem_ready.1 hr).1
  refine ⟨fun h => (by rw [h] at hr; cases hr), fun j hj => ?_⟩
  have dA : j < n := by
   rcases Nat.lt_or_ge j n with h | h
   ·exact h
   exact absurd hj (tail_waits hs hc hn inv _ i rfl cZ aZ j h)
  refine ⟨dA, ?_⟩
  by_cases aS : j = i
  ·subst aS; exact hy.wpOp hi hS ⟨hS, H⟩
  have := bY _ _ _ H j (ready_mono hj aS)
  omega
 | succ f ih =>
  intro listed a w inv aT hr hy hS H
  have aZ := (mem_ready.1 hr).1
  refine ⟨fun h => (by rw [h] at hr; cases hr), fun j hj => ?_⟩
  have dA : j < n := by
   rcases Nat.lt_or_ge j n with h | h
   ·exact h
   exact absurd hj (tail_waits hs hc hn inv _ i rfl cZ aZ j h)
  refine ⟨dA, ?_⟩
  by_cases aS : j = i
  ·subst aS; exact hy.wpOp hi hS ⟨hS, H⟩
  have h1 := (H.2 j (ready_mono hj aS)).2
  obtain ⟨bZ, oj, dM, dN⟩ := mem_ready.1 hj
  have dO : ∀ e ∈ oj.after, Region.binds .any e = true -> e.on ≠ i := fun e he hb fX => by
   have h1 := dN e he hb
   rw [fX, getD_both aZ] at h1
   cases h1
  have h2 := wpOp_putIf dM (aT j oj dM aS bZ dO) (fun cs b => bX i oi cs b hi) (fun cs b => bX j oj cs b dM) hQ hy h1
  have bA : ∀ k ok, ops[k]? = some ok -> k ≠ i -> (listed.setIfInBounds j true).getD k true = false ->
    (∀ e ∈ ok.after, Region.binds .any e = true -> e.on ≠ i) -> oi.apart ops ok = true := fun k ok hk fY aZ fZ => by
   refine aT k ok hk fY ?_ fZ
   by_cases fI : j = k
   ·subst fI; exact bZ
   rw [getD_set_ne true fI] at aZ; exact aZ
  refine wpOp_mono (fun a' w' h3 => ⟨h3.2.1, ih (listed.setIfInBounds j true) a' w' (inv.set hj dA) bA (ready_mono hr (Ne.symm aS)) h3.1 h3.2.1 ?_⟩) h2
  rw [Array.setIfInBounds_comm _ _ aS]
  exact h3.2.2
end
section
variable {P : Program} {l : List Oper} {Q : Exit -> Act -> World -> Prop} {S : World -> Prop} {n : Nat} {ts pl : List Nat}
def Vv (P : Program) (l : List Oper) (Q : Exit -> Act -> World -> Prop) (S : World -> Prop) (n : Nat) (ts pl : List Nat) (a : Act) (w : World) : Prop :=
 Jd0 P l.toArray Q S n (fun listed a w => Region.seqB .any l.toArray (l.toArray.size - n) n listed = true /\ wpList P l.toArray Q (l.drop n) a w) (n - ts.length) (upB l.toArray.size ts) a w
theorem Jh7 {id : Nat} {a : Act} {w : World} (n : Nat) (pl : List Nat) (hm : P.follows .mixedOrders = true) (hn : n <= l.length) (hS : S w.drew) (h : S w.drew -> Vv P l Q S n [] pl a w.drew) : (Code.region id l.toArray true).wp P Q a w := by
 refine wp_region_any hm ?_
 have H := h hS
 unfold Vv at H
 rw [List.length_nil, Nat.sub_zero, <- Jkr] at H
 have := Jdz (g := l.toArray.size - n) (fun listed a' w' hL => by
  have h1 := wpAny_of_seq (md := .any) (Q' := Q) (ops := l.toArray) (l.drop n) n listed a' w' (fun j => by simp [List.getElem?_drop]) (by rw [show (l.drop n).length = l.toArray.size - n by simp]; exact hL.1) hL.2
  rwa [show (l.drop n).length = l.toArray.size - n by simp] at h1) _ _ _ _ H
 rwa [show n + (l.toArray.size - n) = l.toArray.size by simp; omega] at this
theorem Jj {i : Nat} {oi : Oper} {v : Value} {a : Act} {w : World} (hi : l.toArray[i]? = some oi)
  (hk : (Region.noSelect l.toArray && Region.free .any l.toArray (upB l.toArray.size ts) i && (Region.ready .any l.toArray (upB l.toArray.size ts)).contains i && Region.sinkB .any l.toArray n && Region.chainB .any l.toArray n && decide (n < l.toArray.size) && decide (i < n) && decide (ts.length < n) && Jli l.toArray n ts) = true)
  (hQ : ∀ c a w, Q (.panic c) (a.put oi.dst v) w -> Q (.panic c) a w) (hy : YieldsIf P l.toArray S oi v a) (hS : S w) (h : Vv P l Q S n (i :: ts) pl (a.put oi.dst v) w) : Vv P l Q S n ts (i :: pl) a w := by
 simp only [Bool.and_eq_true, decide_eq_true_iff] at hk
 obtain ⟨⟨⟨⟨⟨⟨⟨⟨h1, h2⟩, h3⟩, h4⟩, h5⟩, h6⟩, h7⟩, h9⟩, h8⟩ := hk
 unfold Vv at *
 rw [List.length_cons] at h
 rw [show n - ts.length = (n - (ts.length + 1)) + 1 by omega]
 refine Jf8 hi (Region.noSelect_spec h1) h4 h5 h6 h7 (fun listed a' w' hL => seqB_ready hL.1) hQ _ _ _ _ (Jh8 h8) (Region.free_spec hi h2) (by simpa using h3) hy hS ?_
 rw [Jiy]
 exact h
theorem Jbg {i : Nat} {o : Oper} {a : Act} {w : World} (ho : l.toArray[i]? = some o) (hk : Region.ready .any l.toArray (upB l.toArray.size ts) = [i]) (hn : (decide (i < n) && decide (ts.length < n)) = true)
  (h : ∀ K' : Act -> World -> Prop, Shut (∀ a w, S w -> (S w -> Vv P l Q S n (i :: ts) pl a w) -> K' a w) -> if Region.wanted o (yielded l.toArray a.tmps) = true then Oper.wp P o a w K' Q else K' (a.put o.dst undef) w) : Vv P l Q S n ts (i :: pl) a w := by
 simp only [Bool.and_eq_true, decide_eq_true_iff] at hn
 unfold Vv at *
 rw [show n - ts.length = (n - (ts.length + 1)) + 1 by omega]
 refine ⟨by rw [hk]; simp, fun j hj => ?_⟩
 rw [hk] at hj
 have hj : j = i := by simpa using hj
 subst hj
 refine ⟨hn.1, ?_⟩
 have := h (fun a' w' => S w' /\ Jd0 P l.toArray Q S n (fun listed a w => Region.seqB .any l.toArray (l.toArray.size - n) n listed = true /\ wpList P l.toArray Q (l.drop n) a w) (n - (ts.length + 1)) ((upB l.toArray.size ts).setIfInBounds j true) a' w') (fun a w h1 h2 => ⟨h1, by rw [Jiy]; exact h2 h1⟩)
 unfold wpOp
 simp only [ho]
 by_cases hw : Region.wanted o (yielded l.toArray a.tmps) = true
 ·rw [if_pos hw] at this ⊢
  exact .inl this
 rw [if_neg hw] at this ⊢
 exact this
theorem Jj6 {a : Act} {w : World} (hk : (decide (ts.length = n) && Region.seqB .any l.toArray (l.toArray.size - n) n (upB l.toArray.size ts)) = true) (h : wpList P l.toArray Q (l.drop n) a w) : Vv P l Q S n ts pl a w := by
 simp only [Bool.and_eq_true, decide_eq_true_iff] at hk
 unfold Vv
 rw [hk.1, Nat.sub_self]
 exact ⟨hk.2, h⟩
end
theorem Jb1 (n al wy : Int) (s : Rat) (m : Nat) (w : World) (hn : 0 <= n /\ n < 1099511627776) (ha : 0 <= al /\ al < 1099511627776) (hw : 1 <= wy /\ wy < 1099511627776) (hs : QS m s) (hm : 1 <= m) (iS : m <= 1000000) (hp : 0 < s) (hT : Tab w) :
  Calls Tryz.prog 62 #[.int .i64 n, .int .i64 al, .int .i64 wy, qV s] w (Ret (qV (Zu n al wy s)) w) := by
 have q1 : QS 40 (n : Rat) := QS.cnt hn.1 (by simpa using hn.2) (by omega)
 have q2 : QS 40 (al : Rat) := QS.cnt ha.1 (by simpa using ha.2) (by omega)
 have q3 : QS 40 (wy : Rat) := QS.cnt (by omega) (by simpa using hw.2) (by omega)
 have fJ : (al : Rat) + s * (wy : Rat) ≠ 0 := fun e => by
  have h1 : (0 : Rat) < s * (wy : Rat) := Rat.mul_pos hp (Jem hw.1)
  have h2 := Ja0 h1 (Ul ha.1)
  rw [Rat.add_comm, e] at h2
  exact absurd h2 (Rat.lt_irrefl)
 have HO1 := lh (fun w (_ : Tab w) => Vo n w (by omega) (by omega))
 have HO2 := lh (fun w (_ : Tab w) => Vo al w (by omega) (by omega))
 have HO3 := lh (fun w (_ : Tab w) => Vo wy w (by omega) (by omega))
 obtain ⟨R, hR⟩ : ∃ R, Zu n al wy s = R := ⟨_, rfl⟩
 rw [hR]
 unfold Zu at hR
 have HR := lh hR
 clear hR
 generalize (n : Rat) = r1 at *
 generalize (al : Rat) = r2 at *
 generalize (wy : Rat) = r3 at *
 have dP := fun w (hT : Tab w) => Jcx r1 s w (q1.mono (by omega)) (hs.mono (by omega)) hT
 have q4 := (q1.add hs).mono (show _ <= 2000000 by omega)
 have aU := fun w (hT : Tab w) => Jcw s r3 w (hs.mono (by omega)) (q3.mono (by omega)) hT
 have q5 := (hs.mul q3).mono (show _ <= 2000000 by omega)
 generalize r1 + s = a1 at *
 generalize s * r3 = p at *
 have bB := fun w (hT : Tab w) => Jcx r2 p w (q2.mono (by omega)) (q5.mono (by omega)) hT
 have q6 := (q2.add q5).mono (show _ <= 5000000 by omega)
 generalize r2 + p = d at *
 have aL := fun w (hT : Tab w) => Jg2 a1 d w (q4.mono (by omega)) (q6.mono (by omega)) fJ hT
 rw [HR.out] at aL
 unfold qV at dP aU bB aL HO1 HO2 HO3
 unfold qV
 have HAD := lh dP
 have HMU := lh aU
 have HAD2 := lh bB
 have HDI := lh aL
 clear dP aU bB aL q1 q2 q3 q4 q5 q6 fJ hs hp HR
 obtain ⟨b0, b1, hB, hZ⟩ := bx2 w 41 #[.bool (decide (s.num < 0)), .int .u64 (lo s.num.natAbs : Int), .string (mo s.num.natAbs), .int .u64 (lo ((qden s)) : Int), .string (mo ((qden s)))] 41 #[.bool false, .int .u64 0, .string ⟨#[]⟩, .int .u64 0, .string ⟨#[]⟩]
 go_enter Tryz.func62, Tryz.ntmps62
 go_upto_region 1 with fail
 have tT := hT.next hB
 generalize ((w.alloc (.cells #[.bool (decide (s.num < 0)), .int .u64 (lo s.num.natAbs : Int), .string (mo s.num.natAbs), .int .u64 (lo ((qden s)) : Int), .string (mo ((qden s)))] 41)).alloc (.cells #[.bool false, .int .u64 0, .string ⟨#[]⟩, .int .u64 0, .string ⟨#[]⟩] 41)) = W at *
 have HBW := lh hB
 have HZ := lh hZ.out
 clear hB hZ hT hn ha hw
 go_cut [9] (fun v wc => Jdu W 41 #[.bool (decide (R.num < 0)), .int .u64 (lo R.num.natAbs : Int), .string (mo R.num.natAbs), .int .u64 (lo ((qden R)) : Int), .string (mo ((qden R)))] v wc)
 case first =>
  obtain ⟨cA, cB, jK, cD, cE⟩ := b0.c5; have c0 := b0.drew; have gQ := c0.lt; have hc := Jt W; go_region_held3 (fun w' => w'.cell? ⟨w.heap.size, 0, none⟩ = some (.bool (decide (s.num < 0))) /\ w'.cell? ⟨w.heap.size, 1, none⟩ = some (.int .u64 (lo s.num.natAbs : Int)) /\ w'.cell? ⟨w.heap.size, 2, none⟩ = some (.string (mo s.num.natAbs)) /\ w'.cell? ⟨w.heap.size, 3, none⟩ = some (.int .u64 (lo ((qden s)) : Int)) /\ w'.cell? ⟨w.heap.size, 4, none⟩ = some (.string (mo ((qden s))))) (go_keep) (first | ((first | (go_at_call 40; (first | with_reducible refine (HO1.out _ (tT.next hc)).mono ?_ | (have aV : W.heap.size <= W.heap.size := hc.size; have ca : Blk _ W.heap.size _ _ := Blk.new W.drew 41 #[.bool false, .int .u64 0, .string ⟨#[]⟩, .int .u64 0, .string ⟨#[]⟩]; have jE := Jq (show _ < W.heap.size from gQ) zd; have c0 := c0.alloc (.cells #[.bool false, .int .u64 0, .string ⟨#[]⟩, .int .u64 0, .string ⟨#[]⟩] 41); have hc := Ja hc (Jb _ (.cells #[.bool false, .int .u64 0, .string ⟨#[]⟩, .int .u64 0, .string ⟨#[]⟩] 41)); with_reducible refine (HO1.out _ (tT.next hc)).mono ?_) | (have aV : W.heap.size <= W.heap.size := hc.size; have ca : Blk (W.alloc (.cells #[.bool false, .int .u64 0, .string ⟨#[]⟩, .int .u64 0, .string ⟨#[]⟩] 41)).drew W.heap.size _ _ := Blk.new W.drew 41 #[.bool false, .int .u64 0, .string ⟨#[]⟩, .int .u64 0, .string ⟨#[]⟩]; have jE := Jq (show _ < W.heap.size from gQ) zd; have c0 : Blk (W.alloc (.cells #[.bool false, .int .u64 0, .string ⟨#[]⟩, .int .u64 0, .string ⟨#[]⟩] 41)).drew _ _ _ := c0.alloc (.cells #[.bool false, .int .u64 0, .string ⟨#[]⟩, .int .u64 0, .string ⟨#[]⟩] 41); have hc : Below W.heap.size W (W.alloc (.cells #[.bool false, .int .u64 0, .string ⟨#[]⟩, .int .u64 0, .string ⟨#[]⟩] 41)).drew := Ja hc (Jb _ (.cells #[.bool false, .int .u64 0, .string ⟨#[]⟩, .int .u64 0, .string ⟨#[]⟩] 41)); with_reducible refine (HO1.out _ (tT.next hc)).mono ?_)); rintro e w1 ⟨rfl, jF⟩) | (go_at_call 41; (first | with_reducible refine (HAD.out _ (tT.next hc)).mono ?_ | (have aV : W.heap.size <= w1.heap.size := hc.size; have ca : Blk _ w1.heap.size _ _ := Blk.new w1 41 #[.bool false, .int .u64 0, .string ⟨#[]⟩, .int .u64 0, .string ⟨#[]⟩]; have jE := Jq (show _ < w1.heap.size from gQ) zd; have c0 := c0.alloc (.cells #[.bool false, .int .u64 0, .string ⟨#[]⟩, .int .u64 0, .string ⟨#[]⟩] 41); have hc := Ja hc (Jb _ (.cells #[.bool false, .int .u64 0, .string ⟨#[]⟩, .int .u64 0, .string ⟨#[]⟩] 41)); with_reducible refine (HAD.out _ (tT.next hc)).mono ?_)); rintro e w2 ⟨rfl, jF⟩) | (go_at_call 40; (first | with_reducible refine (HO2.out _ (tT.next hc)).mono ?_ | (have aV : W.heap.size <= w2.heap.size := hc.size; have ca : Blk _ w2.heap.size _ _ := Blk.new w2 41 #[.bool false, .int .u64 0, .string ⟨#[]⟩, .int .u64 0, .string ⟨#[]⟩]; have jE := Jq (show _ < w2.heap.size from gQ) zd; have c0 := c0.alloc (.cells #[.bool false, .int .u64 0, .string ⟨#[]⟩, .int .u64 0, .string ⟨#[]⟩] 41); have hc := Ja hc (Jb _ (.cells #[.bool false, .int .u64 0, .string ⟨#[]⟩, .int .u64 0, .string ⟨#[]⟩] 41)); with_reducible refine (HO2.out _ (tT.next hc)).mono ?_)); rintro e w3 ⟨rfl, jF⟩) | (go_at_call 40; (first | with_reducible refine (HO3.out _ (tT.next hc)).mono ?_ | (have aV : W.heap.size <= w3.heap.size := hc.size; have ca : Blk _ w3.heap.size _ _ := Blk.new w3 41 #[.bool false, .int .u64 0, .string ⟨#[]⟩, .int .u64 0, .string ⟨#[]⟩]; have jE := Jq (show _ < w3.heap.size from gQ) zd; have c0 := c0.alloc (.cells #[.bool false, .int .u64 0, .string ⟨#[]⟩, .int .u64 0, .string ⟨#[]⟩] 41); have hc := Ja hc (Jb _ (.cells #[.bool false, .int .u64 0, .string ⟨#[]⟩, .int .u64 0, .string ⟨#[]⟩] 41)); with_reducible refine (HO3.out _ (tT.next hc)).mono ?_)); rintro e w4 ⟨rfl, jF⟩) | (go_at_call 42; (first | with_reducible refine (HMU.out _ (tT.next hc)).mono ?_ | (have aV : W.heap.size <= w4.heap.size := hc.size; have ca : Blk _ w4.heap.size _ _ := Blk.new w4 41 #[.bool false, .int .u64 0, .string ⟨#[]⟩, .int .u64 0, .string ⟨#[]⟩]; have jE := Jq (show _ < w4.heap.size from gQ) zd; have c0 := c0.alloc (.cells #[.bool false, .int .u64 0, .string ⟨#[]⟩, .int .u64 0, .string ⟨#[]⟩] 41); have hc := Ja hc (Jb _ (.cells #[.bool false, .int .u64 0, .string ⟨#[]⟩, .int .u64 0, .string ⟨#[]⟩] 41)); with_reducible refine (HMU.out _ (tT.next hc)).mono ?_)); rintro e w5 ⟨rfl, jF⟩) | (go_at_call 41; (first | with_reducible refine (HAD2.out _ (tT.next hc)).mono ?_ | (have aV : W.heap.size <= w5.heap.size := hc.size; have ca : Blk _ w5.heap.size _ _ := Blk.new w5 41 #[.bool false, .int .u64 0, .string ⟨#[]⟩, .int .u64 0, .string ⟨#[]⟩]; have jE := Jq (show _ < w5.heap.size from gQ) zd; have c0 := c0.alloc (.cells #[.bool false, .int .u64 0, .string ⟨#[]⟩, .int .u64 0, .string ⟨#[]⟩] 41); have hc := Ja hc (Jb _ (.cells #[.bool false, .int .u64 0, .string ⟨#[]⟩, .int .u64 0, .string ⟨#[]⟩] 41)); with_reducible refine (HAD2.out _ (tT.next hc)).mono ?_)); rintro e w6 ⟨rfl, jF⟩) | (go_at_call 64; (first | with_reducible refine (HDI.out _ (tT.next hc)).mono ?_ | (have aV : W.heap.size <= w6.heap.size := hc.size; have ca : Blk _ w6.heap.size _ _ := Blk.new w6 41 #[.bool false, .int .u64 0, .string ⟨#[]⟩, .int .u64 0, .string ⟨#[]⟩]; have jE := Jq (show _ < w6.heap.size from gQ) zd; have c0 := c0.alloc (.cells #[.bool false, .int .u64 0, .string ⟨#[]⟩, .int .u64 0, .string ⟨#[]⟩] 41); have hc := Ja hc (Jb _ (.cells #[.bool false, .int .u64 0, .string ⟨#[]⟩, .int .u64 0, .string ⟨#[]⟩] 41)); with_reducible refine (HDI.out _ (tT.next hc)).mono ?_)); rintro e w7 ⟨rfl, jF⟩; have lst := True.intro)); (try have ca := ca.below jF ca.lt); (try clear j0 j6 j7 j8 j9); obtain ⟨c0, j0, j6, j7, j8, j9⟩ := c0.zc5 jF; (try clear gQ); have gQ := c0.lt; have hc := Ja hc jF; (try (clear lst; (try (have iT := ca.lt; obtain ⟨gA, gB, gD, gE, gF, gG, gH, gI, gJ, gK, gL, gM, gO, gP, jP⟩ := ca.f5))))))
  all_goals
   go_wp2
   go_meet
   first | with_reducible exact Jlu hc | with_reducible exact Joc hc ca aV | with_reducible exact Joc (Ja hc (Jb _ _)) (Blk.new _ _ _) hc.size
 case rest =>
  obtain ⟨g9, rfl, gU, b9, dT⟩ := hcut
  rename World => wc
  obtain ⟨x0, x1, x2, x3, x4⟩ := b9.c5
  have b1 := b1.below dT b1.lt
  have ne1 : ¬ w.heap.size + 1 = g9 := by have := HZ.out; omega
  have ne2 : ¬ g9 = w.heap.size + 1 := by omega
  have HB9 := lh (HBW.out.trans (dT.mono HBW.out.size))
  obtain ⟨bC, bD, cF, cG, cH, gV, gW, gY, gZ, hJ, dU, dV, dW, dX, dY⟩ := b1.f5
  clear dT b0 b9
  go_wp2
  refine bodyPost_ret (v := .agg #[.bool (decide (R.num < 0)), .int .u64 (lo R.num.natAbs : Int), .string (mo R.num.natAbs), .int .u64 (lo ((qden R)) : Int), .string (mo ((qden R)))]) (by simp [results, Tryz.results62, go_sem, dU, dV, dW, dX, dY]) rfl ?_
  exact ⟨rfl, Jfp HB9.out (show w.heap.size <= w.heap.size + 1 by omega) _ _ _ _ _⟩
theorem Blk.fars5q {w : World} {g g' i j k l n : Nat} {t : TypeId} {cs : Array Value} (h : Blk w g t cs) (cI : g ≠ g') (x y z u v : Value) : Blk (((((w.setCell ⟨g', i, none⟩ x).setCell ⟨g', j, none⟩ y).setCell ⟨g', k, none⟩ z).setCell ⟨g', l, none⟩ u).setCell ⟨g', n, none⟩ v) g t cs :=
 ((((h.far (p := ⟨g', i, none⟩) cI x).far (p := ⟨g', j, none⟩) cI y).far (p := ⟨g', k, none⟩) cI z).far (p := ⟨g', l, none⟩) cI u).far (p := ⟨g', n, none⟩) cI v
def Kr (l : List Rat) (f : Rat -> Rat) (k : Nat) : List Rat := (l.take k).map f ++ l.drop k
theorem Jhz (l : List Rat) (f : Rat -> Rat) : Kr l f 0 = l := by simp [Kr]
theorem Jh0 (l : List Rat) (f : Rat -> Rat) : Kr l f l.length = l.map f := by simp [Kr]
theorem Jk9 {l : List Rat} (f : Rat -> Rat) {k : Nat} {x : Rat} (h : l[k]? = some x) : (Kr l f k)[k]? = some x := by
 have hk := (List.getElem?_eq_some_iff.1 h).1
 unfold Kr
 have e : ((l.take k).map f).length = k := by rw [List.length_map, List.length_take]; omega
 rw [List.getElem?_append_right (by omega), e, Nat.sub_self, List.getElem?_drop, Nat.add_zero, h]
theorem Jjt {l : List Rat} (f : Rat -> Rat) {k : Nat} {x : Rat} (h : l[k]? = some x) : (Kr l f k).set k (f x) = Kr l f (k + 1) := by
 have hk := (List.getElem?_eq_some_iff.1 h).1
 unfold Kr
 have e : ((l.take k).map f).length = k := by rw [List.length_map, List.length_take]; omega
 rw [List.set_append_right k _ (by omega), e, Nat.sub_self, List.drop_eq_getElem_cons hk, List.set_cons_zero, Ud h, List.map_append, List.append_assoc]
 rfl
def RetC (L n2 : Nat) (r : List Rat × Int) (v : Value) (w : World) : Prop :=
 (r.2 = 0 /\ ∃ g, v = .tuple #[.slice (some ⟨g, 0, none⟩) n2 n2, .int .i64 0] /\ L <= g /\ OwnQ w (.slice (some ⟨g, 0, none⟩) n2 n2) r.1) \/ (r.2 ≠ 0 /\ v = .tuple #[.slice none 0 0, .int .i64 r.2])
theorem Vu (X1 X2 X3 : Option Addr) (n1 s1 n2 s2 n3 s3 B : Nat) (m : BM) (A4 : Option Addr) (n4 s4 : Nat) (row : List Int) (w : World) (h : RdB w B ⟨X1, n1, s1⟩ ⟨X2, n2, s2⟩ ⟨X3, n3, s3⟩ m) (h4 : ReadsI w B A4 n4 row) (hB : B <= w.heap.size) (hL : LenB m) (dZ : n4 <= 1000) (hs : QS 1000 m.smooth) (hT : Tab w) :
  Calls Tryz.prog 24 #[.agg #[.bool (decide (m.smooth.num < 0)), .int .u64 (lo m.smooth.num.natAbs : Int), .string (mo m.smooth.num.natAbs), .int .u64 (lo ((qden m.smooth)) : Int), .string (mo ((qden m.smooth))), .slice X1 n1 s1, .slice X2 n2 s2, .slice X3 n3 s3], .slice A4 n4 s4] w fun e w' => ∃ v, e = .returned v /\ RetC w.heap.size n2 (Qo m row) v w' /\ Below w.heap.size w w' := by
 have o9 : m.words.length = n1 := h.words.len
 have jJ : m.seen.length = n2 := h.seen.len
 have aG : m.counts.length = n3 := ReadsS.len h.counts
 have bP : row.length = n4 := h4.len
 obtain ⟨R, hR⟩ : ∃ R, Qo m row = R := ⟨_, rfl⟩
 rw [hR]
 have HR := lh hR
 clear hR
 obtain ⟨b0, hB, hZ⟩ := bx1 w 43 #[.bool (decide (m.smooth.num < 0)), .int .u64 (lo m.smooth.num.natAbs : Int), .string (mo m.smooth.num.natAbs), .int .u64 (lo (qden m.smooth) : Int), .string (mo (qden m.smooth)), .slice X1 n1 s1, .slice X2 n2 s2, .slice X3 n3 s3]
 go_enter Tryz.func24, Tryz.ntmps24
 go_upto_region 1 with fail
 generalize (w.alloc (.cells #[.bool (decide (m.smooth.num < 0)), .int .u64 (lo m.smooth.num.natAbs : Int), .string (mo m.smooth.num.natAbs), .int .u64 (lo (qden m.smooth) : Int), .string (mo (qden m.smooth)), .slice X1 n1 s1, .slice X2 n2 s2, .slice X3 n3 s3] 43)) = W at *
 rename B <= w.heap.size => hBB
 have HSU := lh (fun w' (hb : Below w.heap.size w w') => Vb X1 X2 X3 n1 s1 n2 s2 n3 s3 B m A4 n4 s4 row 0 w' (h.below (hb.mono hBB)) (rkindI.below h4 (hb.mono hBB)) (nt hBB hb.size) hL dZ (hs.mono (by omega)))
 have H := lh h
 have H4 := lh h4
 have HS := lh hs
 have HT := lh hT
 have HW := lh (And.intro o9 (And.intro jJ (And.intro aG bP)))
 have HBW := lh hB
 have HBB := lh hBB
 obtain ⟨r, hr⟩ : ∃ r, Xq m row 0 = r := ⟨_, rfl⟩
 rw [hr] at HSU
 have HRC := lh hr
 obtain ⟨x0, x1, x2, x3, x4, x5, x6, x7⟩ := b0.c8
 clear h h4 hL hs hT o9 jJ aG bP hB hZ hBB hr
 go_wp2_with fail
 refine (HSU.out _ HBW.out).mono ?_
 rintro e w1 ⟨rfl, bQ⟩
 have b0 := b0.below bQ b0.lt
 have HB1 := lh (HBW.out.trans (bQ.mono HBW.out.size))
 clear x0 x1 x2 x3 x4 x5 x6 x7 bQ HBW HSU
 by_cases aW : r = 0
 case neg =>
  obtain rfl : R = ([], r) := by rw [<- HR.out]; unfold Qo; rw [if_pos (by rw [HRC.out]; exact aW), HRC.out]
  have q1 : (r != 0) = true := by simp; omega
  have q2 : (r == 0) = false := by simp; omega
  clear b0
  go_wp2
  go_returns
  exact ⟨_, rfl, .inr ⟨aW, rfl⟩, HB1.out⟩
 subst aW
 obtain ⟨aM, -, -, dB⟩ := Ye HRC.out
 have hN := Qy aM
 have iA : n2 <= 12 := by have := hN.classes; have := HW.out; omega
 obtain rfl : n3 = n2 := by have := hN.tabs; have := HW.out; omega
 obtain rfl : n4 = n1 := by have := dB.1; have := HW.out; omega
 obtain ⟨WL, dC⟩ : ∃ WL, Qr m row = WL := ⟨_, rfl⟩
 obtain ⟨aN, dD, dE⟩ := Jag aM row
 have bS := Jbm (row := row) aM HS.out (by omega)
 rw [dC] at aN dD dE bS
 obtain ⟨al, dF⟩ : ∃ al, Jjk WL = al := ⟨_, rfl⟩
 have iB : R = (WL.map fun x => x / al, 0) := by
  rw [<- HR.out]
  unfold Qo
  rw [if_neg (by rw [HRC.out]; simp), dC, <- dF]
  rfl
 subst iB
 have cJ : al ≠ 0 := fun e => by
  have := Jku aN dE
  rw [dF, e] at this
  exact absurd this Rat.lt_irrefl
 have aH : WL.length = n3 := by have := HW.out; omega
 have HWA : Hid (∀ (c : Nat) (s : Int) (t : List (List Int)), m.seen[c]? = some s -> m.counts[c]? = some t -> WL[c]? = some (Xb m.smooth (t.zip row) (Zu s m.seen.sum m.seen.length m.smooth))) := lh fun c s t h1 h2 => by
  rw [<- dC]
  unfold Qr
  rw [List.getElem?_map, show (m.seen.zip m.counts)[c]? = some (s, t) from by rw [List.getElem?_zip_eq_some]; exact ⟨h1, h2⟩]
  rfl
 have HN := lh hN
 have HRO := lh dB
 have HWQ := lh bS
 have HAL := lh (And.intro dF cJ)
 obtain ⟨w2, iC, eA, eB⟩ := Jnj n3 (by omega) w1
 have eC : w.heap.size <= w1.heap.size := HB1.out.size
 have iD : w.heap.size < w1.heap.size := b0.lt
 have b0 := b0.below eB b0.lt
 have HB2 := lh (HB1.out.trans (eB.mono HB1.out.size))
 have cK : Blk w1 w.heap.size _ _ := ‹Blk w1 _ _ _›
 obtain ⟨x0, x1, x2, x3, x4, x5, x6, x7⟩ := cK.c8
 generalize w1.heap.size = g7 at *
 rw [show List.replicate n3 (0 : Rat) = Jm WL 0 0 by rw [Zk, aH]] at eA
 have HI := lh (And.intro eA (And.intro b0 HB2.out))
 clear eA b0 eB HB2 hN dB aM bS dF cJ aN dE dC cK dD
 go_wp2_with fail
 clear x0 x1 x2 x3 x4 x5 x6 x7 iC b0
 have HSUM := lh HN.out.all
 go_loopw [26] (fun p wr => ∃ c : Nat, c <= n3 /\ p = .int .i64 (c : Int) /\ OwnQ wr (.slice (some ⟨g7, 0, none⟩) n3 n3) (Jm WL 0 c) /\ Blk wr w.heap.size 43 #[.bool (decide (m.smooth.num < 0)), .int .u64 (lo m.smooth.num.natAbs : Int), .string (mo m.smooth.num.natAbs), .int .u64 (lo ((qden m.smooth)) : Int), .string (mo ((qden m.smooth))), .slice X1 n4 s1, .slice X2 n3 s2, .slice X3 n3 s3] /\ Below w.heap.size w wr) (fun p _ => n3 - (intOf p).toNat)
 case atStart => exact ⟨0, by omega, rfl, HI.out⟩
 case round =>
  obtain ⟨c, hc, rfl, ho, b0, o0⟩ := hrel
  rename World => wr
  clear HI
  by_cases iE : c < n3
  ·as_aux_lemma =>
   have k1 : (c : Int) < (n3 : Int) := by omega
   obtain ⟨ad, g1, o1, sc, rfl, iU, iF, eD, b1w⟩ := H.out.seen.spot (k := c) iE
   obtain ⟨t, ht⟩ : ∃ t, m.counts[c]? = some t := ⟨_, List.getElem?_eq_getElem (by have := HW.out.2.2.1; omega)⟩
   obtain ⟨ad2, g2, o2, A5, n5, v5, rfl, iV, bT, b2w, bE⟩ := H.out.counts.spotB ht
   have cL : t.length = n5 := ReadsS.len bE
   have bF := HN.out.fits t (List.mem_of_getElem? ht)
   obtain rfl : n5 = n4 := by have := bF.1; have := HW.out.1; omega
   have dG := HWA.out c sc t eD ht
   have iG := HN.out.seen sc (List.mem_of_getElem? eD)
   have hm := o0.mono HBB.out
   have b1 := b1w.below hm iF
   have iH := nt HBB.out o0.size
   have bU := fun w' (hb : Below wr.heap.size wr w') => Va (some ad) n3 s2 B m.seen w' (rkindI.below H.out.seen ((o0.trans (hb.mono o0.size)).mono HBB.out)) (by omega) (fun x hx => by have := HN.out.seen x hx; omega)
   have aX := HSUM.out
   rw [HW.out.2.1] at dG
   generalize m.seen.sum = sa at *
   have aO := fun w' (hT : Tab w') => Jb1 sc sa n3 m.smooth 1000 w' ⟨by omega, by omega⟩ ⟨by omega, by omega⟩ ⟨by omega, by omega⟩ HS.out (by omega) (by omega) HN.out.pos hT
   have eE := Vj (n := sc) (all := sa) (ways := (n3 : Int)) HS.out (by omega) ⟨by omega, by omega⟩ ⟨by omega, by omega⟩ ⟨by omega, by omega⟩
   obtain ⟨x0, cN⟩ : ∃ x0, Zu sc sa (n3 : Int) m.smooth = x0 := ⟨_, rfl⟩
   rw [cN] at dG aO eE
   unfold qV at aO
   obtain ⟨z0, iI⟩ : ∃ z0 : Rat, 0 = z0 := ⟨_, rfl⟩
   have dH := OwnQ.at_ ho (Jej (l := WL) (k := c) (by omega) (0 : Rat))
   rw [iI] at dH
   have b4 := dH
   have tT := HT.out.next o0
   have HTO := lh bU
   have HSH := lh aO
   have HWC := lh dG
   have HQ0 := lh eE
   have HO := lh ho
   have HBW := lh o0
   have HD := lh (And.intro ht (And.intro cL (And.intro bF.2 (And.intro bE (And.intro b2w bT)))))
   have iJ := dH.lt
   clear bU aO dG eE ho o0 ht cL bF bE b2w bT iG hm b1w eD cN dH iH aX
   go_upto_region 8 with fail
   go_cut [] (fun wc => OwnQ wc (.slice (some ⟨g7, 0, none⟩) n3 n3) ((Jm WL 0 c).set c x0) /\ Blk wc w.heap.size 43 #[.bool (decide (m.smooth.num < 0)), .int .u64 (lo m.smooth.num.natAbs : Int), .string (mo m.smooth.num.natAbs), .int .u64 (lo ((qden m.smooth)) : Int), .string (mo ((qden m.smooth))), .slice X1 n5 s1, .slice (some ad) n3 s2, .slice (some ad2) n3 s3] /\ Below w.heap.size w wc)
   case first =>
    obtain ⟨cA, cB, jK, cD, cE, eF, eG, eH⟩ := b0.c8; have c0 := b0.drew; have gQ := c0.lt; obtain ⟨bC, bD⟩ := b1.c2; have c1 := b1.drew; have aK := c1.lt; have c4 := b4.drew; have dI := c4.lt; have hc := Jt wr; go_region_held3 (fun w' => w'.cell? ⟨w.heap.size, 0, none⟩ = some (.bool (decide (m.smooth.num < 0))) /\ w'.cell? ⟨w.heap.size, 1, none⟩ = some (.int .u64 (lo m.smooth.num.natAbs : Int)) /\ w'.cell? ⟨w.heap.size, 2, none⟩ = some (.string (mo m.smooth.num.natAbs)) /\ w'.cell? ⟨w.heap.size, 3, none⟩ = some (.int .u64 (lo (qden m.smooth) : Int)) /\ w'.cell? ⟨w.heap.size, 4, none⟩ = some (.string (mo (qden m.smooth))) /\ w'.cell? ⟨w.heap.size, 5, none⟩ = some (.slice X1 n5 s1) /\ w'.cell? ⟨w.heap.size, 6, none⟩ = some (.slice (some ad) n3 s2) /\ w'.cell? ⟨w.heap.size, 7, none⟩ = some (.slice (some ad2) n3 s3) /\ w'.cell? ⟨g1, o1, none⟩ = some (.int .i64 sc)) (go_keep) (first | ((first | (go_at_call 58; (with_reducible refine (HTO.out _ hc).mono ?_); rintro e w1 ⟨rfl, jF⟩) | (go_at_call 62; (with_reducible refine (HSH.out _ (tT.next hc)).mono ?_); rintro e w2 ⟨rfl, jF⟩; have lst := True.intro)); (try clear j0 j6 j7 j8 j9 p9 jG s9); obtain ⟨c0, j0, j6, j7, j8, j9, p9, jG, s9⟩ := c0.zc8 jF; (try clear gQ); have gQ := c0.lt; (try clear jH jI); obtain ⟨c1, jH, jI⟩ := c1.zc2 jF; (try clear aK); have aK := c1.lt; have c4 := c4.below jF c4.lt; (try clear dI); have dI := c4.lt; have hc := Ja hc jF; (try (clear lst; have o7 := OwnW.next HO.out hc; have f0 := OwnQ.frozen o7 (c * 5); have f1 := OwnQ.frozen o7 (c * 5 + 1); have f2 := OwnQ.frozen o7 (c * 5 + 2); have f3 := OwnQ.frozen o7 (c * 5 + 3); have f4 := OwnQ.frozen o7 (c * 5 + 4); obtain ⟨q0, q1, q2, q3, q4⟩ := c4.c5; have HO7 := lh o7; clear o7; have n1 : ¬ w.heap.size = g7 := (by omega); have n2 : ¬ g7 = w.heap.size := (by omega); have n3 : ¬ g1 = g7 := (by have := HBB.out; omega); have n4 : ¬ g7 = g1 := (by omega)))))
    all_goals
     go_wp2
     go_meet
     exact ⟨OwnQ.store HO7.out c x0, c0.fars5q (by omega) _ _ _ _ _, Jfp (HBW.out.trans (hc.mono HBW.out.size)) (by omega) _ _ _ _ _⟩
   case rest =>
    obtain ⟨ho, b0, o0⟩ := hcut
    rename World => ws
    have HI := lh (And.intro ho (And.intro b0 o0))
    clear ho b0 o0 HO HBW HTO HSH b1 b4 tT
    go_wp2_with fail
    go_loopw [48] (fun p wi => ∃ (i : Nat) (x : Rat), i <= n5 /\ p = .int .i64 (i : Int) /\ Hid (Xb m.smooth ((t.zip row).take i) x0 = x) /\ OwnQ wi (.slice (some ⟨g7, 0, none⟩) n3 n3) ((Jm WL 0 c).set c x) /\ Blk wi w.heap.size 43 #[.bool (decide (m.smooth.num < 0)), .int .u64 (lo m.smooth.num.natAbs : Int), .string (mo m.smooth.num.natAbs), .int .u64 (lo ((qden m.smooth)) : Int), .string (mo ((qden m.smooth))), .slice X1 n5 s1, .slice (some ad) n3 s2, .slice (some ad2) n3 s3] /\ Below w.heap.size w wi) (fun p _ => n5 - (intOf p).toNat)
    case atStart => exact ⟨0, x0, by omega, rfl, lh rfl, HI.out⟩
    case round =>
     obtain ⟨i, x, hi, rfl, bV, ho, b0, o0⟩ := hrel
     rename World => wi
     clear HI
     by_cases cZ : i < n5
     ·as_aux_lemma =>
      have k2 : (i : Int) < (n5 : Int) := by omega
      obtain ⟨ad4, g4, o4, wv, rfl, iW, eI, dJ, b4w⟩ := H4.out.spot (k := i) cZ
      obtain ⟨ht, cL, bF, bE, b2w, bT⟩ := HD.out
      obtain ⟨aP, aF⟩ : ∃ aP, t[i]? = some aP := ⟨_, List.getElem?_eq_getElem (by omega)⟩
      obtain ⟨nw, dK⟩ : ∃ nw, m.words[i]? = some nw := ⟨_, List.getElem?_eq_getElem (by have := HW.out; omega)⟩
      obtain ⟨ad6, g6, o6, A7, n7, v7, rfl, iX, eJ, b6w, cO⟩ := bE.spotB aF
      have eK : aP.length = n7 := cO.len
      have aQ := HN.out.nums t (List.mem_of_getElem? ht) aP (List.mem_of_getElem? aF)
      have fK := HRO.out.2 i wv nw dJ dK
      have cP := bF i aP nw aF dK
      have hm := o0.mono HBB.out
      have eL := HBB.out
      have y4 := (b4w.below hm eI).c2.1
      have y2 := (b2w.below hm bT).c2.1
      have y6 := (b6w.below hm eJ).c2.1
      have bG : (t.zip row)[i]? = some (aP, wv) := by rw [List.getElem?_zip_eq_some]; exact ⟨aF, dJ⟩
      have bR := Jew m.smooth bG x0
      rw [bV.out] at bR
      obtain ⟨e0, e1, e2, e3, e4, e5, e6, e7⟩ := b0.c8
      by_cases fL : 0 <= wv
      ·obtain ⟨wn, rfl⟩ := Int.eq_ofNat_of_zero_le fL
       rw [Jb4 _ _ _ fL] at bR
       obtain ⟨ad8, g8, o8, cv, rfl, iY, fM, aY, b8w⟩ := cO.spot (k := wn) (by omega)
       have fN : aP.getD ((wn : Int)).toNat 0 = cv := by
        rw [Int.toNat_natCast, List.getD_eq_getElem?_getD, aY]
        rfl
       have eM := aQ.1 cv (List.mem_of_getElem? aY)
       have bU := fun w' (hb : Below wi.heap.size wi w') => Va (some ad8) n7 v7 B aP w' (rkindI.below cO ((o0.trans (hb.mono o0.size)).mono eL)) (by omega) (fun x hx => by have := aQ.1 x hx; omega)
       have jL : QS (3200 + 20 * 3200) x := by
        have hq := Ub (s := m.smooth) (m := 1000) HS.out (by omega) ((t.zip row).take i) x0 3200 (fun p hp => by
         obtain ⟨j, hj⟩ := List.getElem?_of_mem (List.mem_of_mem_take hp)
         rw [List.getElem?_zip_eq_some] at hj
         have := HN.out.nums t (List.mem_of_getElem? ht) p.1 (List.mem_of_getElem? hj.1)
         exact ⟨fun n hn => by have := this.1 n hn; omega, by omega, by omega⟩) HQ0.out
        rw [bV.out] at hq
        refine hq.mono ?_
        have h1 : ((t.zip row).take i).length <= 20 := by rw [List.length_take]; have := HN.out.cols.2; have := HW.out.1; omega
        have := Nat.mul_le_mul_right 3200 h1
        omega
       simp only at bR
       rw [fN, eK] at bR
       obtain ⟨sc2, cR⟩ : ∃ sc2, aP.sum = sc2 := ⟨_, rfl⟩
       rw [cR] at bU bR
       have aO := fun w' (hT : Tab w') => Jb1 cv sc2 n7 m.smooth 1000 w' ⟨by omega, by omega⟩ ⟨by omega, by omega⟩ ⟨by omega, by omega⟩ HS.out (by omega) (by omega) HN.out.pos hT
       have eN := Vj (n := cv) (all := sc2) (ways := (n7 : Int)) HS.out (by omega) ⟨by omega, by omega⟩ ⟨by omega, by omega⟩ ⟨by omega, by omega⟩
       obtain ⟨sh, jM⟩ : ∃ sh, Zu cv sc2 (n7 : Int) m.smooth = sh := ⟨_, rfl⟩
       rw [jM] at aO eN bR
       have aU := fun w' (hT : Tab w') => Jcw x sh w' (jL.mono (by omega)) (eN.mono (by omega)) hT
       obtain ⟨x', fO⟩ : ∃ x', x * sh = x' := ⟨_, rfl⟩
       rw [fO] at aU bR
       unfold qV at aO aU
       have fP : c < (Jm WL (0 : Rat) c).length := by rw [Zd _ _ (by omega)]; omega
       have b3 := OwnQ.at_ ho (show ((Jm WL 0 c).set c x)[c]? = some x by rw [List.getElem?_set_self fP])
       have b8 := b8w.below hm fM
       have tT := HT.out.next o0
       have HTO := lh bU
       have HSH := lh aO
       have HMU := lh aU
       have HNX := lh bR
       have HO := lh ho
       have HBW := lh o0
       have p1 : (wn : Int) < (n7 : Int) := by omega
       have n1 : ¬ w.heap.size = g7 := by omega
       have n2 : ¬ g7 = w.heap.size := by omega
       have n3' : ¬ g8 = g7 := by omega
       have n4' : ¬ g7 = g8 := by omega
       have eO : w.heap.size <= g7 := eC
       clear bU aO aU bR ho o0 bV ht cL bF bE b2w bT aF dK eK aQ fK cP hm bG fN eM jL eN jM fO fP b8w aY cR dJ b4w b6w cO eI eJ fM eL
       go_upto_region 14 with fail
       obtain ⟨eP, eQ, eR, eS, eT⟩ := b3.c5; have c3 := b3.drew; have aR := c3.lt; obtain ⟨iK, iL⟩ := b8.c2; have c8 := b8.drew; have bW := c8.lt; obtain ⟨cA, cB, jK, cD, cE, eF, eG, eH⟩ := b0.c8; have c0 := b0.drew; have gQ := c0.lt; have hc := Jt wi; refine Jh7 (S := (fun w' => w'.cell? ⟨g7, c * 5, none⟩ = some (.bool (decide (x.num < 0))) /\ w'.cell? ⟨g7, c * 5 + 1, none⟩ = some (.int .u64 (lo x.num.natAbs : Int)) /\ w'.cell? ⟨g7, c * 5 + 2, none⟩ = some (.string (mo x.num.natAbs)) /\ w'.cell? ⟨g7, c * 5 + 3, none⟩ = some (.int .u64 (lo ((qden x)) : Int)) /\ w'.cell? ⟨g7, c * 5 + 4, none⟩ = some (.string (mo ((qden x)))) /\ w'.cell? ⟨g8, o8, none⟩ = some (.int .i64 cv) /\ w'.cell? ⟨w.heap.size, 0, none⟩ = some (.bool (decide (m.smooth.num < 0))) /\ w'.cell? ⟨w.heap.size, 1, none⟩ = some (.int .u64 (lo m.smooth.num.natAbs : Int)) /\ w'.cell? ⟨w.heap.size, 2, none⟩ = some (.string (mo m.smooth.num.natAbs)) /\ w'.cell? ⟨w.heap.size, 3, none⟩ = some (.int .u64 (lo (qden m.smooth) : Int)) /\ w'.cell? ⟨w.heap.size, 4, none⟩ = some (.string (mo (qden m.smooth))) /\ w'.cell? ⟨w.heap.size, 5, none⟩ = some (.slice X1 n5 s1) /\ w'.cell? ⟨w.heap.size, 6, none⟩ = some (.slice (some ad) n3 s2) /\ w'.cell? ⟨w.heap.size, 7, none⟩ = some (.slice (some ad2) n3 s3))) 19 [0, 1, 2, 3, 4, 5, 6, 7, 8, 9, 10, 12, 13, 14, 15, 11, 16, 17, 18] (by kernel_rfl) (by simp) (by first | (dsimp only; go_keep) | go_keep) (fun jD => ?_); (iterate 15 ((first | (refine Jj (v := ?_) (by simp only [List.getElem?_toArray, List.getElem?_cons_succ, List.getElem?_cons_zero]; first | done | rfl) (by kernel_rfl) (by exact fun _ _ _ h => h) (Or.inl ⟨by rfl, ?_⟩) (by assumption) ?_; rotate_left; (focus (intro w jO; (try dsimp only at jO); go_simp; try with_reducible rfl))) | (refine Jj (v := undef) (by simp only [List.getElem?_toArray, List.getElem?_cons_succ, List.getElem?_cons_zero]; first | done | rfl) (by kernel_rfl) (by exact fun _ _ _ h => h) (Or.inr ⟨by rfl, rfl⟩) (by assumption) ?_)); (try simp only [Act.put, List.setIfInBounds_toArray, List.set_cons_zero, List.set_cons_succ, Nat.reduceAdd]))); refine Jbg (by simp only [List.getElem?_toArray, List.getElem?_cons_succ, List.getElem?_cons_zero]; first | done | rfl) (by kernel_rfl) (by kernel_rfl) (fun K hK => ?_); go_simp; (go_at_call 58; (with_reducible refine (HTO.out _ hc).mono ?_); rintro e w1 ⟨rfl, o9⟩; (try clear y9 aA aB aC aD); obtain ⟨c3, y9, aA, aB, aC, aD⟩ := c3.zc5 o9; (try clear aR); have aR := c3.lt; (try clear aI aJ); obtain ⟨c8, aI, aJ⟩ := c8.zc2 o9; (try clear bW); have bW := c8.lt; (try clear j0 j6 j7 j8 j9 p9 jG s9); obtain ⟨c0, j0, j6, j7, j8, j9, p9, jG, s9⟩ := c0.zc8 o9; (try clear gQ); have gQ := c0.lt; have hc := Ja hc o9); (try go_wp2_with fail); clear jD; refine hK.out _ _ (by first | (dsimp only; go_keep) | go_keep) (fun jD => ?_); clear hK K; (try simp only [Act.put, List.setIfInBounds_toArray, List.set_cons_zero, List.set_cons_succ, Nat.reduceAdd]); refine Jbg (by simp only [List.getElem?_toArray, List.getElem?_cons_succ, List.getElem?_cons_zero]; first | done | rfl) (by kernel_rfl) (by kernel_rfl) (fun K hK => ?_); go_simp; (go_at_call 62; (with_reducible refine (HSH.out _ (tT.next hc)).mono ?_); rintro e w2 ⟨rfl, jJ⟩; (try clear y9 aA aB aC aD); obtain ⟨c3, y9, aA, aB, aC, aD⟩ := c3.zc5 jJ; (try clear aR); have aR := c3.lt; (try clear aI aJ); obtain ⟨c8, aI, aJ⟩ := c8.zc2 jJ; (try clear bW); have bW := c8.lt; (try clear j0 j6 j7 j8 j9 p9 jG s9); obtain ⟨c0, j0, j6, j7, j8, j9, p9, jG, s9⟩ := c0.zc8 jJ; (try clear gQ); have gQ := c0.lt; have hc := Ja hc jJ); (try go_wp2_with fail); clear jD; refine hK.out _ _ (by first | (dsimp only; go_keep) | go_keep) (fun jD => ?_); clear hK K; (try simp only [Act.put, List.setIfInBounds_toArray, List.set_cons_zero, List.set_cons_succ, Nat.reduceAdd]); refine Jbg (by simp only [List.getElem?_toArray, List.getElem?_cons_succ, List.getElem?_cons_zero]; first | done | rfl) (by kernel_rfl) (by kernel_rfl) (fun K hK => ?_); go_simp; (go_at_call 42; (with_reducible refine (HMU.out _ (tT.next hc)).mono ?_); rintro e w3 ⟨rfl, aG⟩; (try clear y9 aA aB aC aD); obtain ⟨c3, y9, aA, aB, aC, aD⟩ := c3.zc5 aG; (try clear aR); have aR := c3.lt; (try clear aI aJ); obtain ⟨c8, aI, aJ⟩ := c8.zc2 aG; (try clear bW); have bW := c8.lt; (try clear j0 j6 j7 j8 j9 p9 jG s9); obtain ⟨c0, j0, j6, j7, j8, j9, p9, jG, s9⟩ := c0.zc8 aG; (try clear gQ); have gQ := c0.lt; have hc := Ja hc aG; have o7 := OwnW.next HO.out hc; have f0 := OwnQ.frozen o7 (c * 5); have f1 := OwnQ.frozen o7 (c * 5 + 1); have f2 := OwnQ.frozen o7 (c * 5 + 2); have f3 := OwnQ.frozen o7 (c * 5 + 3); have f4 := OwnQ.frozen o7 (c * 5 + 4); have HO7 := lh o7; clear o7); (try go_wp2_with fail); clear jD; refine hK.out _ _ (by first | (dsimp only; go_keep) | go_keep) (fun jD => ?_); clear hK K; (try simp only [Act.put, List.setIfInBounds_toArray, List.set_cons_zero, List.set_cons_succ, Nat.reduceAdd]); (iterate 1 ((first | (refine Jj (v := ?_) (by simp only [List.getElem?_toArray, List.getElem?_cons_succ, List.getElem?_cons_zero]; first | done | rfl) (by kernel_rfl) (by exact fun _ _ _ h => h) (Or.inl ⟨by rfl, ?_⟩) (by assumption) ?_; rotate_left; (focus (intro w jO; (try dsimp only at jO); go_simp; try with_reducible rfl))) | (refine Jj (v := undef) (by simp only [List.getElem?_toArray, List.getElem?_cons_succ, List.getElem?_cons_zero]; first | done | rfl) (by kernel_rfl) (by exact fun _ _ _ h => h) (Or.inr ⟨by rfl, rfl⟩) (by assumption) ?_)); (try simp only [Act.put, List.setIfInBounds_toArray, List.set_cons_zero, List.set_cons_succ, Nat.reduceAdd]))); refine Jj6 (by kernel_rfl) ?_; simp only [List.drop_succ_cons, List.drop_zero]
       all_goals
        go_wp2
        have fQ := OwnQ.store HO7.out c x'
        rw [List.set_set] at fQ
        exact ⟨⟨i + 1, x', by omega, by go_num, HNX, fQ, c0.fars5q (by omega) _ _ _ _ _, Jfp (HBW.out.trans (hc.mono HBW.out.size)) (by omega) _ _ _ _ _⟩, by simp [intOf]; omega⟩
      rw [Jcf _ _ _ (by show wv < 0; omega)] at bR
      have HNX := lh bR
      have HO := lh (And.intro ho (And.intro b0 o0))
      clear bR ho b0 o0 bV ht cL bF bE b2w bT aF dK eK aQ fK cP hm bG y2 y6 dJ b4w b6w cO eI eJ eL
      go_wp2
      exact ⟨⟨i + 1, x, by omega, by go_num, HNX, HO.out⟩, by simp [intOf]; omega⟩
     obtain rfl : i = n5 := by omega
     have k2 : ¬ (i : Int) < (i : Int) := by omega
     have eU := bV.out
     rw [List.take_of_length_le (by have := HD.out.2.1; simp; omega)] at eU
     have aE := Zw HWC.out (0 : Rat)
     rw [eU] at aE
     rw [aE] at ho
     have HO := lh (And.intro ho (And.intro b0 o0))
     clear ho b0 o0 bV eU aE
     go_wp2
     exact ⟨⟨c + 1, by omega, by go_num, HO.out⟩, by simp [intOf]; omega⟩
  as_aux_lemma =>
  obtain rfl : c = n3 := by omega
  have k1 : ¬ (c : Int) < (c : Int) := by omega
  rw [show Jm WL 0 c = WL by have e := Zl WL (0 : Rat); rw [aH] at e; exact e] at ho
  have HSM := lh (Jll (some ⟨g7, 0, none⟩) c c wr.heap.size 67200 WL wr (by have := OwnW.reads ho; rw [aH] at this; exact this) zd (by omega) (by omega) HWQ.out (HT.out.next o0))
  have eV : Jck WL = al := HAL.out.1
  have aX := HSM.out
  rw [eV] at aX
  unfold qV at aX
  have HSM := lh aX
  have HO := lh ho
  have HBW := lh o0
  have HAQ : Hid (QS 1000000 al) := lh (by
   rw [<- eV]
   have e := QS.sum WL HWQ.out WL.length
   rw [List.take_length] at e
   refine e.mono ?_
   rw [aH]
   exact nt (Nat.succ_le_succ (Nat.mul_le_mul_right _ iA)) (by decide))
  clear aX eV ho o0 b0
  go_wp2_with fail
  refine HSM.out.mono ?_
  rintro e w3 ⟨rfl, eW⟩
  have ho := OwnW.next HO.out eW
  have HB3 := lh (HBW.out.trans (eW.mono HBW.out.size))
  have iJ : g7 < w3.heap.size := Xw (OwnQ.at_ ho (List.getElem?_eq_getElem (show 0 < WL.length by have := HN.out.classes.1; have := HW.out; omega))).c5.1
  clear eW HSM HO HBW
  go_upto_region 18 with fail
  have b9 := Blk.new w3 41 #[.bool (decide (al.num < 0)), .int .u64 (lo al.num.natAbs : Int), .string (mo al.num.natAbs), .int .u64 (lo ((qden al)) : Int), .string (mo ((qden al)))]
  have ho := OwnW.alloc ho (.cells #[.bool (decide (al.num < 0)), .int .u64 (lo al.num.natAbs : Int), .string (mo al.num.natAbs), .int .u64 (lo ((qden al)) : Int), .string (mo ((qden al)))] 41)
  have HB4 := lh (HB3.out.trans ((Jb w3 (.cells #[.bool (decide (al.num < 0)), .int .u64 (lo al.num.natAbs : Int), .string (mo al.num.natAbs), .int .u64 (lo ((qden al)) : Int), .string (mo ((qden al)))] 41)).mono HB3.out.size))
  generalize w3.alloc (.cells #[.bool (decide (al.num < 0)), .int .u64 (lo al.num.natAbs : Int), .string (mo al.num.natAbs), .int .u64 (lo ((qden al)) : Int), .string (mo ((qden al)))] 41) = w4 at *
  have gU : w.heap.size <= w3.heap.size := HB3.out.size
  generalize w3.heap.size = g9 at *
  have HI := lh (And.intro ho (And.intro b9 HB4.out))
  clear ho b9 HB3 HB4
  go_wp2_with fail
  go_loopw [88] (fun p wr => ∃ k : Nat, k <= c /\ p = .int .i64 (k : Int) /\ OwnQ wr (.slice (some ⟨g7, 0, none⟩) c c) (Kr WL (fun x => x / al) k) /\ Blk wr g9 41 #[.bool (decide (al.num < 0)), .int .u64 (lo al.num.natAbs : Int), .string (mo al.num.natAbs), .int .u64 (lo ((qden al)) : Int), .string (mo ((qden al)))] /\ Below w.heap.size w wr) (fun p _ => c - (intOf p).toNat)
  case atStart => exact ⟨0, by omega, rfl, by rw [Jhz]; exact HI.out.1, HI.out.2⟩
  case round =>
   obtain ⟨k, hk, rfl, ho, b9, o0⟩ := hrel
   rename World => wq
   clear HI
   by_cases iZ : k < c
   ·as_aux_lemma =>
    have k2 : (k : Int) < (c : Int) := by omega
    obtain ⟨x, hx⟩ : ∃ x, WL[k]? = some x := ⟨_, List.getElem?_eq_getElem (by omega)⟩
    have b3 := OwnQ.at_ ho (Jk9 (fun x => x / al) hx)
    have aE : (Kr WL (fun x => x / al) k).set k (x / al) = Kr WL (fun x => x / al) (k + 1) := Jjt (fun x => x / al) hx
    have jL := HWQ.out x (List.mem_of_getElem? hx)
    have aL := fun w' (hT : Tab w') => Jg2 x al w' (jL.mono (by omega)) (HAQ.out.mono (by omega)) HAL.out.2 hT
    obtain ⟨y, hy⟩ : ∃ y, x / al = y := ⟨_, rfl⟩
    rw [hy] at aL aE
    unfold qV at aL
    have tT := HT.out.next o0
    have HDI := lh aL
    have HSET := lh aE
    have HO := lh ho
    have HBW := lh o0
    have n1 : ¬ g9 = g7 := by omega
    have n2 : ¬ g7 = g9 := by omega
    have eO : w.heap.size <= g7 := eC
    clear aL aE hx jL hy ho o0
    go_upto_region 21 with fail
    obtain ⟨eP, eQ, eR, eS, eT⟩ := b3.c5; have c3 := b3.drew; have aR := c3.lt; obtain ⟨iM, iN, iO, iP, iQ⟩ := b9.c5; have c9 := b9.drew; have fR := c9.lt; have hc := Jt wq; go_region_with (first | (go_at_call 64; (with_reducible refine (HDI.out _ (tT.next hc)).mono ?_); rintro e w1 ⟨rfl, o9⟩; (try clear y9 aA aB aC aD); obtain ⟨c3, y9, aA, aB, aC, aD⟩ := c3.zc5 o9; (try clear aR); have aR := c3.lt; (try clear eX eY eZ fA fB); obtain ⟨c9, eX, eY, eZ, fA, fB⟩ := c9.zc5 o9; (try clear fR); have fR := c9.lt; have hc := Ja hc o9; have o7 := OwnW.next HO.out hc; have f0 := OwnQ.frozen o7 (k * 5); have f1 := OwnQ.frozen o7 (k * 5 + 1); have f2 := OwnQ.frozen o7 (k * 5 + 2); have f3 := OwnQ.frozen o7 (k * 5 + 3); have f4 := OwnQ.frozen o7 (k * 5 + 4); have HO7 := lh o7; clear o7))
    all_goals
     go_wp2
     exact ⟨⟨k + 1, by omega, by go_num, by rw [<- HSET.out]; exact OwnQ.store HO7.out k y, c9.fars5q (by omega) _ _ _ _ _, Jfp (HBW.out.trans (hc.mono HBW.out.size)) (by omega) _ _ _ _ _⟩, by simp [intOf]; omega⟩
   obtain rfl : k = c := by omega
   have k2 : ¬ (k : Int) < (k : Int) := by omega
   rw [show Kr WL (fun x => x / al) k = WL.map (fun x => x / al) by have e := Jh0 WL (fun x => x / al); rw [aH] at e; exact e] at ho
   have HO := lh ho
   have HBW := lh o0
   clear ho b9 o0
   go_wp2
   go_returns
   exact ⟨_, rfl, .inl ⟨rfl, g7, rfl, eC, HO.out⟩, HBW.out⟩
