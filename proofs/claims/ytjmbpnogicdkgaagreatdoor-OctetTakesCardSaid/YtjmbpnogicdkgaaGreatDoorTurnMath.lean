/-
  The plain law of a sealed record: what Next finds in it, and in it with one byte turned.
-/
import Derived.Test.YtjmbpnogicdkgaaGreatDoorOctet
namespace Go.Proofs.YtjmbpnogicdkgaaGreatDoor
set_option linter.unusedSimpArgs false
set_option linter.unusedVariables false

/-! ### counts read back -/
theorem countF_pos (f m : Nat) : 1 ≤ (countF f m).length := by
  cases f with
  | zero => simp [countF]
  | succ f =>
    by_cases h : m < 128
    · rw [countF_small _ _ h]; simp
    · rw [countF_big _ _ h]; simp
theorem countF_spec (f : Nat) : ∀ (m : Nat) (rest : List UInt8), m < 128 ^ (f + 1) →
    lead (countF f m ++ rest) + 1 = (countF f m).length ∧ valB (countF f m) = m ∧ (∃ x, (countF f m ++ rest)[lead (countF f m ++ rest)]? = some x ∧ (1 < (countF f m).length → x ≠ 0)) := by
  induction f with
  | zero =>
    intro m rest hm
    have hm' : m < 128 := by simpa using hm
    have e : (UInt8.ofNat m).toNat = m := by rw [UInt8.toNat_ofNat', Nat.mod_eq_of_lt (by omega)]
    have hl : lead (countF 0 m ++ rest) = 0 := by
      simp only [countF, List.cons_append, lead, e]
      rw [if_neg (by omega)]
    rw [hl]
    refine ⟨rfl, ?_, UInt8.ofNat m, rfl, ?_⟩
    · simp [countF, valB, e]; omega
    · intro h; simp [countF] at h
  | succ f ih =>
    intro m rest hm
    by_cases h : m < 128
    · have e : (UInt8.ofNat m).toNat = m := by rw [UInt8.toNat_ofNat', Nat.mod_eq_of_lt (by omega)]
      rw [countF_small _ _ h]
      have hl : lead ([UInt8.ofNat m] ++ rest) = 0 := by
        simp only [List.cons_append, lead, e]
        rw [if_neg (by omega)]
      rw [hl]
      refine ⟨rfl, ?_, UInt8.ofNat m, rfl, ?_⟩
      · simp [valB, e]; omega
      · intro h; simp at h
    · rw [countF_big _ _ h]
      have e : (UInt8.ofNat (m % 128 + 128)).toNat = m % 128 + 128 := by rw [UInt8.toNat_ofNat', Nat.mod_eq_of_lt (by omega)]
      obtain ⟨h1, h2, x, h3, h4⟩ := ih (m / 128) rest (by rw [Nat.pow_succ] at hm; omega)
      have hl : lead (UInt8.ofNat (m % 128 + 128) :: countF f (m / 128) ++ rest) = lead (countF f (m / 128) ++ rest) + 1 := by
        simp only [List.cons_append, lead, e]
        rw [if_pos (by omega)]
      rw [hl]
      refine ⟨by rw [List.length_cons]; omega, ?_, x, ?_, ?_⟩
      · simp only [valB, e, h2]; omega
      · rw [List.cons_append, List.getElem?_cons_succ]; exact h3
      · intro _
        by_cases h5 : 1 < (countF f (m / 128)).length
        · exact h4 h5
        · have h6 : lead (countF f (m / 128) ++ rest) = 0 := by omega
          rw [h6] at h3
          by_cases h7 : m / 128 < 128
          · rw [countF_small _ _ h7] at h3
            simp at h3
            subst h3
            intro h8
            have := congrArg UInt8.toNat h8
            rw [UInt8.toNat_ofNat', Nat.mod_eq_of_lt (by omega)] at this
            simp at this
            omega
          · cases f with
            | zero => rw [Nat.pow_succ] at hm; simp at hm; omega
            | succ f =>
              have h9 := countF_pos f (m / 128 / 128)
              rw [countF_big _ _ h7, List.length_cons] at h5
              omega
theorem readC_count (m : Nat) (rest : List UInt8) (hm : m ≤ 4611686018427387904) : readC (countB m ++ rest) = (m, (countB m).length, 0) := by
  obtain ⟨h1, h2, x, h3, h4⟩ := countF_spec 9 m rest (by omega)
  have hl : (countF 9 m).length ≤ 9 := by
    have : ∀ (f m : Nat), m < 128 ^ (f + 1) → (countF f m).length ≤ f + 1 := fun f m _ => countF_len f m
    have h8 : ∀ m : Nat, m < 128 ^ 9 → (countF 9 m).length ≤ 9 := by
      intro m h
      have key : ∀ (f k m : Nat), m < 128 ^ (k + 1) → k ≤ f → countF f m = countF k m := by
        intro f
        induction f with
        | zero =>
          intro k m _ hk
          obtain rfl : k = 0 := by omega
          rfl
        | succ f ih =>
          intro k m hm hk
          by_cases h : m < 128
          · rw [countF_small _ _ h, countF_small _ _ h]
          · cases k with
            | zero => simp at hm; omega
            | succ k =>
              rw [countF_big _ _ h, countF_big _ _ h, ih k _ (by rw [Nat.pow_succ] at hm; omega) (by omega)]
      rw [key 9 8 m h (by omega)]
      exact countF_len 8 m
    exact h8 m (by omega)
  unfold countB
  unfold readC
  simp only []
  have hlen : (countF 9 m ++ rest).length = (countF 9 m).length + rest.length := List.length_append
  rw [if_neg (by omega), if_neg, if_neg (by omega)]
  · have ht : (countF 9 m ++ rest).take (lead (countF 9 m ++ rest) + 1) = countF 9 m := by rw [h1, List.take_left]
    rw [ht, h2, if_neg (by omega), h1]
  · rintro ⟨h5, h6⟩
    rw [h3] at h6
    exact h4 (by omega) (Option.some.inj h6)

/-! ### the eight bytes of a sum -/
theorem byteAt_toNat (h i : Nat) : (byteAt h i).toNat = h / 256 ^ i % 256 := by
  unfold byteAt
  rw [UInt8.toNat_ofNat', Nat.mod_mod_of_dvd _ (by decide)]
theorem beVal_beBytes (h : Nat) (hh : h < 18446744073709551616) : beVal (beBytes h) = h := by
  have e : beBytes h = [byteAt h 7, byteAt h 6, byteAt h 5, byteAt h 4, byteAt h 3, byteAt h 2, byteAt h 1, byteAt h 0] := rfl
  rw [e]
  unfold beVal
  simp only [List.foldl_cons, List.foldl_nil, byteAt_toNat]
  omega
theorem beVal_inj : ∀ (l l' : List UInt8), l.length = l'.length → beVal l = beVal l' → l = l' := by
  have key : ∀ (l l' : List UInt8) (a a' : Nat), l.length = l'.length → l.foldl (fun a b => a * 256 + b.toNat) a = l'.foldl (fun a b => a * 256 + b.toNat) a' → a = a' ∧ l = l' := by
    intro l
    induction l with
    | nil =>
      intro l' a a' hl h
      cases l' with
      | nil => exact ⟨h, rfl⟩
      | cons => simp at hl
    | cons x l ih =>
      intro l' a a' hl h
      cases l' with
      | nil => simp at hl
      | cons y l' =>
        obtain ⟨h1, h2⟩ := ih l' _ _ (by simpa using hl) h
        have hx := x.toNat_lt
        have hy := y.toNat_lt
        have h1' : a * 256 + x.toNat = a' * 256 + y.toNat := h1
        have h3 : x = y := UInt8.toNat_inj.1 (by omega)
        exact ⟨by omega, by rw [h2, h3]⟩
  intro l l' hl h
  exact (key l l' 0 0 hl h).2

/-! ### the hash tells two lists that differ in one byte -/
theorem fnvStep_inj (h h' : Nat) (c c' : UInt8) (hh : h < 18446744073709551616) (hh' : h' < 18446744073709551616) (e : fnvStep h c = fnvStep h' c') : h ^^^ c.toNat = h' ^^^ c'.toNat := by
  unfold fnvStep at e
  have hc := c.toNat_lt
  have hc' := c'.toNat_lt
  have l1 : h ^^^ c.toNat < 18446744073709551616 := xor_lt64 hh (by omega)
  have l2 : h' ^^^ c'.toNat < 18446744073709551616 := xor_lt64 hh' (by omega)
  generalize h ^^^ c.toNat = a at *
  generalize h' ^^^ c'.toNat = b at *
  have key : ∀ a : Nat, a < 18446744073709551616 → (a * 1099511628211 % 18446744073709551616) * 14886173955864302971 % 18446744073709551616 = a := by
    intro a ha
    rw [Nat.mod_mul_mod, Nat.mul_assoc, Nat.mul_mod]
    rw [show (1099511628211 * 14886173955864302971) % 18446744073709551616 = 1 from by decide +kernel, Nat.mul_one, Nat.mod_mod, Nat.mod_eq_of_lt ha]
  rw [← key a l1, e, key b l2]
theorem fold_inj (l : List UInt8) : ∀ (h h' : Nat), h < 18446744073709551616 → h' < 18446744073709551616 → l.foldl fnvStep h = l.foldl fnvStep h' → h = h' := by
  induction l with
  | nil => intro h h' _ _ e; exact e
  | cons c l ih =>
    intro h h' hh hh' e
    have h1 := ih _ _ (fnvStep_lt _ _) (fnvStep_lt _ _) e
    have h2 := fnvStep_inj h h' c c hh hh' h1
    rw [Nat.xor_comm h, Nat.xor_comm h'] at h2
    exact xor_inj h2
theorem fnv_set (l : List UInt8) (p : Nat) (x y : UInt8) (hx : l[p]? = some x) (hxy : y ≠ x) : fnv (l.set p y) ≠ fnv l := by
  have hp : p < l.length := (List.getElem?_eq_some_iff.1 hx).1
  have hx2 : l[p] = x := (List.getElem?_eq_some_iff.1 hx).2
  have e1 : l = l.take p ++ x :: l.drop (p + 1) := by
    rw [← hx2, List.getElem_cons_drop hp, List.take_append_drop]
  have e2 : l.set p y = l.take p ++ y :: l.drop (p + 1) := List.set_eq_take_append_cons_drop.trans (by rw [if_pos hp])
  rw [e2]
  conv => rhs; rw [e1]
  unfold fnv
  rw [List.foldl_append, List.foldl_append, List.foldl_cons, List.foldl_cons]
  intro h
  have hs : (l.take p).foldl fnvStep 14695981039346656037 < 18446744073709551616 := foldl_lt _ _ (by omega)
  have h1 := fold_inj _ _ _ (fnvStep_lt _ _) (fnvStep_lt _ _) h
  have h2 := fnvStep_inj _ _ _ _ hs hs h1
  exact hxy (UInt8.toNat_inj.1 (xor_inj h2))

/-! ### a record with one byte turned -/
theorem sealB_len (k : Nat) (bs : List UInt8) : (sealB k bs).length = 1 + (countB bs.length).length + bs.length + 8 := by
  unfold sealB headB beBytes
  simp only [List.length_append, List.length_cons, List.length_nil, beTake_len]
theorem sealB_form (k : Nat) (bs : List UInt8) : sealB k bs = UInt8.ofNat k :: (countB bs.length ++ (bs ++ beBytes (fnv (headB k bs)))) := by
  unfold sealB
  conv => lhs; unfold headB
  simp [headB, List.append_assoc]
theorem turned (k : Nat) (bs : List UInt8) (hk1 : 1 ≤ k) (hk2 : k ≤ 255) (hm : bs.length ≤ 4194304) (p : Nat) (hp : 1 + (countB bs.length).length ≤ p) (x y : UInt8) (hx : (sealB k bs)[p]? = some x) (hxy : y ≠ x) :
    nextR ((sealB k bs).set p y) = (0, [], 0, 13) := by
  have hlen := sealB_len k bs
  have hp2 : p < (sealB k bs).length := (List.getElem?_eq_some_iff.1 hx).1
  have hK : ¬ UInt8.ofNat k = 0 := by
    intro h
    have := congrArg UInt8.toNat h
    rw [UInt8.toNat_ofNat', Nat.mod_eq_of_lt (by omega)] at this
    simp at this
    omega
  have hS := fnv_lt (headB k bs)
  have hSl : (beBytes (fnv (headB k bs))).length = 8 := beTake_len _ 8
  have hhd : headB k bs = UInt8.ofNat k :: (countB bs.length ++ bs) := by unfold headB; simp
  obtain ⟨q, rfl⟩ : ∃ q, p = 1 + (countB bs.length).length + q := ⟨p - (1 + (countB bs.length).length), by omega⟩
  rw [sealB_form] at hx ⊢
  rw [show 1 + (countB bs.length).length + q = ((countB bs.length).length + q) + 1 from by omega] at hx ⊢
  rw [List.getElem?_cons_succ, List.getElem?_append_right (by omega), show (countB bs.length).length + q - (countB bs.length).length = q from by omega] at hx
  rw [List.set_cons_succ, List.set_append_right _ _ (by omega), show (countB bs.length).length + q - (countB bs.length).length = q from by omega]
  rw [nextR_cons _ _ hK, readC_count _ _ (by omega)]
  simp only []
  have hTl : ((bs ++ beBytes (fnv (headB k bs))).set q y).length = bs.length + 8 := by simp [hSl]
  rw [if_neg (by simp), if_neg (by omega), if_neg (by rw [List.length_append, hTl]; omega), if_pos]
  rw [List.drop_append, List.drop_of_length_le (by omega), List.nil_append, show (countB bs.length).length + bs.length - (countB bs.length).length = bs.length from by omega]
  rw [List.take_append, List.take_of_length_le (l := countB bs.length) (by omega), show (countB bs.length).length + bs.length - (countB bs.length).length = bs.length from by omega]
  rw [List.take_of_length_le (l := List.drop _ _) (by rw [List.length_drop, hTl]; omega)]
  by_cases hq : q < bs.length
  · rw [List.set_append_left _ _ hq]
    rw [List.drop_append, List.drop_of_length_le (l := bs.set q y) (by simp), List.nil_append, List.length_set, Nat.sub_self, List.drop_zero]
    rw [List.take_append, List.take_of_length_le (l := bs.set q y) (by simp), List.length_set, Nat.sub_self, List.take_zero, List.append_nil]
    rw [beVal_beBytes _ hS]
    rw [List.getElem?_append_left hq] at hx
    have hx2 : (headB k bs)[((countB bs.length).length + q) + 1]? = some x := by
      rw [hhd, List.getElem?_cons_succ, List.getElem?_append_right (by omega), show (countB bs.length).length + q - (countB bs.length).length = q from by omega]
      exact hx
    have h1 := fnv_set (headB k bs) _ x y hx2 hxy
    intro h2
    apply h1
    rw [h2]
    conv => lhs; rw [hhd]
    rw [List.set_cons_succ, List.set_append_right _ _ (by omega), show (countB bs.length).length + q - (countB bs.length).length = q from by omega]
  · rw [List.set_append_right _ _ (by omega)]
    rw [List.drop_append, List.drop_of_length_le (l := bs) (by omega), List.nil_append, Nat.sub_self, List.drop_zero]
    rw [List.take_append, List.take_of_length_le (l := bs) (by omega), Nat.sub_self, List.take_zero, List.append_nil, ← hhd]
    rw [List.getElem?_append_right (by omega)] at hx
    intro h2
    have h3 := beVal_beBytes _ hS
    have h4 := beVal_inj _ _ (by simp) (h2.trans h3.symm)
    have hql : q - bs.length < (beBytes (fnv (headB k bs))).length := (List.getElem?_eq_some_iff.1 hx).1
    have h5 : ((beBytes (fnv (headB k bs))).set (q - bs.length) y)[q - bs.length]? = some y := by rw [List.getElem?_set_self hql]
    rw [h4, hx] at h5
    exact hxy (Option.some.inj h5).symm
end Go.Proofs.YtjmbpnogicdkgaaGreatDoor
