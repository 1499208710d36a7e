/-
  The plain law of frontiers: a log that grows leaf by leaf.
-/
import Derived.Test.YtiafadmkkehdnaaY5
namespace Go.Proofs.Ytiafadmkkehdnaa.Sh
set_option linter.unusedVariables false
attribute [local irreducible] sumB splitN rootB nodeB inclB consB popN

/-- The greatest power of two that is at most a number (of at least 1). -/
def topN (n : Nat) : Nat := splitN (n + 1)
theorem topN_facts (n : Nat) (h1 : 1 ≤ n) (hn : n ≤ 4095) : 1 ≤ topN n ∧ topN n ≤ n ∧ n < 2 * topN n := by
  have h := splitN_facts (n + 1) (by omega) (by omega)
  unfold topN
  omega
theorem topN_eq {n a : Nat} (hn : n ≤ 4095) (h1 : 2 ^ a ≤ n) (h2 : n < 2 * 2 ^ a) : topN n = 2 ^ a := splitN_eq (by omega) (by omega) (by omega)
theorem topN_pow (n : Nat) : ∃ a, topN n = 2 ^ a := splitN_pow (n + 1)
/-- The roots of the complete subtrees, the greatest first. -/
def frontF : Nat → List ByteArray → List ByteArray
  | 0, _ => []
  | f + 1, l => if l.length = 0 then [] else rootB (l.take (topN l.length)) :: frontF f (l.drop (topN l.length))
theorem frontF_fuel : ∀ (f g : Nat) (l : List ByteArray), l.length ≤ 4095 → l.length < f → l.length < g → frontF f l = frontF g l
  | 0, _, _, _, h, _ => by omega
  | _, 0, _, _, _, h => by omega
  | f + 1, g + 1, l, hm, hf, hg => by
    rw [frontF, frontF]
    by_cases h0 : l.length = 0
    · rw [if_pos h0, if_pos h0]
    · have ht := topN_facts l.length (by omega) hm
      rw [if_neg h0, if_neg h0, frontF_fuel f g _ (by rw [List.length_drop]; omega) (by rw [List.length_drop]; omega) (by rw [List.length_drop]; omega)]
def frontB (l : List ByteArray) : List ByteArray := frontF (l.length + 1) l
theorem frontB_nil : frontB [] = [] := rfl
theorem frontB_step (l : List ByteArray) (h1 : 1 ≤ l.length) (hm : l.length ≤ 4095) : frontB l = rootB (l.take (topN l.length)) :: frontB (l.drop (topN l.length)) := by
  have ht := topN_facts l.length h1 hm
  unfold frontB
  rw [frontF, if_neg (by omega), frontF_fuel l.length ((l.drop (topN l.length)).length + 1) _ (by rw [List.length_drop]; omega) (by rw [List.length_drop]; omega) (by omega)]
theorem frontB_pow {l : List ByteArray} {a : Nat} (h : l.length = 2 ^ a) (hm : l.length ≤ 4095) : frontB l = [rootB l] := by
  have hp := Nat.two_pow_pos a
  have ht : topN l.length = l.length := by rw [topN_eq (a := a) hm (by omega) (by omega), h]
  rw [frontB_step l (by omega) hm, ht, List.take_length, List.drop_length, frontB_nil]
/-- A complete subtree more, smaller than all. -/
theorem frontB_append : ∀ (f : Nat) (l t : List ByteArray) (q j : Nat), l.length < f → l.length = q * 2 ^ (j + 1) → t.length = 2 ^ j → l.length + t.length ≤ 4095 → frontB (l ++ t) = frontB l ++ [rootB t]
  | 0, _, _, _, _, h, _, _, _ => by omega
  | f + 1, l, t, q, j, hf, hl, ht, hm => by
    have hp := Nat.two_pow_pos j
    rcases Nat.eq_zero_or_pos l.length with h0 | h0
    · obtain rfl := List.eq_nil_of_length_eq_zero h0
      rw [List.nil_append, frontB_pow ht (by simp at hm; omega)]
      rfl
    · have hk := topN_facts l.length h0 (by omega)
      obtain ⟨a, ha⟩ := topN_pow l.length
      rw [ha] at hk
      -- the power is at least 2 ^ (j + 1)
      have hja : j + 1 ≤ a := by
        rcases Nat.lt_or_ge a (j + 1) with h | h
        · exfalso
          have h2 : 2 ^ (a + 1) ≤ 2 ^ (j + 1) := Nat.pow_le_pow_right (by decide) (by omega)
          rw [Nat.pow_succ] at h2
          rcases Nat.eq_zero_or_pos q with hq | hq
          · subst hq; omega
          · have : 1 * 2 ^ (j + 1) ≤ q * 2 ^ (j + 1) := Nat.mul_le_mul_right _ hq
            omega
        · exact h
      obtain ⟨b, rfl⟩ := Nat.exists_eq_add_of_le hja
      have hpow : 2 ^ (j + 1 + b) = 2 ^ b * 2 ^ (j + 1) := by rw [Nat.pow_add, Nat.mul_comm]
      have hlt2 : q < 2 * 2 ^ b := by
        rcases Nat.lt_or_ge q (2 * 2 ^ b) with h | h
        · exact h
        · exfalso
          have := Nat.mul_le_mul_right (2 ^ (j + 1)) h
          rw [Nat.mul_assoc, ← hpow] at this
          omega
      have hge2 : 2 ^ b ≤ q := by
        rcases Nat.lt_or_ge q (2 ^ b) with h | h
        · exfalso
          have := Nat.mul_lt_mul_of_pos_right h (Nat.two_pow_pos (j + 1))
          rw [← hpow] at this
          omega
        · exact h
      have hsum : l.length + t.length < 2 * 2 ^ (j + 1 + b) := by
        have h3 : (q + 1) * 2 ^ (j + 1) ≤ (2 * 2 ^ b) * 2 ^ (j + 1) := Nat.mul_le_mul_right _ hlt2
        rw [Nat.mul_assoc, ← hpow, Nat.add_mul, Nat.one_mul, ← hl] at h3
        have h4 : 2 ^ (j + 1) = 2 ^ j * 2 := Nat.pow_succ 2 j
        omega
      have et : topN (l ++ t).length = 2 ^ (j + 1 + b) := by
        rw [List.length_append]
        exact topN_eq hm (by omega) hsum
      have e1 := frontB_step (l ++ t) (by rw [List.length_append]; omega) (by rw [List.length_append]; omega)
      have e2 := frontB_step l h0 (by omega)
      rw [et, List.take_append_of_le_length (by omega), List.drop_append_of_le_length (by omega)] at e1
      rw [ha] at e2
      have ih := frontB_append f (l.drop (2 ^ (j + 1 + b))) t (q - 2 ^ b) j (by rw [List.length_drop]; omega) (by rw [List.length_drop, Nat.sub_mul, ← hpow, hl]) ht (by rw [List.length_drop]; omega)
      rw [e1, ih, e2]
      rfl
theorem rootB_join {a b : List ByteArray} {j : Nat} (ha : a.length = 2 ^ j) (hb : b.length = 2 ^ j) (hm : 2 * 2 ^ j ≤ 4096) : rootB (a ++ b) = nodeB (rootB a) (rootB b) := by
  have hp := Nat.two_pow_pos j
  have hl : (a ++ b).length = 2 * 2 ^ j := by rw [List.length_append]; omega
  have hs : splitN (a ++ b).length = 2 ^ j := by rw [hl]; exact splitN_eq (by omega) (by omega) (by omega)
  rw [rootB_split _ (by omega) (by omega), hs, ← ha, List.take_left, List.drop_left]
theorem appR_even {rx : List ByteArray} {n : Nat} {x : ByteArray} (h : n % 2 = 0) : appR rx n x = x :: rx := by
  cases rx with
  | nil => rfl
  | cons p t => rw [appR, if_neg (by omega)]
/-- The frontier with a complete subtree more. -/
theorem appR_front : ∀ (q j : Nat) (a t : List ByteArray), a.length = q * 2 ^ j → t.length = 2 ^ j → a.length + t.length ≤ 4095 → AllD a → AllD t → appR (frontB a).reverse q (rootB t) = (frontB (a ++ t)).reverse := by
  intro q
  induction q using Nat.strongRecOn with
  | _ q ih =>
    intro j a t ha ht hm hda hdt
    have hp := Nat.two_pow_pos j
    have h2 : 2 ^ (j + 1) = 2 ^ j * 2 := Nat.pow_succ 2 j
    rcases (by omega : q % 2 = 0 ∨ q % 2 = 1) with he | ho
    · have hq : q = q / 2 * 2 := by omega
      have hl : a.length = q / 2 * 2 ^ (j + 1) := by
        rw [h2, Nat.mul_comm (2 ^ j) 2, ← Nat.mul_assoc, ← hq]; exact ha
      rw [appR_even he, frontB_append (a.length + 1) a t (q / 2) j (by omega) hl ht hm, List.reverse_append]
      rfl
    · have hq : q = q / 2 * 2 + 1 := by omega
      have hlen : a.length = q / 2 * 2 ^ (j + 1) + 2 ^ j := by
        have h3 : q * 2 ^ j = (q / 2 * 2) * 2 ^ j + 1 * 2 ^ j := by rw [← Nat.add_mul, ← hq]
        rw [h2, Nat.mul_comm (2 ^ j) 2, ← Nat.mul_assoc, ha, h3, Nat.one_mul]
      obtain ⟨z, hz⟩ : ∃ z, q / 2 * 2 ^ (j + 1) = z := ⟨_, rfl⟩
      rw [hz] at hlen
      have ea : a = a.take z ++ a.drop z := (List.take_append_drop z a).symm
      have l1 : (a.take z).length = z := by rw [List.length_take]; omega
      have l2 : (a.drop z).length = 2 ^ j := by rw [List.length_drop]; omega
      have d1 := hda.take z
      have d2 := hda.drop z
      generalize a.take z = a1 at *
      generalize a.drop z = s at *
      subst ea
      have hdst : AllD (s ++ t) := fun x hx => by
        rcases List.mem_append.1 hx with h | h
        · exact d2 x h
        · exact hdt x h
      have z1 := rootB_size s d2 (by rw [List.length_append] at hm; omega)
      have z2 := rootB_size t hdt (by omega)
      rw [frontB_append (a1.length + 1) a1 s (q / 2) j (by omega) (by rw [l1, hz]) l2 (by rw [List.length_append] at hm; omega), List.reverse_append, List.reverse_singleton, List.singleton_append, appR, if_pos ho, nodeP_B z1 z2,
        ← rootB_join l2 ht (by rw [List.length_append] at hm; omega), List.append_assoc]
      refine ih (q / 2) (by omega) (j + 1) a1 (s ++ t) (by rw [l1, hz]) (by rw [List.length_append]; omega) ?_ d1 hdst
      rw [List.length_append]
      rw [List.length_append] at hm
      omega
theorem appB_front (l : List ByteArray) (x : ByteArray) (hm : l.length ≤ 4094) (hd : AllD l) (hx : x.size = 32) : appB (frontB l) l.length x = frontB (l ++ [x]) := by
  unfold appB
  have h := appR_front l.length 0 l [x] (by rw [Nat.pow_zero, Nat.mul_one]) rfl (by simp; omega) hd (all1 hx)
  rw [rootB_one] at h
  rw [h, List.reverse_reverse]
theorem frF_append : ∀ (t : List ByteArray) (x a : ByteArray), frF x (t ++ [a]) = nodeP a (frF x t)
  | [], x, a => rfl
  | h :: t, x, a => by rw [List.cons_append, frF, frF, frF_append t]
theorem frB_append (rx : List ByteArray) (a : ByteArray) (h : rx ≠ []) : frB (rx ++ [a]) = nodeP a (frB rx) := by
  cases rx with
  | nil => exact absurd rfl h
  | cons p t => rw [List.cons_append, frB, frB, frF_append]
/-- The frontier gives the root. -/
theorem frB_front : ∀ (f : Nat) (l : List ByteArray), l.length < f → 1 ≤ l.length → l.length ≤ 4095 → AllD l → frB (frontB l).reverse = rootB l
  | 0, _, h, _, _, _ => by omega
  | f + 1, l, hf, h1, hm, hd => by
    have hk := topN_facts l.length h1 hm
    have e := frontB_step l h1 hm
    by_cases h0 : topN l.length = l.length
    · rw [e, h0, List.take_length, List.drop_length, frontB_nil]
      rfl
    · have hlt : topN l.length < l.length := by omega
      have hdl : (l.drop (topN l.length)).length = l.length - topN l.length := List.length_drop
      have ih := frB_front f (l.drop (topN l.length)) (by omega) (by omega) (by omega) (hd.drop _)
      have hne : (frontB (l.drop (topN l.length))).reverse ≠ [] := by
        rw [frontB_step _ (by omega) (by omega)]
        simp
      obtain ⟨a, ha⟩ := topN_pow l.length
      have hs : splitN l.length = topN l.length := by rw [ha] at hk hlt ⊢; exact splitN_eq (by omega) hlt (by omega)
      have z1 := rootB_size _ (hd.take (topN l.length)) (by rw [List.length_take]; omega)
      have z2 := rootB_size _ (hd.drop (topN l.length)) (by omega)
      rw [e, List.reverse_cons, frB_append _ _ hne, ih, nodeP_B z1 z2, rootB_split l (by omega) (by omega), hs]
theorem frontB_all : ∀ (f : Nat) (l : List ByteArray), l.length < f → l.length ≤ 4095 → AllD l → AllD (frontB l)
  | 0, _, h, _, _ => by omega
  | f + 1, l, hf, hm, hd => by
    rcases Nat.eq_zero_or_pos l.length with h0 | h0
    · obtain rfl := List.eq_nil_of_length_eq_zero h0
      intro x hx
      cases hx
    · have hk := topN_facts l.length h0 hm
      have ih := frontB_all f (l.drop (topN l.length)) (by rw [List.length_drop]; omega) (by rw [List.length_drop]; omega) (hd.drop _)
      rw [frontB_step l h0 hm]
      intro x hx
      rcases List.mem_cons.1 hx with h | h
      · rw [h]; exact rootB_size _ (hd.take _) (by rw [List.length_take]; omega)
      · exact ih x h
theorem pop_top : ∀ n < 64, 1 ≤ n → popN n = 1 + popN (n - topN n) := by decide +kernel
theorem frontB_length : ∀ (f : Nat) (l : List ByteArray), l.length < f → l.length < 64 → (frontB l).length = popN l.length
  | 0, _, h, _ => by omega
  | f + 1, l, hf, hm => by
    rcases Nat.eq_zero_or_pos l.length with h0 | h0
    · obtain rfl := List.eq_nil_of_length_eq_zero h0
      rw [frontB_nil]
      exact popN_zero.symm
    · have hk := topN_facts l.length h0 (by omega)
      have ih := frontB_length f (l.drop (topN l.length)) (by rw [List.length_drop]; omega) (by rw [List.length_drop]; omega)
      rw [frontB_step l h0 (by omega), List.length_cons, ih, List.length_drop, pop_top l.length hm h0]
      omega

/-! ### in the law's words -/
theorem front_whole {l : List ByteArray} (hm : l.length ≤ 60) (hd : AllD l) : wholeB (l.length : Int) (frontB l) = true := by
  have hlen := frontB_length (l.length + 1) l (by omega) (by omega)
  have hp := popN_le l.length
  unfold wholeB
  rw [Int.toNat_natCast, hlen, val_of (frontB_all (l.length + 1) l (by omega) (by omega) hd) (by omega), decide_eq_true (by omega), decide_eq_true (by omega), decide_eq_true rfl]
  rfl
theorem AppR_front {l : List ByteArray} {x : ByteArray} (hm : l.length ≤ 50) (hd : AllD l) (hx : x.size = 32) : AppR (l.length : Int) (frontB l) x = ((l.length : Int) + 1, frontB (l ++ [x]), 0) := by
  have h1 := front_whole (by omega) hd
  have h2 : ((x.size : Int) == 32) = true := by simp; omega
  unfold AppR
  rw [h1, h2, if_pos (show (true && true) = true from rfl), if_neg (by omega), Int.toNat_natCast, appB_front l x (by omega) hd hx]
theorem FrR_front {l : List ByteArray} (hm : l.length ≤ 50) (h1 : 1 ≤ l.length) (hd : AllD l) : FrR (l.length : Int) (frontB l) = (rootB l, 0) := by
  unfold FrR
  rw [front_whole (by omega) hd, if_pos rfl, if_neg (by omega), frB_front (l.length + 1) l (by omega) h1 (by omega) hd]
end Go.Proofs.Ytiafadmkkehdnaa.Sh
