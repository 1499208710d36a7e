/-
  Plain: the reference's Parse answers as Parse does.
-/
import Derived.Test.YtiafadmkkehdnaaSm
import Derived.Test.YtiafadmkkehdnaaSk
import Derived.Test.YtiafadmkkehdnaaRq1
namespace Go.Proofs.Ytiafadmkkehdnaa.Sh
open Go.RowKit Go.Great Go.Proofs.YtiafadmkkehdnaaW.PrintWords Go.Proofs.YtiafadmkkehdnaaW.PrintMore Go.Proofs.Ytiafadmkkehdnaa.Rq
set_option linter.unusedVariables false

theorem digit_f (k : Nat) (x : Int) (h0 : 0 ≤ x) (h1 : x ≤ 255) : modcertref01_digit.f (k + 1) x = some (nibV x) := by
  have e : modcertref01_digit.f (k + 1) x = modcertref01_digit.f 1 x := rfl
  rw [e]
  obtain ⟨n, rfl⟩ := Int.eq_ofNat_of_zero_le h0
  have : ∀ n : Nat, n < 256 → modcertref01_digit.f 1 (n : Int) = some (nibV (n : Int)) := by decide +kernel
  exact this n (by omega)
theorem or_nib (a b : Int) (ha : 0 ≤ a ∧ a ≤ 15) (hb : 0 ≤ b ∧ b ≤ 15) : bits .or .u8 (a * 16 % 256) b = 16 * a + b := by
  obtain ⟨a, rfl⟩ := Int.eq_ofNat_of_zero_le ha.1
  obtain ⟨b, rfl⟩ := Int.eq_ofNat_of_zero_le hb.1
  have : ∀ a : Nat, a < 16 → ∀ b : Nat, b < 16 → bits .or .u8 ((a : Int) * 16 % 256) (b : Int) = 16 * (a : Int) + (b : Int) := by decide +kernel
  exact this a (by omega) b (by omega)
/-- The bytes of the first digits, two by two. -/
def refPar (s : ByteArray) : Nat → List Int
  | 0 => []
  | j + 1 => refPar s j ++ [16 * nibV (byteN s (2 * j)) + nibV (byteN s (2 * j + 1))]
theorem refPar_length (s : ByteArray) : ∀ j, (refPar s j).length = j
  | 0 => rfl
  | j + 1 => by rw [refPar, List.length_append, refPar_length s j]; rfl
theorem set_mid (l : List Int) (v u : Int) (n j : Nat) (hl : l.length = j) : (l ++ u :: List.replicate n 0).set j v = l ++ v :: List.replicate n 0 := by
  rw [List.set_append_right _ _ (by omega), hl, Nat.sub_self]
  rfl
theorem getD_mid (l : List Int) (u : Int) (m : List Int) (j : Nat) (hl : l.length = j) : (l ++ u :: m).getD j 0 = u := by
  subst hl
  simp [List.getD]
theorem parTo_eq (s : ByteArray) (hn : ∀ i, i < 64 → 0 ≤ nibV (byteN s i)) : ∀ n j, n + j = 32 → parTo s (2 * j) = refPar s j ++ List.replicate n 0
  | n, 0, h => by obtain rfl : n = 32 := by omega
                  rfl
  | n, j + 1, h => by
    have ih := parTo_eq s hn (n + 1) j (by omega)
    have hl := refPar_length s j
    have g1 := nib_range (byteN s (2 * j))
    have g2 := nib_range (byteN s (2 * j + 1))
    have n1 := hn (2 * j) (by omega)
    have n2 := hn (2 * j + 1) (by omega)
    rw [show 2 * (j + 1) = 2 * j + 1 + 1 by omega, parTo, parTo, ih, List.replicate_succ, show 2 * j / 2 = j by omega, show (2 * j + 1) / 2 = j by omega, refPar]
    generalize nibV (byteN s (2 * j)) = a at *
    generalize nibV (byteN s (2 * j + 1)) = b at *
    rw [set_mid _ _ _ _ _ hl, set_mid _ _ _ _ _ hl, getD_mid _ _ _ _ hl, getD_mid _ _ _ _ hl]
    rw [show (0 : Int) * 16 % 256 = (0 : Int) * 16 % 256 from rfl, or_nib 0 a (by omega) (by omega), or_nib (16 * 0 + a) b (by omega) (by omega)]
    simp
theorem parOk_iff (s : ByteArray) (hs : s.size = 64) (hn : ∀ i, i < 64 → 0 ≤ nibV (byteN s i)) : parB s = strOfNums (refPar s 32) ∧ parOk s = true := by
  have hp := parOk_good hs hn
  have e := parTo_eq s hn 0 32 rfl
  refine ⟨?_, hp⟩
  unfold parB
  rw [if_pos hp, show 64 = 2 * 32 from rfl, e]
  simp
def parC (s : ByteArray) : Int := if parOk s = true then 0 else 3
theorem par_bad {s : ByteArray} (h : parOk s = false) : parB s = ⟨#[]⟩ ∧ parC s = 3 := by simp [parB, parC, h]
theorem par_l0 (s : ByteArray) (hs : s.size = 64) : ∀ n j : Nat, j + n = 32 → (∀ k, k < 2 * j → 0 ≤ nibV (byteN s k)) → modcertref01_Parse.l0 (n + 2) s (refPar s j) ((2 * j : Nat) : Int) = some (parB s, parC s)
  | 0, j, h, hn => by
    obtain rfl : j = 32 := by omega
    rw [modcertref01_Parse.l0, if_neg (by omega)]
    obtain ⟨h1, h2⟩ := parOk_iff s hs hn
    rw [h1, parC, if_pos h2]
  | n + 1, j, h, hn => by
    have a0 : ((2 * j : Nat) : Int) < 64 := by omega
    have p0 : 0 ≤ ((2 * j : Nat) : Int) ∧ ((2 * j : Nat) : Int) < (s.size : Int) := by omega
    have p1 : 0 ≤ ((2 * j + 1 : Nat) : Int) ∧ ((2 * j + 1 : Nat) : Int) < (s.size : Int) := by omega
    have b0 := bt_byteN s (2 * j) (by omega)
    have b1 := bt_byteN s (2 * j + 1) (by omega)
    have w1 : wrap64 (((2 * j : Nat) : Int) + 1) = ((2 * j + 1 : Nat) : Int) := by unfold wrap64; omega
    have w2 : wrap64 (((2 * j : Nat) : Int) + 2) = ((2 * (j + 1) : Nat) : Int) := by clear w1; unfold wrap64; omega
    have hl := refPar_length s j
    have pl : (refPar s j).length < 140737488355328 := by omega
    have r0 := byteN_range s (2 * j)
    have r1 := byteN_range s (2 * j + 1)
    have g1 := nib_range (byteN s (2 * j))
    have g2 := nib_range (byteN s (2 * j + 1))
    rw [show n + 1 + 2 = (n + 1 + 1) + 1 from rfl, modcertref01_Parse.l0, w1, w2, if_pos a0, if_pos p0.1, if_pos p0.2, b0, b1, digit_f _ _ r0.1 r0.2, Option.bind_some, if_pos p1.1, if_pos p1.2, digit_f _ _ r1.1 r1.2, Option.bind_some]
    clear w1 w2
    by_cases c0 : nibV (byteN s (2 * j)) < 0
    · rw [if_pos c0]
      obtain ⟨h1, h2⟩ := par_bad (parOk_bad (by omega : 2 * j < 64) c0)
      rw [h1, h2]
    · rw [if_neg c0]
      by_cases c1 : nibV (byteN s (2 * j + 1)) < 0
      · rw [if_pos c1]
        obtain ⟨h1, h2⟩ := par_bad (parOk_bad (by omega : 2 * j + 1 < 64) c1)
        rw [h1, h2]
      · have hn2 : ∀ k, k < 2 * (j + 1) → 0 ≤ nibV (byteN s k) := fun k hk => by
          rcases (by omega : k < 2 * j ∨ k = 2 * j ∨ k = 2 * j + 1) with h | rfl | rfl
          · exact hn k h
          · omega
          · omega
        have ih := par_l0 s hs n (j + 1) (by omega) hn2
        rw [if_neg c1, if_pos pl]
        rw [refPar] at ih
        have e : wrap64 (wrap64 (16 * nibV (byteN s (2 * j))) + nibV (byteN s (2 * j + 1))) % 256 = 16 * nibV (byteN s (2 * j)) + nibV (byteN s (2 * j + 1)) := by
          generalize nibV (byteN s (2 * j)) = a at *
          generalize nibV (byteN s (2 * j + 1)) = b at *
          unfold wrap64
          omega
        rw [e]
        exact ih
theorem parse_f (s : ByteArray) : modcertref01_Parse.f 34 s = some (parB s, parC s) := by
  unfold modcertref01_Parse.f
  by_cases hs : s.size = 64
  · rw [if_pos (by omega)]
    exact par_l0 s hs 32 0 rfl (fun k hk => absurd hk (Nat.not_lt_zero _))
  · rw [if_neg (by omega)]
    obtain ⟨h1, h2⟩ := par_bad (parOk_size hs)
    rw [h1, h2]
end Go.Proofs.Ytiafadmkkehdnaa.Sh
