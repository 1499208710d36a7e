/-
  The reference's Append and FrontierRoot, plainly.
-/
import Derived.Test.YtiafadmkkehdnaaRa
import Derived.Test.YtiafadmkkehdnaaGz3
import Derived.Test.YtiafadmkkehdnaaGz4
namespace Go.Proofs.Ytiafadmkkehdnaa.Sh
open Go.RowKit Go.Great Go.Proofs.YtiafadmkkehdnaaW.PrintWords Go.Proofs.YtiafadmkkehdnaaW.PrintMore
set_option linter.unusedVariables false
theorem rnode_f (a b : ByteArray) : Gz.modcertref46_Node.f a b = some (nodeP a b) := rfl
theorem tmod2 (n : Nat) : Int.tmod (n : Int) 2 = ((n % 2 : Nat) : Int) := by
  rw [Int.tmod_eq_emod_of_nonneg (by omega)]
  omega
theorem tdiv2 (n : Nat) (h : n ≤ 4096) : wrap64 (Int.tdiv (n : Int) 2) = ((n / 2 : Nat) : Int) := by
  rw [Int.tdiv_eq_ediv_of_nonneg (by omega)]
  unfold wrap64
  omega
theorem rapp_l0 (n0 : Int) (l0 : List ByteArray) : ∀ (rx : List ByteArray) (k n : Nat) (x : ByteArray), n ≤ 4096 → rx.length = popN n → rx.length ≤ 100 → rx.length < k →
    Gz.modcertref46_Append.l0 k rx.reverse x n n0 l0 = some (wrap64 (n0 + 1), (appR rx n x).reverse, 0)
  | [], k, n, x, hn, hl, h1, hk => by
    obtain ⟨k, rfl⟩ : ∃ m, k = m + 1 := ⟨k - 1, by omega⟩
    have hp := popN_step n (by omega)
    have h2 : n % 2 = 0 := by simp at hl; omega
    rw [Gz.modcertref46_Append.l0, tmod2 n, h2, if_neg (by decide), if_pos (by simp), appR]
    simp
  | h :: t, k, n, x, hn, hl, h1, hk => by
    obtain ⟨k, rfl⟩ : ∃ m, k = m + 1 := ⟨k - 1, by omega⟩
    have hp := popN_step n (by omega)
    rw [Gz.modcertref46_Append.l0, tmod2 n, appR]
    by_cases h2 : n % 2 = 1
    · have hlen : ((h :: t).reverse.length : Int) = (t.length : Int) + 1 := by simp
      have ht : t.length ≤ 100 := by simp at h1; omega
      have w1 : wrap64 ((h :: t).reverse.length - 1 : Int) = (t.length : Int) := by rw [hlen]; unfold wrap64; omega
      have e2 : rdOf ByteArray.empty (h :: t).reverse (t.length : Int) = h := by unfold rdOf; rw [Int.toNat_natCast]; exact rev_last h t
      rw [if_pos (by omega), w1, if_pos (by omega), if_pos (by omega), e2, rnode_f, Option.bind_some, if_pos (by omega), Int.toNat_natCast, rev_take, if_pos h2, tdiv2 n hn]
      exact rapp_l0 n0 l0 t k (n / 2) (nodeP h x) (by omega) (by simp at hl; omega) (by omega) (by simp at hk; omega)
    · rw [if_neg (by omega), if_pos (by simp at h1 ⊢; omega), if_neg h2]
      simp
theorem rapp_f (n : Int) (l : List ByteArray) (x : ByteArray) : Gz.modcertref46_Append.f 20 n l x = some (AppR n l x) := by
  unfold Gz.modcertref46_Append.f AppR
  have e1 : Gz.modcertref46_ValidFrontier.f n l = some (wholeB n l) := rfl
  have e2 : Gz.modcertref46_IsDigest.f x = some ((x.size : Int) == 32) := rfl
  rw [e1, Option.bind_some, e2, Option.bind_some]
  cases hw : wholeB n l with
  | false => simp [Gz.modcertref46_Append.j0]
  | true =>
    have hh := wholeB_true hw
    cases hx : ((x.size : Int) == 32) with
    | false => simp [Gz.modcertref46_Append.j0]
    | true =>
      obtain ⟨m, rfl⟩ := Int.eq_ofNat_of_zero_le hh.1
      have hp := popN_le m
      have hl := hh.2.2.1
      rw [Int.toNat_natCast] at hl
      rw [if_pos rfl, Gz.modcertref46_Append.j0, if_neg (by decide), if_pos (show (true && true) = true from rfl)]
      by_cases h4 : (m : Int) = 4096
      · rw [if_pos h4, if_pos h4]
      · rw [if_neg h4, if_neg h4]
        have e4 := rapp_l0 (m : Int) l l.reverse 19 m x (by omega) (by rw [List.length_reverse]; exact hl) (by rw [List.length_reverse]; omega) (by rw [List.length_reverse]; omega)
        rw [List.reverse_reverse] at e4
        have w1 : wrap64 ((m : Int) + 1) = (m : Int) + 1 := by unfold wrap64; omega
        rw [Option.bind_some, if_pos (by simp; omega), List.nil_append, e4, w1, Int.toNat_natCast]
        rfl
theorem rfr_l0 (n0 : Int) (l t : List ByteArray) (h : ByteArray) (hr : l.reverse = h :: t) (hl : l.length ≤ 100) : ∀ (d k i : Nat) (x : ByteArray), i + d = t.length → d < k →
    Gz.modcertref46_FrontierRoot.l0 k x ((t.length : Int) - 1 - (i : Int)) n0 l = some (frF x (t.drop i), 0)
  | 0, k, i, x, hi, hk => by
    obtain ⟨k, rfl⟩ : ∃ m, k = m + 1 := ⟨k - 1, by omega⟩
    obtain rfl : i = t.length := by omega
    rw [Gz.modcertref46_FrontierRoot.l0, if_neg (by omega), List.drop_length]
    rfl
  | d + 1, k, i, x, hi, hk => by
    obtain ⟨k, rfl⟩ : ∃ m, k = m + 1 := ⟨k - 1, by omega⟩
    have hlt : l.length = t.length + 1 := by
      have := congrArg List.length hr
      simpa using this
    have w1 : (t.length : Int) - 1 - (i : Int) = ((l.length - 2 - i : Nat) : Int) := by omega
    have w2 : wrap64 (((l.length - 2 - i : Nat) : Int) - 1) = (t.length : Int) - 1 - ((i + 1 : Nat) : Int) := by unfold wrap64; omega
    have e2 : rdOf ByteArray.empty l ((l.length - 2 - i : Nat) : Int) = t.getD i ⟨#[]⟩ := by
      unfold rdOf
      rw [Int.toNat_natCast]
      have e : l = (h :: t).reverse := by rw [← hr, List.reverse_reverse]
      have e5 : l.length - 2 - i = (h :: t).length - 1 - (i + 1) := by simp; omega
      rw [e5, e]
      simp only [List.getD_eq_getElem?_getD]
      rw [List.getElem?_reverse (by simp; omega)]
      have e6 : (h :: t).length - 1 - ((h :: t).length - 1 - (i + 1)) = i + 1 := by simp; omega
      rw [e6]
      rfl
    rw [w1, Gz.modcertref46_FrontierRoot.l0, if_pos (by omega), if_pos (by omega), if_pos (by omega), e2, rnode_f, Option.bind_some, w2, rfr_l0 n0 l t h hr hl d k (i + 1) _ (by omega) (by omega), frF_drop t i (by omega)]
theorem popN_pos (m : Nat) (h : m ≤ 4096) (h0 : popN m = 0) : m = 0 := by
  have key : ∀ a < 65, ∀ b < 64, popN (64 * a + b) = 0 → 64 * a + b = 0 := by decide +kernel
  have := key (m / 64) (by omega) (m % 64) (by omega)
  rw [show 64 * (m / 64) + m % 64 = m by omega] at this
  exact this h0
theorem rfr_f (n : Int) (l : List ByteArray) : Gz.modcertref46_FrontierRoot.f 20 n l = some (FrR n l) := by
  unfold Gz.modcertref46_FrontierRoot.f FrR
  have e1 : Gz.modcertref46_ValidFrontier.f n l = some (wholeB n l) := rfl
  rw [e1, Option.bind_some]
  cases hw : wholeB n l with
  | false => rfl
  | true =>
    have hh := wholeB_true hw
    obtain ⟨m, rfl⟩ := Int.eq_ofNat_of_zero_le hh.1
    have hp := popN_le m
    have hl := hh.2.2.1
    rw [Int.toNat_natCast] at hl
    rw [if_pos rfl, if_pos rfl]
    by_cases h0 : (m : Int) = 0
    · rw [if_pos h0, if_pos h0]
      have e3 : Gz.modcertref01_Sum.f (⟨#[]⟩ : ByteArray) = some (sumB ⟨#[]⟩) := by
        show refSumG _ = _
        unfold refSumG
        rw [if_pos (show (⟨#[]⟩ : ByteArray).size ≤ 100000000 from by decide)]
      rw [e3]
      rfl
    · rw [if_neg h0, if_neg h0]
      have hpos : 0 < l.length := by
        rcases Nat.eq_zero_or_pos l.length with h | h
        · exfalso
          exact h0 (by have := popN_pos m (by omega) (by omega); omega)
        · exact h
      cases hr : l.reverse with
      | nil => simp at hr; rw [hr] at hpos; simp at hpos
      | cons h t =>
        have hlt : l.length = t.length + 1 := by
          have := congrArg List.length hr
          simpa using this
        have w1 : wrap64 ((l.length : Int) - 1) = ((t.length : Nat) : Int) := by unfold wrap64; omega
        have w2 : wrap64 ((l.length : Int) - 2) = (t.length : Int) - 1 - ((0 : Nat) : Int) := by unfold wrap64; omega
        have e2 : rdOf ByteArray.empty l ((t.length : Nat) : Int) = h := by
          unfold rdOf
          rw [Int.toNat_natCast]
          have e : l = (h :: t).reverse := by rw [← hr, List.reverse_reverse]
          rw [e]
          exact rev_last h t
        have e5 := rfr_l0 (m : Int) l t h hr (by omega) t.length 20 0 h (by omega) (by omega)
        rw [w1, w2, if_pos (by omega), if_pos (by omega), e2]
        exact e5
theorem RefAppend_S {w0 w : World} {ts : List Th} (S0 : SepT w0 w ts) (n : Int) (A : Option Addr) (c : Nat) (l : List ByteArray) (x : ByteArray) (hC : Kd.C Kd.string w A l.length l) (hc : l.length ≤ c) :
    Calls Try.prog 53 #[.agg #[.int .i64 n, .slice A l.length c], .string x] w fun e w' => ∃ B cb, e = .returned (.tuple #[.agg #[.int .i64 (AppR n l x).1, .slice B (AppR n l x).2.1.length cb], .int .i64 (AppR n l x).2.2]) ∧ SepT w0 w' (rowT Kd.string 9 (.slice B (AppR n l x).2.1.length cb) (AppR n l x).2.1 :: ts) := by
  refine (Gz.modcertref46_Append.calls 20 n A c l x _ _ _ w hC hc (rapp_f n l x)).mono ?_
  rintro e w1 ⟨v, rfl, hR, hb⟩
  obtain ⟨B, cb, rfl⟩ := Kd.R_slice hR
  exact ⟨B, cb, rfl, S0.addRow hb hR⟩
theorem RefFrontierRoot_S {w0 w : World} {ts : List Th} (S0 : SepT w0 w ts) (n : Int) (A : Option Addr) (c : Nat) (l : List ByteArray) (hC : Kd.C Kd.string w A l.length l) (hc : l.length ≤ c) :
    Calls Try.prog 54 #[.agg #[.int .i64 n, .slice A l.length c]] w fun e w' => e = .returned (.tuple #[.string (FrR n l).1, .int .i64 (FrR n l).2]) ∧ SepT w0 w' ts := by
  refine (Gz.modcertref46_FrontierRoot.calls 20 n A c l _ _ w hC hc (rfr_f n l)).mono ?_
  rintro e w1 ⟨rfl, hb⟩
  exact ⟨rfl, S0.below hb⟩
theorem same_l0 (l : List ByteArray) (hm : l.length ≤ 9223372036854775807) : ∀ n i k : Nat, i + n = l.length → n < k → Gs.modcertref46_SameStrings.l0 k l l (i : Int) = some true
  | 0, i, k, h, hk => by
    obtain ⟨k, rfl⟩ : ∃ m, k = m + 1 := ⟨k - 1, by omega⟩
    rw [Gs.modcertref46_SameStrings.l0, if_neg (by omega)]
  | n + 1, i, k, h, hk => by
    obtain ⟨k, rfl⟩ : ∃ m, k = m + 1 := ⟨k - 1, by omega⟩
    have w2 : wrap64 ((i : Int) + 1) = ((i + 1 : Nat) : Int) := by unfold wrap64; omega
    rw [Gs.modcertref46_SameStrings.l0, if_pos (by omega), if_pos (by omega), if_pos (by omega), if_pos rfl, w2, same_l0 l hm n (i + 1) k (by omega) (by omega)]
theorem SameFrontier_S {w0 w : World} {ts : List Th} (S0 : SepT w0 w ts) (n : Int) (l : List ByteArray) (A : Option Addr) (c : Nat) (A2 : Option Addr) (c2 : Nat) (hC : Kd.C Kd.string w A l.length l) (hc : l.length ≤ c) (hC2 : Kd.C Kd.string w A2 l.length l) (hc2 : l.length ≤ c2) :
    Calls Try.prog 55 #[.agg #[.int .i64 n, .slice A l.length c], .agg #[.int .i64 n, .slice A2 l.length c2]] w fun e w' => e = .returned (.bool true) ∧ SepT w0 w' ts := by
  have hf : Gs.modcertref46_SameFrontier.f (l.length + 1) n l n l = some true := by
    have h0 := same_l0 l hC.2.1 l.length 0 (l.length + 1) (by omega) (by omega)
    unfold Gs.modcertref46_SameFrontier.f Gs.modcertref46_SameStrings.f
    rw [if_pos rfl, if_pos rfl]
    have h1 : Gs.modcertref46_SameStrings.l0 (l.length + 1) l l 0 = some true := h0
    rw [h1]
    rfl
  refine (Gs.modcertref46_SameFrontier.calls (l.length + 1) n A c l n A2 c2 l true w hC hc hC2 hc2 hf).mono ?_
  rintro e w1 ⟨rfl, hb⟩
  exact ⟨rfl, S0.below hb⟩
end Go.Proofs.Ytiafadmkkehdnaa.Sh
