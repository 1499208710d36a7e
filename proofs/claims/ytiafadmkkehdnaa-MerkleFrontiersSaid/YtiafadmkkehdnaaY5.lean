/-
  merkle's Append and FrontierRoot; the plain laws; the laws' example.
-/
import Derived.Test.YtiafadmkkehdnaaY4
import Derived.Test.YtiafadmkkehdnaaGu1
import Derived.Test.YtiafadmkkehdnaaWGuard
namespace Go.Proofs.Ytiafadmkkehdnaa.Sh
open Go.RowKit Go.Great Go.Proofs.YtiafadmkkehdnaaW.PrintWords Go.Proofs.YtiafadmkkehdnaaW.PrintMore
set_option linter.unusedVariables false

/-- The hashes (the last first) with one more leaf. -/
def appR : List ByteArray → Nat → ByteArray → List ByteArray
  | [], _, x => [x]
  | h :: t, n, x => if n % 2 = 1 then appR t (n / 2) (nodeP h x) else x :: h :: t
def appQ (l : List ByteArray) (n : Nat) (x : ByteArray) : List ByteArray := (appR l.reverse n x).reverse
def AppR (n : Int) (l : List ByteArray) (x : ByteArray) : Int × List ByteArray × Int := if (wholeB n l && ((x.size : Int) == 32)) = true then (if n = 4096 then (0, [], 22) else (n + 1, appQ l n.toNat x, 0)) else (0, [], 1)
def frF (x : ByteArray) : List ByteArray → ByteArray
  | [] => x
  | h :: t => frF (nodeP h x) t
def frB : List ByteArray → ByteArray
  | [] => ⟨#[]⟩
  | h :: t => frF h t
def FrR (n : Int) (l : List ByteArray) : ByteArray × Int := if wholeB n l = true then (if n = 0 then (sumB ⟨#[]⟩, 0) else (frB l.reverse, 0)) else (⟨#[]⟩, 1)

theorem and1_dec : ∀ a < 65, ∀ b < 64, bits .and .i64 ((64 * a + b : Nat) : Int) 1 = (((64 * a + b) % 2 : Nat) : Int) := by decide +kernel
theorem and1 (n : Nat) (h : n ≤ 4096) : bits .and .i64 (n : Int) 1 = ((n % 2 : Nat) : Int) := by
  have := and1_dec (n / 64) (by omega) (n % 64) (by omega)
  rw [show 64 * (n / 64) + n % 64 = n by omega] at this
  exact this
theorem popF_zero : ∀ f, popF f 0 = 0
  | 0 => rfl
  | f + 1 => by rw [popF, popF_zero f]
theorem popF_more : ∀ (f n : Nat), n < 2 ^ f → popF f n = popF (f + 1) n
  | 0, n, h => by
    obtain rfl : n = 0 := by simpa using h
    rfl
  | f + 1, n, h => by
    rw [popF, popF_more f (n / 2) (by rw [Nat.pow_succ] at h; omega), ← popF]
theorem popN_step (n : Nat) (h : n ≤ 8190) : popN n = n % 2 + popN (n / 2) := by
  unfold popN
  have h2 : n / 2 < 2 ^ 12 := by
    show n / 2 < 4096
    omega
  rw [← popF_more 12 (n / 2) h2, popF]
theorem popN_zero : popN 0 = 0 := rfl
theorem app_l0 (n0 : Int) (l0 : List ByteArray) : ∀ (rx : List ByteArray) (k n : Nat) (x : ByteArray), n ≤ 4096 → rx.length = popN n → rx.length ≤ 100 → rx.length < k →
    Gu.merkle_Append.l0 k x rx.reverse n n0 l0 = some (wrap64 (n0 + 1), (appR rx n x).reverse, 0)
  | [], k, n, x, hn, hl, h1, hk => by
    obtain ⟨k, rfl⟩ : ∃ m, k = m + 1 := ⟨k - 1, by omega⟩
    have hp := popN_step n (by omega)
    have h2 : n % 2 = 0 := by simp at hl; omega
    rw [Gu.merkle_Append.l0, and1 n hn, h2, if_neg (by decide), if_pos (by simp), appR]
    simp
  | h :: t, k, n, x, hn, hl, h1, hk => by
    obtain ⟨k, rfl⟩ : ∃ m, k = m + 1 := ⟨k - 1, by omega⟩
    have hp := popN_step n (by omega)
    rw [Gu.merkle_Append.l0, and1 n hn, appR]
    by_cases h2 : n % 2 = 1
    · have hlen : ((h :: t).reverse.length : Int) = (t.length : Int) + 1 := by simp
      have ht : t.length ≤ 100 := by simp at h1; omega
      have w1 : wrap64 ((h :: t).reverse.length - 1 : Int) = (t.length : Int) := by rw [hlen]; unfold wrap64; omega
      have e2 : rdOf ByteArray.empty (h :: t).reverse (t.length : Int) = h := by unfold rdOf; rw [Int.toNat_natCast]; exact rev_last h t
      have e3 : ∀ a b, Gu.merkle_Node.f a b = some (nodeP a b) := nodeG_P
      rw [if_pos (by omega), w1, if_pos (by omega), if_pos (by omega), e2, e3, Option.bind_some, if_pos (by omega), Int.toNat_natCast, rev_take, if_pos h2]
      have e4 : ((n : Int) / 2) = ((n / 2 : Nat) : Int) := by omega
      rw [e4]
      exact app_l0 n0 l0 t k (n / 2) (nodeP h x) (by omega) (by simp at hl; omega) (by omega) (by simp at hk; omega)
    · rw [if_neg (by omega), if_pos (by simp at h1 ⊢; omega), if_neg h2]
      simp
theorem popF_le : ∀ (f n : Nat), popF f n ≤ f
  | 0, n => Nat.le_refl _
  | f + 1, n => by rw [popF]; have := popF_le f (n / 2); omega
theorem popN_le (n : Nat) : popN n ≤ 13 := popF_le 13 n
theorem wholeB_true {n : Int} {l : List ByteArray} (h : wholeB n l = true) : 0 ≤ n ∧ n ≤ 4096 ∧ l.length = popN n.toNat ∧ validB l = true := by
  unfold wholeB at h
  simpa using h
theorem app_f (n : Int) (l : List ByteArray) (x : ByteArray) : Gu.merkle_Append.f 20 n l x = some (AppR n l x) := by
  unfold Gu.merkle_Append.f AppR
  have e1 : Gu.merkle_whole.f n l = some (wholeB n l) := rfl
  have e2 : Gu.merkle_digest.f x = some ((x.size : Int) == 32) := rfl
  rw [e1, Option.bind_some, e2, Option.bind_some]
  cases hw : wholeB n l with
  | false => simp [Gu.merkle_Append.j0]
  | true =>
    have hh := wholeB_true hw
    cases hx : ((x.size : Int) == 32) with
    | false => simp [Gu.merkle_Append.j0]
    | true =>
      obtain ⟨m, rfl⟩ := Int.eq_ofNat_of_zero_le hh.1
      have hp := popN_le m
      have hl := hh.2.2.1
      rw [Int.toNat_natCast] at hl
      rw [if_pos rfl, Gu.merkle_Append.j0, if_neg (by decide), if_pos (show (true && true) = true from rfl)]
      by_cases h4 : (m : Int) = 4096
      · rw [if_pos h4, if_pos h4]
      · rw [if_neg h4, if_neg h4]
        have e3 : Gu.slices_Clone_string_string.f l = some l := by
          show cloneG l = _
          unfold cloneG
          rw [if_pos (by omega)]
        have e4 := app_l0 (m : Int) l l.reverse 19 m x (by omega) (by rw [List.length_reverse]; exact hl) (by rw [List.length_reverse]; omega) (by rw [List.length_reverse]; omega)
        rw [List.reverse_reverse] at e4
        have w1 : wrap64 ((m : Int) + 1) = (m : Int) + 1 := by unfold wrap64; omega
        rw [e3, Option.bind_some, e4, w1, Int.toNat_natCast]
        rfl
theorem frF_drop (t : List ByteArray) (i : Nat) (h : i < t.length) (x : ByteArray) : frF x (t.drop i) = frF (nodeP (t.getD i ⟨#[]⟩) x) (t.drop (i + 1)) := by
  rw [List.drop_eq_getElem_cons h, frF]
  simp [List.getD, h]
theorem fr_l0 (n0 : Int) (l t : List ByteArray) (h : ByteArray) (hr : l.reverse = h :: t) (hl : l.length ≤ 100) : ∀ (d k i : Nat) (x : ByteArray), i + d = t.length → d < k →
    Gu.merkle_FrontierRoot.l0 k x ((t.length : Nat) : Int) (i : Int) n0 l = some (frF x (t.drop i), 0)
  | 0, k, i, x, hi, hk => by
    obtain ⟨k, rfl⟩ : ∃ m, k = m + 1 := ⟨k - 1, by omega⟩
    obtain rfl : i = t.length := by omega
    rw [Gu.merkle_FrontierRoot.l0, if_neg (by omega), List.drop_length]
    rfl
  | d + 1, k, i, x, hi, hk => by
    obtain ⟨k, rfl⟩ : ∃ m, k = m + 1 := ⟨k - 1, by omega⟩
    have hlt : l.length = t.length + 1 := by
      have := congrArg List.length hr
      simpa using this
    have w1 : wrap64 (wrap64 ((l.length : Int) - 2) - (i : Int)) = ((l.length - 2 - i : Nat) : Int) := by unfold wrap64; omega
    have w2 : wrap64 ((i : Int) + 1) = ((i + 1 : Nat) : Int) := by unfold wrap64; omega
    have e3 : ∀ a b, Gu.merkle_Node.f a b = some (nodeP a b) := nodeG_P
    have e2 : rdOf ByteArray.empty l ((l.length - 2 - i : Nat) : Int) = t.getD i ⟨#[]⟩ := by
      unfold rdOf
      rw [Int.toNat_natCast]
      have e : l = (h :: t).reverse := by rw [← hr, List.reverse_reverse]
      have e5 : l.length - 2 - i = (h :: t).length - 1 - (i + 1) := by simp; omega
      rw [e5, e]
      simp only [List.getD_eq_getElem?_getD]
      rw [List.getElem?_reverse (by simp; omega)]
      have e6 : (h :: t).length - 1 - ((h :: t).length - 1 - (i + 1)) = i + 1 := by simp; omega
      rw [e6]
      rfl
    rw [Gu.merkle_FrontierRoot.l0, if_pos (by omega), w1, if_pos (by omega), if_pos (by omega), e2, e3, Option.bind_some, w2, fr_l0 n0 l t h hr hl d k (i + 1) _ (by omega) (by omega), frF_drop t i (by omega)]
theorem fr_f (n : Int) (l : List ByteArray) : Gu.merkle_FrontierRoot.f 20 n l = some (FrR n l) := by
  unfold Gu.merkle_FrontierRoot.f FrR
  have e1 : Gu.merkle_whole.f n l = some (wholeB n l) := rfl
  rw [e1, Option.bind_some]
  cases hw : wholeB n l with
  | false => rfl
  | true =>
    have hh := wholeB_true hw
    obtain ⟨m, rfl⟩ := Int.eq_ofNat_of_zero_le hh.1
    have hp := popN_le m
    have hl := hh.2.2.1
    rw [Int.toNat_natCast] at hl
    rw [if_pos rfl, if_pos rfl]
    by_cases h0 : (m : Int) = 0
    · rw [if_pos h0, if_pos h0]
      rfl
    · rw [if_neg h0, if_neg h0]
      have hpos : 0 < l.length := by
        rcases Nat.eq_zero_or_pos l.length with h | h
        · exfalso
          have key : ∀ a < 65, ∀ b < 64, popN (64 * a + b) = 0 → 64 * a + b = 0 := by decide +kernel
          have := key (m / 64) (by omega) (m % 64) (by omega)
          rw [show 64 * (m / 64) + m % 64 = m by omega] at this
          exact h0 (by have := this (by omega); omega)
        · exact h
      cases hr : l.reverse with
      | nil => simp at hr; rw [hr] at hpos; simp at hpos
      | cons h t =>
        have hlt : l.length = t.length + 1 := by
          have := congrArg List.length hr
          simpa using this
        have w1 : wrap64 ((l.length : Int) - 1) = ((t.length : Nat) : Int) := by unfold wrap64; omega
        have e2 : rdOf ByteArray.empty l ((t.length : Nat) : Int) = h := by
          unfold rdOf
          rw [Int.toNat_natCast]
          have e : l = (h :: t).reverse := by rw [← hr, List.reverse_reverse]
          rw [e]
          exact rev_last h t
        have e5 := fr_l0 (m : Int) l t h hr (by omega) t.length 20 0 h (by omega) (by omega)
        rw [w1, if_pos (by omega), if_pos (by omega), e2]
        exact e5
theorem Append_S {w0 w : World} {ts : List Th} (S0 : SepT w0 w ts) (n : Int) (A : Option Addr) (c : Nat) (l : List ByteArray) (x : ByteArray) (hC : Kd.C Kd.string w A l.length l) (hc : l.length ≤ c) :
    Calls Try.prog 19 #[.agg #[.int .i64 n, .slice A l.length c], .string x] w fun e w' => ∃ B cb, e = .returned (.tuple #[.agg #[.int .i64 (AppR n l x).1, .slice B (AppR n l x).2.1.length cb], .int .i64 (AppR n l x).2.2]) ∧ SepT w0 w' (rowT Kd.string 9 (.slice B (AppR n l x).2.1.length cb) (AppR n l x).2.1 :: ts) := by
  refine (Gu.merkle_Append.calls 20 n A c l x _ _ _ w hC hc (app_f n l x)).mono ?_
  rintro e w1 ⟨v, rfl, hR, hb⟩
  obtain ⟨B, cb, rfl⟩ := Kd.R_slice hR
  exact ⟨B, cb, rfl, S0.addRow hb hR⟩
theorem FrontierRoot_S {w0 w : World} {ts : List Th} (S0 : SepT w0 w ts) (n : Int) (A : Option Addr) (c : Nat) (l : List ByteArray) (hC : Kd.C Kd.string w A l.length l) (hc : l.length ≤ c) :
    Calls Try.prog 21 #[.agg #[.int .i64 n, .slice A l.length c]] w fun e w' => e = .returned (.tuple #[.string (FrR n l).1, .int .i64 (FrR n l).2]) ∧ SepT w0 w' ts := by
  refine (Gu.merkle_FrontierRoot.calls 20 n A c l _ _ w hC hc (fr_f n l)).mono ?_
  rintro e w1 ⟨rfl, hb⟩
  exact ⟨rfl, S0.below hb⟩
end Go.Proofs.Ytiafadmkkehdnaa.Sh
namespace Go.Proofs.Ytiafadmkkehdnaa.Sh
open Go.RowKit Go.Great Go.Proofs.YtiafadmkkehdnaaW.PrintWords Go.Proofs.YtiafadmkkehdnaaW.PrintMore
set_option linter.unusedVariables false
section
variable {w0 w : World} {ts : List Th}
theorem SepT.rowC {α : Type} {d : Kd α} {e n c : Nat} {A : Option Addr} {xs : List α} (h : SepT w0 w ts) (hm : rowT d e (.slice A n c) xs ∈ ts) : d.C w A n xs ∧ n ≤ c := by
  obtain ⟨ok, hR, _⟩ := SepT.get h hm
  obtain ⟨A', c', e1, hc, hC⟩ := Kd.R_reads hR
  injection e1 with e1 e2 e3
  subst e1
  subst e2
  subst e3
  exact ⟨hC, hc⟩
theorem Root_C {A : Option Addr} {n c : Nat} {l : List ByteArray} (S0 : SepT w0 w ts) (hC : Kd.C Kd.string w A n l) (hc : n ≤ c) (r : ByteArray) (hr : RootB l = r) :
    Calls Try.prog 22 #[.slice A n c] w fun e w' => e = .returned (.string r) ∧ SepT w0 w' ts := by
  obtain rfl : l.length = n := hC.1
  subst hr
  exact (Root_calls w A c l hC hc).mono (fun _ _ h => ⟨h.1, S0.below h.2⟩)
theorem Inclusion_C {A : Option Addr} {n c : Nat} {l : List ByteArray} (S0 : SepT w0 w ts) (hC : Kd.C Kd.string w A n l) (hc : n ≤ c) (i : Int) (xs : List ByteArray) (er : Int) (hr : InclR l i = (xs, er)) :
    Calls Try.prog 23 #[.slice A n c, .int .i64 i] w fun e w' => ∃ B cb, e = .returned (.tuple #[.slice B xs.length cb, .int .i64 er]) ∧ SepT w0 w' (rowT Kd.string 9 (.slice B xs.length cb) xs :: ts) := by
  obtain rfl : l.length = n := hC.1
  have h := Inclusion_calls w A c l i hC hc
  rw [hr] at h
  exact h.mono (fun _ _ ⟨B, cb, h1, h2⟩ => ⟨B, cb, h1, S0.lift h2⟩)
theorem Consistency_C {A : Option Addr} {n c : Nat} {l : List ByteArray} (S0 : SepT w0 w ts) (hC : Kd.C Kd.string w A n l) (hc : n ≤ c) (i : Int) (xs : List ByteArray) (er : Int) (hr : ConsR l i = (xs, er)) :
    Calls Try.prog 24 #[.slice A n c, .int .i64 i] w fun e w' => ∃ B cb, e = .returned (.tuple #[.slice B xs.length cb, .int .i64 er]) ∧ SepT w0 w' (rowT Kd.string 9 (.slice B xs.length cb) xs :: ts) := by
  obtain rfl : l.length = n := hC.1
  have h := Consistency_calls w A c l i hC hc
  rw [hr] at h
  exact h.mono (fun _ _ ⟨B, cb, h1, h2⟩ => ⟨B, cb, h1, S0.lift h2⟩)
theorem Included_C {A : Option Addr} {m c : Nat} {l : List ByteArray} (S0 : SepT w0 w ts) (hC : Kd.C Kd.string w A m l) (hc : m ≤ c) (leaf root : ByteArray) (i n : Nat) (hv : validB l = true) (hl : leaf.size = 32) (hr : root.size = 32) (h4 : n ≤ 4096) (hi : i < n) (b : Bool) (hb : InclOk leaf i n l root = b) :
    Calls Try.prog 25 #[.string leaf, .int .i64 i, .int .i64 n, .slice A m c, .string root] w fun e w' => e = .returned (.bool b) ∧ SepT w0 w' ts := by
  obtain rfl : l.length = m := hC.1
  subst hb
  exact (Included_calls w A c leaf root i n l hC hc hv hl hr (by omega) h4 hi).mono (fun _ _ h => ⟨h.1, S0.below h.2⟩)
theorem Included_outC {A : Option Addr} {m c : Nat} {l : List ByteArray} (S0 : SepT w0 w ts) (hC : Kd.C Kd.string w A m l) (hc : m ≤ c) (leaf root : ByteArray) (i : Int) (n : Nat) (hv : validB l = true) (hl : leaf.size = 32) (hr : root.size = 32) (h1 : 1 ≤ n) (h4 : n ≤ 4096) (hi : i < 0 ∨ (n : Int) ≤ i) :
    Calls Try.prog 25 #[.string leaf, .int .i64 i, .int .i64 n, .slice A m c, .string root] w fun e w' => e = .returned (.bool false) ∧ SepT w0 w' ts := by
  obtain rfl : l.length = m := hC.1
  exact (Included_out w A c leaf root i n l hC hc hv hl hr h1 h4 hi).mono (fun _ _ h => ⟨h.1, S0.below h.2⟩)
theorem Extends_C {A : Option Addr} {k c : Nat} {l : List ByteArray} (S0 : SepT w0 w ts) (hC : Kd.C Kd.string w A k l) (hc : k ≤ c) (old now : ByteArray) (m n : Nat) (hv : validB l = true) (hl : old.size = 32) (hr : now.size = 32) (h1 : 1 ≤ m) (hm : m ≤ n) (h4 : n ≤ 4096) (b : Bool) (hb : ExtOk m n old now l = b) :
    Calls Try.prog 26 #[.int .i64 m, .int .i64 n, .string old, .string now, .slice A k c] w fun e w' => e = .returned (.bool b) ∧ SepT w0 w' ts := by
  obtain rfl : l.length = k := hC.1
  subst hb
  exact (Extends_calls w A c old now m n l hC hc hv hl hr h1 hm h4).mono (fun _ _ h => ⟨h.1, S0.below h.2⟩)
theorem Extends_outC {A : Option Addr} {k c : Nat} {l : List ByteArray} (S0 : SepT w0 w ts) (hC : Kd.C Kd.string w A k l) (hc : k ≤ c) (old now : ByteArray) (m n : Nat) (hv : validB l = true) (hl : old.size = 32) (hr : now.size = 32) (h1 : n < m) :
    Calls Try.prog 26 #[.int .i64 m, .int .i64 n, .string old, .string now, .slice A k c] w fun e w' => e = .returned (.bool false) ∧ SepT w0 w' ts := by
  obtain rfl : l.length = k := hC.1
  exact (Extends_out w A c old now m n l hC hc hv hl hr h1).mono (fun _ _ h => ⟨h.1, S0.below h.2⟩)
theorem Extends_zeroC {A : Option Addr} {k c : Nat} {l : List ByteArray} (S0 : SepT w0 w ts) (hC : Kd.C Kd.string w A k l) (hc : k ≤ c) (old now : ByteArray) (n : Nat) (hv : validB l = true) (ho : old = sumB ⟨#[]⟩) (hr : now.size = 32) (h4 : n ≤ 4096) (hn : n = 0 → now = sumB ⟨#[]⟩) (b : Bool) (hb : decide (k = 0) = b) :
    Calls Try.prog 26 #[.int .i64 0, .int .i64 n, .string old, .string now, .slice A k c] w fun e w' => e = .returned (.bool b) ∧ SepT w0 w' ts := by
  obtain rfl : l.length = k := hC.1
  subst hb
  subst ho
  exact (Extends_zero w A c now n l hC hc hv hr h4 hn).mono (fun _ _ h => ⟨h.1, S0.below h.2⟩)
theorem leaves_C {A : Option Addr} {n c : Nat} {l : List ByteArray} (S0 : SepT w0 w ts) (hC : Kd.C Kd.string w A n l) (hl : n ≤ 5000) (hb : ∀ x ∈ l, x.size ≤ 10000000) :
    Calls Try.prog 18 #[.slice A n c] w fun e w' => ∃ B cb, e = .returned (.slice B n cb) ∧ SepT w0 w' (rowT Kd.string 9 (.slice B n cb) (l.map leafB) :: ts) := by
  obtain rfl : l.length = n := hC.1
  exact (leaves_calls w A c l hC hl hb).mono (fun _ _ ⟨B, cb, h1, h2⟩ => ⟨B, cb, h1, S0.lift h2⟩)
theorem Append_C {A : Option Addr} {m c : Nat} {l : List ByteArray} (S0 : SepT w0 w ts) (hC : Kd.C Kd.string w A m l) (hc : m ≤ c) (n : Int) (x : ByteArray) (n2 : Int) (xs : List ByteArray) (er : Int) (hr : AppR n l x = (n2, xs, er)) :
    Calls Try.prog 19 #[.agg #[.int .i64 n, .slice A m c], .string x] w fun e w' => ∃ B cb, e = .returned (.tuple #[.agg #[.int .i64 n2, .slice B xs.length cb], .int .i64 er]) ∧ SepT w0 w' (rowT Kd.string 9 (.slice B xs.length cb) xs :: ts) := by
  obtain rfl : l.length = m := hC.1
  have h := Append_S S0 n A c l x hC hc
  rw [hr] at h
  exact h
theorem FrontierRoot_C {A : Option Addr} {m c : Nat} {l : List ByteArray} (S0 : SepT w0 w ts) (hC : Kd.C Kd.string w A m l) (hc : m ≤ c) (n : Int) (r : ByteArray) (er : Int) (hr : FrR n l = (r, er)) :
    Calls Try.prog 21 #[.agg #[.int .i64 n, .slice A m c]] w fun e w' => e = .returned (.tuple #[.string r, .int .i64 er]) ∧ SepT w0 w' ts := by
  obtain rfl : l.length = m := hC.1
  have h := FrontierRoot_S S0 n A c l hC hc
  rw [hr] at h
  exact h
theorem eq_l0 (l : List ByteArray) (hm : l.length ≤ 9223372036854775807) : ∀ n i : Nat, i + n = l.length → Gs.slices_Equal_string_string.l0 (n + 1) l l ((l.length : Nat) : Int) (i : Int) = some true
  | 0, i, h => by
    rw [Gs.slices_Equal_string_string.l0, if_neg (by omega)]
  | n + 1, i, h => by
    have w2 : wrap64 ((i : Int) + 1) = ((i + 1 : Nat) : Int) := by unfold wrap64; omega
    rw [Gs.slices_Equal_string_string.l0, if_pos (by omega), if_pos (by omega), if_pos (by omega), if_pos (by omega), if_pos rfl, w2]
    exact eq_l0 l hm n (i + 1) (by omega)
theorem Equal_C {A A2 : Option Addr} {n c n2 c2 : Nat} {l : List ByteArray} (S0 : SepT w0 w ts) (hC : Kd.C Kd.string w A n l) (hc : n ≤ c) (hC2 : Kd.C Kd.string w A2 n2 l) (hc2 : n2 ≤ c2) :
    Calls Try.prog 52 #[.slice A n c, .slice A2 n2 c2] w fun e w' => e = .returned (.bool true) ∧ SepT w0 w' ts := by
  obtain rfl : l.length = n := hC.1
  obtain rfl : l.length = n2 := hC2.1
  have hf : Gs.slices_Equal_string_string.f (l.length + 1) l l = some true := by
    unfold Gs.slices_Equal_string_string.f
    rw [if_pos rfl]
    exact eq_l0 l hC.2.1 l.length 0 (by omega)
  refine (Gs.slices_Equal_string_string.calls (l.length + 1) A c l A2 c2 l _ w hC hc hC2 hc2 hf).mono ?_
  rintro e w1 ⟨rfl, hd⟩
  refine ⟨rfl, ?_⟩
  obtain ⟨n, rfl⟩ := hd
  exact S0.drewN n
theorem HasPrefix_S (S0 : SepT w0 w ts) (a p : ByteArray) (h : Gs.strings_HasPrefix.f a p = some true) :
    Calls Try.prog 57 #[.string a, .string p] w fun e w' => e = .returned (.bool true) ∧ SepT w0 w' ts := by
  refine (Gs.strings_HasPrefix.calls a p _ w h).mono ?_
  rintro e w1 ⟨rfl, hd⟩
  refine ⟨rfl, ?_⟩
  obtain ⟨n, rfl⟩ := hd
  exact S0.drewN n
end
end Go.Proofs.Ytiafadmkkehdnaa.Sh
namespace Go.Proofs.Ytiafadmkkehdnaa.Sh
set_option linter.unusedVariables false

attribute [local irreducible] sumB splitN rootB nodeB inclB consB
theorem len_take {α : Type} (l : List α) (k : Nat) (h : k ≤ l.length) : (l.take k).length = k := by rw [List.length_take]; omega
theorem nodeP_B {a b : ByteArray} (ha : a.size = 32) (hb : b.size = 32) : nodeP a b = nodeB a b := by unfold nodeP; rw [if_pos ⟨ha, hb⟩]
theorem toList_self (a : ByteArray) : (a.toList == a.toList) = true := by simp
/-- An inclusion proof gives the root. -/
theorem givR_incl : ∀ (f : Nat) (l : List ByteArray) (i : Nat), l.length < f → l.length ≤ 4096 → AllD l → i < l.length → givR (l.getD i ⟨#[]⟩) (inclB l i).reverse i l.length = (rootB l, true)
  | 0, _, _, h, _, _, _ => by omega
  | f + 1, l, i, hf, hm, hd, hi => by
    by_cases h1 : l.length = 1
    · obtain ⟨x, rfl⟩ := List.length_eq_one_iff.1 h1
      obtain rfl : i = 0 := by simpa using hi
      rw [inclB_one, rootB_one]
      rfl
    · have h2 : 2 ≤ l.length := by omega
      have hs := splitN_facts l.length hm h2
      have e1 := len_take l (splitN l.length) (by omega)
      have e2 : (l.drop (splitN l.length)).length = l.length - splitN l.length := List.length_drop
      have z1 := rootB_size _ (hd.take (splitN l.length)) (by omega)
      have z2 := rootB_size _ (hd.drop (splitN l.length)) (by omega)
      rw [rootB_split l h2 hm]
      by_cases hk : i < splitN l.length
      · have ih := givR_incl f (l.take (splitN l.length)) i (by omega) (by omega) (hd.take _) (by omega)
        have eg : (l.take (splitN l.length)).getD i ⟨#[]⟩ = l.getD i ⟨#[]⟩ := by simp [List.getD, hk]
        rw [eg, e1] at ih
        rw [inclB_lo l i h2 hm hk, List.reverse_append, List.reverse_singleton, List.singleton_append, givR_lo _ _ _ _ _ h1 hk, ih]
        rw [nodeP_B z1 z2]
      · have ih := givR_incl f (l.drop (splitN l.length)) (i - splitN l.length) (by omega) (by omega) (hd.drop _) (by omega)
        have eg : (l.drop (splitN l.length)).getD (i - splitN l.length) ⟨#[]⟩ = l.getD i ⟨#[]⟩ := by
          simp only [List.getD, List.getElem?_drop]
          rw [show splitN l.length + (i - splitN l.length) = i by omega]
        rw [eg, e2] at ih
        rw [inclB_hi l i h2 hm hk hi, List.reverse_append, List.reverse_singleton, List.singleton_append, givR_hi _ _ _ _ _ h1 hk, ih]
        rw [nodeP_B z1 z2]
/-- A proof of another length gives none. -/
theorem givR_length : ∀ (f : Nat) (l : List ByteArray) (i : Nat) (leaf : ByteArray) (rp : List ByteArray), l.length < f → l.length ≤ 4096 → i < l.length → rp.length ≠ (inclB l i).length → (givR leaf rp i l.length).2 = false
  | 0, _, _, _, _, h, _, _, _ => by omega
  | f + 1, l, i, leaf, rp, hf, hm, hi, hn => by
    by_cases h1 : l.length = 1
    · obtain ⟨x, rfl⟩ := List.length_eq_one_iff.1 h1
      rw [inclB_one] at hn
      rcases rp with _ | ⟨p, ps⟩
      · simp at hn
      · rfl
    · rcases rp with _ | ⟨p, ps⟩
      · rw [givR_nil _ _ _ h1]
      · have h2 : 2 ≤ l.length := by omega
        have hs := splitN_facts l.length hm h2
        have e1 := len_take l (splitN l.length) (by omega)
        have e2 : (l.drop (splitN l.length)).length = l.length - splitN l.length := List.length_drop
        by_cases hk : i < splitN l.length
        · rw [inclB_lo l i h2 hm hk] at hn
          have ih := givR_length f (l.take (splitN l.length)) i leaf ps (by omega) (by omega) (by omega) (by simp at hn; omega)
          rw [e1] at ih
          rw [givR_lo _ _ _ _ _ h1 hk]
          exact ih
        · rw [inclB_hi l i h2 hm hk hi] at hn
          have ih := givR_length f (l.drop (splitN l.length)) (i - splitN l.length) leaf ps (by omega) (by omega) (by omega) (by simp at hn; omega)
          rw [e2] at ih
          rw [givR_hi _ _ _ _ _ h1 hk]
          exact ih
theorem inclB_same : ∀ (f : Nat) (l m : List ByteArray) (i : Nat), l.length < f → l.length ≤ 4096 → l.length = m.length → i < l.length → (inclB l i).length = (inclB m i).length
  | 0, _, _, _, h, _, _, _ => by omega
  | f + 1, l, m, i, hf, hm, he, hi => by
    by_cases h1 : l.length = 1
    · obtain ⟨x, rfl⟩ := List.length_eq_one_iff.1 h1
      obtain ⟨y, rfl⟩ := List.length_eq_one_iff.1 (he.symm.trans h1)
      rw [inclB_one, inclB_one]
    · have h2 : 2 ≤ l.length := by omega
      have hs := splitN_facts l.length hm h2
      by_cases hk : i < splitN l.length
      · rw [inclB_lo l i h2 hm hk, inclB_lo m i (by omega) (by omega) (by rw [← he]; exact hk), ← he, List.length_append, List.length_append]
        rw [inclB_same f (l.take (splitN l.length)) (m.take (splitN l.length)) i (by rw [List.length_take]; omega) (by rw [List.length_take]; omega) (by rw [List.length_take, List.length_take]; omega) (by rw [List.length_take]; omega)]
        rw [List.length_singleton, List.length_singleton]
      · rw [inclB_hi l i h2 hm hk hi, inclB_hi m i (by omega) (by omega) (by rw [← he]; exact hk) (by omega), ← he, List.length_append, List.length_append]
        rw [inclB_same f (l.drop (splitN l.length)) (m.drop (splitN l.length)) _ (by rw [List.length_drop]; omega) (by rw [List.length_drop]; omega) (by rw [List.length_drop, List.length_drop]; omega) (by rw [List.length_drop]; omega)]
        rw [List.length_singleton, List.length_singleton]
theorem inclB_all : ∀ (f : Nat) (l : List ByteArray) (i : Nat), l.length < f → l.length ≤ 4096 → AllD l → i < l.length → AllD (inclB l i)
  | 0, _, _, h, _, _, _ => by omega
  | f + 1, l, i, hf, hm, hd, hi => by
    by_cases h1 : l.length = 1
    · obtain ⟨x, rfl⟩ := List.length_eq_one_iff.1 h1
      rw [inclB_one]
      intro x hx
      cases hx
    · have h2 : 2 ≤ l.length := by omega
      have hs := splitN_facts l.length hm h2
      have e1 := len_take l (splitN l.length) (by omega)
      have e2 : (l.drop (splitN l.length)).length = l.length - splitN l.length := List.length_drop
      have z1 := rootB_size _ (hd.take (splitN l.length)) (by omega)
      have z2 := rootB_size _ (hd.drop (splitN l.length)) (by omega)
      by_cases hk : i < splitN l.length
      · have ih := inclB_all f (l.take (splitN l.length)) i (by omega) (by omega) (hd.take _) (by omega)
        rw [inclB_lo l i h2 hm hk]
        intro x hx
        rcases List.mem_append.1 hx with h | h
        · exact ih x h
        · rw [List.mem_singleton.1 h]; exact z2
      · have ih := inclB_all f (l.drop (splitN l.length)) (i - splitN l.length) (by omega) (by omega) (hd.drop _) (by omega)
        rw [inclB_hi l i h2 hm hk hi]
        intro x hx
        rcases List.mem_append.1 hx with h | h
        · exact ih x h
        · rw [List.mem_singleton.1 h]; exact z1
theorem inclB_len (l : List ByteArray) (i : Nat) : (inclB l i).length ≤ l.length + 1 := inclB_length l i

/-! ### consistency -/
theorem pow_uniq {a b m : Nat} (h1 : 2 ^ a < m) (h2 : m ≤ 2 * 2 ^ a) (h3 : 2 ^ b < m) (h4 : m ≤ 2 * 2 ^ b) : a = b := by
  rcases Nat.lt_trichotomy a b with h | h | h
  · have : 2 ^ (a + 1) ≤ 2 ^ b := Nat.pow_le_pow_right (by decide) h
    rw [Nat.pow_succ] at this
    omega
  · exact h
  · have : 2 ^ (b + 1) ≤ 2 ^ a := Nat.pow_le_pow_right (by decide) h
    rw [Nat.pow_succ] at this
    omega
theorem splitN_pow (n : Nat) : ∃ a, splitN n = 2 ^ a := by unfold splitN; exact ⟨_, rfl⟩
theorem splitN_eq {n a : Nat} (hn : n ≤ 4096) (h1 : 2 ^ a < n) (h2 : n ≤ 2 * 2 ^ a) : splitN n = 2 ^ a := by
  have hp := Nat.two_pow_pos a
  have hs := splitN_facts n hn (by omega)
  obtain ⟨b, hb⟩ := splitN_pow n
  rw [hb] at hs ⊢
  rw [pow_uniq h1 h2 hs.2.2.2.1 hs.2.2.2.2]
theorem splitN_same {n m : Nat} (hn : n ≤ 4096) (hmn : m ≤ n) (h2 : 2 ≤ n) (h : splitN n < m) : splitN m = splitN n := by
  have hs := splitN_facts n hn h2
  obtain ⟨a, ha⟩ := splitN_pow n
  rw [ha] at hs h ⊢
  exact splitN_eq (by omega) h (by omega)
theorem readR_end_whole (m : Nat) (wh : ByteArray) (h : wh.size ≠ 0) : readR [] m m wh = (wh, wh, true) := by rw [readR, if_pos rfl, if_neg h]
theorem readR_end_part (m : Nat) (p : ByteArray) : readR [p] m m ⟨#[]⟩ = (p, p, true) := by rw [readR, if_pos rfl, if_pos (by rfl), if_pos rfl]
theorem readR_lo (p : ByteArray) (ps : List ByteArray) (m n : Nat) (wh : ByteArray) (h : m ≠ n) (hk : m ≤ splitN n) : readR (p :: ps) m n wh = ((readR ps m (splitN n) wh).1, nodeP (readR ps m (splitN n) wh).2.1 p, (readR ps m (splitN n) wh).2.2) := by rw [readR, if_neg h, if_pos hk]
theorem readR_hi (p : ByteArray) (ps : List ByteArray) (m n : Nat) (wh : ByteArray) (h : m ≠ n) (hk : ¬ m ≤ splitN n) : readR (p :: ps) m n wh = (nodeP p (readR ps (m - splitN n) (n - splitN n) ⟨#[]⟩).1, nodeP p (readR ps (m - splitN n) (n - splitN n) ⟨#[]⟩).2.1, (readR ps (m - splitN n) (n - splitN n) ⟨#[]⟩).2.2) := by rw [readR, if_neg h, if_neg hk]
theorem readR_nil (m n : Nat) (wh : ByteArray) (h : m ≠ n) : readR [] m n wh = (⟨#[]⟩, ⟨#[]⟩, false) := by rw [readR, if_neg h]
/-- A consistency proof gives the root of the first and the root of all. -/
theorem readR_cons : ∀ (f : Nat) (l : List ByteArray) (m : Nat) (b : Bool) (wh : ByteArray), l.length < f → l.length ≤ 4096 → AllD l → 1 ≤ m → m ≤ l.length → (b = true → wh = rootB (l.take m)) → (b = false → wh = ⟨#[]⟩) →
    readR (consB l m b).reverse m l.length wh = (rootB (l.take m), rootB l, true)
  | 0, _, _, _, _, h, _, _, _, _, _, _ => by omega
  | f + 1, l, m, b, wh, hf, hm, hd, h1, hl, hb1, hb2 => by
    by_cases he : m = l.length
    · subst he
      rw [List.take_length] at hb1 ⊢
      cases b with
      | true =>
        have hw := hb1 rfl
        subst hw
        rw [consB_whole, List.reverse_nil, readR_end_whole _ _ (by rw [rootB_size l hd hm]; decide)]
      | false =>
        have hw := hb2 rfl
        subst hw
        rw [consB_part, List.reverse_singleton, readR_end_part]
    · have h2 : 2 ≤ l.length := by omega
      have hs := splitN_facts l.length hm h2
      have e1 := len_take l (splitN l.length) (by omega)
      have e2 : (l.drop (splitN l.length)).length = l.length - splitN l.length := List.length_drop
      have z1 := rootB_size _ (hd.take (splitN l.length)) (by omega)
      have z2 := rootB_size _ (hd.drop (splitN l.length)) (by omega)
      by_cases hk : m ≤ splitN l.length
      · have et : (l.take (splitN l.length)).take m = l.take m := by rw [List.take_take, Nat.min_eq_left hk]
        have ih := readR_cons f (l.take (splitN l.length)) m b wh (by omega) (by omega) (hd.take _) h1 (by omega) (by rw [et]; exact hb1) hb2
        rw [et, e1] at ih
        rw [consB_lo l m b h1 (by omega) hm hk, List.reverse_append, List.reverse_singleton, List.singleton_append, readR_lo _ _ _ _ _ he hk, ih]
        rw [rootB_split l h2 hm, nodeP_B z1 z2]
      · have ih := readR_cons f (l.drop (splitN l.length)) (m - splitN l.length) false ⟨#[]⟩ (by omega) (by omega) (hd.drop _) (by omega) (by omega) (fun h => by cases h) (fun _ => rfl)
        rw [e2] at ih
        have z3 := rootB_size _ ((hd.drop (splitN l.length)).take (m - splitN l.length)) (by rw [List.length_take]; omega)
        have esm := splitN_same hm hl h2 (by omega)
        have em : (l.take m).length = m := len_take l m hl
        have er : rootB (l.take m) = nodeB (rootB (l.take (splitN l.length))) (rootB ((l.drop (splitN l.length)).take (m - splitN l.length))) := by
          rw [rootB_split (l.take m) (by omega) (by omega), em, esm, List.take_take, Nat.min_eq_left (by omega), List.drop_take]
        rw [consB_hi l m b h1 (by omega) hm hk, List.reverse_append, List.reverse_singleton, List.singleton_append, readR_hi _ _ _ _ _ he hk, ih]
        rw [rootB_split l h2 hm, nodeP_B z1 z2, er, nodeP_B z1 z3]
theorem readR_length : ∀ (f : Nat) (l : List ByteArray) (m : Nat) (b : Bool) (wh : ByteArray) (rp : List ByteArray), l.length < f → l.length ≤ 4096 → 1 ≤ m → m ≤ l.length → (b = true → wh.size ≠ 0) → (b = false → wh = ⟨#[]⟩) → rp.length ≠ (consB l m b).length →
    (readR rp m l.length wh).2.2 = false
  | 0, _, _, _, _, _, h, _, _, _, _, _, _ => by omega
  | f + 1, l, m, b, wh, rp, hf, hm, h1, hl, hb1, hb2, hn => by
    by_cases he : m = l.length
    · subst he
      cases b with
      | true =>
        have hw := hb1 rfl
        rw [consB_whole] at hn
        rcases rp with _ | ⟨p, ps⟩
        · simp at hn
        · rw [readR, if_pos rfl, if_neg hw]
      | false =>
        have hw := hb2 rfl
        subst hw
        rw [consB_part] at hn
        rcases rp with _ | ⟨p, _ | ⟨q, ps⟩⟩
        · rw [readR, if_pos rfl, if_pos (by rfl)]
        · simp at hn
        · rw [readR, if_pos rfl, if_pos (by rfl), if_neg (by simp)]
    · rcases rp with _ | ⟨p, ps⟩
      · rw [readR_nil _ _ _ he]
      · have h2 : 2 ≤ l.length := by omega
        have hs := splitN_facts l.length hm h2
        have e1 := len_take l (splitN l.length) (by omega)
        have e2 : (l.drop (splitN l.length)).length = l.length - splitN l.length := List.length_drop
        by_cases hk : m ≤ splitN l.length
        · rw [consB_lo l m b h1 (by omega) hm hk] at hn
          have ih := readR_length f (l.take (splitN l.length)) m b wh ps (by omega) (by omega) h1 (by omega) hb1 hb2 (by simp at hn; omega)
          rw [e1] at ih
          rw [readR_lo _ _ _ _ _ he hk]
          exact ih
        · rw [consB_hi l m b h1 (by omega) hm hk] at hn
          have ih := readR_length f (l.drop (splitN l.length)) (m - splitN l.length) false ⟨#[]⟩ ps (by omega) (by omega) (by omega) (by omega) (fun h => by cases h) (fun _ => rfl) (by simp at hn; omega)
          rw [e2] at ih
          rw [readR_hi _ _ _ _ _ he hk]
          exact ih
theorem consB_same : ∀ (f : Nat) (l k : List ByteArray) (m : Nat) (b : Bool), l.length < f → l.length ≤ 4096 → l.length = k.length → 1 ≤ m → m ≤ l.length → (consB l m b).length = (consB k m b).length
  | 0, _, _, _, _, h, _, _, _, _ => by omega
  | f + 1, l, k, m, b, hf, hm, hlk, h1, hl => by
    by_cases he : m = l.length
    · subst he
      cases b with
      | true => rw [consB_whole, hlk, consB_whole]
      | false => rw [consB_part, hlk, consB_part, List.length_singleton, List.length_singleton]
    · have h2 : 2 ≤ l.length := by omega
      have hs := splitN_facts l.length hm h2
      by_cases hk : m ≤ splitN l.length
      · rw [consB_lo l m b h1 (by omega) hm hk, consB_lo k m b h1 (by omega) (by omega) (by rw [← hlk]; exact hk), ← hlk, List.length_append, List.length_append]
        rw [consB_same f (l.take (splitN l.length)) (k.take (splitN l.length)) m b (by rw [List.length_take]; omega) (by rw [List.length_take]; omega) (by rw [List.length_take, List.length_take]; omega) h1 (by rw [List.length_take]; omega)]
        rw [List.length_singleton, List.length_singleton]
      · rw [consB_hi l m b h1 (by omega) hm hk, consB_hi k m b h1 (by omega) (by omega) (by rw [← hlk]; exact hk), ← hlk, List.length_append, List.length_append]
        rw [consB_same f (l.drop (splitN l.length)) (k.drop (splitN l.length)) _ false (by rw [List.length_drop]; omega) (by rw [List.length_drop]; omega) (by rw [List.length_drop, List.length_drop]; omega) (by omega) (by rw [List.length_drop]; omega)]
        rw [List.length_singleton, List.length_singleton]
theorem consB_all : ∀ (f : Nat) (l : List ByteArray) (m : Nat) (b : Bool), l.length < f → l.length ≤ 4096 → AllD l → 1 ≤ m → m ≤ l.length → AllD (consB l m b)
  | 0, _, _, _, h, _, _, _, _ => by omega
  | f + 1, l, m, b, hf, hm, hd, h1, hl => by
    by_cases he : m = l.length
    · subst he
      cases b with
      | true => rw [consB_whole]; intro x hx; cases hx
      | false => rw [consB_part]; intro x hx; rw [List.mem_singleton.1 hx]; exact rootB_size l hd hm
    · have h2 : 2 ≤ l.length := by omega
      have hs := splitN_facts l.length hm h2
      have e1 := len_take l (splitN l.length) (by omega)
      have e2 : (l.drop (splitN l.length)).length = l.length - splitN l.length := List.length_drop
      have z1 := rootB_size _ (hd.take (splitN l.length)) (by omega)
      have z2 := rootB_size _ (hd.drop (splitN l.length)) (by omega)
      by_cases hk : m ≤ splitN l.length
      · have ih := consB_all f (l.take (splitN l.length)) m b (by omega) (by omega) (hd.take _) h1 (by omega)
        rw [consB_lo l m b h1 (by omega) hm hk]
        intro x hx
        rcases List.mem_append.1 hx with h | h
        · exact ih x h
        · rw [List.mem_singleton.1 h]; exact z2
      · have ih := consB_all f (l.drop (splitN l.length)) (m - splitN l.length) false (by omega) (by omega) (hd.drop _) (by omega) (by omega)
        rw [consB_hi l m b h1 (by omega) hm hk]
        intro x hx
        rcases List.mem_append.1 hx with h | h
        · exact ih x h
        · rw [List.mem_singleton.1 h]; exact z1

/-! ### in the laws' words -/
theorem InclOk_made (l : List ByteArray) (i : Nat) (hm : l.length ≤ 4096) (hd : AllD l) (hi : i < l.length) : InclOk (l.getD i ⟨#[]⟩) i l.length (inclB l i) (rootB l) = true := by
  unfold InclOk
  rw [givR_incl (l.length + 1) l i (by omega) hm hd hi, toList_self]
  rfl
theorem InclOk_length (l : List ByteArray) (i : Nat) (leaf root : ByteArray) (p : List ByteArray) (hm : l.length ≤ 4096) (hi : i < l.length) (hp : p.length ≠ (inclB l i).length) : InclOk leaf i l.length p root = false := by
  unfold InclOk
  rw [givR_length (l.length + 1) l i leaf p.reverse (by omega) hm hi (by rw [List.length_reverse]; exact hp)]
  rfl
theorem ExtOk_made (l : List ByteArray) (m : Nat) (hm : l.length ≤ 4096) (hd : AllD l) (h1 : 1 ≤ m) (hl : m ≤ l.length) : ExtOk m l.length (rootB (l.take m)) (rootB l) (consB l m true) = true := by
  unfold ExtOk
  rw [readR_cons (l.length + 1) l m true (rootB (l.take m)) (by omega) hm hd h1 hl (fun _ => rfl) (fun h => by cases h), toList_self, toList_self]
  rfl
theorem ExtOk_length (l : List ByteArray) (m : Nat) (old now : ByteArray) (p : List ByteArray) (hm : l.length ≤ 4096) (h1 : 1 ≤ m) (hl : m ≤ l.length) (ho : old.size = 32) (hp : p.length ≠ (consB l m true).length) : ExtOk m l.length old now p = false := by
  unfold ExtOk
  rw [readR_length (l.length + 1) l m true old p.reverse (by omega) hm h1 hl (fun _ => by omega) (fun h => by cases h) (by rw [List.length_reverse]; exact hp)]
  rfl
theorem RootB_valid {l : List ByteArray} (hm : l.length ≤ 4096) (hd : AllD l) : RootB l = rootB l := by unfold RootB; rw [if_pos ((validB_iff l).2 ⟨hm, hd⟩)]
theorem InclR_valid {l : List ByteArray} {i : Nat} (hm : l.length ≤ 4096) (hd : AllD l) (hi : i < l.length) : InclR l (i : Int) = (inclB l i, 0) := by unfold InclR; rw [if_pos ((validB_iff l).2 ⟨hm, hd⟩), if_pos (by omega), Int.toNat_natCast]
theorem ConsR_valid {l : List ByteArray} {m : Nat} (hm : l.length ≤ 4096) (hd : AllD l) (h1 : 1 ≤ m) (hl : m ≤ l.length) : ConsR l (m : Int) = (consB l m true, 0) := by unfold ConsR; rw [if_pos ((validB_iff l).2 ⟨hm, hd⟩), if_neg (by omega), if_neg (by omega), Int.toNat_natCast]
theorem ConsR_zero {l : List ByteArray} (hm : l.length ≤ 4096) (hd : AllD l) : ConsR l 0 = ([], 0) := by unfold ConsR; rw [if_pos ((validB_iff l).2 ⟨hm, hd⟩), if_neg (by omega), if_pos rfl]
end Go.Proofs.Ytiafadmkkehdnaa.Sh
namespace Go.Proofs.Ytiafadmkkehdnaa.Sh
open Go.RowKit Go.Great Go.Proofs.YtiafadmkkehdnaaW.PrintWords Go.Proofs.YtiafadmkkehdnaaW.PrintMore
set_option linter.unusedVariables false

theorem splitN_2 : splitN 2 = 1 := by decide +kernel
theorem splitN_3 : splitN 3 = 2 := by decide +kernel
set_option maxRecDepth 1000000 in
theorem pre_leaf : Gs.strings_HasPrefix.f (leafB ⟨#[]⟩) ⟨#[110, 52, 11, 156]⟩ = some true := by decide +kernel
set_option maxRecDepth 1000000 in
theorem pre_root : Gs.strings_HasPrefix.f (sumB ⟨#[]⟩) ⟨#[227, 176, 196, 66]⟩ = some true := by rw [sum_empty]; decide +kernel
theorem root2 (x y : ByteArray) : rootB [x, y] = nodeB x y := by
  have h := rootB_split [x, y] (by simp) (by simp)
  rw [show [x, y].length = 2 from rfl, splitN_2] at h
  exact h
theorem root3 (x y z : ByteArray) : rootB [x, y, z] = nodeB (nodeB x y) z := by
  have h := rootB_split [x, y, z] (by simp) (by simp)
  rw [show [x, y, z].length = 3 from rfl, splitN_3, show List.take 2 [x, y, z] = [x, y] from rfl, root2] at h
  exact h
theorem incl3a (x y z : ByteArray) : inclB [x, y, z] 2 = [nodeB x y] := by
  have h := inclB_hi [x, y, z] 2 (by simp) (by simp) (by rw [show [x, y, z].length = 3 from rfl, splitN_3]; omega) (by simp)
  rw [show [x, y, z].length = 3 from rfl, splitN_3, show List.take 2 [x, y, z] = [x, y] from rfl, root2] at h
  exact h
theorem incl2 (x y : ByteArray) : inclB [x, y] 0 = [y] := by
  have h := inclB_lo [x, y] 0 (by simp) (by simp) (by rw [show [x, y].length = 2 from rfl, splitN_2]; omega)
  rw [show [x, y].length = 2 from rfl, splitN_2] at h
  exact h
theorem incl3b (x y z : ByteArray) : inclB [x, y, z] 0 = [y, z] := by
  have h := inclB_lo [x, y, z] 0 (by simp) (by simp) (by rw [show [x, y, z].length = 3 from rfl, splitN_3]; omega)
  rw [show [x, y, z].length = 3 from rfl, splitN_3, show List.take 2 [x, y, z] = [x, y] from rfl, incl2] at h
  exact h
theorem cons3 (x y z : ByteArray) : consB [x, y, z] 2 true = [z] := by
  have h := consB_lo [x, y, z] 2 true (by omega) (by simp) (by simp) (by rw [show [x, y, z].length = 3 from rfl, splitN_3]; omega)
  rw [show [x, y, z].length = 3 from rfl, splitN_3, show List.take 2 [x, y, z] = [x, y] from rfl] at h
  have e := consB_whole [x, y]
  rw [show [x, y].length = 2 from rfl] at e
  rw [e] at h
  exact h
theorem all1 {x : ByteArray} (hx : x.size = 32) : AllD [x] := fun u hu => by rw [List.mem_singleton.1 hu]; exact hx
theorem all2 {x y : ByteArray} (hx : x.size = 32) (hy : y.size = 32) : AllD [x, y] := fun u hu => by
  rcases List.mem_cons.1 hu with h | h
  · rw [h]; exact hx
  · exact all1 hy u h
theorem all3 {x y z : ByteArray} (hx : x.size = 32) (hy : y.size = 32) (hz : z.size = 32) : AllD [x, y, z] := fun u hu => by
  rcases List.mem_cons.1 hu with h | h
  · rw [h]; exact hx
  · exact all2 hy hz u h
theorem val_of {l : List ByteArray} (h : AllD l) (hm : l.length ≤ 4096) : validB l = true := (validB_iff l).2 ⟨hm, h⟩
theorem app0 {x : ByteArray} (hx : x.size = 32) : AppR 0 [] x = (1, [x], 0) := by
  have h1 : wholeB 0 [] = true := by
    unfold wholeB
    rw [val_of (fun u hu => by cases hu) (by simp)]
    decide +kernel
  have h2 : ((x.size : Int) == 32) = true := by simp; omega
  unfold AppR
  rw [h1, h2]
  rfl
theorem fr1 {x : ByteArray} (hx : x.size = 32) : FrR 1 [x] = (x, 0) := by
  have h1 : wholeB 1 [x] = true := by
    unfold wholeB
    rw [val_of (all1 hx) (by simp), show [x].length = 1 from rfl]
    decide +kernel
  unfold FrR
  rw [h1]
  rfl

/-! ### the example's log of three leaves -/
section
variable {w : World} {x y z : ByteArray}
abbrev log3 (ad : Addr) (cb : Nat) (x y z : ByteArray) : Th := rowT Kd.string 9 (.slice (some ad) 3 cb) [x, y, z]
theorem log3_cells {V : World} {ts : List Th} {ad : Addr} {cb : Nat} (h : SepT w V ts) (hm : log3 ad cb x y z ∈ ts) : V.cell? ad = some (.string x) ∧ V.cell? ⟨ad.block, ad.off + 1, none⟩ = some (.string y) ∧ V.cell? ⟨ad.block, ad.off + 2, none⟩ = some (.string z) := by
  have hC := (SepT.rowC h hm).1
  have g := fun (i : Nat) (hi : i < 3) => str_at hC (i : Int) (by omega) (by omega)
  obtain ⟨a0, e0, d0⟩ := g 0 (by omega)
  obtain ⟨a1, e1, d1⟩ := g 1 (by omega)
  obtain ⟨a2, e2, d2⟩ := g 2 (by omega)
  injection e0 with e0
  injection e1 with e1
  injection e2 with e2
  subst e0
  subst e1
  subst e2
  exact ⟨by simpa [Addr.add] using d0, by simpa [Addr.add] using d1, by simpa [Addr.add] using d2⟩
theorem log3_lo {V : World} {ts : List Th} {ad : Addr} {cb : Nat} (h : SepT w V ts) (hm : log3 ad cb x y z ∈ ts) : Kd.C Kd.string V (some ad) 2 [x, y] := C_lo (SepT.rowC h hm).1 (k := 2) (by omega)
theorem log3_hi {V : World} {ts : List Th} {ad : Addr} {cb : Nat} (h : SepT w V ts) (hm : log3 ad cb x y z ∈ ts) : Kd.C Kd.string V (cutA (some ad) cb 2) 1 [z] := C_hi (SepT.rowC h hm).1 (k := 2) (by omega) (SepT.rowC h hm).2
end
/-- The front thing alone. -/
theorem SepT.only1 {w V : World} {t : Th} {ts : List Th} (h : SepT w V (t :: ts)) : SepT w V [t] := by
  have hb := Sep.base h
  obtain ⟨ok, h1, h2, _⟩ := h
  exact ⟨ok, h1, h2, hb⟩
theorem lit3_leaves {w V : World} {ts : List Th} {g : Nat} {a b c : ByteArray} (S : SepT w V (rowT Kd.string 9 (.slice (some ⟨g, 0, none⟩) 3 3) [a, b, c] :: ts)) (ha : a.size ≤ 10) (hb : b.size ≤ 10) (hc : c.size ≤ 10) :
    Calls Try.prog 18 #[.slice (some ⟨g, 0, none⟩) 3 3] V fun e w' => ∃ ad cb, e = .returned (.slice (some ad) 3 cb) ∧ 3 ≤ cb ∧ SepT w w' [log3 ad cb (leafB a) (leafB b) (leafB c)] := by
  have hsz : ∀ u ∈ [a, b, c], u.size ≤ 10000000 := fun u hu => by
    rcases List.mem_cons.1 hu with h | hu
    · rw [h]; omega
    · rcases List.mem_cons.1 hu with h | hu
      · rw [h]; omega
      · rw [List.mem_singleton.1 hu]; omega
  refine (leaves_C S (SepT.rowC S m0).1 (by omega) hsz).mono ?_
  rintro e w1 ⟨B, cb, rfl, h⟩
  have hr := SepT.rowC h m0
  obtain ⟨ad, hAd, _⟩ := str_at hr.1 0 (by omega) (by omega)
  subst hAd
  refine ⟨ad, cb, rfl, hr.2, ?_⟩
  exact SepT.only1 h
end Go.Proofs.Ytiafadmkkehdnaa.Sh
namespace Go.Proofs.Ytiafadmkkehdnaa.Sh
open Go.RowKit Go.Great Go.Proofs.YtiafadmkkehdnaaW.PrintWords Go.Proofs.YtiafadmkkehdnaaW.PrintMore
set_option linter.unusedVariables false
/-- What is known of the example's log, with its last leaf and its first two apart. -/
structure Log3 (w : World) (ad : Addr) (cb : Nat) (A2 : Option Addr) (c2 : Nat) (x y z : ByteArray) : Prop where
  lo : ∀ V ts, SepT w V ts → log3 ad cb x y z ∈ ts → Kd.C Kd.string V (some ad) 2 [x, y]
  hi : ∀ V ts, SepT w V ts → log3 ad cb x y z ∈ ts → Kd.C Kd.string V A2 1 [z]
  all : ∀ V ts, SepT w V ts → log3 ad cb x y z ∈ ts → Kd.C Kd.string V (some ad) 3 [x, y, z]
  k : ∀ V ts, SepT w V ts → log3 ad cb x y z ∈ ts → V.cell? ad = some (.string x) ∧ V.cell? ⟨ad.block, ad.off + 1, none⟩ = some (.string y) ∧ V.cell? ⟨ad.block, ad.off + 2, none⟩ = some (.string z)
  c3 : 3 ≤ cb
  c22 : 2 ≤ cb
  c1 : 1 ≤ c2
theorem lit3_more {w V : World} {ts : List Th} {g : Nat} {a b c : ByteArray} (S : SepT w V (rowT Kd.string 9 (.slice (some ⟨g, 0, none⟩) 3 3) [a, b, c] :: ts)) (ha : a.size ≤ 10) (hb : b.size ≤ 10) (hc : c.size ≤ 10) :
    Calls Try.prog 18 #[.slice (some ⟨g, 0, none⟩) 3 3] V fun e w' => ∃ ad cb A2 c2, e = .returned (.slice (some ad) 3 cb) ∧ Log3 w ad cb A2 c2 (leafB a) (leafB b) (leafB c) ∧
      (∀ V : World, (Instr.slice 22 (.slice (some ad) 3 cb) (some (.int .i64 2)) none none).run Try.prog V = .ok (.slice A2 1 c2) V) ∧
      (∀ V : World, (Instr.slice 22 (.slice (some ad) 3 cb) none (some (.int .i64 2)) none).run Try.prog V = .ok (.slice (some ad) 2 cb) V) ∧ SepT w w' [log3 ad cb (leafB a) (leafB b) (leafB c)] := by
  refine (lit3_leaves S ha hb hc).mono ?_
  rintro e w1 ⟨ad, cb, rfl, hcb, hs⟩
  exact ⟨ad, cb, cutA (some ad) cb 2, cb - 2, rfl, ⟨fun V ts h hm => log3_lo h hm, fun V ts h hm => log3_hi h hm, fun V ts h hm => (SepT.rowC h hm).1, fun V ts h hm => log3_cells h hm, hcb, by omega, by omega⟩,
    slice_hi (some ad) 3 cb 2 (by omega), slice_lo (some ad) 3 cb 2 (by omega) hcb, hs⟩
attribute [local irreducible] Sep rowT boxT hashT sumB splitN rootB nodeB nodeP leafB cutA inclB consB validB givR readR popN
set_option maxHeartbeats 8000000 in
set_option maxRecDepth 100000 in
theorem awake46_core (w : World) (x y z E1 E2 : ByteArray) (hx : leafB ⟨#[97]⟩ = x) (hy : leafB ⟨#[98]⟩ = y) (hz : leafB ⟨#[99]⟩ = z) (h1 : leafB ⟨#[]⟩ = E1) (h2 : sumB ⟨#[]⟩ = E2) :
    Calls Try.prog 16 #[] w fun e w' => e = .returned (.bool true) ∧ Below w.heap.size w w' := by
  have S := Aside0.mk (SepT.start w)
  have sx : x.size = 32 := by rw [← hx]; exact leafB_size _
  have sy : y.size = 32 := by rw [← hy]; exact leafB_size _
  have sz : z.size = 32 := by rw [← hz]; exact leafB_size _
  have p1 := pre_leaf
  have p2 := pre_root
  rw [h1] at p1
  rw [h2] at p2
  have HL : Aside0 (∀ (V : World) (ts : List Th) (g : Nat), SepT w V (rowT Kd.string 9 (.slice (some ⟨g, 0, none⟩) 3 3) [⟨#[97]⟩, ⟨#[98]⟩, ⟨#[99]⟩] :: ts) → Calls Try.prog 18 #[.slice (some ⟨g, 0, none⟩) 3 3] V fun e w' => ∃ ad cb A2 c2, e = .returned (.slice (some ad) 3 cb) ∧ Log3 w ad cb A2 c2 x y z ∧
      (∀ V : World, (Instr.slice 22 (.slice (some ad) 3 cb) (some (.int .i64 2)) none none).run Try.prog V = .ok (.slice A2 1 c2) V) ∧
      (∀ V : World, (Instr.slice 22 (.slice (some ad) 3 cb) none (some (.int .i64 2)) none).run Try.prog V = .ok (.slice (some ad) 2 cb) V) ∧ SepT w w' [log3 ad cb x y z]) := ⟨fun V ts g h => by
    rw [← hx, ← hy, ← hz]
    exact lit3_more h (by decide) (by decide) (by decide)⟩
  have HE : Aside0 (∀ V ts, SepT w V ts → Calls Try.prog 47 #[.string ⟨#[]⟩] V fun e w' => e = .returned (.string E1) ∧ SepT w w' ts) := ⟨fun V ts h => by rw [← h1]; exact Leaf_S h ⟨#[]⟩ (Nat.zero_le _)⟩
  have HR0 : Aside0 (∀ V ts, SepT w V ts → Calls Try.prog 22 #[.slice none 0 0] V fun e w' => e = .returned (.string E2) ∧ SepT w w' ts) := ⟨fun V ts h => Root_C h (Kd.C_nil Kd.string V) (Nat.le_refl _) E2 (by rw [← h2]; exact (RootB_valid (l := []) (Nat.zero_le _) (fun u hu => by cases hu)).trans rootB_nil)⟩
  obtain ⟨q, hq⟩ : ∃ q, nodeB x y = q := ⟨_, rfl⟩
  obtain ⟨r, hr⟩ : ∃ r, nodeB q z = r := ⟨_, rfl⟩
  have sq : q.size = 32 := by rw [← hq]; exact nodeB_size _ _
  have sr : r.size = 32 := by rw [← hr]; exact nodeB_size _ _
  have a3 := all3 sx sy sz
  have hr3 : rootB [x, y, z] = r := by rw [root3, hq, hr]
  have hr2 : rootB [x, y] = q := by rw [root2, hq]
  have H22 : Aside0 (∀ V ts A c, SepT w V ts → Kd.C Kd.string V A 3 [x, y, z] → 3 ≤ c → Calls Try.prog 22 #[.slice A 3 c] V fun e w' => e = .returned (.string r) ∧ SepT w w' ts) := ⟨fun V ts A c h hC hc => Root_C h hC hc r (by rw [RootB_valid (by simp) a3, hr3])⟩
  have H22b : Aside0 (∀ V ts A c, SepT w V ts → Kd.C Kd.string V A 2 [x, y] → 2 ≤ c → Calls Try.prog 22 #[.slice A 2 c] V fun e w' => e = .returned (.string q) ∧ SepT w w' ts) := ⟨fun V ts A c h hC hc => Root_C h hC hc q (by rw [RootB_valid (by simp) (all2 sx sy), hr2])⟩
  have H23a : Aside0 (∀ V ts A c, SepT w V ts → Kd.C Kd.string V A 3 [x, y, z] → 3 ≤ c → Calls Try.prog 23 #[.slice A 3 c, .int .i64 2] V fun e w' => ∃ B cb, e = .returned (.tuple #[.slice B 1 cb, .int .i64 0]) ∧ SepT w w' (rowT Kd.string 9 (.slice B 1 cb) [q] :: ts)) := ⟨fun V ts A c h hC hc => Inclusion_C h hC hc 2 [q] 0 (by have := InclR_valid (l := [x, y, z]) (i := 2) (by simp) a3 (by simp); rw [incl3a, hq] at this; exact this)⟩
  have H23b : Aside0 (∀ V ts A c, SepT w V ts → Kd.C Kd.string V A 3 [x, y, z] → 3 ≤ c → Calls Try.prog 23 #[.slice A 3 c, .int .i64 0] V fun e w' => ∃ B cb, e = .returned (.tuple #[.slice B 2 cb, .int .i64 0]) ∧ SepT w w' (rowT Kd.string 9 (.slice B 2 cb) [y, z] :: ts)) := ⟨fun V ts A c h hC hc => Inclusion_C h hC hc 0 [y, z] 0 (by have := InclR_valid (l := [x, y, z]) (i := 0) (by simp) a3 (by simp); rw [incl3b] at this; exact this)⟩
  have H24 : Aside0 (∀ V ts A c, SepT w V ts → Kd.C Kd.string V A 3 [x, y, z] → 3 ≤ c → Calls Try.prog 24 #[.slice A 3 c, .int .i64 2] V fun e w' => ∃ B cb, e = .returned (.tuple #[.slice B 1 cb, .int .i64 0]) ∧ SepT w w' (rowT Kd.string 9 (.slice B 1 cb) [z] :: ts)) := ⟨fun V ts A c h hC hc => Consistency_C h hC hc 2 [z] 0 (by have := ConsR_valid (l := [x, y, z]) (m := 2) (by simp) a3 (by omega) (by simp); rw [cons3] at this; exact this)⟩
  have H25 : Aside0 (∀ V ts A c, SepT w V ts → Kd.C Kd.string V A 1 [q] → 1 ≤ c → Calls Try.prog 25 #[.string z, .int .i64 2, .int .i64 3, .slice A 1 c, .string r] V fun e w' => e = .returned (.bool true) ∧ SepT w w' ts) := ⟨fun V ts A c h hC hc => Included_C h hC hc z r 2 3 (val_of (all1 sq) (by simp)) sz sr (by omega) (by omega) true (by have := InclOk_made [x, y, z] 2 (by simp) a3 (by simp); rw [incl3a, hq, hr3] at this; exact this)⟩
  have H26 : Aside0 (∀ V ts A c, SepT w V ts → Kd.C Kd.string V A 1 [z] → 1 ≤ c → Calls Try.prog 26 #[.int .i64 2, .int .i64 3, .string q, .string r, .slice A 1 c] V fun e w' => e = .returned (.bool true) ∧ SepT w w' ts) := ⟨fun V ts A c h hC hc => Extends_C h hC hc q r 2 3 (val_of (all1 sz) (by simp)) sq sr (by omega) (by omega) (by omega) true (by have := ExtOk_made [x, y, z] 2 (by simp) a3 (by omega) (by simp); rw [cons3, hr3, show List.take 2 [x, y, z] = [x, y] from rfl, hr2] at this; exact this)⟩
  have H19 : Aside0 (∀ V ts, SepT w V ts → Calls Try.prog 19 #[.agg #[.int .i64 0, .slice none 0 0], .string x] V fun e w' => ∃ B cb, e = .returned (.tuple #[.agg #[.int .i64 1, .slice B 1 cb], .int .i64 0]) ∧ SepT w w' (rowT Kd.string 9 (.slice B 1 cb) [x] :: ts)) := ⟨fun V ts h => Append_C h (Kd.C_nil Kd.string V) (Nat.le_refl _) 0 x 1 [x] 0 (app0 sx)⟩
  have H21 : Aside0 (∀ V ts A c, SepT w V ts → Kd.C Kd.string V A 1 [x] → 1 ≤ c → Calls Try.prog 21 #[.agg #[.int .i64 1, .slice A 1 c]] V fun e w' => e = .returned (.tuple #[.string x, .int .i64 0]) ∧ SepT w w' ts) := ⟨fun V ts A c h hC hc => FrontierRoot_C h hC hc 1 x 0 (fr1 sx)⟩
  have H49 : Aside0 (∀ V ts, SepT w V ts → Calls Try.prog 49 #[.string x, .string y] V fun e w' => e = .returned (.string q) ∧ SepT w w' ts) := ⟨fun V ts h => by rw [← hq]; exact Node_S h x y sx sy⟩
  have k1 : [(⟨#[97]⟩ : ByteArray), ⟨#[98]⟩, ⟨#[99]⟩].length ≤ 1000000000 := by simp
  have HP1 := Aside0.mk p1
  have HP2 := Aside0.mk p2
  clear hx hy hz h1 h2 p1 p2 hq hr sx sy sz sq sr a3 hr3 hr2
  go_enter Try.func16, Try.ntmps16
  go_wp2_with (first
    | (go_at_call 18; have hc := HL.out _ _ _ (SepT.lit (enc := Value.string) (h1 := fun _ => rfl) S.out 9 [⟨#[97]⟩, ⟨#[98]⟩, ⟨#[99]⟩] k1); go_fit hc; clear hc; rintro e w1 ⟨ad, cb, A2, c2, rfl, hlog, s1, s2, hh⟩; clear S; have S := Aside0.mk hh; have HG := Aside0.mk hlog; clear hh hlog)
    | (go_at_call 23; have hc := H23a.out _ _ _ _ S.out (HG.out.all _ _ S.out m0) HG.out.c3; go_fit hc; clear hc; rintro e w2 ⟨B1, b1, rfl, hh⟩; clear S; have S := Aside0.mk hh; clear hh)
    | (go_at_call 23; have hc := H23b.out _ _ _ _ S.out (HG.out.all _ _ S.out m1) HG.out.c3; go_fit hc; clear hc; rintro e w3 ⟨B2, b2, rfl, hh⟩; clear S; have S := Aside0.mk hh; clear hh)
    | (go_at_call 24; have hc := H24.out _ _ _ _ S.out (HG.out.all _ _ S.out m2) HG.out.c3; go_fit hc; clear hc; rintro e w4 ⟨B3, b3, rfl, hh⟩; clear S; have S := Aside0.mk hh; clear hh)
    | (go_at_call 47; have hc := HE.out _ _ S.out; go_fit hc; clear hc; rintro e w5 ⟨rfl, hh⟩; clear S; have S := Aside0.mk hh; clear hh)
    | (go_at_call 57; have hc := HasPrefix_S S.out E1 _ HP1.out; go_fit hc; clear hc; rintro e w6 ⟨rfl, hh⟩; clear S; have S := Aside0.mk hh; clear hh)
    | (go_at_call 22; have hc := HR0.out _ _ S.out; go_fit hc; clear hc; rintro e w7 ⟨rfl, hh⟩; clear S; have S := Aside0.mk hh; clear hh)
    | (go_at_call 57; have hc := HasPrefix_S S.out E2 _ HP2.out; go_fit hc; clear hc; rintro e w8 ⟨rfl, hh⟩; clear S; have S := Aside0.mk hh; clear hh)
    | (go_at_call 52; have hc := Equal_C S.out (SepT.rowC S.out m0).1 (SepT.rowC S.out m0).2 (HG.out.hi _ _ S.out m3') HG.out.c1; go_fit hc; clear hc; rintro e w9 ⟨rfl, hh⟩; clear S; have S := Aside0.mk hh; clear hh; have dx := (HG.out.k _ _ S.out m3').1)
    | (go_at_call 19; have hc := H19.out _ _ S.out; go_fit hc; clear hc; rintro e w10 ⟨B4, b4, rfl, hh⟩; clear S; have S := Aside0.mk hh; clear hh dx)
    | (go_at_call 21; have hc := H21.out _ _ B4 b4 (S.out.allocBox #[.int .i64 1, .slice B4 1 b4] 26) (SepT.rowC (S.out.allocBox #[.int .i64 1, .slice B4 1 b4] 26) m1).1 (SepT.rowC S.out m0).2; go_fit hc; clear hc; rintro e w11 ⟨rfl, hh⟩; clear S; have S := Aside0.mk hh; clear hh))
  have S1 := Aside0.mk S.out.drew
  clear S
  have S := S1
  clear S1
  go_region_held3 (fun V => V.cell? ad = some (.string x) ∧ V.cell? ⟨ad.block, ad.off + 1, none⟩ = some (.string y) ∧ V.cell? ⟨ad.block, ad.off + 2, none⟩ = some (.string z)) (exact HG.out.k _ _ S.out m5) (first
    | (go_at_call 22; have hc := H22.out _ _ _ _ S.out (HG.out.all _ _ S.out m5) HG.out.c3; go_fit hc; clear hc; rintro e w12 ⟨rfl, hh⟩; clear S; have S := Aside0.mk hh; clear hh)
    | (go_at_call 25; have hc := H25.out _ _ _ _ S.out (SepT.rowC S.out m4).1 (SepT.rowC S.out m4).2; go_fit hc; clear hc; rintro e w13 ⟨rfl, hh⟩; clear S; have S := Aside0.mk hh; clear hh)
    | (go_at_call 22; have hc := H22b.out _ _ _ _ S.out (HG.out.lo _ _ S.out m5) HG.out.c22; go_fit hc; clear hc; rintro e w14 ⟨rfl, hh⟩; clear S; have S := Aside0.mk hh; clear hh)
    | (go_at_call 26; have hc := H26.out _ _ _ _ S.out (SepT.rowC S.out m2).1 (SepT.rowC S.out m2).2; go_fit hc; clear hc; rintro e w15 ⟨rfl, hh⟩; clear S; have S := Aside0.mk hh; clear hh)
    | (go_at_call 49; have hc := H49.out _ _ S.out; go_fit hc; clear hc; rintro e w16 ⟨rfl, hh⟩; clear S; have S := Aside0.mk hh; clear hh))
  all_goals
    go_wp2_with fail
    go_ret
    exact ⟨rfl, Sep.base S.out⟩
theorem awake46_calls (w : World) : Calls Try.prog 16 #[] w fun e w' => e = .returned (.bool true) ∧ Below w.heap.size w w' := awake46_core w _ _ _ _ _ rfl rfl rfl rfl rfl
theorem awake46_S {w0 w : World} {ts : List Th} (S0 : SepT w0 w ts) : Calls Try.prog 16 #[] w fun e w' => e = .returned (.bool true) ∧ SepT w0 w' ts := (awake46_calls w).mono (fun _ _ h => ⟨h.1, S0.below h.2⟩)
end Go.Proofs.Ytiafadmkkehdnaa.Sh
namespace Go.Proofs.Ytiafadmkkehdnaa.Sh
open Go.RowKit Go.Great Go.Proofs.YtiafadmkkehdnaaW.PrintWords Go.Proofs.YtiafadmkkehdnaaW.PrintMore
set_option linter.unusedVariables false
theorem Clone_C {w0 w : World} {ts : List Th} {A : Option Addr} {n c : Nat} {l : List ByteArray} (S0 : SepT w0 w ts) (hC : Kd.C Kd.string w A n l) (hc : n ≤ c) (hn : n ≤ 100000) :
    Calls Try.prog 56 #[.slice A n c] w fun e w' => ∃ B cb, e = .returned (.slice B n cb) ∧ SepT w0 w' (rowT Kd.string 9 (.slice B n cb) l :: ts) := by
  obtain rfl : l.length = n := hC.1
  refine (cloneG_calls A c l l w hC hc (by unfold cloneG; rw [if_pos (by omega)])).mono ?_
  rintro e w1 ⟨v, rfl, hR, hb⟩
  obtain ⟨B, cb, rfl⟩ := Kd.R_slice hR
  exact ⟨B, cb, rfl, S0.addRow hb hR⟩
/-- A row's element, as it is read. -/
theorem row_str {w0 w : World} {ts : List Th} {e n c : Nat} {A : Option Addr} {xs : List ByteArray} (h : SepT w0 w ts) (hm : rowT Kd.string e (.slice A n c) xs ∈ ts) (i : Nat) (hi : i < n) : ∃ ad, A = some ad ∧ w.cell? (ad.add i) = some (.string (xs.getD i ⟨#[]⟩)) := by
  have := str_at (SepT.rowC h hm).1 (i : Int) (by omega) (by omega)
  rwa [Int.toNat_natCast] at this
theorem C_rest {w : World} {A : Option Addr} {p : List ByteArray} {n c : Nat} (h : Kd.C Kd.string w A n p) (h1 : 1 ≤ n) (hc : n ≤ c) : Kd.C Kd.string w (cutA A c 1) (n - 1) (p.drop 1) := C_hi h h1 hc
/-- A proof's rest: what 'p[1:]' is. -/
structure Rest (w : World) (B : Option Addr) (n cb : Nat) (p : List ByteArray) (B2 : Option Addr) (n2 c2 : Nat) : Prop where
  c : ∀ V ts, SepT w V ts → rowT Kd.string 9 (.slice B n cb) p ∈ ts → Kd.C Kd.string V B2 n2 (p.drop 1)
  le : n2 ≤ c2
  s : ∀ V : World, (Instr.slice 22 (.slice B n cb) (some (.int .i64 1)) none none).run Try.prog V = .ok (.slice B2 n2 c2) V
theorem rest_of (w : World) (B : Option Addr) (n cb : Nat) (p : List ByteArray) (h1 : 1 ≤ n) (hc : n ≤ cb) : Rest w B n cb p (cutA B cb 1) (n - 1) (cb - 1) :=
  ⟨fun V ts h hm => C_rest (SepT.rowC h hm).1 h1 hc, by omega, slice_hi B n cb 1 h1⟩
theorem consB_pos (l : List ByteArray) (m : Nat) (h1 : 1 ≤ m) (hl : m < l.length) (hm : l.length ≤ 4096) : 1 ≤ (consB l m true).length := by
  by_cases hk : m ≤ splitN l.length
  · rw [consB_lo l m true h1 hl hm hk]; simp
  · rw [consB_hi l m true h1 hl hm hk]; simp
theorem consB_end (l : List ByteArray) : (consB l l.length true).length = 0 := by rw [consB_whole]; rfl
/-- The proof that Consistency makes. -/
def consP (l : List ByteArray) (m : Nat) : List ByteArray := if m = 0 then [] else consB l m true
theorem consP_R {l : List ByteArray} {m : Nat} (hm : l.length ≤ 4096) (hd : AllD l) (hl : m ≤ l.length) : ConsR l (m : Int) = (consP l m, 0) := by
  unfold consP
  by_cases h0 : m = 0
  · subst h0
    rw [if_pos rfl]
    exact ConsR_zero hm hd
  · rw [if_neg h0]
    exact ConsR_valid hm hd (by omega) hl
theorem consP_all {l : List ByteArray} {m : Nat} (hm : l.length ≤ 4096) (hd : AllD l) (hl : m ≤ l.length) : AllD (consP l m) := by
  unfold consP
  by_cases h0 : m = 0
  · rw [if_pos h0]; intro x hx; cases hx
  · rw [if_neg h0]; exact consB_all (l.length + 1) l m true (by omega) hm hd (by omega) hl
theorem consP_len (l : List ByteArray) (m : Nat) : (consP l m).length ≤ l.length + 1 := by
  unfold consP
  split
  · simp
  · exact consB_length l m true
/-- Extends at a proof that is made: with its element more or less, too. -/
theorem Extends_any {w0 w : World} {ts : List Th} {A : Option Addr} {k c : Nat} {l q : List ByteArray} {n m : Nat} (S0 : SepT w0 w ts) (hC : Kd.C Kd.string w A k q) (hc : k ≤ c) (hq : AllD q) (hk : k ≤ 4096) (hm : l.length ≤ 4096) (hd : AllD l) (hn : l.length = n) (hl : m ≤ n) (b : Bool)
    (hb : (b = true ∧ q = consP l m) ∨ (b = false ∧ k ≠ (consP l m).length)) :
    Calls Try.prog 26 #[.int .i64 m, .int .i64 n, .string (rootB (l.take m)), .string (rootB l), .slice A k c] w fun e w' => e = .returned (.bool b) ∧ SepT w0 w' ts := by
  subst hn
  have hqk : q.length = k := hC.1
  have hv : validB q = true := val_of hq (by omega)
  have z1 := rootB_size _ (hd.take m) (by rw [List.length_take]; omega)
  have z2 := rootB_size _ hd hm
  unfold consP at hb
  by_cases h0 : m = 0
  · subst h0
    rw [if_pos rfl] at hb
    refine Extends_zeroC S0 hC hc _ _ _ hv rootB_nil z2 hm (fun h => by rw [List.eq_nil_of_length_eq_zero h]; rfl) b ?_
    rcases hb with ⟨rfl, h⟩ | ⟨rfl, h⟩
    · exact decide_eq_true (by rw [← hqk, h]; rfl)
    · exact decide_eq_false h
  · rw [if_neg h0] at hb
    refine Extends_C S0 hC hc _ _ _ _ hv z1 z2 (by omega) hl hm b ?_
    rcases hb with ⟨rfl, h⟩ | ⟨rfl, h⟩
    · rw [h]; exact ExtOk_made l m hm hd (by omega) hl
    · exact ExtOk_length l m _ _ q hm (by omega) hl z1 (by rw [hqk]; exact h)
end Go.Proofs.Ytiafadmkkehdnaa.Sh
