/-
  The reference of chapter 46: Split, Digests, Valid, Ones, ValidFrontier; Leaf, Node.
-/
import Derived.Test.YtiafadmkkehdnaaY5

import Derived.Test.YtiafadmkkehdnaaTx
namespace Go.Proofs.Ytiafadmkkehdnaa.Sh
open Go.RowKit Go.Great Go.Proofs.YtiafadmkkehdnaaW.PrintWords Go.Proofs.YtiafadmkkehdnaaW.PrintMore
set_option linter.unusedVariables false

theorem rsplit_dec : ∀ a < 65, ∀ b < 64, 2 ≤ 64 * a + b → Gs.modcertref46_Split.f 20 ((64 * a + b : Nat) : Int) = some ((splitN (64 * a + b) : Nat) : Int) := by decide +kernel
theorem rsplit_f (n : Nat) (h2 : 2 ≤ n) (h : n ≤ 4096) : Gs.modcertref46_Split.f 20 (n : Int) = some ((splitN n : Nat) : Int) := by
  have := rsplit_dec (n / 64) (by omega) (n % 64) (by omega)
  rw [show 64 * (n / 64) + n % 64 = n by omega] at this
  exact this h2
theorem RefSplit_S {w0 w : World} {ts : List Th} (S0 : SepT w0 w ts) (n : Nat) (h2 : 2 ≤ n) (hn : n ≤ 4096) :
    Calls Try.prog 105 #[.int .i64 n] w fun e w' => e = .returned (.int .i64 (splitN n : Nat)) ∧ SepT w0 w' ts := by
  refine (Gs.modcertref46_Split.calls 20 n _ w (rsplit_f n h2 hn)).mono ?_
  rintro e w1 ⟨rfl, hd⟩
  refine ⟨rfl, ?_⟩
  obtain ⟨n, rfl⟩ := hd
  exact S0.drewN n
theorem rones_dec : ∀ a < 65, ∀ b < 64, Gs.modcertref46_Ones.f 20 ((64 * a + b : Nat) : Int) = some ((popN (64 * a + b) : Nat) : Int) := by decide +kernel
theorem rones_f (n : Nat) (h : n ≤ 4096) : Gs.modcertref46_Ones.f 20 (n : Int) = some ((popN n : Nat) : Int) := by
  have := rones_dec (n / 64) (by omega) (n % 64) (by omega)
  rw [show 64 * (n / 64) + n % 64 = n by omega] at this
  exact this
theorem rdig_l0 (l : List ByteArray) (hm : l.length ≤ 9223372036854775807) : ∀ n i k : Nat, i + n = l.length → n < k → Gs.modcertref46_Digests.l0 k l (i : Int) = some (!((l.drop i).any badD))
  | 0, i, k, h, hk => by
    obtain ⟨k, rfl⟩ : ∃ m, k = m + 1 := ⟨k - 1, by omega⟩
    obtain rfl : i = l.length := by omega
    rw [Gs.modcertref46_Digests.l0, if_neg (by omega), List.drop_length]
    rfl
  | n + 1, i, k, h, hk => by
    obtain ⟨k, rfl⟩ : ∃ m, k = m + 1 := ⟨k - 1, by omega⟩
    have hi : i < l.length := by omega
    have e1 : rdOf ByteArray.empty l (i : Int) = l[i] := by
      unfold rdOf
      simp [List.getD, hi]
    have e2 : Gs.modcertref46_IsDigest.f l[i] = some (!(badD l[i])) := by
      show some _ = some _
      unfold badD
      rw [Bool.not_not]
    have w2 : wrap64 ((i : Int) + 1) = ((i + 1 : Nat) : Int) := by unfold wrap64; omega
    rw [Gs.modcertref46_Digests.l0, if_pos (by omega), if_pos (by omega), e1, e2, Option.bind_some, List.drop_eq_getElem_cons hi, List.any_cons]
    cases badD l[i] with
    | true => rfl
    | false =>
      rw [if_pos (show (!false) = true from rfl), w2, rdig_l0 l hm n (i + 1) k (by omega) (by omega), Bool.false_or]
theorem rdig_f (l : List ByteArray) (hm : l.length ≤ 9223372036854775807) : Gs.modcertref46_Digests.f (l.length + 1) l = some (!(l.any badD)) := by
  have := rdig_l0 l hm l.length 0 (l.length + 1) (by omega) (by omega)
  rw [List.drop_zero] at this
  exact this
theorem rvalid_f (l : List ByteArray) (hm : l.length ≤ 9223372036854775807) : Gs.modcertref46_Valid.f (l.length + 1) l = some (validB l) := by
  unfold Gs.modcertref46_Valid.f validB
  by_cases h : l.length ≤ 4096
  · rw [if_pos (by omega), rdig_f l hm, decide_eq_true h]
    rfl
  · rw [if_neg (by omega), decide_eq_false h]
    rfl
theorem RefValid_S {w0 w : World} {ts : List Th} (S0 : SepT w0 w ts) (A : Option Addr) (c : Nat) (l : List ByteArray) (hC : Kd.C Kd.string w A l.length l) (hc : l.length ≤ c) :
    Calls Try.prog 79 #[.slice A l.length c] w fun e w' => e = .returned (.bool (validB l)) ∧ SepT w0 w' ts := by
  refine (Gs.modcertref46_Valid.calls (l.length + 1) A c l _ w hC hc (rvalid_f l hC.2.1)).mono ?_
  rintro e w1 ⟨rfl, hd⟩
  refine ⟨rfl, ?_⟩
  obtain ⟨n, rfl⟩ := hd
  exact S0.drewN n
theorem rwhole_f (n : Int) (l : List ByteArray) (hm : l.length ≤ 9223372036854775807) : Gs.modcertref46_ValidFrontier.f (l.length + 20) n l = some (wholeB n l) := by
  unfold Gs.modcertref46_ValidFrontier.f wholeB
  by_cases h0 : 0 ≤ n
  · by_cases h1 : n ≤ 4096
    · obtain ⟨m, rfl⟩ := Int.eq_ofNat_of_zero_le h0
      have e1 : Gs.modcertref46_Ones.f (l.length + 20) (m : Int) = some ((popN m : Nat) : Int) := by
        have key : ∀ k, Gs.modcertref46_Ones.f (20 + k) (m : Int) = some ((popN m : Nat) : Int) := fun k => by
          induction k with
          | zero => exact rones_f m (by omega)
          | succ k ih => exact (Gs.modcertref46_Ones.mono_l _ _ _) _ ih
        rw [Nat.add_comm]
        exact key l.length
      rw [if_pos (by omega), if_pos h1, e1, Option.bind_some, Int.toNat_natCast, decide_eq_true h0, decide_eq_true h1]
      by_cases h2 : l.length = popN m
      · have e2 := rdig_l0 l hm l.length 0 (l.length + 20) (by omega) (by omega)
        rw [List.drop_zero] at e2
        have e3 : Gs.modcertref46_Digests.f (l.length + 20) l = some (!(l.any badD)) := e2
        have hp := popN_le m
        rw [if_pos (by omega), e3, decide_eq_true h2]
        unfold validB
        rw [decide_eq_true (show l.length ≤ 4096 by omega)]
        rfl
      · rw [if_neg (by omega), decide_eq_false h2]
        rfl
    · rw [if_pos (by omega), if_neg h1, decide_eq_false h1]
      simp
  · rw [if_neg (by omega), decide_eq_false h0]
    rfl
theorem RefWhole_calls (w : World) (n : Int) (A : Option Addr) (c : Nat) (l : List ByteArray) (hC : Kd.C Kd.string w A l.length l) (hc : l.length ≤ c) :
    Calls Try.prog 85 #[.agg #[.int .i64 n, .slice A l.length c]] w fun e w' => e = .returned (.bool (wholeB n l)) ∧ Below w.heap.size w w' :=
  Gs.modcertref46_ValidFrontier.calls (l.length + 20) n A c l _ w hC hc (rwhole_f n l hC.2.1)
attribute [local irreducible] Sep rowT boxT hashT sumB
theorem isD_S {w0 w : World} {ts : List Th} (S0 : SepT w0 w ts) (s : ByteArray) (q : Bool) (hq : ((s.size : Int) == 32) = q) :
    Calls Try.prog 83 #[.string s] w fun e w' => e = .returned (.bool q) ∧ SepT w0 w' ts := by
  refine (Gs.modcertref46_IsDigest.calls s q w (by rw [← hq]; rfl)).mono ?_
  rintro e w1 ⟨rfl, hd⟩
  refine ⟨rfl, ?_⟩
  obtain ⟨n, rfl⟩ := hd
  exact S0.drewN n
set_option maxRecDepth 100000 in
theorem RefLeaf_S {w0 w : World} {ts : List Th} (S0 : SepT w0 w ts) (a : ByteArray) (ha : a.size ≤ 10000000) :
    Calls Try.prog 48 #[.string a] w fun e w' => e = .returned (.string (leafB a)) ∧ SepT w0 w' ts := by
  have S := Aside0.mk S0
  have h1 : (⟨#[0]⟩ : ByteArray).size = 1 := rfl
  have h4 : ((⟨#[0]⟩ : ByteArray) ++ a).size ≤ 100000000 := by rw [ByteArray.size_append]; omega
  have r1 : ∀ V : World, (Op.stringOp .add (⟨#[0]⟩ : ByteArray) a).run Try.prog V = .ok (.string ((⟨#[0]⟩ : ByteArray) ++ a)) V := fun V => run_string_add_sum V _ _ (by omega)
  have hr : leafB a = sumB ((⟨#[0]⟩ : ByteArray) ++ a) := rfl
  generalize (⟨#[0]⟩ : ByteArray) ++ a = X at *
  clear S0 h1
  have HR := Aside0.mk hr
  clear hr
  go_enter Try.func48, Try.ntmps48
  go_wp2_with (go_at_call 29; have hc := RefSum_S S.out X h4; go_fit hc; clear hc; rintro e w1 ⟨rfl, hh⟩; clear S; have S := Aside0.mk hh; clear hh)
  go_ret
  exact ⟨by rw [HR.out]; rfl, S.out⟩
set_option maxRecDepth 100000 in
theorem RefNode_S {w0 w : World} {ts : List Th} (S0 : SepT w0 w ts) (a b : ByteArray) (ha : a.size = 32) (hb : b.size = 32) :
    Calls Try.prog 50 #[.string a, .string b] w fun e w' => e = .returned (.string (nodeB a b)) ∧ SepT w0 w' ts := by
  have S := Aside0.mk S0
  have h1 : (⟨#[1]⟩ : ByteArray).size = 1 := rfl
  have r1 : ∀ V : World, (Op.stringOp .add (⟨#[1]⟩ : ByteArray) a).run Try.prog V = .ok (.string ((⟨#[1]⟩ : ByteArray) ++ a)) V := fun V => run_string_add_sum V _ _ (by omega)
  have r2 : ∀ V : World, (Op.stringOp .add ((⟨#[1]⟩ : ByteArray) ++ a) b).run Try.prog V = .ok (.string ((⟨#[1]⟩ : ByteArray) ++ a ++ b)) V := fun V => run_string_add_sum V _ _ (by rw [ByteArray.size_append]; omega)
  have h4 : ((⟨#[1]⟩ : ByteArray) ++ a ++ b).size ≤ 100000000 := by rw [ByteArray.size_append, ByteArray.size_append]; omega
  have hr : nodeB a b = sumB ((⟨#[1]⟩ : ByteArray) ++ a ++ b) := by
    have e : (⟨#[1]⟩ : ByteArray) ++ (a ++ b) = (⟨#[1]⟩ : ByteArray) ++ a ++ b := by
      apply ByteArray.ext
      simp only [ByteArray.data_append, Array.append_assoc]
    unfold nodeB
    rw [e]
  have qa : ((a.size : Int) == 32) = true := by simp; omega
  have qb : ((b.size : Int) == 32) = true := by simp; omega
  generalize (⟨#[1]⟩ : ByteArray) ++ a = X at *
  generalize X ++ b = Y at *
  clear S0 h1 ha hb
  have HR := Aside0.mk hr
  clear hr
  go_enter Try.func50, Try.ntmps50
  go_wp2_with (first
    | (go_at_call 83; have hc := isD_S S.out a true qa; go_fit hc; clear hc; rintro e w1 ⟨rfl, hh⟩; clear S; have S := Aside0.mk hh; clear hh)
    | (go_at_call 83; have hc := isD_S S.out b true qb; go_fit hc; clear hc; rintro e w2 ⟨rfl, hh⟩; clear S; have S := Aside0.mk hh; clear hh)
    | (go_at_call 29; have hc := RefSum_S S.out Y h4; go_fit hc; clear hc; rintro e w3 ⟨rfl, hh⟩; clear S; have S := Aside0.mk hh; clear hh))
  go_ret
  exact ⟨by rw [HR.out]; rfl, S.out⟩
set_option maxRecDepth 100000 in
theorem RefNode_bad {w0 w : World} {ts : List Th} (S0 : SepT w0 w ts) (a b : ByteArray) (h : ¬ (a.size = 32 ∧ b.size = 32)) :
    Calls Try.prog 50 #[.string a, .string b] w fun e w' => e = .returned (.string ⟨#[]⟩) ∧ SepT w0 w' ts := by
  have S := Aside0.mk S0
  clear S0
  by_cases ha : a.size = 32
  · have qa : ((a.size : Int) == 32) = true := by simp; omega
    have qb : ((b.size : Int) == 32) = false := by simp; omega
    clear ha h
    go_enter Try.func50, Try.ntmps50
    go_wp2_with (first
      | (go_at_call 83; have hc := isD_S S.out a true qa; go_fit hc; clear hc; rintro e w1 ⟨rfl, hh⟩; clear S; have S := Aside0.mk hh; clear hh)
      | (go_at_call 83; have hc := isD_S S.out b false qb; go_fit hc; clear hc; rintro e w2 ⟨rfl, hh⟩; clear S; have S := Aside0.mk hh; clear hh))
    go_ret
    exact ⟨rfl, S.out⟩
  · have qa : ((a.size : Int) == 32) = false := by simp; omega
    clear ha h
    go_enter Try.func50, Try.ntmps50
    go_wp2_with (go_at_call 83; have hc := isD_S S.out a false qa; go_fit hc; clear hc; rintro e w1 ⟨rfl, hh⟩; clear S; have S := Aside0.mk hh; clear hh)
    go_ret
    exact ⟨rfl, S.out⟩
theorem RefNodeP_S {w0 w : World} {ts : List Th} (S0 : SepT w0 w ts) (a b : ByteArray) : Calls Try.prog 50 #[.string a, .string b] w fun e w' => e = .returned (.string (nodeP a b)) ∧ SepT w0 w' ts := by
  unfold nodeP
  by_cases h : a.size = 32 ∧ b.size = 32
  · rw [if_pos h]
    exact RefNode_S S0 a b h.1 h.2
  · rw [if_neg h]
    exact RefNode_bad S0 a b h
/-! The forms that the print is given. -/
def refSumG (a : ByteArray) : Option ByteArray := if a.size ≤ 100000000 then some (sumB a) else none
theorem refSumG_calls (a0 r : ByteArray) (w : World) (h : refSumG a0 = some r) : Calls Try.prog 29 #[.string a0] w fun e w' => e = .returned (.string r) ∧ Below w.heap.size w w' := by
  unfold refSumG at h
  split at h
  · rename_i hh
    obtain rfl := Option.some.inj h
    exact (RefSum_S (SepT.start w) a0 hh).mono (fun _ _ h => ⟨h.1, Sep.base h.2⟩)
  · cases h
def refNodeG (a b : ByteArray) : Option ByteArray := some (nodeP a b)
theorem refNodeG_calls (a0 a1 r : ByteArray) (w : World) (h : refNodeG a0 a1 = some r) : Calls Try.prog 50 #[.string a0, .string a1] w fun e w' => e = .returned (.string r) ∧ Below w.heap.size w w' := by
  obtain rfl := Option.some.inj h
  exact (RefNodeP_S (SepT.start w) a0 a1).mono (fun _ _ h => ⟨h.1, Sep.base h.2⟩)
theorem refWholeG_calls (a0_0 : Int) (A0_1 : Option Addr) (c0_1 : Nat) (l0_1 : List ByteArray) (r : Bool) (w : World) (hr0_1 : Kd.C Kd.string w A0_1 l0_1.length l0_1) (hc0_1 : l0_1.length ≤ c0_1) (h : wholeG a0_0 l0_1 = some r) :
    Calls Try.prog 85 #[.agg #[.int .i64 a0_0, .slice A0_1 l0_1.length c0_1]] w fun e w' => e = .returned (.bool r) ∧ Below w.heap.size w w' := by
  obtain rfl := Option.some.inj h
  exact RefWhole_calls w a0_0 A0_1 c0_1 l0_1 hr0_1 hc0_1
end Go.Proofs.Ytiafadmkkehdnaa.Sh
