/-
  merkle's Root, Inclusion, Consistency, Included, Extends.
-/
import Derived.Test.YtiafadmkkehdnaaY2
import Derived.Test.YtiafadmkkehdnaaGt2
namespace Go.Proofs.Ytiafadmkkehdnaa.Sh
open Go.RowKit Go.Great Go.Proofs.YtiafadmkkehdnaaW.PrintWords Go.Proofs.YtiafadmkkehdnaaW.PrintMore
set_option linter.unusedVariables false

def RootB (l : List ByteArray) : ByteArray := if validB l = true then rootB l else ⟨#[]⟩
def InclR (l : List ByteArray) (i : Int) : List ByteArray × Int := if validB l = true then (if 0 ≤ i ∧ i < l.length then (inclB l i.toNat, 0) else ([], 2)) else ([], 1)
def ConsR (l : List ByteArray) (m : Int) : List ByteArray × Int := if validB l = true then (if m < 0 ∨ l.length < m then ([], 2) else if m = 0 then ([], 0) else (consB l m.toNat true, 0)) else ([], 1)
def nodeP (a b : ByteArray) : ByteArray := if a.size = 32 ∧ b.size = 32 then nodeB a b else ⟨#[]⟩
theorem NodeP_S {w0 w : World} {ts : List Th} (S0 : SepT w0 w ts) (a b : ByteArray) : Calls Try.prog 49 #[.string a, .string b] w fun e w' => e = .returned (.string (nodeP a b)) ∧ SepT w0 w' ts := by
  unfold nodeP
  by_cases h : a.size = 32 ∧ b.size = 32
  · rw [if_pos h]
    exact Node_S S0 a b h.1 h.2
  · rw [if_neg h]
    exact Node_bad S0 a b h
/-- What an inclusion proof (its last element first) gives. -/
def givR (leaf : ByteArray) : List ByteArray → Nat → Nat → ByteArray × Bool
  | [], _, n => if n = 1 then (leaf, true) else (⟨#[]⟩, false)
  | p :: ps, i, n => if n = 1 then (leaf, false) else if i < splitN n then (nodeP (givR leaf ps i (splitN n)).1 p, (givR leaf ps i (splitN n)).2) else (nodeP p (givR leaf ps (i - splitN n) (n - splitN n)).1, (givR leaf ps (i - splitN n) (n - splitN n)).2)
attribute [local irreducible] Sep rowT boxT hashT sumB splitN rootB nodeB nodeP cutA inclB consB validB
set_option maxRecDepth 100000 in
theorem Root_calls (w : World) (A : Option Addr) (c : Nat) (l : List ByteArray) (hC : Kd.C Kd.string w A l.length l) (hcn : l.length ≤ c) :
    Calls Try.prog 22 #[.slice A l.length c] w fun e w' => e = .returned (.string (RootB l)) ∧ Below w.heap.size w w' := by
  have S := Aside0.mk (SepT.start w)
  have HC := Aside0.mk hC
  by_cases hv : validB l = true
  · have hr : RootB l = rootB l := by unfold RootB; rw [if_pos hv]
    have HR := Aside0.mk hr
    have hva := (validB_iff l).1 hv
    have I2 : Aside0 (∀ V ts, SepT w V ts → Calls Try.prog 63 #[.slice A l.length c] V fun e w' => e = .returned (.string (rootB l)) ∧ SepT w w' ts) := ⟨fun V ts h => (root_calls (l.length + 1) l.length V A c l (Kd.C_below hC (Sep.base h)) hcn (by omega) hva.1 hva.2).mono (fun _ _ q => ⟨q.1, h.below q.2⟩)⟩
    have HV := Aside0.mk hv
    clear hv hva hr hC
    go_enter Try.func22, Try.ntmps22
    go_wp2_with (first
      | (go_at_call 62; have hc := valid_S S.out A c l HC.out; rw [HV.out] at hc; go_fit hc; clear hc; rintro e w3 ⟨rfl, hh⟩; clear S; have S := Aside0.mk hh; clear hh)
      | (go_at_call 63; have hc := I2.out _ _ S.out; go_fit hc; clear hc; rintro e w3 ⟨rfl, hh⟩; clear S; have S := Aside0.mk hh; clear hh))
    go_ret
    exact ⟨by rw [HR.out]; rfl, Sep.base S.out⟩
  · have hr : RootB l = ⟨#[]⟩ := by unfold RootB; rw [if_neg hv]
    have HR := Aside0.mk hr
    have HV := Aside0.mk (show validB l = false by simpa using hv)
    clear hv hr hC
    go_enter Try.func22, Try.ntmps22
    go_wp2_with (go_at_call 62; have hc := valid_S S.out A c l HC.out; rw [HV.out] at hc; go_fit hc; clear hc; rintro e w3 ⟨rfl, hh⟩; clear S; have S := Aside0.mk hh; clear hh)
    go_ret
    exact ⟨by rw [HR.out]; rfl, Sep.base S.out⟩
set_option maxRecDepth 100000 in
theorem Inclusion_calls (w : World) (A : Option Addr) (c : Nat) (l : List ByteArray) (i : Int) (hC : Kd.C Kd.string w A l.length l) (hcn : l.length ≤ c) :
    Calls Try.prog 23 #[.slice A l.length c, .int .i64 i] w fun e w' => ∃ B cb, e = .returned (.tuple #[.slice B (InclR l i).1.length cb, .int .i64 (InclR l i).2]) ∧ SepT w w' [rowT Kd.string 9 (.slice B (InclR l i).1.length cb) (InclR l i).1] := by
  have S := Aside0.mk (SepT.start w)
  have HC := Aside0.mk hC
  by_cases hv : validB l = true
  · have hva := (validB_iff l).1 hv
    by_cases hi : 0 ≤ i ∧ i < l.length
    · have hr : InclR l i = (inclB l i.toNat, 0) := by unfold InclR; rw [if_pos hv, if_pos hi]
      have HR := Aside0.mk hr
      obtain ⟨j, rfl⟩ := Int.eq_ofNat_of_zero_le hi.1
      have hj : j < l.length := by omega
      rw [Int.toNat_natCast] at HR
      have I2 : Aside0 (∀ V, SepT w V [] → Calls Try.prog 64 #[.slice A l.length c, .int .i64 j] V fun e w' => ∃ B cb, e = .returned (.slice B (inclB l j).length cb) ∧ SepT w w' [rowT Kd.string 9 (.slice B (inclB l j).length cb) (inclB l j)]) := ⟨fun V h => (incl_calls (l.length + 1) l.length V A c l j (Kd.C_below hC (Sep.base h)) hcn (by omega) hva.1 hva.2 hj).mono (fun _ _ ⟨B, cb, q1, q2⟩ => ⟨B, cb, q1, h.lift q2⟩)⟩
      generalize inclB l j = xs at *
      have HV := Aside0.mk hv
      have hj2 : (j : Int) < l.length := hi.2
      clear hv hva hr hC hi
      go_enter Try.func23, Try.ntmps23
      go_wp2_with (first
        | (go_at_call 62; have hc := valid_S S.out A c l HC.out; rw [HV.out] at hc; go_fit hc; clear hc; rintro e w3 ⟨rfl, hh⟩; clear S; have S := Aside0.mk hh; clear hh)
        | (go_at_call 64; have hc := I2.out _ S.out; go_fit hc; clear hc; rintro e w3 ⟨B, cb, rfl, hh⟩; clear S; have S := Aside0.mk hh; clear hh))
      go_ret2
      exact ⟨B, cb, by rw [HR.out]; rfl, by rw [HR.out]; exact S.out⟩
    · have hr : InclR l i = ([], 2) := by unfold InclR; rw [if_pos hv, if_neg hi]
      have HR := Aside0.mk hr
      have HV := Aside0.mk hv
      rcases (by omega : i < 0 ∨ (¬ i < 0 ∧ (l.length : Int) ≤ i)) with h0 | ⟨h0, h1⟩
      · clear hv hva hr hC hi
        go_enter Try.func23, Try.ntmps23
        go_wp2_with (go_at_call 62; have hc := valid_S S.out A c l HC.out; rw [HV.out] at hc; go_fit hc; clear hc; rintro e w3 ⟨rfl, hh⟩; clear S; have S := Aside0.mk hh; clear hh)
        go_ret2
        exact ⟨none, 0, by rw [HR.out]; rfl, by rw [HR.out]; exact S.out.nilRow⟩
      · clear hv hva hr hC hi
        go_enter Try.func23, Try.ntmps23
        go_wp2_with (go_at_call 62; have hc := valid_S S.out A c l HC.out; rw [HV.out] at hc; go_fit hc; clear hc; rintro e w3 ⟨rfl, hh⟩; clear S; have S := Aside0.mk hh; clear hh)
        go_ret2
        exact ⟨none, 0, by rw [HR.out]; rfl, by rw [HR.out]; exact S.out.nilRow⟩
  · have hr : InclR l i = ([], 1) := by unfold InclR; rw [if_neg hv]
    have HR := Aside0.mk hr
    have HV := Aside0.mk (show validB l = false by simpa using hv)
    clear hv hr hC
    go_enter Try.func23, Try.ntmps23
    go_wp2_with (go_at_call 62; have hc := valid_S S.out A c l HC.out; rw [HV.out] at hc; go_fit hc; clear hc; rintro e w3 ⟨rfl, hh⟩; clear S; have S := Aside0.mk hh; clear hh)
    go_ret2
    exact ⟨none, 0, by rw [HR.out]; rfl, by rw [HR.out]; exact S.out.nilRow⟩
set_option maxRecDepth 100000 in
theorem Consistency_calls (w : World) (A : Option Addr) (c : Nat) (l : List ByteArray) (i : Int) (hC : Kd.C Kd.string w A l.length l) (hcn : l.length ≤ c) :
    Calls Try.prog 24 #[.slice A l.length c, .int .i64 i] w fun e w' => ∃ B cb, e = .returned (.tuple #[.slice B (ConsR l i).1.length cb, .int .i64 (ConsR l i).2]) ∧ SepT w w' [rowT Kd.string 9 (.slice B (ConsR l i).1.length cb) (ConsR l i).1] := by
  have S := Aside0.mk (SepT.start w)
  have HC := Aside0.mk hC
  by_cases hv : validB l = true
  · have hva := (validB_iff l).1 hv
    by_cases hi : i < 0 ∨ (l.length : Int) < i
    · have hr : ConsR l i = ([], 2) := by unfold ConsR; rw [if_pos hv, if_pos hi]
      have HR := Aside0.mk hr
      have HV := Aside0.mk hv
      rcases (by omega : i < 0 ∨ (¬ i < 0 ∧ (l.length : Int) < i)) with h0 | ⟨h0, h1⟩
      · clear hv hva hr hC hi
        go_enter Try.func24, Try.ntmps24
        go_wp2_with (go_at_call 62; have hc := valid_S S.out A c l HC.out; rw [HV.out] at hc; go_fit hc; clear hc; rintro e w3 ⟨rfl, hh⟩; clear S; have S := Aside0.mk hh; clear hh)
        go_ret2
        exact ⟨none, 0, by rw [HR.out]; rfl, by rw [HR.out]; exact S.out.nilRow⟩
      · clear hv hva hr hC hi
        go_enter Try.func24, Try.ntmps24
        go_wp2_with (go_at_call 62; have hc := valid_S S.out A c l HC.out; rw [HV.out] at hc; go_fit hc; clear hc; rintro e w3 ⟨rfl, hh⟩; clear S; have S := Aside0.mk hh; clear hh)
        go_ret2
        exact ⟨none, 0, by rw [HR.out]; rfl, by rw [HR.out]; exact S.out.nilRow⟩
    · by_cases h0 : i = 0
      · have hr : ConsR l i = ([], 0) := by unfold ConsR; rw [if_pos hv, if_neg hi, if_pos h0]
        have HR := Aside0.mk hr
        have HV := Aside0.mk hv
        have h1 : ¬ (l.length : Int) < 0 := by omega
        subst h0
        clear hv hva hr hC hi
        go_enter Try.func24, Try.ntmps24
        go_wp2_with (go_at_call 62; have hc := valid_S S.out A c l HC.out; rw [HV.out] at hc; go_fit hc; clear hc; rintro e w3 ⟨rfl, hh⟩; clear S; have S := Aside0.mk hh; clear hh)
        go_ret2
        exact ⟨none, 0, by rw [HR.out]; rfl, by rw [HR.out]; exact S.out.nilRow⟩
      · have hr : ConsR l i = (consB l i.toNat true, 0) := by unfold ConsR; rw [if_pos hv, if_neg hi, if_neg h0]
        have HR := Aside0.mk hr
        obtain ⟨j, rfl⟩ := Int.eq_ofNat_of_zero_le (show 0 ≤ i by omega)
        have hj : j ≤ l.length := by omega
        rw [Int.toNat_natCast] at HR
        have I2 : Aside0 (∀ V, SepT w V [] → Calls Try.prog 65 #[.slice A l.length c, .int .i64 j, .bool true] V fun e w' => ∃ B cb, e = .returned (.slice B (consB l j true).length cb) ∧ SepT w w' [rowT Kd.string 9 (.slice B (consB l j true).length cb) (consB l j true)]) := ⟨fun V h => (cons_calls (l.length + 1) l.length V A c l j true (Kd.C_below hC (Sep.base h)) hcn (by omega) hva.1 hva.2 (by omega) hj).mono (fun _ _ ⟨B, cb, q1, q2⟩ => ⟨B, cb, q1, h.lift q2⟩)⟩
        generalize consB l j true = xs at *
        have HV := Aside0.mk hv
        have hj2 : ¬ (l.length : Int) < j := by omega
        have hj3 : ((j : Int) == 0) = false := by rw [beq_eq_false_iff_ne]; exact h0
        clear hv hva hr hC hi h0
        go_enter Try.func24, Try.ntmps24
        go_wp2_with (first
          | (go_at_call 62; have hc := valid_S S.out A c l HC.out; rw [HV.out] at hc; go_fit hc; clear hc; rintro e w3 ⟨rfl, hh⟩; clear S; have S := Aside0.mk hh; clear hh)
          | (go_at_call 65; have hc := I2.out _ S.out; go_fit hc; clear hc; rintro e w3 ⟨B, cb, rfl, hh⟩; clear S; have S := Aside0.mk hh; clear hh))
        go_ret2
        exact ⟨B, cb, by rw [HR.out]; rfl, by rw [HR.out]; exact S.out⟩
  · have hr : ConsR l i = ([], 1) := by unfold ConsR; rw [if_neg hv]
    have HR := Aside0.mk hr
    have HV := Aside0.mk (show validB l = false by simpa using hv)
    clear hv hr hC
    go_enter Try.func24, Try.ntmps24
    go_wp2_with (go_at_call 62; have hc := valid_S S.out A c l HC.out; rw [HV.out] at hc; go_fit hc; clear hc; rintro e w3 ⟨rfl, hh⟩; clear S; have S := Aside0.mk hh; clear hh)
    go_ret2
    exact ⟨none, 0, by rw [HR.out]; rfl, by rw [HR.out]; exact S.out.nilRow⟩
end Go.Proofs.Ytiafadmkkehdnaa.Sh
namespace Go.Proofs.Ytiafadmkkehdnaa.Sh
open Go.RowKit Go.Great Go.Proofs.YtiafadmkkehdnaaW.PrintWords Go.Proofs.YtiafadmkkehdnaaW.PrintMore
set_option linter.unusedVariables false

theorem givR_one_nil (leaf : ByteArray) (i : Nat) : givR leaf [] i 1 = (leaf, true) := rfl
theorem givR_one_cons (leaf p : ByteArray) (ps : List ByteArray) (i : Nat) : givR leaf (p :: ps) i 1 = (leaf, false) := rfl
theorem givR_nil (leaf : ByteArray) (i n : Nat) (h : n ≠ 1) : givR leaf [] i n = (⟨#[]⟩, false) := by rw [givR, if_neg h]
theorem givR_lo (leaf p : ByteArray) (ps : List ByteArray) (i n : Nat) (h : n ≠ 1) (hk : i < splitN n) : givR leaf (p :: ps) i n = (nodeP (givR leaf ps i (splitN n)).1 p, (givR leaf ps i (splitN n)).2) := by rw [givR, if_neg h, if_pos hk]
theorem givR_hi (leaf p : ByteArray) (ps : List ByteArray) (i n : Nat) (h : n ≠ 1) (hk : ¬ i < splitN n) : givR leaf (p :: ps) i n = (nodeP p (givR leaf ps (i - splitN n) (n - splitN n)).1, (givR leaf ps (i - splitN n) (n - splitN n)).2) := by rw [givR, if_neg h, if_neg hk]
theorem rev_last (p : ByteArray) (ps : List ByteArray) : (p :: ps).reverse.getD ps.length ⟨#[]⟩ = p := by
  simp [List.getD]
theorem rev_take (p : ByteArray) (ps : List ByteArray) : (p :: ps).reverse.take ps.length = ps.reverse := by
  have h : ps.length = ps.reverse.length := (List.length_reverse).symm
  rw [List.reverse_cons, h, List.take_left]
attribute [local irreducible] Sep rowT boxT hashT sumB splitN rootB nodeB nodeP cutA inclB consB validB givR
set_option maxHeartbeats 2000000 in
set_option maxRecDepth 100000 in
theorem given_calls : ∀ (rp : List ByteArray) (i n m : Nat) (w : World) (A : Option Addr) (c : Nat) (leaf : ByteArray), rp.length = m → Kd.C Kd.string w A m rp.reverse → m ≤ c → m ≤ 5000 → 1 ≤ n → n ≤ 4096 → i < n →
    Calls Try.prog 66 #[.string leaf, .int .i64 i, .int .i64 n, .slice A m c] w fun e w' => e = .returned (.tuple #[.string (givR leaf rp i n).1, .bool (givR leaf rp i n).2]) ∧ Below w.heap.size w w'
  | [], i, n, m, w, A, c, leaf, hm, hC, hcn, hm5, h1, h4, hi => by
    subst hm
    have S := Aside0.mk (SepT.start w)
    by_cases hn : n = 1
    · subst hn
      have hr := givR_one_nil leaf i
      have HR := Aside0.mk hr
      clear hC hr
      go_enter Try.func66, Try.ntmps66
      go_wp2
      go_ret2
      exact ⟨by rw [HR.out]; rfl, Sep.base S.out⟩
    · have hr := givR_nil leaf i n hn
      have HR := Aside0.mk hr
      have hn2 : ((n : Int) == 1) = false := by rw [beq_eq_false_iff_ne]; omega
      clear hC hr hn
      go_enter Try.func66, Try.ntmps66
      go_wp2
      go_ret2
      exact ⟨by rw [HR.out]; rfl, Sep.base S.out⟩
  | p :: ps, i, n, m, w, A, c, leaf, hm, hC, hcn, hm5, h1, h4, hi => by
    have S := Aside0.mk (SepT.start w)
    have hm0 : ((m : Int) == 0) = false := by rw [beq_eq_false_iff_ne]; simp at hm; omega
    by_cases hn : n = 1
    · subst hn
      have hr := givR_one_cons leaf p ps i
      have HR := Aside0.mk hr
      clear hC hr
      go_enter Try.func66, Try.ntmps66
      go_wp2
      go_ret2
      exact ⟨by rw [HR.out]; rfl, Sep.base S.out⟩
    · have hn2 : ((n : Int) == 1) = false := by rw [beq_eq_false_iff_ne]; omega
      obtain ⟨q, hq⟩ : ∃ q, ps.length = q := ⟨_, rfl⟩
      have hmq : m = q + 1 := by simp at hm; omega
      have hm1 : IntKind.i64.wrap ((m : Int) - 1) = (q : Int) := by rw [IntWalk.i64_in _ (by omega)]; omega
      have hm2 : (m : Int) - 1 = (q : Int) := by omega
      have hm3 : IntKind.i64.wrap (q : Int) = (q : Int) := IntWalk.i64_in _ (by omega)
      obtain ⟨ad, hAd, d0⟩ := str_at hC (q : Int) (by omega) (by omega)
      rw [Int.toNat_natCast, ← hq, rev_last, hq] at d0
      have C1 := C_lo hC (k := q) (by omega)
      rw [← hq, rev_take, hq] at C1
      have s1 := slice_lo A m c q (by omega) hcn
      subst hAd
      have hq0 : (0 : Int) ≤ (q : Int) := by omega
      have hq1 : (q : Int) < (m : Int) := by omega
      have HK : Aside0 (∀ (V : World) (ts : List Th), SepT w V ts → V.cell? (ad.add q) = some (.string p)) := ⟨fun V ts h => pw_cell_below (Sep.base h) d0⟩
      have hs := splitN_facts n h4 (by omega)
      have hlo := givR_lo leaf p ps i n hn
      have hhi := givR_hi leaf p ps i n hn
      have HSP : Aside0 (∀ V ts, SepT w V ts → Calls Try.prog 90 #[.int .i64 n] V fun e w' => e = .returned (.int .i64 (splitN n : Nat)) ∧ SepT w w' ts) := ⟨fun V ts h => split_S h n (by omega) h4⟩
      generalize splitN n = k at *
      by_cases hk : i < k
      · have hki : (i : Int) < (k : Int) := by omega
        have hr := hlo hk
        have HR := Aside0.mk hr
        have I1 : Aside0 (∀ V, SepT w V [] → Calls Try.prog 66 #[.string leaf, .int .i64 i, .int .i64 k, .slice (some ad) q c] V fun e w' => e = .returned (.tuple #[.string (givR leaf ps i k).1, .bool (givR leaf ps i k).2]) ∧ SepT w w' []) := ⟨fun V h => (given_calls ps i k q V (some ad) c leaf hq (Kd.C_below C1 (Sep.base h)) (by omega) (by omega) (by omega) (by omega) hk).mono (fun _ _ q => ⟨q.1, h.below q.2⟩)⟩
        generalize (givR leaf ps i k).1 = r1 at *
        generalize (givR leaf ps i k).2 = r2 at *
        clear hC C1 d0 hr hs hlo hhi hn hm hmq hq
        go_enter Try.func66, Try.ntmps66
        go_upto_region 5 with fail
        have S1 := Aside0.mk S.out.drew
        clear S
        have S := S1
        clear S1
        go_region_held3 (fun V => V.cell? (ad.add q) = some (.string p)) (exact HK.out _ _ S.out) (first
          | (go_at_call 90; have hc := HSP.out _ _ S.out; go_fit hc; clear hc; rintro e w1 ⟨rfl, hh⟩; clear S; have S := Aside0.mk hh; clear hh))
        all_goals
          go_wp2_with (first
            | (go_at_call 66; have hc := I1.out _ S.out; go_fit hc; clear hc; rintro e w2 ⟨rfl, hh⟩; clear S; have S := Aside0.mk hh; clear hh)
            | (go_at_call 49; have hc := NodeP_S S.out r1 p; go_fit hc; clear hc; rintro e w2 ⟨rfl, hh⟩; clear S; have S := Aside0.mk hh; clear hh))
          go_ret2
          exact ⟨by rw [HR.out]; rfl, Sep.base S.out⟩
      · have hki : ¬ (i : Int) < (k : Int) := by omega
        have hr := hhi hk
        have HR := Aside0.mk hr
        obtain ⟨j, hj⟩ : ∃ j, i - k = j := ⟨_, rfl⟩
        obtain ⟨n2, hn3⟩ : ∃ n2, n - k = n2 := ⟨_, rfl⟩
        have hw1 : IntKind.i64.wrap ((i : Int) - (k : Int)) = (j : Int) := by rw [IntWalk.i64_in _ (by omega)]; omega
        have hw2 : IntKind.i64.wrap ((n : Int) - (k : Int)) = (n2 : Int) := by rw [IntWalk.i64_in _ (by omega)]; omega
        rw [hj, hn3] at HR
        have I1 : Aside0 (∀ V, SepT w V [] → Calls Try.prog 66 #[.string leaf, .int .i64 j, .int .i64 n2, .slice (some ad) q c] V fun e w' => e = .returned (.tuple #[.string (givR leaf ps j n2).1, .bool (givR leaf ps j n2).2]) ∧ SepT w w' []) := ⟨fun V h => (given_calls ps j n2 q V (some ad) c leaf hq (Kd.C_below C1 (Sep.base h)) (by omega) (by omega) (by omega) (by omega) (by omega)).mono (fun _ _ q => ⟨q.1, h.below q.2⟩)⟩
        generalize (givR leaf ps j n2).1 = r1 at *
        generalize (givR leaf ps j n2).2 = r2 at *
        clear hC C1 d0 hr hs hlo hhi hn hj hn3 hm hmq hq
        go_enter Try.func66, Try.ntmps66
        go_upto_region 5 with fail
        have S1 := Aside0.mk S.out.drew
        clear S
        have S := S1
        clear S1
        go_region_held3 (fun V => V.cell? (ad.add q) = some (.string p)) (exact HK.out _ _ S.out) (first
          | (go_at_call 90; have hc := HSP.out _ _ S.out; go_fit hc; clear hc; rintro e w1 ⟨rfl, hh⟩; clear S; have S := Aside0.mk hh; clear hh))
        all_goals
          go_wp2_with (first
            | (go_at_call 66; have hc := I1.out _ S.out; go_fit hc; clear hc; rintro e w2 ⟨rfl, hh⟩; clear S; have S := Aside0.mk hh; clear hh)
            | (go_at_call 49; have hc := NodeP_S S.out p r1; go_fit hc; clear hc; rintro e w2 ⟨rfl, hh⟩; clear S; have S := Aside0.mk hh; clear hh))
          go_ret2
          exact ⟨by rw [HR.out]; rfl, Sep.base S.out⟩
end Go.Proofs.Ytiafadmkkehdnaa.Sh
namespace Go.Proofs.Ytiafadmkkehdnaa.Sh
open Go.RowKit Go.Great Go.Proofs.YtiafadmkkehdnaaW.PrintWords Go.Proofs.YtiafadmkkehdnaaW.PrintMore
set_option linter.unusedVariables false

def InclOk (leaf : ByteArray) (i n : Nat) (proof : List ByteArray) (root : ByteArray) : Bool := (givR leaf proof.reverse i n).2 && ((givR leaf proof.reverse i n).1.toList == root.toList)
theorem given_calls' (w : World) (A : Option Addr) (c : Nat) (leaf : ByteArray) (i n : Nat) (l : List ByteArray) (hC : Kd.C Kd.string w A l.length l) (hcn : l.length ≤ c) (h5 : l.length ≤ 5000) (h1 : 1 ≤ n) (h4 : n ≤ 4096) (hi : i < n) :
    Calls Try.prog 66 #[.string leaf, .int .i64 i, .int .i64 n, .slice A l.length c] w fun e w' => e = .returned (.tuple #[.string (givR leaf l.reverse i n).1, .bool (givR leaf l.reverse i n).2]) ∧ Below w.heap.size w w' :=
  given_calls l.reverse i n l.length w A c leaf (List.length_reverse) (by rw [List.reverse_reverse]; exact hC) hcn h5 h1 h4 hi

/-- What a consistency proof (its last element first) gives: the root of the first, the root of all, is it whole. -/
def readR : List ByteArray → Nat → Nat → ByteArray → ByteArray × ByteArray × Bool
  | [], m, n, wh => if m = n then (if wh.size = 0 then (⟨#[]⟩, ⟨#[]⟩, false) else (wh, wh, true)) else (⟨#[]⟩, ⟨#[]⟩, false)
  | p :: ps, m, n, wh => if m = n then (if wh.size = 0 then (if ps = [] then (p, p, true) else (⟨#[]⟩, ⟨#[]⟩, false)) else (wh, wh, false)) else
    if m ≤ splitN n then ((readR ps m (splitN n) wh).1, nodeP (readR ps m (splitN n) wh).2.1 p, (readR ps m (splitN n) wh).2.2)
    else (nodeP p (readR ps (m - splitN n) (n - splitN n) ⟨#[]⟩).1, nodeP p (readR ps (m - splitN n) (n - splitN n) ⟨#[]⟩).2.1, (readR ps (m - splitN n) (n - splitN n) ⟨#[]⟩).2.2)
theorem toList_nil (s : ByteArray) : s.toList = [] ↔ s.size = 0 := by
  rw [ByteArray.toList_eq]
  constructor
  · intro h
    have : s.data.toList.length = 0 := by rw [h]; rfl
    simpa using this
  · intro h
    apply List.eq_nil_of_length_eq_zero
    simpa using h
theorem nodeG_P (a b : ByteArray) : nodeG a b = some (nodeP a b) := by
  unfold nodeG nodeP
  split <;> rfl
theorem read_f (k : Nat) : ∀ (rp : List ByteArray) (m n : Nat) (wh : ByteArray), rp.length < k → rp.length ≤ 100000 → 1 ≤ m → m ≤ n → n ≤ 4096 → Gt.merkle_read.f k m n wh rp.reverse = some (readR rp m n wh) := by
  induction k with
  | zero => intro rp m n wh h; omega
  | succ k ih =>
    intro rp m n wh hk hl h1 hm h4
    rw [Gt.merkle_read.f]
    by_cases he : m = n
    · subst he
      rw [if_pos rfl]
      by_cases hw : wh.size = 0
      · rw [if_pos ((toList_nil wh).2 hw)]
        rcases rp with _ | ⟨p, _ | ⟨q, ps⟩⟩
        · rw [readR, if_pos rfl, if_pos hw]; simp
        · rw [readR, if_pos rfl, if_pos hw, if_pos rfl]; simp [rdOf]
        · have h2 : ¬ ((p :: q :: ps).reverse.length : Int) = 1 := by simp; omega
          rw [if_neg h2, readR, if_pos rfl, if_pos hw, if_neg (by simp)]
      · rw [if_neg (fun h => hw ((toList_nil wh).1 h))]
        rcases rp with _ | ⟨p, ps⟩
        · rw [readR, if_pos rfl, if_neg hw]; simp
        · rw [readR, if_pos rfl, if_neg hw]
          have : (((p :: ps).reverse.length : Int) == 0) = false := by rw [beq_eq_false_iff_ne]; simp; omega
          rw [this]
    · rw [if_neg (by omega)]
      rcases rp with _ | ⟨p, ps⟩
      · rw [readR, if_neg he]; simp
      · have hlen : ((p :: ps).reverse.length : Int) = (ps.length : Int) + 1 := by simp
        have hl2 : ps.length + 1 ≤ 100000 := by simpa using hl
        have hk2 : ps.length < k := by simp at hk; omega
        have w1 : wrap64 ((p :: ps).reverse.length - 1 : Int) = (ps.length : Int) := by rw [hlen]; unfold wrap64; omega
        have hs := splitN_facts n h4 (by omega)
        have e1 : Gt.merkle_split.f (n : Int) = some ((splitN n : Nat) : Int) := by
          show splitG (n : Int) = _
          unfold splitG
          rw [if_pos (by omega), Int.toNat_natCast]
        have e2 : rdOf ByteArray.empty (p :: ps).reverse (ps.length : Int) = p := by unfold rdOf; rw [Int.toNat_natCast]; exact rev_last p ps
        rw [w1, if_neg (by omega), if_pos (by omega), if_pos (by omega), if_pos (by omega), e1, Option.bind_some, e2, Int.toNat_natCast, rev_take]
        have e3 : ∀ a b, Gt.merkle_Node.f a b = some (nodeP a b) := nodeG_P
        by_cases hks : m ≤ splitN n
        · rw [if_pos (by omega), ih ps m (splitN n) wh hk2 (by omega) h1 hks (by omega), Option.bind_some, e3, Option.bind_some, readR, if_neg he, if_pos hks]
        · have w2 : wrap64 ((m : Int) - ((splitN n : Nat) : Int)) = ((m - splitN n : Nat) : Int) := by unfold wrap64; omega
          have w3 : wrap64 ((n : Int) - ((splitN n : Nat) : Int)) = ((n - splitN n : Nat) : Int) := by unfold wrap64; omega
          rw [if_neg (by omega), w2, w3, ih ps (m - splitN n) (n - splitN n) ⟨#[]⟩ hk2 (by omega) (by omega) (by omega) (by omega), Option.bind_some, e3, Option.bind_some, e3, Option.bind_some, readR, if_neg he, if_neg hks]
theorem read_calls (w : World) (A : Option Addr) (c : Nat) (m n : Nat) (wh : ByteArray) (l : List ByteArray) (hC : Kd.C Kd.string w A l.length l) (hcn : l.length ≤ c) (h5 : l.length ≤ 5000) (h1 : 1 ≤ m) (hm : m ≤ n) (h4 : n ≤ 4096) :
    Calls Try.prog 67 #[.int .i64 m, .int .i64 n, .string wh, .slice A l.length c] w fun e w' => e = .returned (.tuple #[.agg #[.string (readR l.reverse m n wh).1, .string (readR l.reverse m n wh).2.1], .bool (readR l.reverse m n wh).2.2]) ∧ Below w.heap.size w w' := by
  have h := read_f (l.length + 1) l.reverse m n wh (by simp) (by simp; omega) h1 hm h4
  rw [List.reverse_reverse] at h
  exact Gt.merkle_read.calls _ m n wh A c l _ _ _ w hC hcn h
attribute [local irreducible] Sep rowT boxT hashT sumB splitN rootB nodeB nodeP cutA inclB consB validB givR
set_option maxHeartbeats 2000000 in
set_option maxRecDepth 100000 in
theorem Included_calls (w : World) (A : Option Addr) (c : Nat) (leaf root : ByteArray) (i n : Nat) (l : List ByteArray) (hC : Kd.C Kd.string w A l.length l) (hcn : l.length ≤ c) (hv : validB l = true) (hl : leaf.size = 32) (hr : root.size = 32) (h1 : 1 ≤ n) (h4 : n ≤ 4096) (hi : i < n) :
    Calls Try.prog 25 #[.string leaf, .int .i64 i, .int .i64 n, .slice A l.length c, .string root] w fun e w' => e = .returned (.bool (InclOk leaf i n l root)) ∧ Below w.heap.size w w' := by
  have S := Aside0.mk (SepT.start w)
  have HC := Aside0.mk hC
  have hva := (validB_iff l).1 hv
  have I2 : Aside0 (∀ V ts, SepT w V ts → Calls Try.prog 66 #[.string leaf, .int .i64 i, .int .i64 n, .slice A l.length c] V fun e w' => e = .returned (.tuple #[.string (givR leaf l.reverse i n).1, .bool (givR leaf l.reverse i n).2]) ∧ SepT w w' ts) := ⟨fun V ts h => (given_calls' V A c leaf i n l (Kd.C_below hC (Sep.base h)) hcn (by omega) h1 h4 hi).mono (fun _ _ q => ⟨q.1, h.below q.2⟩)⟩
  have hok : InclOk leaf i n l root = ((givR leaf l.reverse i n).2 && ((givR leaf l.reverse i n).1.toList == root.toList)) := rfl
  generalize (givR leaf l.reverse i n).1 = r1 at *
  generalize (givR leaf l.reverse i n).2 = r2 at *
  have HOK := Aside0.mk hok
  have HV := Aside0.mk hv
  have q1 : ((leaf.size : Int) == 32) = true := by simp; omega
  have q2 : ((root.size : Int) == 32) = true := by simp; omega
  have k1 : ¬ (n : Int) < 1 := by omega
  have k2 : ¬ 4096 < (n : Int) := by omega
  have k4 : (i : Int) < n := by omega
  have k5 : ¬ (n : Int) ≤ i := by omega
  clear hC hva hok hv hl hr h1 h4 hi
  cases r2 with
  | false =>
    go_enter Try.func25, Try.ntmps25
    go_wp2_with (first
      | (go_at_call 59; have hc := digest_S S.out leaf true q1; go_fit hc; clear hc; rintro e w1 ⟨rfl, hh⟩; clear S; have S := Aside0.mk hh; clear hh)
      | (go_at_call 59; have hc := digest_S S.out root true q2; go_fit hc; clear hc; rintro e w1 ⟨rfl, hh⟩; clear S; have S := Aside0.mk hh; clear hh)
      | (go_at_call 62; have hc := valid_S S.out A c l HC.out; rw [HV.out] at hc; go_fit hc; clear hc; rintro e w3 ⟨rfl, hh⟩; clear S; have S := Aside0.mk hh; clear hh)
      | (go_at_call 66; have hc := I2.out _ _ S.out; go_fit hc; clear hc; rintro e w3 ⟨rfl, hh⟩; clear S; have S := Aside0.mk hh; clear hh))
    go_ret
    exact ⟨by rw [HOK.out]; rfl, Sep.base S.out⟩
  | true =>
    go_enter Try.func25, Try.ntmps25
    go_wp2_with (first
      | (go_at_call 59; have hc := digest_S S.out leaf true q1; go_fit hc; clear hc; rintro e w1 ⟨rfl, hh⟩; clear S; have S := Aside0.mk hh; clear hh)
      | (go_at_call 59; have hc := digest_S S.out root true q2; go_fit hc; clear hc; rintro e w1 ⟨rfl, hh⟩; clear S; have S := Aside0.mk hh; clear hh)
      | (go_at_call 62; have hc := valid_S S.out A c l HC.out; rw [HV.out] at hc; go_fit hc; clear hc; rintro e w3 ⟨rfl, hh⟩; clear S; have S := Aside0.mk hh; clear hh)
      | (go_at_call 66; have hc := I2.out _ _ S.out; go_fit hc; clear hc; rintro e w3 ⟨rfl, hh⟩; clear S; have S := Aside0.mk hh; clear hh))
    go_ret
    exact ⟨by rw [HOK.out, Bool.true_and]; rfl, Sep.base S.out⟩
end Go.Proofs.Ytiafadmkkehdnaa.Sh
namespace Go.Proofs.Ytiafadmkkehdnaa.Sh
open Go.RowKit Go.Great Go.Proofs.YtiafadmkkehdnaaW.PrintWords Go.Proofs.YtiafadmkkehdnaaW.PrintMore
set_option linter.unusedVariables false

def ExtOk (m n : Nat) (old now : ByteArray) (proof : List ByteArray) : Bool := (readR proof.reverse m n old).2.2 && ((readR proof.reverse m n old).1.toList == old.toList && (readR proof.reverse m n old).2.1.toList == now.toList)
attribute [local irreducible] Sep rowT boxT hashT sumB splitN rootB nodeB nodeP cutA inclB consB validB givR readR
set_option maxHeartbeats 2000000 in
set_option maxRecDepth 100000 in
theorem Included_out (w : World) (A : Option Addr) (c : Nat) (leaf root : ByteArray) (i : Int) (n : Nat) (l : List ByteArray) (hC : Kd.C Kd.string w A l.length l) (hcn : l.length ≤ c) (hv : validB l = true) (hl : leaf.size = 32) (hr : root.size = 32) (h1 : 1 ≤ n) (h4 : n ≤ 4096) (hi : i < 0 ∨ (n : Int) ≤ i) :
    Calls Try.prog 25 #[.string leaf, .int .i64 i, .int .i64 n, .slice A l.length c, .string root] w fun e w' => e = .returned (.bool false) ∧ Below w.heap.size w w' := by
  have S := Aside0.mk (SepT.start w)
  have HC := Aside0.mk hC
  have HV := Aside0.mk hv
  have q1 : ((leaf.size : Int) == 32) = true := by simp; omega
  have q2 : ((root.size : Int) == 32) = true := by simp; omega
  have k1 : ¬ (n : Int) < 1 := by omega
  have k2 : ¬ 4096 < (n : Int) := by omega
  rcases (by omega : i < 0 ∨ (¬ i < 0 ∧ (n : Int) ≤ i)) with h0 | ⟨h0, h3⟩
  all_goals
    clear hC hv hl hr h1 h4 hi
    go_enter Try.func25, Try.ntmps25
    go_wp2_with (first
      | (go_at_call 59; have hc := digest_S S.out leaf true q1; go_fit hc; clear hc; rintro e w1 ⟨rfl, hh⟩; clear S; have S := Aside0.mk hh; clear hh)
      | (go_at_call 59; have hc := digest_S S.out root true q2; go_fit hc; clear hc; rintro e w1 ⟨rfl, hh⟩; clear S; have S := Aside0.mk hh; clear hh)
      | (go_at_call 62; have hc := valid_S S.out A c l HC.out; rw [HV.out] at hc; go_fit hc; clear hc; rintro e w3 ⟨rfl, hh⟩; clear S; have S := Aside0.mk hh; clear hh))
    go_ret
    exact ⟨rfl, Sep.base S.out⟩
set_option maxHeartbeats 2000000 in
set_option maxRecDepth 100000 in
theorem Extends_out (w : World) (A : Option Addr) (c : Nat) (old now : ByteArray) (m n : Nat) (l : List ByteArray) (hC : Kd.C Kd.string w A l.length l) (hcn : l.length ≤ c) (hv : validB l = true) (hl : old.size = 32) (hr : now.size = 32) (h1 : n < m) :
    Calls Try.prog 26 #[.int .i64 m, .int .i64 n, .string old, .string now, .slice A l.length c] w fun e w' => e = .returned (.bool false) ∧ Below w.heap.size w w' := by
  have S := Aside0.mk (SepT.start w)
  have HC := Aside0.mk hC
  have HV := Aside0.mk hv
  have q1 : ((old.size : Int) == 32) = true := by simp; omega
  have q2 : ((now.size : Int) == 32) = true := by simp; omega
  have k1 : (n : Int) < m := by omega
  clear hC hv hl hr h1
  go_enter Try.func26, Try.ntmps26
  go_wp2_with (first
    | (go_at_call 59; have hc := digest_S S.out old true q1; go_fit hc; clear hc; rintro e w1 ⟨rfl, hh⟩; clear S; have S := Aside0.mk hh; clear hh)
    | (go_at_call 59; have hc := digest_S S.out now true q2; go_fit hc; clear hc; rintro e w1 ⟨rfl, hh⟩; clear S; have S := Aside0.mk hh; clear hh)
    | (go_at_call 62; have hc := valid_S S.out A c l HC.out; rw [HV.out] at hc; go_fit hc; clear hc; rintro e w3 ⟨rfl, hh⟩; clear S; have S := Aside0.mk hh; clear hh))
  go_ret
  exact ⟨rfl, Sep.base S.out⟩
set_option maxHeartbeats 2000000 in
set_option maxRecDepth 100000 in
theorem Extends_calls (w : World) (A : Option Addr) (c : Nat) (old now : ByteArray) (m n : Nat) (l : List ByteArray) (hC : Kd.C Kd.string w A l.length l) (hcn : l.length ≤ c) (hv : validB l = true) (hl : old.size = 32) (hr : now.size = 32) (h1 : 1 ≤ m) (hm : m ≤ n) (h4 : n ≤ 4096) :
    Calls Try.prog 26 #[.int .i64 m, .int .i64 n, .string old, .string now, .slice A l.length c] w fun e w' => e = .returned (.bool (ExtOk m n old now l)) ∧ Below w.heap.size w w' := by
  have S := Aside0.mk (SepT.start w)
  have HC := Aside0.mk hC
  have HV := Aside0.mk hv
  have hva := (validB_iff l).1 hv
  have I2 : Aside0 (∀ V ts, SepT w V ts → Calls Try.prog 67 #[.int .i64 m, .int .i64 n, .string old, .slice A l.length c] V fun e w' => e = .returned (.tuple #[.agg #[.string (readR l.reverse m n old).1, .string (readR l.reverse m n old).2.1], .bool (readR l.reverse m n old).2.2]) ∧ SepT w w' ts) := ⟨fun V ts h => (read_calls V A c m n old l (Kd.C_below hC (Sep.base h)) hcn (by omega) h1 hm h4).mono (fun _ _ q => ⟨q.1, h.below q.2⟩)⟩
  have hok : ExtOk m n old now l = ((readR l.reverse m n old).2.2 && ((readR l.reverse m n old).1.toList == old.toList && (readR l.reverse m n old).2.1.toList == now.toList)) := rfl
  generalize (readR l.reverse m n old).1 = r1 at *
  generalize (readR l.reverse m n old).2.1 = r2 at *
  generalize (readR l.reverse m n old).2.2 = r3 at *
  have HOK := Aside0.mk hok
  have q1 : ((old.size : Int) == 32) = true := by simp; omega
  have q2 : ((now.size : Int) == 32) = true := by simp; omega
  have k0 : ¬ (m : Int) < 0 := by omega
  have k1 : ¬ (n : Int) < m := by omega
  have k2 : ¬ 4096 < (n : Int) := by omega
  have k3 : ((m : Int) == 0) = false := by rw [beq_eq_false_iff_ne]; omega
  have z0 : (⟨#[]⟩ : ByteArray).size ≤ 100000000 := Nat.zero_le _
  clear hC hv hl hr h1 hm h4 hva hok
  cases r3 with
  | false =>
    go_enter Try.func26, Try.ntmps26
    go_wp2_with (first
      | (go_at_call 59; have hc := digest_S S.out old true q1; go_fit hc; clear hc; rintro e w1 ⟨rfl, hh⟩; clear S; have S := Aside0.mk hh; clear hh)
      | (go_at_call 59; have hc := digest_S S.out now true q2; go_fit hc; clear hc; rintro e w1 ⟨rfl, hh⟩; clear S; have S := Aside0.mk hh; clear hh)
      | (go_at_call 62; have hc := valid_S S.out A c l HC.out; rw [HV.out] at hc; go_fit hc; clear hc; rintro e w3 ⟨rfl, hh⟩; clear S; have S := Aside0.mk hh; clear hh)
      | (go_at_call 28; have hc := SumF_S S.out ⟨#[]⟩ z0; go_fit hc; clear hc; rintro e w3 ⟨rfl, hh⟩; clear S; have S := Aside0.mk hh; clear hh)
      | (go_at_call 67; have hc := I2.out _ _ S.out; go_fit hc; clear hc; rintro e w4 ⟨rfl, hh⟩; clear S; have S := Aside0.mk hh; clear hh))
    go_ret
    exact ⟨by rw [HOK.out]; rfl, Sep.base (S.out.alloc _)⟩
  | true =>
    obtain ⟨q, hq⟩ : ∃ q, (r1.toList == old.toList && r2.toList == now.toList) = q := ⟨_, rfl⟩
    have HQ : Aside0 (ExtOk m n old now l = q) := ⟨by rw [HOK.out, Bool.true_and, hq]⟩
    by_cases e1 : r1.toList = old.toList
    · by_cases e2 : r2.toList = now.toList
      · obtain rfl : true = q := by rw [← hq]; simp [e1, e2]
        clear hq HOK
        go_enter Try.func26, Try.ntmps26
        go_wp2_with (first
          | (go_at_call 59; have hc := digest_S S.out old true q1; go_fit hc; clear hc; rintro e w1 ⟨rfl, hh⟩; clear S; have S := Aside0.mk hh; clear hh)
          | (go_at_call 59; have hc := digest_S S.out now true q2; go_fit hc; clear hc; rintro e w1 ⟨rfl, hh⟩; clear S; have S := Aside0.mk hh; clear hh)
          | (go_at_call 62; have hc := valid_S S.out A c l HC.out; rw [HV.out] at hc; go_fit hc; clear hc; rintro e w3 ⟨rfl, hh⟩; clear S; have S := Aside0.mk hh; clear hh)
          | (go_at_call 28; have hc := SumF_S S.out ⟨#[]⟩ z0; go_fit hc; clear hc; rintro e w3 ⟨rfl, hh⟩; clear S; have S := Aside0.mk hh; clear hh)
          | (go_at_call 67; have hc := I2.out _ _ S.out; go_fit hc; clear hc; rintro e w4 ⟨rfl, hh⟩; clear S; have S := Aside0.mk hh; clear hh))
        go_ret
        exact ⟨by rw [HQ.out]; rfl, Sep.base (S.out.alloc _)⟩
      · obtain rfl : false = q := by rw [← hq]; simp [e2]
        clear hq HOK
        go_enter Try.func26, Try.ntmps26
        go_wp2_with (first
          | (go_at_call 59; have hc := digest_S S.out old true q1; go_fit hc; clear hc; rintro e w1 ⟨rfl, hh⟩; clear S; have S := Aside0.mk hh; clear hh)
          | (go_at_call 59; have hc := digest_S S.out now true q2; go_fit hc; clear hc; rintro e w1 ⟨rfl, hh⟩; clear S; have S := Aside0.mk hh; clear hh)
          | (go_at_call 62; have hc := valid_S S.out A c l HC.out; rw [HV.out] at hc; go_fit hc; clear hc; rintro e w3 ⟨rfl, hh⟩; clear S; have S := Aside0.mk hh; clear hh)
          | (go_at_call 28; have hc := SumF_S S.out ⟨#[]⟩ z0; go_fit hc; clear hc; rintro e w3 ⟨rfl, hh⟩; clear S; have S := Aside0.mk hh; clear hh)
          | (go_at_call 67; have hc := I2.out _ _ S.out; go_fit hc; clear hc; rintro e w4 ⟨rfl, hh⟩; clear S; have S := Aside0.mk hh; clear hh))
        go_ret
        exact ⟨by rw [HQ.out]; rfl, Sep.base (S.out.alloc _)⟩
    · obtain rfl : false = q := by rw [← hq]; simp [e1]
      clear hq HOK
      go_enter Try.func26, Try.ntmps26
      go_wp2_with (first
        | (go_at_call 59; have hc := digest_S S.out old true q1; go_fit hc; clear hc; rintro e w1 ⟨rfl, hh⟩; clear S; have S := Aside0.mk hh; clear hh)
        | (go_at_call 59; have hc := digest_S S.out now true q2; go_fit hc; clear hc; rintro e w1 ⟨rfl, hh⟩; clear S; have S := Aside0.mk hh; clear hh)
        | (go_at_call 62; have hc := valid_S S.out A c l HC.out; rw [HV.out] at hc; go_fit hc; clear hc; rintro e w3 ⟨rfl, hh⟩; clear S; have S := Aside0.mk hh; clear hh)
        | (go_at_call 28; have hc := SumF_S S.out ⟨#[]⟩ z0; go_fit hc; clear hc; rintro e w3 ⟨rfl, hh⟩; clear S; have S := Aside0.mk hh; clear hh)
        | (go_at_call 67; have hc := I2.out _ _ S.out; go_fit hc; clear hc; rintro e w4 ⟨rfl, hh⟩; clear S; have S := Aside0.mk hh; clear hh))
      go_ret
      exact ⟨by rw [HQ.out]; rfl, Sep.base (S.out.alloc _)⟩
set_option maxHeartbeats 2000000 in
set_option maxRecDepth 100000 in
theorem Extends_zero (w : World) (A : Option Addr) (c : Nat) (now : ByteArray) (n : Nat) (l : List ByteArray) (hC : Kd.C Kd.string w A l.length l) (hcn : l.length ≤ c) (hv : validB l = true) (hr : now.size = 32) (h4 : n ≤ 4096) (hn : n = 0 → now = sumB ⟨#[]⟩) :
    Calls Try.prog 26 #[.int .i64 0, .int .i64 n, .string (sumB ⟨#[]⟩), .string now, .slice A l.length c] w fun e w' => e = .returned (.bool (decide (l.length = 0))) ∧ Below w.heap.size w w' := by
  have S := Aside0.mk (SepT.start w)
  have HC := Aside0.mk hC
  have HV := Aside0.mk hv
  have hs := sumB_size ⟨#[]⟩
  have q1 : (((sumB ⟨#[]⟩).size : Int) == 32) = true := by simp; omega
  have q2 : ((now.size : Int) == 32) = true := by simp; omega
  have k1 : ¬ (n : Int) < 0 := by omega
  have k2 : ¬ 4096 < (n : Int) := by omega
  have z0 : (⟨#[]⟩ : ByteArray).size ≤ 100000000 := Nat.zero_le _
  have I28 : Aside0 (∀ V ts, SepT w V ts → Calls Try.prog 28 #[.string ⟨#[]⟩] V fun e w' => e = .returned (.string (sumB ⟨#[]⟩)) ∧ SepT w w' ts) := ⟨fun V ts h => SumF_S h ⟨#[]⟩ z0⟩
  generalize sumB ⟨#[]⟩ = x at *
  clear hC hv hs
  have key : ∀ (hx : (n = 0 ∧ now = x) ∨ 0 < n) , True := fun _ => trivial
  clear key
  rcases Nat.eq_zero_or_pos l.length with hl | hl
  · have hl0 : ((l.length : Int) == 0) = true := by rw [hl]; rfl
    have HD : Aside0 (decide (l.length = 0) = true) := ⟨decide_eq_true hl⟩
    rcases Nat.eq_zero_or_pos n with h0 | h0
    · have hnx := hn h0
      subst hnx
      subst h0
      clear hn hr h4 hl
      go_enter Try.func26, Try.ntmps26
      go_wp2_with (first
        | (go_at_call 59; have hc := digest_S S.out now true q1; go_fit hc; clear hc; rintro e w1 ⟨rfl, hh⟩; clear S; have S := Aside0.mk hh; clear hh)
        | (go_at_call 62; have hc := valid_S S.out A c l HC.out; rw [HV.out] at hc; go_fit hc; clear hc; rintro e w3 ⟨rfl, hh⟩; clear S; have S := Aside0.mk hh; clear hh)
        | (go_at_call 28; have hc := I28.out _ _ S.out; go_fit hc; clear hc; rintro e w3 ⟨rfl, hh⟩; clear S; have S := Aside0.mk hh; clear hh))
      go_ret
      exact ⟨by rw [HD.out]; rfl, Sep.base S.out⟩
    · have h0i : (0 : Int) < n := by omega
      clear hn hr h4 hl h0
      go_enter Try.func26, Try.ntmps26
      go_wp2_with (first
        | (go_at_call 59; have hc := digest_S S.out x true q1; go_fit hc; clear hc; rintro e w1 ⟨rfl, hh⟩; clear S; have S := Aside0.mk hh; clear hh)
        | (go_at_call 59; have hc := digest_S S.out now true q2; go_fit hc; clear hc; rintro e w1 ⟨rfl, hh⟩; clear S; have S := Aside0.mk hh; clear hh)
        | (go_at_call 62; have hc := valid_S S.out A c l HC.out; rw [HV.out] at hc; go_fit hc; clear hc; rintro e w3 ⟨rfl, hh⟩; clear S; have S := Aside0.mk hh; clear hh)
        | (go_at_call 28; have hc := I28.out _ _ S.out; go_fit hc; clear hc; rintro e w3 ⟨rfl, hh⟩; clear S; have S := Aside0.mk hh; clear hh))
      go_ret
      exact ⟨by rw [HD.out]; rfl, Sep.base S.out⟩
  · have hl0 : ((l.length : Int) == 0) = false := by rw [beq_eq_false_iff_ne]; omega
    have HD : Aside0 (decide (l.length = 0) = false) := ⟨decide_eq_false (by omega)⟩
    clear hn hr h4 hl
    go_enter Try.func26, Try.ntmps26
    go_wp2_with (first
      | (go_at_call 59; have hc := digest_S S.out x true q1; go_fit hc; clear hc; rintro e w1 ⟨rfl, hh⟩; clear S; have S := Aside0.mk hh; clear hh)
      | (go_at_call 59; have hc := digest_S S.out now true q2; go_fit hc; clear hc; rintro e w1 ⟨rfl, hh⟩; clear S; have S := Aside0.mk hh; clear hh)
      | (go_at_call 62; have hc := valid_S S.out A c l HC.out; rw [HV.out] at hc; go_fit hc; clear hc; rintro e w3 ⟨rfl, hh⟩; clear S; have S := Aside0.mk hh; clear hh)
      | (go_at_call 28; have hc := I28.out _ _ S.out; go_fit hc; clear hc; rintro e w3 ⟨rfl, hh⟩; clear S; have S := Aside0.mk hh; clear hh))
    go_ret
    exact ⟨by rw [HD.out]; rfl, Sep.base S.out⟩
end Go.Proofs.Ytiafadmkkehdnaa.Sh
