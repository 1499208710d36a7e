/-
  merkle's hash, Leaf, Node, valid; slices.Clone.
-/
import Derived.Test.YtiafadmkkehdnaaZ1
namespace Go.Proofs.Ytiafadmkkehdnaa.Sh
open Go.RowKit Go.Great Go.Proofs.YtiafadmkkehdnaaW.PrintWords Go.Proofs.YtiafadmkkehdnaaW.PrintMore
set_option linter.unusedVariables false

theorem lt_of_cell {w : World} {g j : Nat} {v : Value} (h : w.cell? ⟨g, j, none⟩ = some v) : g < w.heap.size := by
  rcases Nat.lt_or_ge g w.heap.size with h1 | h1
  · exact h1
  · unfold World.cell? at h
    simp [Array.getElem?_eq_none h1] at h
theorem join_S {w0 w : World} {ts : List Th} (g n : Nat) (l : List ByteArray) (S0 : SepT w0 w (rowT Kd.string 9 (.slice (some ⟨g, 0, none⟩) n n) l :: ts)) (h0 : 0 < l.length) (hN : l.length ≤ 1000) (X : ByteArray) (hX : (⟨(Lib.join (l.map (·.data.toList)) ([] : List UInt8)).toArray⟩ : ByteArray) = X) (hs : X.size ≤ 100000000) :
    Calls Try.prog 44 #[.slice (some ⟨g, 0, none⟩) n n, .string ⟨#[]⟩] w fun e w' => e = .returned (.string X) ∧ SepT w0 w' ts := by
  obtain ⟨A, c, e, hc, hC⟩ := SepT.row S0
  injection e with e1 e2 e3
  subst e1
  subst e2
  subst e3
  have hcells : ∀ (j : Nat) x, l[j]? = some x → w.cell? ⟨g, 0 + j, none⟩ = some (.string x) := fun j x hj => by
    have hlt := (List.getElem?_eq_some_iff.1 hj).1
    obtain ⟨ad, e, hcell⟩ := str_at hC (j : Int) (by omega) (by omega)
    injection e with e
    subst e
    rw [Int.toNat_natCast, add_plain] at hcell
    rw [Nat.zero_add, hcell]
    simp [List.getD, hj]
  have hg : g < w.heap.size := lt_of_cell (hcells 0 l[0] (by simp))
  have hlen : (Lib.join (l.map (·.data.toList)) ([] : List UInt8)).length ≤ 140737488355328 := by
    have : X.size = (Lib.join (l.map (·.data.toList)) ([] : List UInt8)).length := by rw [← hX]; rfl
    omega
  refine (Try.strings_Join g 0 l.length l ⟨#[]⟩ w hcells hg (by omega) (Nat.le_refl _) hlen).mono ?_
  rintro e w1 ⟨rfl, hb⟩
  refine ⟨?_, S0.drop.below hb⟩
  rw [← hX]
attribute [local irreducible] Sep rowT boxT hashT sumB
set_option maxRecDepth 100000 in
theorem hash_S {w0 w : World} {ts : List Th} (kind : ByteArray) (g n : Nat) (l : List ByteArray) (S0 : SepT w0 w (rowT Kd.string 9 (.slice (some ⟨g, 0, none⟩) n n) l :: ts)) (h0 : 0 < l.length) (hN : l.length ≤ 1000) (X : ByteArray) (hX : (⟨(Lib.join (l.map (·.data.toList)) ([] : List UInt8)).toArray⟩ : ByteArray) = X) (hs : kind.size + X.size ≤ 100000000) :
    Calls Try.prog 82 #[.string kind, .slice (some ⟨g, 0, none⟩) n n] w fun e w' => e = .returned (.string (sumB (kind ++ X))) ∧ SepT w0 w' ts := by
  have S := Aside0.mk S0
  have hXs : X.size ≤ 100000000 := by omega
  have hks : (kind ++ X).size ≤ 100000000 := by rw [ByteArray.size_append]; exact hs
  have r1 : ∀ V : World, (Op.stringOp .add kind X).run Try.prog V = .ok (.string (kind ++ X)) V := fun V => run_string_add_sum V _ _ (by omega)
  have HX := Aside0.mk hX
  have H0 := Aside0.mk h0
  have HN := Aside0.mk hN
  clear S0 hs hX h0 hN
  go_enter Try.func82, Try.ntmps82
  go_wp2_with (first
    | (go_at_call 44; have hc := join_S g n l S.out H0.out HN.out X HX.out hXs; go_fit hc; clear hc; rintro e w1 ⟨rfl, hh⟩; clear S; have S := Aside0.mk hh; clear hh)
    | (go_at_call 28; have hc := SumF_S S.out (kind ++ X) hks; go_fit hc; clear hc; rintro e w2 ⟨rfl, hh⟩; clear S; have S := Aside0.mk hh; clear hh))
  go_ret
  exact ⟨rfl, S.out⟩
theorem join1 (a : ByteArray) : (⟨(Lib.join ([a].map (·.data.toList)) ([] : List UInt8)).toArray⟩ : ByteArray) = a := by
  apply ByteArray.ext
  simp [Lib.join, List.intercalate]
theorem join2 (a b : ByteArray) : (⟨(Lib.join ([a, b].map (·.data.toList)) ([] : List UInt8)).toArray⟩ : ByteArray) = a ++ b := by
  apply ByteArray.ext
  rw [ByteArray.data_append]
  simp [Lib.join, List.intercalate]
def leafB (a : ByteArray) : ByteArray := sumB ((⟨#[0]⟩ : ByteArray) ++ a)
def nodeB (a b : ByteArray) : ByteArray := sumB ((⟨#[1]⟩ : ByteArray) ++ (a ++ b))
set_option maxRecDepth 100000 in
theorem Leaf_S {w0 w : World} {ts : List Th} (S0 : SepT w0 w ts) (a : ByteArray) (ha : a.size ≤ 10000000) :
    Calls Try.prog 47 #[.string a] w fun e w' => e = .returned (.string (leafB a)) ∧ SepT w0 w' ts := by
  have S := Aside0.mk S0
  have h1 : [a].length ≤ 1000000000 := by simp
  have h2 : 0 < [a].length := by simp
  have h3 : [a].length ≤ 1000 := by simp
  have h4 : (⟨#[0]⟩ : ByteArray).size + a.size ≤ 100000000 := by have : (⟨#[0]⟩ : ByteArray).size = 1 := rfl; omega
  clear S0
  go_enter Try.func47, Try.ntmps47
  go_wp2_with (go_at_call 82; have hc := hash_S ⟨#[0]⟩ w.heap.size 1 [a] (SepT.lit (enc := Value.string) (h1 := fun _ => rfl) S.out 9 [a] h1) h2 h3 a (join1 a) h4; go_fit hc; clear hc; rintro e w1 ⟨rfl, hh⟩; clear S; have S := Aside0.mk hh; clear hh)
  go_ret
  exact ⟨rfl, S.out⟩
end Go.Proofs.Ytiafadmkkehdnaa.Sh
namespace Go.Proofs.Ytiafadmkkehdnaa.Sh
open Go.RowKit Go.Great Go.Proofs.YtiafadmkkehdnaaW.PrintWords Go.Proofs.YtiafadmkkehdnaaW.PrintMore
set_option linter.unusedVariables false
attribute [local irreducible] Sep rowT boxT hashT sumB
set_option maxRecDepth 100000 in
theorem digest_S {w0 w : World} {ts : List Th} (S0 : SepT w0 w ts) (s : ByteArray) (q : Bool) (hq : ((s.size : Int) == 32) = q) :
    Calls Try.prog 59 #[.string s] w fun e w' => e = .returned (.bool q) ∧ SepT w0 w' ts := by
  have S := Aside0.mk S0
  clear S0
  have HQ := Aside0.mk hq
  go_enter Try.func59, Try.ntmps59
  go_wp2
  go_ret
  exact ⟨by first | rfl | (rw [← HQ.out]; rfl), S.out⟩
def nodeG (a b : ByteArray) : Option ByteArray := if a.size = 32 ∧ b.size = 32 then some (nodeB a b) else some ⟨#[]⟩
set_option maxRecDepth 100000 in
theorem Node_S {w0 w : World} {ts : List Th} (S0 : SepT w0 w ts) (a b : ByteArray) (ha : a.size = 32) (hb : b.size = 32) :
    Calls Try.prog 49 #[.string a, .string b] w fun e w' => e = .returned (.string (nodeB a b)) ∧ SepT w0 w' ts := by
  have S := Aside0.mk S0
  have h1 : [a, b].length ≤ 1000000000 := by simp
  have h2 : 0 < [a, b].length := by simp
  have h3 : [a, b].length ≤ 1000 := by simp
  have h4 : (⟨#[1]⟩ : ByteArray).size + (a ++ b).size ≤ 100000000 := by rw [ByteArray.size_append]; have : (⟨#[1]⟩ : ByteArray).size = 1 := rfl; omega
  have qa : ((a.size : Int) == 32) = true := by simp; omega
  have qb : ((b.size : Int) == 32) = true := by simp; omega
  clear S0 ha hb
  go_enter Try.func49, Try.ntmps49
  go_wp2_with (first
    | (go_at_call 59; have hc := digest_S S.out a true qa; go_fit hc; clear hc; rintro e w1 ⟨rfl, hh⟩; clear S; have S := Aside0.mk hh; clear hh)
    | (go_at_call 59; have hc := digest_S S.out b true qb; go_fit hc; clear hc; rintro e w2 ⟨rfl, hh⟩; clear S; have S := Aside0.mk hh; clear hh)
    | (go_at_call 82; have hc := hash_S ⟨#[1]⟩ _ 2 [a, b] (SepT.lit (enc := Value.string) (h1 := fun _ => rfl) S.out 9 [a, b] h1) h2 h3 (a ++ b) (join2 a b) h4; go_fit hc; clear hc; rintro e w3 ⟨rfl, hh⟩; clear S; have S := Aside0.mk hh; clear hh))
  go_ret
  exact ⟨rfl, S.out⟩
set_option maxRecDepth 100000 in
theorem Node_bad {w0 w : World} {ts : List Th} (S0 : SepT w0 w ts) (a b : ByteArray) (h : ¬ (a.size = 32 ∧ b.size = 32)) :
    Calls Try.prog 49 #[.string a, .string b] w fun e w' => e = .returned (.string ⟨#[]⟩) ∧ SepT w0 w' ts := by
  have S := Aside0.mk S0
  clear S0
  by_cases ha : a.size = 32
  · have qa : ((a.size : Int) == 32) = true := by simp; omega
    have qb : ((b.size : Int) == 32) = false := by simp; omega
    clear ha h
    go_enter Try.func49, Try.ntmps49
    go_wp2_with (first
      | (go_at_call 59; have hc := digest_S S.out a true qa; go_fit hc; clear hc; rintro e w1 ⟨rfl, hh⟩; clear S; have S := Aside0.mk hh; clear hh)
      | (go_at_call 59; have hc := digest_S S.out b false qb; go_fit hc; clear hc; rintro e w2 ⟨rfl, hh⟩; clear S; have S := Aside0.mk hh; clear hh))
    go_ret
    exact ⟨rfl, S.out⟩
  · have qa : ((a.size : Int) == 32) = false := by simp; omega
    clear ha h
    go_enter Try.func49, Try.ntmps49
    go_wp2_with (go_at_call 59; have hc := digest_S S.out a false qa; go_fit hc; clear hc; rintro e w1 ⟨rfl, hh⟩; clear S; have S := Aside0.mk hh; clear hh)
    go_ret
    exact ⟨rfl, S.out⟩
/-! The forms that the print is given. -/
theorem nodeG_calls (a0 a1 r : ByteArray) (w : World) (h : nodeG a0 a1 = some r) : Calls Try.prog 49 #[.string a0, .string a1] w fun e w' => e = .returned (.string r) ∧ Below w.heap.size w w' := by
  unfold nodeG at h
  split at h
  · rename_i hh
    obtain rfl := Option.some.inj h
    exact (Node_S (SepT.start w) a0 a1 hh.1 hh.2).mono (fun _ _ h => ⟨h.1, Sep.base h.2⟩)
  · rename_i hh
    obtain rfl := Option.some.inj h
    exact (Node_bad (SepT.start w) a0 a1 hh).mono (fun _ _ h => ⟨h.1, Sep.base h.2⟩)
def leafG (a : ByteArray) : Option ByteArray := if a.size ≤ 10000000 then some (leafB a) else none
theorem leafG_calls (a0 r : ByteArray) (w : World) (h : leafG a0 = some r) : Calls Try.prog 47 #[.string a0] w fun e w' => e = .returned (.string r) ∧ Below w.heap.size w w' := by
  unfold leafG at h
  split at h
  · rename_i hh
    obtain rfl := Option.some.inj h
    exact (Leaf_S (SepT.start w) a0 hh).mono (fun _ _ h => ⟨h.1, Sep.base h.2⟩)
  · cases h
def sumG (a : ByteArray) : Option ByteArray := if a.size ≤ 100000000 then some (sumB a) else none
theorem sumG_calls (a0 r : ByteArray) (w : World) (h : sumG a0 = some r) : Calls Try.prog 28 #[.string a0] w fun e w' => e = .returned (.string r) ∧ Below w.heap.size w w' := by
  unfold sumG at h
  split at h
  · rename_i hh
    obtain rfl := Option.some.inj h
    exact (SumF_S (SepT.start w) a0 hh).mono (fun _ _ h => ⟨h.1, Sep.base h.2⟩)
  · cases h
theorem awake_calls (r : Bool) (w : World) (h : some true = some r) : Calls Try.prog 27 #[] w fun e w' => e = .returned (.bool r) ∧ Below w.heap.size w w' := by
  obtain rfl := Option.some.inj h
  exact (awake_S (SepT.start w)).mono (fun _ _ h => ⟨h.1, Sep.base h.2⟩)
end Go.Proofs.Ytiafadmkkehdnaa.Sh
namespace Go.Proofs.Ytiafadmkkehdnaa.Sh
open Go.RowKit Go.Great Go.Proofs.YtiafadmkkehdnaaW.PrintWords Go.Proofs.YtiafadmkkehdnaaW.PrintMore
set_option linter.unusedVariables false

/-- No digest. -/
def badD (s : ByteArray) : Bool := !((s.size : Int) == 32)
def FoundD (w0 : World) (ts : List Th) (l : List ByteArray) : Ending → World → Prop := fun e w' => ∃ i : Int, e = .returned (.int .i64 i) ∧ decide (0 ≤ i) = l.any badD ∧ SepT w0 w' ts
attribute [local irreducible] Sep rowT boxT hashT sumB badD
set_option maxRecDepth 100000 in
theorem notD_S {w0 w : World} {ts : List Th} (S0 : SepT w0 w ts) (s : ByteArray) :
    Calls Try.prog 89 #[.string s] w fun e w' => e = .returned (.bool (badD s)) ∧ SepT w0 w' ts := by
  have S := Aside0.mk S0
  obtain ⟨q, hq⟩ : ∃ q, ((s.size : Int) == 32) = q := ⟨_, rfl⟩
  have hb : badD s = !q := by unfold badD; rw [hq]
  have HB := Aside0.mk hb
  clear S0 hb
  have HQ := Aside0.mk hq
  clear hq
  go_enter Try.func89, Try.ntmps89
  go_wp2_with (go_at_call 59; have hc := digest_S S.out s q HQ.out; go_fit hc; clear hc; rintro e w1 ⟨rfl, hh⟩; clear S; have S := Aside0.mk hh; clear hh)
  go_ret
  exact ⟨by rw [HB.out]; rfl, S.out⟩
set_option maxHeartbeats 1000000 in
set_option maxRecDepth 100000 in
theorem IndexD_S {w0 w : World} {ts : List Th} (h : SepT w0 w ts) (A : Option Addr) (c : Nat) (l : List ByteArray) (hC : Kd.C Kd.string w0 A l.length l) (hl : l.length < 1000000) :
    Calls Try.prog 107 #[.slice A l.length c, .func (.func 89) #[] #[]] w (FoundD w0 ts l) := by
  have S := Aside0.mk h
  have HC := Aside0.mk hC
  clear h hC
  go_enter Try.func107, Try.ntmps107
  go_wp2
  go_loopw [8] (fun v8 wr => ∃ k : Nat, k ≤ l.length ∧ v8 = .int .i64 k ∧ Aside0 ((l.take k).any badD = false) ∧ Aside0 (SepT w0 wr ts)) (fun v8 _ => l.length - (intOf v8).toNat)
  case atStart => exact ⟨0, Nat.zero_le _, rfl, ⟨rfl⟩, S⟩
  case round =>
    clear S
    obtain ⟨k, hk, rfl, HT, S⟩ := hrel
    by_cases hlt : k < l.length
    · have hlt2 : (k : Int) < l.length := by omega
      obtain ⟨ad, hAd, d0⟩ := str_at HC.out k (by omega) (by omega)
      subst hAd
      simp only [Int.toNat_natCast] at d0
      have hts : l.take (k + 1) = l.take k ++ [l.getD k ⟨#[]⟩] := by rw [List.take_succ_eq_append_getElem hlt]; simp [List.getD, hlt]
      have hmem : l.getD k ⟨#[]⟩ ∈ l := by simp [List.getD, hlt]
      generalize l.getD k ⟨#[]⟩ = y at hts hmem d0
      have hB := Sep.base S.out
      replace d0 := pw_cell_below hB d0
      have HTS := Aside0.mk hts
      have HM := Aside0.mk hmem
      clear hts hmem hB
      by_cases hb : badD y = true
      · have HB := Aside0.mk hb
        clear hb
        go_wp2_with (go_at_call 89; have hc := notD_S S.out y; rw [HB.out] at hc; go_fit hc; clear hc; rintro e w1 ⟨rfl, hs⟩; clear S; have S := Aside0.mk hs; clear hs)
        go_ret
        exact ⟨k, rfl, by rw [List.any_eq_true.2 ⟨_, HM.out, HB.out⟩]; simp, S.out⟩
      · have HB := Aside0.mk (show badD y = false by simpa using hb)
        clear hb
        go_wp2_with (go_at_call 89; have hc := notD_S S.out y; rw [HB.out] at hc; go_fit hc; clear hc; rintro e w1 ⟨rfl, hs⟩; clear S; have S := Aside0.mk hs; clear hs)
        clear d0
        go_roundw
        case rel => exact ⟨k + 1, by omega, by go_num, ⟨by rw [HTS.out, List.any_append, HT.out]; simp [HB.out]⟩, S⟩
        case measure => simp [intOf]; omega
    · obtain rfl : k = l.length := by omega
      go_wp2
      go_ret
      exact ⟨-1, rfl, by have := HT.out; rw [List.take_length] at this; rw [this]; rfl, S.out⟩
set_option maxRecDepth 100000 in
theorem ContainsD_S {w0 w : World} {ts : List Th} (h : SepT w0 w ts) (A : Option Addr) (c : Nat) (l : List ByteArray) (hC : Kd.C Kd.string w0 A l.length l) (hl : l.length < 1000000) :
    Calls Try.prog 88 #[.slice A l.length c, .func (.func 89) #[] #[]] w fun e w' => e = .returned (.bool (l.any badD)) ∧ SepT w0 w' ts := by
  have S := Aside0.mk h
  have HC := Aside0.mk hC
  clear h hC
  go_enter Try.func88, Try.ntmps88
  go_wp2_with (go_at_call 107; have hc := IndexD_S S.out A c l HC.out hl; go_fit hc; clear hc; rintro e w1 ⟨i, rfl, hi, hs⟩; clear S; have S := Aside0.mk hs; have HI := Aside0.mk hi; clear hi hs)
  go_ret
  exact ⟨by rw [← HI.out]; rfl, S.out⟩
def validB (l : List ByteArray) : Bool := decide (l.length ≤ 4096) && !(l.any badD)
set_option maxRecDepth 100000 in
theorem valid_S {w0 w : World} {ts : List Th} (h : SepT w0 w ts) (A : Option Addr) (c : Nat) (l : List ByteArray) (hC : Kd.C Kd.string w0 A l.length l) :
    Calls Try.prog 62 #[.slice A l.length c] w fun e w' => e = .returned (.bool (validB l)) ∧ SepT w0 w' ts := by
  have S := Aside0.mk h
  have HC := Aside0.mk hC
  have hv : validB l = (decide (l.length ≤ 4096) && !(l.any badD)) := rfl
  clear h hC
  by_cases h1 : l.length ≤ 4096
  · have h2 : (l.length : Int) ≤ 4096 := by omega
    have hl : l.length < 1000000 := by omega
    obtain ⟨q, hq⟩ : ∃ q, l.any badD = q := ⟨_, rfl⟩
    have HV : Aside0 (validB l = !q) := ⟨by rw [hv, hq, decide_eq_true h1]; rfl⟩
    have HQ := Aside0.mk hq
    clear hv hq
    go_enter Try.func62, Try.ntmps62
    go_wp2_with (go_at_call 88; have hc := ContainsD_S S.out A c l HC.out hl; rw [HQ.out] at hc; go_fit hc; clear hc; rintro e w1 ⟨rfl, hs⟩; clear S; have S := Aside0.mk hs; clear hs)
    go_ret
    exact ⟨by rw [HV.out]; rfl, S.out⟩
  · have h2 : ¬ (l.length : Int) ≤ 4096 := by omega
    have HV : Aside0 (validB l = false) := ⟨by rw [hv, decide_eq_false h1]; rfl⟩
    clear hv
    go_enter Try.func62, Try.ntmps62
    go_wp2
    go_ret
    exact ⟨by rw [HV.out]; rfl, S.out⟩
def validG (l : List ByteArray) : Option Bool := some (validB l)
theorem validG_calls (A0 : Option Addr) (c0 : Nat) (l0 : List ByteArray) (r : Bool) (w : World) (hr0 : Kd.C Kd.string w A0 l0.length l0) (hc0 : l0.length ≤ c0) (h : validG l0 = some r) :
    Calls Try.prog 62 #[.slice A0 l0.length c0] w fun e w' => e = .returned (.bool r) ∧ Below w.heap.size w w' := by
  obtain rfl := Option.some.inj h
  exact (valid_S (SepT.start w) A0 c0 l0 hr0).mono (fun _ _ h => ⟨h.1, Sep.base h.2⟩)
end Go.Proofs.Ytiafadmkkehdnaa.Sh
namespace Go.Proofs.Ytiafadmkkehdnaa.Sh
open Go.RowKit Go.Great Go.Proofs.YtiafadmkkehdnaaW.PrintWords Go.Proofs.YtiafadmkkehdnaaW.PrintMore
set_option linter.unusedVariables false
def cloneG (l : List ByteArray) : Option (List ByteArray) := if l.length * 16 ≤ 140737488355328 then some l else none
theorem spot_none {w : World} {ad : Addr} {v : Value} (h : w.cell? ad = some v) : ad = ⟨ad.block, ad.off, none⟩ := by
  obtain ⟨b, o, s⟩ := ad
  cases s with
  | none => rfl
  | some k =>
    unfold World.cell? at h
    split at h <;> simp at h
theorem cloneG_calls (A0 : Option Addr) (c0 : Nat) (l0 : List ByteArray) (r : List ByteArray) (w : World) (hr0 : Kd.C Kd.string w A0 l0.length l0) (hc0 : l0.length ≤ c0) (h : cloneG l0 = some r) :
    Calls Try.prog 56 #[.slice A0 l0.length c0] w fun e w' => ∃ v0_ : Value, e = .returned (v0_) ∧ Kd.R Kd.string 9 w' w.heap.size (fun _ => True) v0_ r ∧ Below w.heap.size w w' := by
  unfold cloneG at h
  split at h
  · rename_i hb
    obtain rfl := Option.some.inj h
    cases A0 with
    | none =>
      have hl : l0 = [] := by
        rcases Nat.eq_zero_or_pos l0.length with h0 | h0
        · exact List.eq_nil_of_length_eq_zero h0
        · obtain ⟨ad, e, _⟩ := str_at hr0 0 (by omega) (by omega)
          cases e
      subst hl
      refine (Try.slices_Clone_string_nil _ c0 w).mono ?_
      rintro e w1 ⟨rfl, rfl⟩
      exact ⟨_, rfl, Kd.R_nil Kd.string 9 _ _ (fun _ => True), Below.refl _ _⟩
    | some a =>
      rcases Nat.eq_zero_or_pos l0.length with h0 | h0
      · have hl := List.eq_nil_of_length_eq_zero h0
        subst hl
        refine (Try.slices_Clone_string_zero a c0 w).mono ?_
        rintro e w1 ⟨v, rfl, ho, _, hbl⟩
        exact ⟨v, rfl, Kd.R_of_own (by simpa [encs] using ho) (fun _ _ => trivial), hbl⟩
      · obtain ⟨ad, e, hc⟩ := str_at hr0 0 (by omega) (by omega)
        injection e with e
        subst e
        have hs : a = ⟨a.block, a.off, none⟩ := spot_none (ad := a) (by simpa [Addr.add] using hc)
        have hcells : ∀ j, j < l0.length → w.cell? ⟨a.block, a.off + j, none⟩ = some (.string (l0.getD j ByteArray.empty)) := fun j hj => by
          obtain ⟨ad, e, hc2⟩ := str_at hr0 (j : Int) (by omega) (by omega)
          injection e with e
          subst e
          rw [Int.toNat_natCast] at hc2
          have e2 : a.add j = ⟨a.block, a.off + j, none⟩ := by
            generalize a.block = ab at hs
            generalize a.off = ao at hs
            subst hs
            exact Addr.add_lit _ _ _
          rw [← e2, hc2]
          rfl
        have hcl := Try.slices_Clone_string a.block a.off l0.length c0 l0 w (Nat.le_refl _) hb hcells
        rw [← hs] at hcl
        refine hcl.mono ?_
        rintro e w1 ⟨v, rfl, ho, _, hbl⟩
        rw [List.take_length] at ho
        exact ⟨v, rfl, Kd.R_of_own ho (fun _ _ => trivial), hbl⟩
  · cases h
end Go.Proofs.Ytiafadmkkehdnaa.Sh
