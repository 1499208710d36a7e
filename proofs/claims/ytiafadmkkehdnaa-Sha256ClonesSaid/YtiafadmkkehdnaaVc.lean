/-
  The law Sha256Clones, walked.
-/
import Derived.Test.YtiafadmkkehdnaaSo
namespace Go.Proofs.Ytiafadmkkehdnaa.Sh
open Go.RowKit Go.Great Go.Proofs.YtiafadmkkehdnaaW.PrintWords Go.Proofs.YtiafadmkkehdnaaW.PrintMore
set_option linter.unusedVariables false

theorem Few3_S {w0 w : World} {ts : List Th} {v : Value} (s a b : ByteArray) (S0 : SepT w0 w (rowT Kd.string 9 v [s, a, b] :: ts)) (c : Nat) (A : Option Addr) (hv : v = .slice A 3 3) (hs : s.size ≤ 140737488351232) (ha : a.size ≤ 140737488351232) (hb : b.size ≤ 140737488351232) (q : Bool) (hq : decide (((3 + s.size + a.size + b.size : Nat) : Int) ≤ 2000) = q) :
    Calls Try.prog 30 #[v, .int .i64 2000] w fun e w' => e = .returned (.bool q) ∧ SepT w0 w' ts := by
  obtain ⟨A', c', e, hc, hC⟩ := SepT.row S0
  subst hv
  injection e with e1 e2 e3
  subst e1
  have h := Few_S S0.drop A 3 [s, a, b] hC (Nat.le_refl 3) (by simp [tot]; omega)
  have e : decide ((([s, a, b].length + tot [s, a, b] : Nat) : Int) ≤ 2000) = q := by
    rw [← hq]
    have : [s, a, b].length + tot [s, a, b] = 3 + s.size + a.size + b.size := by simp [tot]; omega
    rw [this]
  rw [e] at h
  exact h
attribute [local irreducible] Sep rowT boxT hashT sumB
set_option maxHeartbeats 2000000 in
set_option maxRecDepth 100000 in
theorem Sha256Clones_core (w0 w : World) (s a b : ByteArray) (hs : s.size ≤ 140737488351232) (ha : a.size ≤ 140737488351232) (hb : b.size ≤ 140737488351232) :
    Calls Try.prog 9 #[.string s, .string a, .string b] w fun e w' => e = .returned (.bool true) ∧ Below w.heap.size w w' := by
  have S := Aside0.mk (SepT.start w)
  obtain ⟨q, hq⟩ : ∃ q, decide (((3 + s.size + a.size + b.size : Nat) : Int) ≤ 2000) = q := ⟨_, rfl⟩
  have k3 : [s, a, b].length ≤ 1000000000 := by simp
  have HF : Aside0 (∀ (V : World) (ts : List Th) (b' : Nat), SepT w V (rowT Kd.string 9 (.slice (some ⟨b', 0, none⟩) 3 3) [s, a, b] :: ts) → Calls Try.prog 30 #[.slice (some ⟨b', 0, none⟩) 3 3, .int .i64 2000] V fun e w' => e = .returned (.bool q) ∧ SepT w w' ts) := ⟨fun V ts b' h => Few3_S s a b h 3 _ rfl hs ha hb q hq⟩
  cases q with
  | false =>
    clear hq
    go_enter Try.func9, Try.ntmps9
    go_wp2_with (first
      | (go_at_call 27; have hc := awake_S S.out; go_fit hc; clear hc; rintro e w1 ⟨rfl, hh⟩; clear S; have S := Aside0.mk hh; clear hh)
      | (go_at_call 30; have hc := HF.out _ _ _ (SepT.lit (enc := Value.string) (h1 := fun _ => rfl) S.out 9 [s, a, b] k3); go_fit hc; clear hc; rintro e w2 ⟨rfl, hh⟩; clear S; have S := Aside0.mk hh; clear hh))
    go_ret
    exact ⟨rfl, Sep.base S.out⟩
  | true =>
    have hq2 : ((3 + s.size + a.size + b.size : Nat) : Int) ≤ 2000 := of_decide_eq_true hq
    clear hq
    have k4 : (⟨#[]⟩ : ByteArray).size + s.size ≤ 140737488351232 := by show 0 + _ ≤ _; omega
    have k5 : s.size + a.size ≤ 140737488351232 := by omega
    have k6 : s.size + b.size ≤ 140737488351232 := by omega
    have k7 : s.size ≤ 100000000 := by omega
    have k8 : (s ++ a).size ≤ 100000000 := by rw [ByteArray.size_append]; omega
    have k9 : (s ++ b).size ≤ 100000000 := by rw [ByteArray.size_append]; omega
    have r1 : ∀ V : World, (Op.stringOp .add s a).run Try.prog V = .ok (.string (s ++ a)) V := fun V => run_string_add_sum V _ _ (by omega)
    have r2 : ∀ V : World, (Op.stringOp .add s b).run Try.prog V = .ok (.string (s ++ b)) V := fun V => run_string_add_sum V _ _ (by omega)
    clear hq2 hs ha hb
    go_enter Try.func9, Try.ntmps9
    go_wp2_with (first
      | (go_at_call 27; have hc := awake_S S.out; go_fit hc; clear hc; rintro e w1 ⟨rfl, hh⟩; clear S; have S := Aside0.mk hh; clear hh)
      | (go_at_call 30; have hc := HF.out _ _ _ (SepT.lit (enc := Value.string) (h1 := fun _ => rfl) S.out 9 [s, a, b] k3); go_fit hc; clear hc; rintro e w2 ⟨rfl, hh⟩; clear S; have S := Aside0.mk hh; clear hh)
      | (go_at_call 37; have hc := New_S S.out; go_fit hc; clear hc; rintro e w3 ⟨g, rfl, hh⟩; clear S; have S := Aside0.mk hh; clear hh)
      | (go_at_call 38; have hc := Write_S S.out s k4; rw [empty_append] at hc; go_fit hc; clear hc; rintro e w4 ⟨rfl, hh⟩; clear S; have S := Aside0.mk hh; clear hh)
      | (go_at_call 39; have hc := Clone_S S.out (b := s) m0; go_fit hc; clear hc; rintro e w5 ⟨gc, rfl, hh⟩; clear S; have S := Aside0.mk hh; clear hh)
      | (go_at_call 40; have hc := Sum_S S.out (b := s) m0 k7; go_fit hc; clear hc; rintro e w6 ⟨rfl, hh⟩; clear S; have S := Aside0.mk hh; clear hh)
      | (go_at_call 40; have hc := Sum_S S.out (b := s) m1 k7; go_fit hc; clear hc; rintro e w7 ⟨rfl, hh⟩; clear S; have S := Aside0.mk hh; clear hh)
      | (go_at_call 38; have hc := Write_S S.out.swap a k5; go_fit hc; clear hc; rintro e w8 ⟨rfl, hh⟩; clear S; have S := Aside0.mk hh; clear hh)
      | (go_at_call 38; have hc := Write_S S.out.swap b k6; go_fit hc; clear hc; rintro e w9 ⟨rfl, hh⟩; clear S; have S := Aside0.mk hh; clear hh)
      | (go_at_call 40; have hc := Sum_S S.out (b := s ++ a) m1 k8; go_fit hc; clear hc; rintro e w10 ⟨rfl, hh⟩; clear S; have S := Aside0.mk hh; clear hh)
      | (go_at_call 28; have hc := SumF_S S.out (s ++ a) k8; go_fit hc; clear hc; rintro e w11 ⟨rfl, hh⟩; clear S; have S := Aside0.mk hh; clear hh)
      | (go_at_call 40; have hc := Sum_S S.out (b := s ++ b) m0 k9; go_fit hc; clear hc; rintro e w12 ⟨rfl, hh⟩; clear S; have S := Aside0.mk hh; clear hh)
      | (go_at_call 28; have hc := SumF_S S.out (s ++ b) k9; go_fit hc; clear hc; rintro e w13 ⟨rfl, hh⟩; clear S; have S := Aside0.mk hh; clear hh))
    go_ret
    exact ⟨rfl, Sep.base S.out⟩
theorem Sha256Clones_law (w : World) (s a b : ByteArray) (hs : s.size ≤ 140737488351232) (ha : a.size ≤ 140737488351232) (hb : b.size ≤ 140737488351232) :
    Calls Try.prog 9 #[.string s, .string a, .string b] w fun e w' => e = .returned (.bool true) ∧ Below w.heap.size w w' := Sha256Clones_core w w s a b hs ha hb
end Go.Proofs.Ytiafadmkkehdnaa.Sh
