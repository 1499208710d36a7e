/-
  The law Sha256Hexes, walked.
-/
import Derived.Test.YtiafadmkkehdnaaSo
import Derived.Test.YtiafadmkkehdnaaSp
import Derived.Test.YtiafadmkkehdnaaSq
namespace Go.Proofs.Ytiafadmkkehdnaa.Sh
open Go.RowKit Go.Great Go.Proofs.YtiafadmkkehdnaaW.PrintWords Go.Proofs.YtiafadmkkehdnaaW.PrintMore Go.Proofs.Ytiafadmkkehdnaa.Rq
set_option linter.unusedVariables false

theorem ParseP_S {w0 w : World} {ts : List Th} (S0 : SepT w0 w ts) (s : ByteArray) (hs : s.size ≤ 100000000) :
    Calls Try.prog 33 #[.string s] w fun e w' => e = .returned (.tuple #[.string (parB s), .int .i64 (parC s)]) ∧ SepT w0 w' ts := Parse_S S0 s hs
theorem RefParse_S {w0 w : World} {ts : List Th} (S0 : SepT w0 w ts) (s : ByteArray) :
    Calls Try.prog 34 #[.string s] w fun e w' => e = .returned (.tuple #[.string (parB s), .int .i64 (parC s)]) ∧ SepT w0 w' ts := by
  refine (modcertref01_Parse.calls 34 s (parB s) (parC s) w (parse_f s)).mono ?_
  rintro e w1 ⟨rfl, hb⟩
  exact ⟨rfl, S0.below hb⟩
attribute [local irreducible] Sep rowT boxT hashT sumB hexB parB parC
set_option maxHeartbeats 2000000 in
set_option maxRecDepth 100000 in
theorem Sha256Hexes_law (w : World) (s d : ByteArray) (hs : s.size ≤ 140737488351232) (hd : d.size ≤ 140737488351232) :
    Calls Try.prog 7 #[.string s, .string d] w fun e w' => e = .returned (.bool true) ∧ Below w.heap.size w w' := by
  have S := Aside0.mk (SepT.start w)
  obtain ⟨B, hB⟩ : ∃ B, parB d = B := ⟨_, rfl⟩
  obtain ⟨C, hC⟩ : ∃ C, parC d = C := ⟨_, rfl⟩
  obtain ⟨X, hX⟩ : ∃ X, hexB s = X := ⟨_, rfl⟩
  have HB := Aside0.mk hB
  have HC := Aside0.mk hC
  have HX := Aside0.mk hX
  clear hB hC hX
  by_cases h1 : (s.size : Int) ≤ 2000
  · by_cases h2 : (d.size : Int) ≤ 2000
    · have k1 : s.size ≤ 100000000 := by omega
      have k2 : d.size ≤ 100000000 := by omega
      have g1 : decide (2000 < (s.size : Int)) = false := by simp; omega
      have g2 : decide (2000 < (d.size : Int)) = false := by simp; omega
      clear hs hd
      go_enter Try.func7, Try.ntmps7
      go_wp2_with (first
        | (go_at_call 27; have hc := awake_S S.out; go_fit hc; clear hc; rintro e w1 ⟨rfl, hh⟩; clear S; have S := Aside0.mk hh; clear hh)
        | (go_at_call 33; have hc := ParseP_S S.out d k2; rw [HB.out, HC.out] at hc; go_fit hc; clear hc; rintro e w2 ⟨rfl, hh⟩; clear S; have S := Aside0.mk hh; clear hh)
        | (go_at_call 34; have hc := RefParse_S S.out d; rw [HB.out, HC.out] at hc; go_fit hc; clear hc; rintro e w3 ⟨rfl, hh⟩; clear S; have S := Aside0.mk hh; clear hh)
        | (go_at_call 35; have hc := Hex_S S.out s k1; rw [HX.out] at hc; go_fit hc; clear hc; rintro e w4 ⟨rfl, hh⟩; clear S; have S := Aside0.mk hh; clear hh)
        | (go_at_call 36; have hc := RefHex_S S.out s k1; rw [HX.out] at hc; go_fit hc; clear hc; rintro e w5 ⟨rfl, hh⟩; clear S; have S := Aside0.mk hh; clear hh))
      go_ret
      exact ⟨rfl, Sep.base S.out⟩
    · go_enter Try.func7, Try.ntmps7
      go_wp2_with (go_at_call 27; have hc := awake_S S.out; go_fit hc; clear hc; rintro e w1 ⟨rfl, hh⟩; clear S; have S := Aside0.mk hh; clear hh)
      go_ret
      exact ⟨rfl, Sep.base S.out⟩
  · go_enter Try.func7, Try.ntmps7
    go_wp2_with (go_at_call 27; have hc := awake_S S.out; go_fit hc; clear hc; rintro e w1 ⟨rfl, hh⟩; clear S; have S := Aside0.mk hh; clear hh)
    go_ret
    exact ⟨rfl, Sep.base S.out⟩
end Go.Proofs.Ytiafadmkkehdnaa.Sh
