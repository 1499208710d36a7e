/-
  The law Sha256Sums, walked.
-/
import Derived.Test.YtiafadmkkehdnaaSo
import Derived.Test.YtiafadmkkehdnaaTc
namespace Go.Proofs.Ytiafadmkkehdnaa.Sh
open Go.RowKit Go.Great Go.Proofs.YtiafadmkkehdnaaW.PrintWords Go.Proofs.YtiafadmkkehdnaaW.PrintMore
set_option linter.unusedVariables false
attribute [local irreducible] Sep rowT boxT hashT sumB
set_option maxHeartbeats 2000000 in
set_option maxRecDepth 100000 in
theorem Sha256Sums_law (w : World) (s : ByteArray) (hs : s.size ≤ 140737488351232) :
    Calls Try.prog 5 #[.string s] w fun e w' => e = .returned (.bool true) ∧ Below w.heap.size w w' := by
  have S := Aside0.mk (SepT.start w)
  by_cases h1 : (s.size : Int) ≤ 2000
  · have k1 : s.size ≤ 100000000 := by omega
    have g1 : decide (2000 < (s.size : Int)) = false := by simp; omega
    clear hs
    go_enter Try.func5, Try.ntmps5
    go_wp2_with (first
      | (go_at_call 27; have hc := awake_S S.out; go_fit hc; clear hc; rintro e w1 ⟨rfl, hh⟩; clear S; have S := Aside0.mk hh; clear hh)
      | (go_at_call 28; have hc := SumF_S S.out s k1; go_fit hc; clear hc; rintro e w2 ⟨rfl, hh⟩; clear S; have S := Aside0.mk hh; clear hh)
      | (go_at_call 29; have hc := RefSum_S S.out s k1; go_fit hc; clear hc; rintro e w3 ⟨rfl, hh⟩; clear S; have S := Aside0.mk hh; clear hh))
    go_ret
    exact ⟨rfl, Sep.base S.out⟩
  · go_enter Try.func5, Try.ntmps5
    go_wp2_with (go_at_call 27; have hc := awake_S S.out; go_fit hc; clear hc; rintro e w1 ⟨rfl, hh⟩; clear S; have S := Aside0.mk hh; clear hh)
    go_ret
    exact ⟨rfl, Sep.base S.out⟩
end Go.Proofs.Ytiafadmkkehdnaa.Sh
