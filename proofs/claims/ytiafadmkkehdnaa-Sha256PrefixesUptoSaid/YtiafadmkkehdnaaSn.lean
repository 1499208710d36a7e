/-
  The laws' example of sha256: awake answers true.
-/
import Derived.Test.YtiafadmkkehdnaaSm
namespace Go.Proofs.Ytiafadmkkehdnaa.Sh
open Go.RowKit Go.Great Go.Proofs.YtiafadmkkehdnaaW.PrintWords Go.Proofs.YtiafadmkkehdnaaW.PrintMore
set_option linter.unusedVariables false

set_option maxRecDepth 1000000 in
theorem sum_empty : sumB ⟨#[]⟩ = ⟨#[227, 176, 196, 66, 152, 252, 28, 20, 154, 251, 244, 200, 153, 111, 185, 36, 39, 174, 65, 228, 100, 155, 147, 76, 164, 149, 153, 27, 120, 82, 184, 85]⟩ := by decide +kernel
set_option maxRecDepth 1000000 in
theorem par_lit : parOk ⟨#[101, 51, 98, 48, 99, 52, 52, 50, 57, 56, 102, 99, 49, 99, 49, 52, 57, 97, 102, 98, 102, 52, 99, 56, 57, 57, 54, 102, 98, 57, 50, 52, 50, 55, 97, 101, 52, 49, 101, 52, 54, 52, 57, 98, 57, 51, 52, 99, 97, 52, 57, 53, 57, 57, 49, 98, 55, 56, 53, 50, 98, 56, 53, 53]⟩ = true ∧ strOfNums (parTo ⟨#[101, 51, 98, 48, 99, 52, 52, 50, 57, 56, 102, 99, 49, 99, 49, 52, 57, 97, 102, 98, 102, 52, 99, 56, 57, 57, 54, 102, 98, 57, 50, 52, 50, 55, 97, 101, 52, 49, 101, 52, 54, 52, 57, 98, 57, 51, 52, 99, 97, 52, 57, 53, 57, 57, 49, 98, 55, 56, 53, 50, 98, 56, 53, 53]⟩ 64) = ⟨#[227, 176, 196, 66, 152, 252, 28, 20, 154, 251, 244, 200, 153, 111, 185, 36, 39, 174, 65, 228, 100, 155, 147, 76, 164, 149, 153, 27, 120, 82, 184, 85]⟩ := by decide +kernel
set_option maxRecDepth 1000000 in
theorem hex_lit : hexB (sumB ⟨#[97, 98, 99]⟩) = ⟨#[98, 97, 55, 56, 49, 54, 98, 102, 56, 102, 48, 49, 99, 102, 101, 97, 52, 49, 52, 49, 52, 48, 100, 101, 53, 100, 97, 101, 50, 50, 50, 51, 98, 48, 48, 51, 54, 49, 97, 51, 57, 54, 49, 55, 55, 97, 57, 99, 98, 52, 49, 48, 102, 102, 54, 49, 102, 50, 48, 48, 49, 53, 97, 100]⟩ := by decide +kernel
theorem tag_lit : tagB ⟨#[]⟩ [] = ⟨#[0, 0, 0, 0, 0, 0, 0, 0]⟩ := by decide +kernel
theorem par_E : parE ⟨#[101, 51, 98, 48, 99, 52, 52, 50, 57, 56, 102, 99, 49, 99, 49, 52, 57, 97, 102, 98, 102, 52, 99, 56, 57, 57, 54, 102, 98, 57, 50, 52, 50, 55, 97, 101, 52, 49, 101, 52, 54, 52, 57, 98, 57, 51, 52, 99, 97, 52, 57, 53, 57, 57, 49, 98, 55, 56, 53, 50, 98, 56, 53, 53]⟩ = .tuple #[.string (sumB ⟨#[]⟩), .int .i64 0] := by
  rw [parE_good par_lit.1, par_lit.2, sum_empty]
theorem app_ab : (⟨#[]⟩ : ByteArray) ++ ⟨#[97, 98]⟩ = ⟨#[97, 98]⟩ := by decide +kernel
theorem app_abc : (⟨#[97, 98]⟩ : ByteArray) ++ ⟨#[99]⟩ = ⟨#[97, 98, 99]⟩ := by decide +kernel
theorem strOfNums_len (l : List Int) : (strOfNums l).size = l.length := strOfNums_size l
theorem sumB_size (b : ByteArray) : (sumB b).size = 32 := by unfold sumB; rw [strOfNums_size]; rfl
theorem Tagged_none {w0 w : World} {ts : List Th} (S0 : SepT w0 w ts) : Calls Try.prog 31 #[.string ⟨#[]⟩, .slice none 0 0] w fun e w' => e = .returned (.string (sumB ⟨#[0, 0, 0, 0, 0, 0, 0, 0]⟩)) ∧ SepT w0 w' ts := by
  have h := Tagged_S S0 ⟨#[]⟩ none 0 [] (Kd.C_nil Kd.string w0) (by decide) (by rw [tag_lit]; decide)
  rw [tag_lit] at h
  exact h
attribute [local irreducible] Sep rowT boxT hashT sumB hexB parE tagB
set_option maxHeartbeats 2000000 in
set_option maxRecDepth 100000 in
theorem awake_core (w0 w : World) (ts : List Th) (S0 : SepT w0 w ts) (E D F : ByteArray) (hE : sumB ⟨#[]⟩ = E) (hD : sumB ⟨#[97, 98, 99]⟩ = D) (hF : sumB ⟨#[0, 0, 0, 0, 0, 0, 0, 0]⟩ = F) :
    Calls Try.prog 27 #[] w fun e w' => e = .returned (.bool true) ∧ SepT w0 w' ts := by
  have S := Aside0.mk S0
  have hH : hexB D = ⟨#[98, 97, 55, 56, 49, 54, 98, 102, 56, 102, 48, 49, 99, 102, 101, 97, 52, 49, 52, 49, 52, 48, 100, 101, 53, 100, 97, 101, 50, 50, 50, 51, 98, 48, 48, 51, 54, 49, 97, 51, 57, 54, 49, 55, 55, 97, 57, 99, 98, 52, 49, 48, 102, 102, 54, 49, 102, 50, 48, 48, 49, 53, 97, 100]⟩ := by rw [← hD]; exact hex_lit
  have hDs : D.size ≤ 100000000 := by rw [← hD, sumB_size]; decide
  have hP := par_E
  rw [hE] at hP
  have HE := Aside0.mk hE
  have HD := Aside0.mk hD
  have HF := Aside0.mk hF
  have HH := Aside0.mk hH
  have HP := Aside0.mk hP
  have k1 : (⟨#[]⟩ : ByteArray).size + (⟨#[97, 98]⟩ : ByteArray).size ≤ 140737488351232 := by decide
  have k2 : (⟨#[97, 98]⟩ : ByteArray).size + (⟨#[99]⟩ : ByteArray).size ≤ 140737488351232 := by decide
  have k3 : (⟨#[97, 98, 99]⟩ : ByteArray).size ≤ 100000000 := by decide
  have k4 : (⟨#[]⟩ : ByteArray).size ≤ 100000000 := by decide
  have k5 : (⟨#[0, 0, 0, 0, 0, 0, 0, 0]⟩ : ByteArray).size ≤ 100000000 := by decide
  have k6 : (⟨#[101, 51, 98, 48, 99, 52, 52, 50, 57, 56, 102, 99, 49, 99, 49, 52, 57, 97, 102, 98, 102, 52, 99, 56, 57, 57, 54, 102, 98, 57, 50, 52, 50, 55, 97, 101, 52, 49, 101, 52, 54, 52, 57, 98, 57, 51, 52, 99, 97, 52, 57, 53, 57, 57, 49, 98, 55, 56, 53, 50, 98, 56, 53, 53]⟩ : ByteArray).size ≤ 100000000 := by decide
  clear S0 hE hD hF hH hP
  go_enter Try.func27, Try.ntmps27
  go_wp2_with (first
    | (go_at_call 37; have hc := New_S S.out; go_fit hc; clear hc; rintro e w1 ⟨g, rfl, hh⟩; clear S; have S := Aside0.mk hh; clear hh)
    | (go_at_call 38; have hc := Write_S S.out ⟨#[97, 98]⟩ k1; rw [app_ab] at hc; go_fit hc; clear hc; rintro e w2 ⟨rfl, hh⟩; clear S; have S := Aside0.mk hh; clear hh)
    | (go_at_call 38; have hc := Write_S S.out ⟨#[99]⟩ k2; rw [app_abc] at hc; go_fit hc; clear hc; rintro e w3 ⟨rfl, hh⟩; clear S; have S := Aside0.mk hh; clear hh)
    | (go_at_call 33; have hc := Parse_S S.out ⟨#[101, 51, 98, 48, 99, 52, 52, 50, 57, 56, 102, 99, 49, 99, 49, 52, 57, 97, 102, 98, 102, 52, 99, 56, 57, 57, 54, 102, 98, 57, 50, 52, 50, 55, 97, 101, 52, 49, 101, 52, 54, 52, 57, 98, 57, 51, 52, 99, 97, 52, 57, 53, 57, 57, 49, 98, 55, 56, 53, 50, 98, 56, 53, 53]⟩ k6; rw [HP.out] at hc; go_fit hc; clear hc; rintro e w4 ⟨rfl, hh⟩; clear S; have S := Aside0.mk hh; clear hh)
    | (go_at_call 28; have hc := SumF_S S.out ⟨#[]⟩ k4; rw [HE.out] at hc; go_fit hc; clear hc; rintro e w5 ⟨rfl, hh⟩; clear S; have S := Aside0.mk hh; clear hh)
    | (go_at_call 40; have hc := Sum_S S.out (b := ⟨#[97, 98, 99]⟩) m0 k3; rw [HD.out] at hc; go_fit hc; clear hc; rintro e w6 ⟨rfl, hh⟩; clear S; have S := Aside0.mk hh; clear hh)
    | (go_at_call 35; have hc := Hex_S S.out D hDs; rw [HH.out] at hc; go_fit hc; clear hc; rintro e w7 ⟨rfl, hh⟩; clear S; have S := Aside0.mk hh; clear hh)
    | (go_at_call 31; have hc := Tagged_none S.out; rw [HF.out] at hc; go_fit hc; clear hc; rintro e w8 ⟨rfl, hh⟩; clear S; have S := Aside0.mk hh; clear hh)
    | (go_at_call 28; have hc := SumF_S S.out ⟨#[0, 0, 0, 0, 0, 0, 0, 0]⟩ k5; rw [HF.out] at hc; go_fit hc; clear hc; rintro e w9 ⟨rfl, hh⟩; clear S; have S := Aside0.mk hh; clear hh)
    | (go_at_call 39; have hc := Clone_S S.out (b := ⟨#[97, 98, 99]⟩) m0; go_fit hc; clear hc; rintro e w10 ⟨gc, rfl, hh⟩; clear S; have S := Aside0.mk hh.drop; clear hh))
  go_ret
  exact ⟨rfl, S.out.drop⟩
theorem awake_S {w0 w : World} {ts : List Th} (S0 : SepT w0 w ts) : Calls Try.prog 27 #[] w fun e w' => e = .returned (.bool true) ∧ SepT w0 w' ts := awake_core w0 w ts S0 _ _ _ rfl rfl rfl
end Go.Proofs.Ytiafadmkkehdnaa.Sh
