/-
  The laws' guard: Few.
-/
import Derived.Test.YtiafadmkkehdnaaSn
import Derived.Test.YtiafadmkkehdnaaRef1
namespace Go.Proofs.Ytiafadmkkehdnaa.Sh
open Go.RowKit Go.Great Go.Proofs.YtiafadmkkehdnaaW.PrintWords Go.Proofs.YtiafadmkkehdnaaW.PrintMore Go.Proofs.Ytiafadmkkehdnaa.Ref
set_option linter.unusedVariables false

def tot : List ByteArray → Nat
  | [] => 0
  | p :: l => p.size + tot l
theorem tot_append : ∀ (l m : List ByteArray), tot (l ++ m) = tot l + tot m
  | [], m => by simp [tot]
  | p :: l, m => by simp [tot, tot_append l m]; omega
theorem few_l0 (l : List ByteArray) (m : Int) (hb : l.length + tot l ≤ 4611686018427387904) : ∀ n i : Nat, i + n = l.length → modcertref01_Few.l0 (n + 1) l m ((l.length + tot (l.take i) : Nat) : Int) (i : Int) = some (decide (((l.length + tot l : Nat) : Int) ≤ m))
  | 0, i, h => by
    obtain rfl : i = l.length := by omega
    rw [modcertref01_Few.l0, if_neg (by omega), List.take_length]
  | n + 1, i, h => by
    have hi : i < l.length := by omega
    have hi2 : (i : Int) < (l.length : Int) := by omega
    rw [modcertref01_Few.l0, if_pos hi2, if_pos (by omega)]
    have e1 : rdOf ByteArray.empty l (i : Int) = l[i] := by
      unfold rdOf
      simp [List.getD, hi]
    have e2 : l.take (i + 1) = l.take i ++ [l[i]] := by simp
    have e3 : tot (l.take (i + 1)) = tot (l.take i) + l[i].size := by rw [e2, tot_append]; simp [tot]
    have e4 : tot l = tot (l.take (i + 1)) + tot (l.drop (i + 1)) := by rw [← tot_append, List.take_append_drop]
    have ih := few_l0 l m hb n (i + 1) (by omega)
    rw [e1]
    have w1 : wrap64 (((l.length + tot (l.take i) : Nat) : Int) + (l[i].size : Int)) = ((l.length + tot (l.take (i + 1)) : Nat) : Int) := by unfold wrap64; omega
    have w2 : wrap64 ((i : Int) + 1) = ((i + 1 : Nat) : Int) := by clear w1 e1; unfold wrap64; omega
    rw [w1, w2]
    exact ih
theorem few_f (l : List ByteArray) (m : Int) (hb : l.length + tot l ≤ 4611686018427387904) : modcertref01_Few.f (l.length + 1) l m = some (decide (((l.length + tot l : Nat) : Int) ≤ m)) := by
  have h := few_l0 l m hb l.length 0 (by omega)
  unfold modcertref01_Few.f
  simpa [tot] using h
theorem Few_S {w0 w : World} {ts : List Th} (S0 : SepT w0 w ts) (A : Option Addr) (c : Nat) (l : List ByteArray) (hC : Kd.C Kd.string w A l.length l) (hc : l.length ≤ c) (hb : l.length + tot l ≤ 4611686018427387904) :
    Calls Try.prog 30 #[.slice A l.length c, .int .i64 2000] w fun e w' => e = .returned (.bool (decide (((l.length + tot l : Nat) : Int) ≤ 2000))) ∧ SepT w0 w' ts := by
  refine (modcertref01_Few.calls (l.length + 1) A c l 2000 _ w hC hc (few_f l 2000 hb)).mono ?_
  rintro e w1 ⟨rfl, hd⟩
  refine ⟨rfl, ?_⟩
  obtain ⟨n, rfl⟩ := hd
  exact S0.drewN n
end Go.Proofs.Ytiafadmkkehdnaa.Sh
