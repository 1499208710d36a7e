/-
  sha256's small functions: rotations, closures.
-/
import Derived.Test.YtiafadmkkehdnaaSa
import Derived.Laws.BitsLemmas
import Derived.IntWalk
namespace Go.Proofs.Ytiafadmkkehdnaa.Sh
open Go.RowKit Go.Proofs.YtiafadmkkehdnaaW.PrintWords Go.Proofs.YtiafadmkkehdnaaW.PrintMore
set_option linter.unusedVariables false

/-- x rotated to the right by n bits. -/
def rotr (x n : Int) : Int := bits .or .u32 (IntKind.u32.wrap (x * 2 ^ (32 - n).toNat)) (x / 2 ^ n.toNat)
theorem wrap_u64_neg (n : Int) (h1 : 1 ≤ n) (h2 : n ≤ 31) : IntKind.u64.wrap (-n) = 18446744073709551616 - n := by
  simp [IntKind.wrap, IntKind.bits, IntKind.signed]; omega
theorem mask31 (n : Int) (h1 : 1 ≤ n) (h2 : n ≤ 31) : bits .and .u64 (IntKind.u64.wrap (-n)) 31 = 32 - n := by
  rw [wrap_u64_neg n h1 h2]
  have h := bits_mask .u64 64 (by decide) (fun m h0 h1 => by simp [IntKind.wrap, IntKind.bits, IntKind.signed]; omega) 5 (by omega) (18446744073709551616 - n) (by omega) (by omega)
  have e : ((2 : Int) ^ 5 - 1) = 31 := by decide
  have e2 : ((2 : Int) ^ 5) = 32 := by decide
  rw [e, e2] at h
  rw [h]
  omega
set_option maxRecDepth 100000 in
theorem rot_calls (x n : Int) (h1 : 1 ≤ n) (h2 : n ≤ 31) (w : World) :
    Calls Try.prog 96 #[.int .u32 x, .int .i64 (-n)] w fun e w' => e = .returned (.int .u32 (rotr x n)) ∧ w = w' := by
  obtain ⟨m, hm⟩ : ∃ m, m = 32 - n := ⟨_, rfl⟩
  have hs : bits .and .u64 (IntKind.u64.wrap (-n)) 31 = m := by rw [mask31 n h1 h2, hm]
  have hm1 : 1 ≤ m := by omega
  have hm2 : m ≤ 31 := by omega
  have hr : Aside0 (32 - m = n ∧ 32 - n = m) := ⟨by omega, by omega⟩
  clear hm h1 h2
  go_enter Try.func96, Try.ntmps96
  go_wp2
  go_ret
  refine ⟨?_, rfl⟩
  unfold rotr
  rw [← hr.out.1]
  have : 32 - (32 - m) = m := by omega
  rw [this]
  rfl
theorem rot_calls' (x n : Int) (h1 : 1 ≤ n) (h2 : n ≤ 31) (w : World) :
    Calls Try.prog 96 #[.int .u32 x, .int .i64 (-n)] w fun e w' => e = .returned (.int .u32 (rotr x n)) ∧ w' = w := (rot_calls x n h1 h2 w).mono (fun _ _ h => ⟨h.1, h.2.symm⟩)
def mix3 (x a b c : Int) : Int := bits .xor .u32 (bits .xor .u32 (rotr x a) (rotr x b)) (rotr x c)
def mixs (x a b c : Int) : Int := bits .xor .u32 (bits .xor .u32 (rotr x a) (rotr x b)) (x / 2 ^ c.toNat)
set_option maxRecDepth 100000 in
theorem mix3_calls (x a b c : Int) (a1 : 1 ≤ a) (a2 : a ≤ 31) (b1 : 1 ≤ b) (b2 : b ≤ 31) (c1 : 1 ≤ c) (c2 : c ≤ 31) (w : World) :
    Calls Try.prog 95 #[.int .u32 x, .int .i64 a, .int .i64 b, .int .i64 c] w fun e w' => e = .returned (.int .u32 (mix3 x a b c)) ∧ w = w' := by
  go_enter Try.func95, Try.ntmps95
  go_wp2_with (first | (go_at_call 96; ((with_reducible refine (rot_calls x a a1 a2 _).mono ?_); rintro e w' ⟨rfl, rfl⟩)) | (go_at_call 96; ((with_reducible refine (rot_calls x b b1 b2 _).mono ?_); rintro e w' ⟨rfl, rfl⟩)) | (go_at_call 96; ((with_reducible refine (rot_calls x c c1 c2 _).mono ?_); rintro e w' ⟨rfl, rfl⟩)))
  go_ret
  exact ⟨rfl, rfl⟩
set_option maxRecDepth 100000 in
theorem mixs_calls (x a b c : Int) (a1 : 1 ≤ a) (a2 : a ≤ 31) (b1 : 1 ≤ b) (b2 : b ≤ 31) (c1 : 1 ≤ c) (c2 : c ≤ 31) (w : World) :
    Calls Try.prog 110 #[.int .u32 x, .int .i64 a, .int .i64 b, .int .i64 c] w fun e w' => e = .returned (.int .u32 (mixs x a b c)) ∧ ∃ n, w.drewN n = w' := by
  go_enter Try.func110, Try.ntmps110
  go_wp2
  go_quiet ((go_at_call 96; first | (with_reducible exact Calls.quiet_of_same (rot_calls' x a a1 a2 _)) | (with_reducible exact Calls.quiet_of_same (rot_calls' x b b1 b2 _))))
  go_wp2
  go_ret
  exact ⟨rfl, _, rfl⟩
end Go.Proofs.Ytiafadmkkehdnaa.Sh
