/-
  sha256's number, Clone, Sum, and Sum of a string.
-/
import Derived.Test.YtiafadmkkehdnaaSf
import Derived.Lib.ConvBytes
namespace Go.Proofs.Ytiafadmkkehdnaa.Sh
open Go.RowKit Go.Great Go.Proofs.YtiafadmkkehdnaaW.PrintWords Go.Proofs.YtiafadmkkehdnaaW.PrintMore
set_option linter.unusedVariables false

/-- The bytes of a number, as they are written. -/
def numZ (z n : Int) : Array Value := #[.int .u8 (if 0 < z then n / 72057594037927936 else 0), .int .u8 (if 1 < z then n / 281474976710656 % 256 else 0), .int .u8 (if 2 < z then n / 1099511627776 % 256 else 0), .int .u8 (if 3 < z then n / 4294967296 % 256 else 0), .int .u8 (if 4 < z then n / 16777216 % 256 else 0), .int .u8 (if 5 < z then n / 65536 % 256 else 0), .int .u8 (if 6 < z then n / 256 % 256 else 0), .int .u8 (if 7 < z then n % 256 else 0)]
def numL (n : Int) : List Int := [n / 72057594037927936, n / 281474976710656 % 256, n / 1099511627776 % 256, n / 4294967296 % 256, n / 16777216 % 256, n / 65536 % 256, n / 256 % 256, n % 256]
def numB (n : Int) : ByteArray := strOfNums (numL n)
attribute [local irreducible] Sep rowT boxT
set_option maxHeartbeats 2000000 in
set_option maxRecDepth 100000 in
theorem number_S {w0 w : World} {ts : List Th} (S0 : SepT w0 w ts) (n : Int) (h0 : 0 ≤ n) (h1 : n < 18446744073709551616) :
    Calls Try.prog 70 #[.int .u64 n] w fun e w' => e = .returned (.string (numB n)) ∧ SepT w0 w' ts := by
  have S := Aside0.mk (S0.allocBox (numZ 0 n) 104)
  clear S0
  go_enter Try.func70, Try.ntmps70
  go_wp2
  generalize hb : w.heap.size = b at S ⊢
  have S1 := Aside0.mk (show SepT w0 (w.alloc (.cells #[.int .u8 0, .int .u8 0, .int .u8 0, .int .u8 0, .int .u8 0, .int .u8 0, .int .u8 0, .int .u8 0] 104)) _ from S.out)
  clear S hb
  generalize World.alloc _ _ = W at S1 ⊢
  go_loopw [5] (fun v5 wr => ∃ z : Int, 0 ≤ z ∧ z ≤ 8 ∧ v5 = .int .i64 z ∧ Aside0 (SepT w0 wr (boxT b (numZ z n) 104 :: ts))) (fun v5 _ => 8 - (intOf v5).toNat)
  case atStart => exact ⟨0, by omega, by omega, rfl, S1⟩
  case round =>
    clear S1
    obtain ⟨z, hz0, hz8, rfl, S⟩ := hrel
    have xg := (SepT.box S.out m0).1
    rcases (by omega : z = 0 ∨ z = 1 ∨ z = 2 ∨ z = 3 ∨ z = 4 ∨ z = 5 ∨ z = 6 ∨ z = 7 ∨ z = 8) with rfl | rfl | rfl | rfl | rfl | rfl | rfl | rfl | rfl
    · have y : wr.cell? ⟨b, 0, none⟩ = some (.int .u8 0) := (blk_cell xg 0).trans rfl
      have e := blk_frozen xg 0
      have S1 := Aside0.mk (show SepT w0 _ (boxT b (numZ 1 n) 104 :: ts) from (S.out.setBox 0 (.int .u8 (n / 72057594037927936))))
      clear xg S
      go_wp2
      clear y e
      go_roundw
      case rel => exact ⟨1, by omega, by omega, rfl, S1⟩
      case measure => simp [intOf]
    · have y : wr.cell? ⟨b, 1, none⟩ = some (.int .u8 0) := (blk_cell xg 1).trans rfl
      have e := blk_frozen xg 1
      have S1 := Aside0.mk (show SepT w0 _ (boxT b (numZ 2 n) 104 :: ts) from (S.out.setBox 1 (.int .u8 (n / 281474976710656 % 256))))
      clear xg S
      go_wp2
      clear y e
      go_roundw
      case rel => exact ⟨2, by omega, by omega, rfl, S1⟩
      case measure => simp [intOf]
    · have y : wr.cell? ⟨b, 2, none⟩ = some (.int .u8 0) := (blk_cell xg 2).trans rfl
      have e := blk_frozen xg 2
      have S1 := Aside0.mk (show SepT w0 _ (boxT b (numZ 3 n) 104 :: ts) from (S.out.setBox 2 (.int .u8 (n / 1099511627776 % 256))))
      clear xg S
      go_wp2
      clear y e
      go_roundw
      case rel => exact ⟨3, by omega, by omega, rfl, S1⟩
      case measure => simp [intOf]
    · have y : wr.cell? ⟨b, 3, none⟩ = some (.int .u8 0) := (blk_cell xg 3).trans rfl
      have e := blk_frozen xg 3
      have S1 := Aside0.mk (show SepT w0 _ (boxT b (numZ 4 n) 104 :: ts) from (S.out.setBox 3 (.int .u8 (n / 4294967296 % 256))))
      clear xg S
      go_wp2
      clear y e
      go_roundw
      case rel => exact ⟨4, by omega, by omega, rfl, S1⟩
      case measure => simp [intOf]
    · have y : wr.cell? ⟨b, 4, none⟩ = some (.int .u8 0) := (blk_cell xg 4).trans rfl
      have e := blk_frozen xg 4
      have S1 := Aside0.mk (show SepT w0 _ (boxT b (numZ 5 n) 104 :: ts) from (S.out.setBox 4 (.int .u8 (n / 16777216 % 256))))
      clear xg S
      go_wp2
      clear y e
      go_roundw
      case rel => exact ⟨5, by omega, by omega, rfl, S1⟩
      case measure => simp [intOf]
    · have y : wr.cell? ⟨b, 5, none⟩ = some (.int .u8 0) := (blk_cell xg 5).trans rfl
      have e := blk_frozen xg 5
      have S1 := Aside0.mk (show SepT w0 _ (boxT b (numZ 6 n) 104 :: ts) from (S.out.setBox 5 (.int .u8 (n / 65536 % 256))))
      clear xg S
      go_wp2
      clear y e
      go_roundw
      case rel => exact ⟨6, by omega, by omega, rfl, S1⟩
      case measure => simp [intOf]
    · have y : wr.cell? ⟨b, 6, none⟩ = some (.int .u8 0) := (blk_cell xg 6).trans rfl
      have e := blk_frozen xg 6
      have S1 := Aside0.mk (show SepT w0 _ (boxT b (numZ 7 n) 104 :: ts) from (S.out.setBox 6 (.int .u8 (n / 256 % 256))))
      clear xg S
      go_wp2
      clear y e
      go_roundw
      case rel => exact ⟨7, by omega, by omega, rfl, S1⟩
      case measure => simp [intOf]
    · have y : wr.cell? ⟨b, 7, none⟩ = some (.int .u8 0) := (blk_cell xg 7).trans rfl
      have e := blk_frozen xg 7
      have S1 := Aside0.mk (show SepT w0 _ (boxT b (numZ 8 n) 104 :: ts) from (S.out.setBox 7 (.int .u8 (n % 256))))
      clear xg S
      go_wp2
      clear y e
      go_roundw
      case rel => exact ⟨8, by omega, by omega, rfl, S1⟩
      case measure => simp [intOf]
    · have hr : ReadsInt wr .u8 (some ⟨b, 0, none⟩) 8 (numL n) := ⟨rfl, by omega, fun _ => ⟨⟨b, 0, none⟩, rfl, fun j hj => by
        have : j = 0 ∨ j = 1 ∨ j = 2 ∨ j = 3 ∨ j = 4 ∨ j = 5 ∨ j = 6 ∨ j = 7 := by omega
        rcases this with rfl | rfl | rfl | rfl | rfl | rfl | rfl | rfl
        all_goals exact (blk_cell xg _).trans rfl⟩⟩
      have hcv := string_of_reads (P := Try.prog) (src := 49) (dst := 9) (e := 5) (c := 8) Try.underlying49 Try.underlying5 Try.underlying9 hr
      clear hr xg
      go_wp2
      go_ret
      exact ⟨rfl, S.out.drop⟩
end Go.Proofs.Ytiafadmkkehdnaa.Sh
