/-
  The reference's Hex.
-/
import Derived.Test.YtiafadmkkehdnaaSl
namespace Go.Proofs.Ytiafadmkkehdnaa.Sh
open Go.RowKit Go.Great Go.Proofs.YtiafadmkkehdnaaW.PrintWords Go.Proofs.YtiafadmkkehdnaaW.PrintMore
set_option linter.unusedVariables false
attribute [local irreducible] Sep rowT boxT hashT hexTo hexD
set_option maxHeartbeats 2000000 in
set_option maxRecDepth 100000 in
theorem RefHex_S {w0 w : World} {ts : List Th} (S0 : SepT w0 w ts) (s : ByteArray) (hs : s.size ≤ 100000000) :
    Calls Try.prog 36 #[.string s] w fun e w' => e = .returned (.string (hexB s)) ∧ SepT w0 w' ts := by
  have S := Aside0.mk S0
  clear S0
  have hsi : (s.size : Int) ≤ 100000000 := by omega
  have hms : ([] : List Int).length ≤ 1000000000 := by simp
  have S1 := Aside0.mk (SepT.lit (enc := Value.int .u8) (h1 := fun _ => rfl) S.out 5 [] hms)
  clear S
  go_enter Try.func36, Try.ntmps36
  go_wp2
  have S2 := Aside0.mk (show SepT w0 (w.alloc (.cells #[] 5)) _ from S1.out)
  clear S1
  generalize World.alloc _ _ = W at S2 ⊢
  generalize hA : (some (⟨w.heap.size, 0, none⟩ : Addr)) = A at S2 ⊢
  clear hA
  go_loopw [4, 5] (fun v4 v5 wr => ∃ (i : Nat) (B : Option Addr) (cb : Nat), i ≤ s.size ∧ v5 = .int .i64 i ∧ v4 = .slice B (hexTo s i).length cb ∧ Aside0 (SepT w0 wr (rowT (Kd.int .u8) 5 (.slice B (hexTo s i).length cb) (hexTo s i) :: ts))) (fun _ v5 _ => s.size - (intOf v5).toNat)
  case atStart => exact ⟨0, A, 0, Nat.zero_le _, rfl, by rw [hexTo_zero]; rfl, by rw [hexTo_zero]; exact S2⟩
  case round =>
    clear S2
    obtain ⟨i, B, cb, hi, rfl, rfl, S⟩ := hrel
    by_cases hlt : i < s.size
    · have hlt2 : (i : Int) < s.size := by omega
      obtain ⟨x, hx⟩ : ∃ x, byteN s i = x := ⟨_, rfl⟩
      have hxr := byteN_range s i
      rw [hx] at hxr
      have hl := hexTo_length s i
      have he : hexTo s (i + 1) = hexTo s i ++ [hexD (x / 16), hexD (x % 16)] := by rw [← hx]; exact hexTo_succ s i
      generalize hexTo s i = xs at S hl he ⊢
      have HE := Aside0.mk he
      have ix1 : ∀ V : World, (Instr.index 9 (.string s) (.int .i64 (i : Int))).run Try.prog V = .ok (.int .u8 x) V := fun V => by rw [ix_str V s .i64 i (by omega) hlt2, Int.toNat_natCast, hx]
      have ix2 : ∀ V : World, (Instr.index 9 (.string ⟨#[48, 49, 50, 51, 52, 53, 54, 55, 56, 57, 97, 98, 99, 100, 101, 102]⟩) (.int .u8 (x / 16))).run Try.prog V = .ok (.int .u8 (hexD (x / 16))) V := fun V => ix_dig V _ (by omega) (by omega)
      have ix3 : ∀ V : World, (Instr.index 9 (.string ⟨#[48, 49, 50, 51, 52, 53, 54, 55, 56, 57, 97, 98, 99, 100, 101, 102]⟩) (.int .u8 (x % 16))).run Try.prog V = .ok (.int .u8 (hexD (x % 16))) V := fun V => ix_dig V _ (by omega) (by omega)
      have t1 : Int.tdiv x 16 = x / 16 := Int.tdiv_eq_ediv_of_nonneg hxr.1
      have t2 : Int.tmod x 16 = x % 16 := Int.tmod_eq_emod_of_nonneg hxr.1
      have w1 : IntKind.u8.wrap (x / 16) = x / 16 := by rw [IntKind.wrap_u8]; omega
      have w2 : IntKind.u8.wrap (x % 16) = x % 16 := by rw [IntKind.wrap_u8]; omega
      have hxl : (xs ++ [hexD (x / 16), hexD (x % 16)]).length = xs.length + 2 := by simp
      have HXL := Aside0.mk hxl
      have HX0 := Aside0.mk hxr
      have HL := Aside0.mk hl
      have hlq : xs.length ≤ 200000000 := by omega
      clear hx hxr he hxl hl
      go_upto_region 6 with fail
      have S1 := Aside0.mk S.out.drew
      clear S
      go_region_law ((refine SepT.appendLit_step (enc := Value.int .u8) (h1 := fun _ => rfl) rfl (.tmp 13) (.tmp 26) 49 5 (.int .u8 0) 1 rfl Try.underlying49 info5 rfl (by omega) (.slice B xs.length cb) xs [hexD (x / 16), hexD (x % 16)] (Nat.le_of_ble_eq_true rfl) rfl rfl S1.out (by show (xs.length + 2) * 1 ≤ _; omega) ?_); (intro An cn w6 ho; have S4 := Aside0.mk ho; clear ho))
      all_goals
        have hs4 := S4.out
        rw [HXL.out] at hs4
        have hel : (hexTo s (i + 1)).length = xs.length + 2 := by rw [HE.out]; exact HXL.out
        have S5 := Aside0.mk (show SepT w0 w6 (rowT (Kd.int .u8) 5 (.slice An (hexTo s (i + 1)).length cn) (hexTo s (i + 1)) :: ts) by rw [hel, HE.out]; exact hs4)
        have HEL := Aside0.mk hel
        clear S4 hs4 S1 ix1 ix2 ix3 hel t1 t2 w1 w2
        go_wp2
        go_roundw
        case rel => exact ⟨i + 1, An, cn, by omega, by go_num, by rw [HEL.out], S5⟩
        case measure => simp [intOf]; omega
    · obtain rfl : i = s.size := by omega
      obtain ⟨ok, hR, _⟩ := SepT.get S.out m0
      have hR' : Kd.R (Kd.int .u8) 5 wr 0 ok (.slice B (hexTo s s.size).length cb) (hexTo s s.size) := by unfold rowT at hR; exact hR
      have hcv := Kd.C_string (P := Try.prog) (src := 49) (dst := 9) (e := 5) (c := cb) Try.underlying49 Try.underlying5 Try.underlying9 (Kd.R_reads' hR').2.2
      clear hR hR'
      go_wp2
      go_ret
      exact ⟨rfl, S.out.drop⟩
end Go.Proofs.Ytiafadmkkehdnaa.Sh
