/-
  The reference's Sum.
-/
import Derived.Test.YtiafadmkkehdnaaSs
import Derived.Test.YtiafadmkkehdnaaTb
import Derived.BigRegion
namespace Go.Proofs.Ytiafadmkkehdnaa.Sh
open Go.RowKit Go.Great Go.Proofs.YtiafadmkkehdnaaW.PrintWords Go.Proofs.YtiafadmkkehdnaaW.PrintMore Go.Proofs.Ytiafadmkkehdnaa.Ref
set_option linter.unusedVariables false

def wordL (s : H8) : List Int := [s.a, s.b, s.c, s.d, s.e, s.f, s.g, s.h]
def quad (x : Int) : List Int := [x / 16777216 % 256, x / 65536 % 256, x / 256 % 256, x % 256]
theorem dig_take (s : H8) (z : Nat) (h : z < 8) : (digL s).take (4 * (z + 1)) = (digL s).take (4 * z) ++ quad ((wordL s).getD z 0) := by
  rcases (by omega : z = 0 ∨ z = 1 ∨ z = 2 ∨ z = 3 ∨ z = 4 ∨ z = 5 ∨ z = 6 ∨ z = 7) with rfl | rfl | rfl | rfl | rfl | rfl | rfl | rfl
  all_goals rfl
theorem word_cell {w0 V : World} {ts : List Th} {b : Nat} {v : H8} (h : SepT w0 V ts) (hm : boxT b (cellsR v) 75 ∈ ts) (z : Nat) (hz : z < 8) : V.cell? ⟨b, z, none⟩ = some (.int .u32 ((wordL v).getD z 0)) := by
  have xb := (SepT.box h hm).1
  rw [blk_cell xb z]
  rcases (by omega : z = 0 ∨ z = 1 ∨ z = 2 ∨ z = 3 ∨ z = 4 ∨ z = 5 ∨ z = 6 ∨ z = 7) with rfl | rfl | rfl | rfl | rfl | rfl | rfl | rfl
  all_goals rfl
theorem dig_take_length (s : H8) (z : Nat) (h : z ≤ 8) : ((digL s).take (4 * z)).length = 4 * z := by
  rw [List.length_take]
  have : (digL s).length = 32 := rfl
  omega
theorem pad_mod (s : ByteArray) : (s ++ padB s).size % 64 = 0 := by
  have h1 : (numB (8 * (s.size : Nat))).size = 8 := numB_size _
  have h2 : (⟨(Lib.repeatL [0] (zerosOf s)).toArray⟩ : ByteArray).size = zerosOf s := by
    show (Lib.repeatL [0] (zerosOf s)).toArray.size = _
    simp [Lib.repeatL_length]
  have h3 : (⟨#[128]⟩ : ByteArray).size = 1 := rfl
  have hrs : (restOf s).size = s.size % 64 := by unfold restOf; rw [ByteArray.size_extract]; omega
  have h4 : zerosOf s = (119 - s.size % 64) % 64 := by unfold zerosOf; rw [hrs]
  unfold padB
  rw [ByteArray.size_append, ByteArray.size_append, ByteArray.size_append, h1, h2, h3]
  omega
attribute [local irreducible] Sep rowT boxT padB digL compress wordL cellsR
set_option maxHeartbeats 4000000 in
set_option maxRecDepth 100000 in
theorem RefSum_S {w0 w : World} {ts : List Th} (S0 : SepT w0 w ts) (s : ByteArray) (hs : s.size ≤ 100000000) :
    Calls Try.prog 29 #[.string s] w fun e w' => e = .returned (.string (sumB s)) ∧ SepT w0 w' ts := by
  have S := Aside0.mk (S0.allocBox (cellsR iv) 75)
  clear S0
  obtain ⟨P, hP⟩ : ∃ P, s ++ padB s = P := ⟨_, rfl⟩
  have hPm := pad_mod s
  rw [hP] at hPm
  have hPs : P.size ≤ 100001000 := by rw [← hP, ByteArray.size_append]; have := padB_size s; omega
  have hsum : sumB s = strOfNums (digL (stOf P)) := by unfold sumB; rw [hP]
  have HSUM := Aside0.mk hsum
  have HP := Aside0.mk hP
  have HPM := Aside0.mk hPm
  have hPi : (P.size : Int) ≤ 100001000 := by omega
  have e0 : cellsR iv = #[.int .u32 1779033703, .int .u32 3144134277, .int .u32 1013904242, .int .u32 2773480762, .int .u32 1359893119, .int .u32 2600822924, .int .u32 528734635, .int .u32 1541459225] := by unfold cellsR iv; rfl
  rw [e0] at S
  have E0 := Aside0.mk e0
  clear hP hPm hsum e0
  go_enter Try.func29, Try.ntmps29
  go_wp2_with (go_at_call 68; have hc := RefPadded_S S.out s hs; rw [HP.out] at hc; go_fit hc; clear hc; rintro e w1 ⟨rfl, hh⟩; clear S; have S := Aside0.mk hh; clear hh)
  have S1 := Aside0.mk (show SepT w0 w1 (boxT w.heap.size (cellsR (stAt P 0)) 75 :: ts) by rw [show stAt P 0 = iv from rfl, E0.out]; exact S.out)
  clear S
  generalize w.heap.size = g0 at S1 ⊢
  go_loopw [3, 5] (fun v3 v5 wr => ∃ (j i g : Nat), i ≤ P.size ∧ v5 = .int .i64 i ∧ v3 = .slice (some ⟨g, 0, none⟩) 8 8 ∧ Aside0 (i = 64 * j) ∧ Aside0 (SepT w0 wr (boxT g (cellsR (stAt P j)) 75 :: ts))) (fun _ v5 _ => P.size - (intOf v5).toNat)
  case atStart => exact ⟨0, 0, g0, Nat.zero_le _, rfl, rfl, ⟨rfl⟩, S1⟩
  case round =>
    clear S1
    obtain ⟨j, i, g, hi, rfl, rfl, HI, S⟩ := hrel
    by_cases hlt : i < P.size
    · have hij := HI.out
      have hpm := HPM.out
      have hle : i + 64 ≤ P.size := by omega
      have hlt2 : (i : Int) < P.size := by omega
      have hle2 : (i : Int) + 64 ≤ P.size := by omega
      have hbs : (P.extract i (i + 64)).size = 64 := by rw [ByteArray.size_extract]; omega
      have HC : Aside0 (compress (stAt P j) (P.extract i (i + 64)) = stAt P (j + 1)) := ⟨by rw [stAt, hij]⟩
      have hsl : ∀ V : World, (Instr.slice 9 (.string P) (some (.int .i64 (i : Int))) (some (.int .i64 ((i : Int) + 64))) none).run Try.prog V = .ok (.string (P.extract i (i + 64))) V := fun V => by
        have h := run_slice_string (P := Try.prog) V 9 P .i64 .i64 (i : Int) ((i : Int) + 64) Try.underlying9 (by omega) (by omega) (by omega)
        rw [Int.toNat_natCast, show ((i : Int) + 64).toNat = i + 64 by omega] at h
        exact h
      clear hij hpm
      go_wp2_with (go_at_call 69; have hc := RefCompress_S S.out m0 (P.extract i (i + 64)) hbs; rw [HC.out] at hc; go_fit hc; clear hc; rintro e w2 ⟨g2, rfl, hh⟩; clear S; have S := Aside0.mk hh.swap.drop; clear hh)
      clear hsl
      go_roundw
      case rel => exact ⟨j + 1, i + 64, g2, by omega, by go_num, rfl, ⟨by rw [HI.out]; omega⟩, S⟩
      case measure => simp [intOf]; omega
    · have hij := HI.out
      have hj : P.size / 64 = j := by omega
      have S1 := Aside0.mk (show SepT w0 wr (boxT g (cellsR (stOf P)) 75 :: ts) by unfold stOf; rw [hj]; exact S.out)
      clear S hij hj
      generalize stOf P = st at S1 HSUM
      have hms : ([] : List Int).length ≤ 1000000000 := by simp
      have S2 := Aside0.mk (SepT.lit (enc := Value.int .u8) (h1 := fun _ => rfl) S1.out 5 [] hms)
      clear S1
      go_wp2
      have S3 := Aside0.mk (show SepT w0 (wr.alloc (.cells #[] 5)) (rowT (Kd.int .u8) 5 (.slice (some ⟨wr.heap.size, 0, none⟩) 0 0) [] :: boxT g (cellsR st) 75 :: ts) from S2.out)
      clear S2
      generalize World.alloc _ _ = W at S3 ⊢
      generalize hA : (some (⟨wr.heap.size, 0, none⟩ : Addr)) = A at S3 ⊢
      clear hA
      go_loopw [6, 7] (fun v6 v7 wr => ∃ (z : Nat) (B : Option Addr) (cb : Nat) (xs : List Int), z ≤ 8 ∧ v7 = .int .i64 z ∧ v6 = .slice B xs.length cb ∧ Aside0 (xs = (digL st).take (4 * z)) ∧ xs.length ≤ 32 ∧ Aside0 (SepT w0 wr (rowT (Kd.int .u8) 5 (.slice B xs.length cb) xs :: boxT g (cellsR st) 75 :: ts))) (fun _ v7 _ => 8 - (intOf v7).toNat)
      case atStart => exact ⟨0, A, 0, [], by omega, rfl, rfl, ⟨by simp⟩, by simp, S3⟩
      case round =>
        clear S3
        obtain ⟨z, B, cb, xs, hz, rfl, rfl, HX, hxl, S⟩ := hrel
        by_cases hz8 : z < 8
        · have hz8i : (z : Int) < 8 := by omega
          obtain ⟨x, hx⟩ : ∃ x, (wordL st).getD z 0 = x := ⟨_, rfl⟩
          have y := word_cell S.out.drew m1 z hz8
          rw [hx] at y
          have hxs := dig_take st z hz8
          rw [hx, ← HX.out] at hxs
          have HXS : Aside0 (xs ++ [x / 16777216 % 256, x / 65536 % 256, x / 256 % 256, x % 256] = (digL st).take (4 * (z + 1))) := ⟨hxs.symm⟩
          have HXL : Aside0 ((xs ++ [x / 16777216 % 256, x / 65536 % 256, x / 256 % 256, x % 256]).length = xs.length + 4) := ⟨by simp⟩
          have S1 := Aside0.mk S.out.drew
          clear S hx hxs
          go_upto_region 11 with fail
          go_region_law ((refine SepT.appendLit_step (enc := Value.int .u8) (h1 := fun _ => rfl) rfl (.tmp 29) (.tmp 53) 49 5 (.int .u8 0) 1 rfl Try.underlying49 info5 rfl (by omega) (.slice B xs.length cb) xs [x / 16777216 % 256, x / 65536 % 256, x / 256 % 256, x % 256] (Nat.le_of_ble_eq_true rfl) rfl rfl S1.out (by show (xs.length + 4) * 1 ≤ _; omega) ?_); (intro An cn w6 ho; have S4 := Aside0.mk ho; clear ho))
          all_goals
            have hs4 := Aside0.mk S4.out
            rw [HXL.out] at hs4
            have hxz : xs.length = 4 * z := by rw [HX.out]; exact dig_take_length st z hz
            have hx32 : Aside0 ((xs ++ [x / 16777216 % 256, x / 65536 % 256, x / 256 % 256, x % 256]).length ≤ 32) := ⟨by rw [HXL.out]; omega⟩
            clear S1 y hxz
            go_wp2
            go_roundw
            case rel => exact ⟨z + 1, An, cn, xs ++ [x / 16777216 % 256, x / 65536 % 256, x / 256 % 256, x % 256], by omega, by go_num, by first | (rw [HXL.out]; done) | rfl | simp, HXS, hx32.out, by first | exact S4 | exact ⟨by rw [HXL.out]; exact hs4.out⟩⟩
            case measure => simp [intOf]; omega
        · obtain rfl : z = 8 := by omega
          obtain ⟨ok, hR, _⟩ := SepT.get S.out m0
          have hR' : Kd.R (Kd.int .u8) 5 wr 0 ok (.slice B xs.length cb) xs := by unfold rowT at hR; exact hR
          have hxs : xs = digL st := by rw [HX.out]; unfold digL; rfl
          have hcv := Kd.C_string (P := Try.prog) (src := 49) (dst := 9) (e := 5) (c := cb) Try.underlying49 Try.underlying5 Try.underlying9 (Kd.R_reads' hR').2.2
          rw [hxs] at hcv
          have HXS := Aside0.mk hxs
          clear hR hR' hxs
          rw [HXS.out]
          go_wp2
          go_ret
          exact ⟨by rw [HSUM.out]; rfl, S.out.drop.drop⟩
end Go.Proofs.Ytiafadmkkehdnaa.Sh
