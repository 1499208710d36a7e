/-
  The reference's padded.
-/
import Derived.Test.YtiafadmkkehdnaaTa
import Derived.Test.YtiafadmkkehdnaaSr
import Derived.RegionCalls
import Derived.Deep.RegionWith
namespace Go.Proofs.Ytiafadmkkehdnaa.Sh
open Go.RowKit Go.Great Go.Proofs.YtiafadmkkehdnaaW.PrintWords Go.Proofs.YtiafadmkkehdnaaW.PrintMore Go.Proofs.Ytiafadmkkehdnaa.Ref
set_option linter.unusedVariables false

theorem length_f (n : Int) (h0 : 0 ≤ n) (h1 : n ≤ 4611686018427387904) : modcertref01_Length.f 10 n = some (numB n) := by
  unfold modcertref01_Length.f
  simp [modcertref01_Length.l0, wrap64, shr, IntKind.bits]
  unfold numB numL
  congr 1
  simp
  omega
def lenV : Value → Nat
  | .slice _ n _ => n
  | _ => 0
def padL (s : ByteArray) (k : Nat) : List Int := bytesOf s ++ [128] ++ List.replicate k 0
theorem padL_length (s : ByteArray) (k : Nat) : (padL s k).length = s.size + 1 + k := by unfold padL; simp [bytesOf_length]; omega
theorem padL_succ (s : ByteArray) (k : Nat) : padL s k ++ [0] = padL s (k + 1) := by
  unfold padL
  rw [List.append_assoc, ← List.replicate_succ']
theorem repeat_zero : ∀ k, Lib.repeatL [(0 : UInt8)] k = List.replicate k 0
  | 0 => rfl
  | k + 1 => by rw [List.replicate_succ, ← repeat_zero k]; rfl
theorem padL_str (s : ByteArray) : strOfNums (padL s (zerosOf s)) ++ numB (8 * (s.size : Nat)) = s ++ padB s := by
  unfold padB
  apply ByteArray.ext
  apply Array.toList_inj.1
  simp only [ByteArray.data_append, Array.toList_append, strOfNums_data]
  unfold padL bytesOf
  rw [repeat_zero]
  simp [Function.comp_def]
theorem bytes_row (W : World) (s : ByteArray) : RowB (Lib.bytesWorld W 5 s) W.heap.size (grownCap W s.size 0 5) (bytesOf s) := by
  have hge := grownCap_ge W s.size 0 5
  have hcs : (Lib.bytesCells W 5 s).size = grownCap W s.size 0 5 := by
    simp only [Lib.bytesCells, Array.size_append, Array.size_map, Array.size_replicate]
    show s.size + _ = _
    omega
  have hb := Lib.bytesWorld_at_new W 5 s
  refine ⟨blk_lt hb, fun j hj => ?_, fun j hj => ⟨?_, ?_⟩, by rw [bytesOf_length]; exact hge⟩
  · rw [bytesOf_length] at hj
    rw [Lib.bytesWorld_cell W 5 s j hj]
    simp only [List.getD_eq_getElem?_getD, bytes_at s j hj, Option.getD_some]
    have h' : j < s.data.toList.length := by rw [data_length]; exact hj
    rw [byteN_get s j hj]
    simp [List.getElem?_eq_getElem h']
    rfl
  · unfold World.cell?
    rw [hb]
    simp [hcs, hj]
  · unfold World.frozen?
    rw [hb]
    simp [hcs]
    omega
theorem RowB.reads {w : World} {g c : Nat} {xs : List Int} (h : RowB w g c xs) (hx : xs.length ≤ 9223372036854775807) : ReadsInt w .u8 (some ⟨g, 0, none⟩) xs.length xs :=
  ⟨rfl, hx, fun _ => ⟨_, rfl, fun j hj => by rw [add_plain]; exact h.cells j hj⟩⟩
attribute [local irreducible] Sep rowT boxT padL padB
set_option maxHeartbeats 2000000 in
set_option maxRecDepth 100000 in
theorem RefPadded_calls (w : World) (s : ByteArray) (hs : s.size ≤ 100000000) :
    Calls Try.prog 68 #[.string s] w fun e w' => e = .returned (.string (s ++ padB s)) ∧ Below w.heap.size w w' := by
  have hsi : (s.size : Int) ≤ 100000000 := by omega
  have hcv := print_bytes (P := Try.prog) 9 49 5 Try.underlying9 Try.underlying49 Try.underlying5 s w
  have HR := Aside0.mk (bytes_row w s)
  have HB := Aside0.mk (bytes_below (Below.refl w.heap.size w) (Nat.le_refl _) 5 s)
  obtain ⟨Z, hZ⟩ : ∃ Z, zerosOf s = Z := ⟨_, rfl⟩
  have hrs : (restOf s).size = s.size % 64 := by unfold restOf; rw [ByteArray.size_extract]; omega
  have hZ1 : Z < 64 ∧ (s.size + 1 + Z) % 64 = 56 := by rw [← hZ]; unfold zerosOf; rw [hrs]; omega
  have HZ := Aside0.mk hZ
  have HZ1 := Aside0.mk hZ1
  have hl0 : (bytesOf s).length = s.size := bytesOf_length s
  have HL0 := Aside0.mk hl0
  have hxl : (bytesOf s).length ≤ 1000000000 := by omega
  have hZ64 : Z < 64 := hZ1.1
  clear hZ hrs hZ1 hl0
  generalize grownCap w s.size 0 5 = cc at hcv HR
  generalize Lib.bytesWorld w 5 s = W1 at *
  generalize hn : w.heap.size = n at *
  clear hn
  go_enter Try.func68, Try.ntmps68
  go_wp2_with ((with_reducible refine gate_builtin (b := .append) (xs := #[.tmp 5, .tmp 6]) rfl ?_); at_builtin; go_loud (refine appB rfl (.tmp 5) (.tmp 6) rfl n cc (bytesOf s) 128 (by rw [HL0.out]; rfl) rfl HR.out HB.out (Nat.le_refl _) hxl ?_; intro g' c' w6 hr6 hb6 hg6; have HR6 := Aside0.mk hr6; have HB6 := Aside0.mk hb6; clear hr6 hb6))
  have S0 := Aside0.mk (show RowB w6 g' c' (padL s 0) by unfold padL; simpa using HR6.out)
  have HLEN : Aside0 ((bytesOf s ++ [128]).length = s.size + 1) := ⟨by simp [HL0.out]⟩
  clear HR6 HR HB hcv hxl
  go_loopw [3] (fun v3 wr => ∃ (k m g c : Nat), k ≤ Z ∧ v3 = .slice (some ⟨g, 0, none⟩) m c ∧ Aside0 (m = s.size + 1 + k) ∧ Aside0 (RowB wr g c (padL s k)) ∧ Aside0 (Below n w wr) ∧ n ≤ g) (fun v3 _ => s.size + 1 + Z - lenV v3)
  case atStart => exact ⟨0, s.size + 1, g', c', Nat.zero_le _, by rw [HL0.out], ⟨rfl⟩, S0, HB6, hg6⟩
  case round =>
    clear S0 HB6 hg6 HLEN HL0
    obtain ⟨k, m, g, c, hk, rfl, HM, HR, HB, hg⟩ := hrel
    have hm := HM.out
    have hz := HZ1.out
    have hmi : (m : Int) ≤ 100000100 := by omega
    by_cases hlt : k < Z
    · have c1 : ((m : Int) % 64 != 56) = true := by rw [bne_iff_ne]; omega
      have c2 : (Int.tmod (m : Int) 64 != 56) = true := by rw [Int.tmod_eq_emod_of_nonneg (by omega)]; exact c1
      have hpl : Aside0 ((padL s k).length = m) := ⟨by rw [padL_length, hm]⟩
      have hxl : (padL s k).length ≤ 1000000000 := by rw [padL_length]; omega
      clear hm hz
      go_wp2_with ((with_reducible refine gate_builtin (b := .append) (xs := #[.tmp 12, .tmp 13]) rfl ?_); at_builtin; go_loud (refine appB rfl (.tmp 12) (.tmp 13) rfl g c (padL s k) 0 (by rw [hpl.out]; rfl) rfl HR.out HB.out hg hxl ?_; intro g2 c2' w7 hr7 hb7 hg7; rw [padL_succ] at hr7 ⊢; have HR7 := Aside0.mk hr7; have HB7 := Aside0.mk hb7; clear hr7 hb7))
      clear c1 c2
      have HLEN : Aside0 ((padL s (k + 1)).length = m + 1) := ⟨by rw [padL_length, HM.out]; omega⟩
      go_roundw
      case rel => exact ⟨k + 1, m + 1, g2, c2', by omega, by rw [HLEN.out], ⟨by rw [HM.out]; omega⟩, HR7, HB7, hg7⟩
      case measure => rw [HLEN.out]; simp [lenV]; have := HM.out; omega
    · obtain rfl : k = Z := by omega
      have c1 : ((m : Int) % 64 != 56) = false := by rw [bne_eq_false_iff_eq]; omega
      have c2 : (Int.tmod (m : Int) 64 != 56) = false := by rw [Int.tmod_eq_emod_of_nonneg (by omega)]; exact c1
      clear hz
      have hpl : (padL s k).length = m := by rw [padL_length, hm]
      have HCV : Aside0 (∀ V, RowB V g c (padL s k) → (convert 49 9 (.slice (some ⟨g, 0, none⟩) m c)).run Try.prog V = .ok (.string (strOfNums (padL s k))) V) := ⟨fun V h => by
        have hr := h.reads (by omega)
        rw [hpl] at hr
        exact string_of_reads (P := Try.prog) (src := 49) (dst := 9) (e := 5) (c := c) Try.underlying49 Try.underlying5 Try.underlying9 hr⟩
      have hss : (strOfNums (padL s k)).size = m := by rw [strOfNums_size, hpl]
      have hps := padL_str s
      rw [HZ.out] at hps
      generalize hX : strOfNums (padL s k) = X at HCV hss hps
      have hw8 : IntKind.i64.wrap (8 * (s.size : Int)) = 8 * (s.size : Int) := IntWalk.i64_in _ (by omega)
      obtain ⟨N8, hN8⟩ : ∃ N8, numB (8 * ((s.size : Nat) : Int)) = N8 := ⟨_, rfl⟩
      have hNs : N8.size = 8 := by rw [← hN8]; exact numB_size _
      have hlen := length_f (8 * (s.size : Int)) (by omega) (by omega)
      rw [hN8] at hlen hps
      have HLF := Aside0.mk hlen
      have r1 : ∀ V : World, (Op.stringOp .add X N8).run Try.prog V = .ok (.string (s ++ padB s)) V := fun V => by
        rw [← hps]
        exact run_string_add_sum V _ _ (by omega)
      have HR2 := Aside0.mk (HR.out.kept (w' := wr.drew) (Nat.le_refl _) rfl)
      have HB2 := Aside0.mk (below_drew HB.out)
      have hcv1 := HCV.out _ HR2.out
      clear hpl hss hps hN8 hNs hlen hX HR HB hm
      go_wp2
      clear c1 c2
      go_region_with (go_at_call 71; go_loud (have hc := modcertref01_Length.calls 10 (8 * (s.size : Int)) N8 wr.drew HLF.out; refine hc.mono ?_; clear hc; rintro e w8 ⟨rfl, hb8⟩; have HB8 := Aside0.mk hb8; have hcv8 := HCV.out _ (HR2.out.below hb8); clear hb8))
      all_goals
        have hlt8 := HR2.out.lt
        have hb9 : Below n w w8 := HB2.out.trans ⟨HB8.out.os, HB8.out.tape, HB8.out.output, HB8.out.size, fun q hq => HB8.out.block q (by omega)⟩
        go_wp2
        go_ret
        exact ⟨rfl, hb9⟩
theorem RefPadded_S {w0 w : World} {ts : List Th} (S0 : SepT w0 w ts) (s : ByteArray) (hs : s.size ≤ 100000000) :
    Calls Try.prog 68 #[.string s] w fun e w' => e = .returned (.string (s ++ padB s)) ∧ SepT w0 w' ts := by
  refine (RefPadded_calls w s hs).mono ?_
  rintro e w1 ⟨rfl, hb⟩
  exact ⟨rfl, S0.below hb⟩
end Go.Proofs.Ytiafadmkkehdnaa.Sh
