/-
  What the laws call besides the disk: a page of equal bytes, the image of a disk.
-/
import Derived.Test.YtccomlafacdcjaaDx
import Derived.Test.YtccomlafacdcjaaSh
namespace Go.Proofs.Ytccomlafacdcjaa.Dk
open Go.RowKit Go.Proofs.YtccomlafacdcjaaW.PrintWords Go.Proofs.YtccomlafacdcjaaW.PrintMore
set_option linter.unusedVariables false

def pageOf (b : UInt8) : ByteArray := ⟨(Lib.repeatL [b] 512).toArray⟩

set_option maxRecDepth 100000 in
theorem page_calls (b : UInt8) (w : World) :
    Calls Try.prog 34 #[.int .u8 b.toNat] w fun e w' => e = .returned (.string (pageOf b)) ∧ Below w.heap.size w w' := by
  have hcv : (convert 91 9 (.slice (some ⟨w.heap.size, 0, none⟩) 1 1)).run Try.prog (w.alloc (.cells #[.int .u8 b.toNat] 5)) = .ok (.string ⟨#[b]⟩) (w.alloc (.cells #[.int .u8 b.toNat] 5)) :=
    run_convert_bytes_back _ 91 9 5 ⟨w.heap.size, 0, none⟩ 1 [b] Try.underlying91 Try.underlying5 Try.underlying9 (by
      intro i hi
      obtain rfl : i = 0 := by simp at hi; omega
      exact (blk_cell (heap_new w (.cells #[.int .u8 b.toNat] 5)) 0).trans rfl)
  go_enter Try.func34, Try.ntmps34
  go_wp2_with (go_at_call 46; go_loud (refine (Try.strings_Repeat ⟨#[b]⟩ 512 _ (by decide) (by show 1 * 512 ≤ _; decide)).mono ?_; rintro e w1 ⟨rfl, hb⟩))
  go_ret
  exact ⟨rfl, below_step ((Below.refl _ w).alloc (Nat.le_refl _) _) hb⟩

def imageAt (s : DS) (i : Nat) : ByteArray := if (readD s i).2 = 0 then (readD s i).1 else torn
def imageTo (s : DS) (k : Nat) : List ByteArray := (List.range k).map (imageAt s)
def imageD (s : DS) : List ByteArray := imageTo s s.dur.length
theorem imageTo_succ (s : DS) (k : Nat) : imageTo s (k + 1) = imageTo s k ++ [imageAt s k] := by simp [imageTo, List.range_succ]
theorem imageTo_length (s : DS) (k : Nat) : (imageTo s k).length = k := by simp [imageTo]
theorem imageD_length (s : DS) : (imageD s).length = s.dur.length := imageTo_length _ _

set_option maxHeartbeats 1000000 in
set_option maxRecDepth 100000 in
theorem image_calls (g : Nat) (ok : Nat → Prop) (s : DS) (w : World) (h : IsDisk w g ok s) :
    Calls Try.prog 18 #[.pointer (some ⟨g, 0, none⟩)] w fun e w' => ∃ v, e = .returned v ∧ Kd.R Kd.string 9 w' w.heap.size (fun _ => True) v (imageD s) ∧ Below w.heap.size w w' := by
  have hlim := h.lim
  have HI := Aside0.mk h
  clear h
  go_enter Try.func18, Try.ntmps18
  go_wp2_with (go_at_call 22; refine (Pages_calls g ok s _ HI.out).mono ?_; rintro e w1 ⟨rfl, rfl⟩)
  go_loopw [3, 9] (fun v3 v9 wr => ∃ k : Nat, k ≤ s.dur.length ∧ v9 = .int .i64 k ∧ Aside0 (Kd.R Kd.string 9 wr w.heap.size (fun _ => True) v3 (imageTo s k)) ∧ Aside0 (Below w.heap.size w wr)) (fun _ v9 _ => s.dur.length - (intOf v9).toNat)
  case atStart => exact ⟨0, Nat.zero_le _, rfl, ⟨Kd.R_nil _ _ _ _ _⟩, ⟨Below.refl _ _⟩⟩
  case round =>
    obtain ⟨k, hk, rfl, HR, HB⟩ := hrel
    by_cases hlt : k < s.dur.length
    · have hlt2 : (k : Int) < s.dur.length := by omega
      have hsz := HB.out.size
      have hstep := Aside0.mk (imageTo_succ s k)
      by_cases hz : (readD s k).2 = 0
      · have hi : imageAt s k = (readD s k).1 := by simp [imageAt, hz]
        rw [hi] at hstep
        have hzb : ((readD s k).2 != 0) = false := by simp [hz]
        clear hz hi
        go_wp2_with (first | (go_at_call 20; refine (Read_calls g ok s k _ (HI.out.below HB.out)).mono ?_; rintro e w1 ⟨rfl, rfl⟩) | ((with_reducible refine gate_builtin (b := .append) (xs := #[.tmp 20, .tmp 22]) rfl ?_); at_builtin; go_loud (refine Kd.R_append Kd.string (w0 := w) w.heap.size rfl (.tmp 20) (.tmp 22) 29 9 (.string ⟨#[]⟩) 16 rfl Try.underlying29 info9 rfl (by decide) (by omega) u3 (imageTo s k) (readD s k).1 [.string (readD s k).1] (fun _ => True) (fun _ => False) rfl rfl ?aP (fun _ hk => hk.elim) ?aF ?aO ?aB ?aS ?aL ?_; (case aP => exact rfl); (case aF => exact (fun _ _ => trivial)); (case aO => exact HR.out); (case aB => exact HB.out); (case aS => exact hsz); (case aL => rw [imageTo_length]; omega); intro v1 w1 ho hb hg hat; have HO1 := Aside0.mk ho; have HB1 := Aside0.mk hb; clear ho hb hg hat)))
        go_roundw
        case rel => exact ⟨k + 1, by omega, by go_num, ⟨by rw [hstep.out]; exact HO1.out⟩, HB1⟩
        case measure => simp [intOf]; omega
      · have hi : imageAt s k = torn := by simp [imageAt, hz]
        rw [hi] at hstep
        have hzb : ((readD s k).2 != 0) = true := by simp [hz]
        clear hz hi
        go_wp2_with (first | (go_at_call 20; refine (Read_calls g ok s k _ (HI.out.below HB.out)).mono ?_; rintro e w1 ⟨rfl, rfl⟩) | ((with_reducible refine gate_builtin (b := .append) (xs := #[.tmp 20, .tmp 22]) rfl ?_); at_builtin; go_loud (refine Kd.R_append Kd.string (w0 := w) w.heap.size rfl (.tmp 20) (.tmp 22) 29 9 (.string ⟨#[]⟩) 16 rfl Try.underlying29 info9 rfl (by decide) (by omega) u3 (imageTo s k) torn [.string torn] (fun _ => True) (fun _ => False) rfl rfl ?aP (fun _ hk => hk.elim) ?aF ?aO ?aB ?aS ?aL ?_; (case aP => exact rfl); (case aF => exact (fun _ _ => trivial)); (case aO => exact HR.out); (case aB => exact HB.out); (case aS => exact hsz); (case aL => rw [imageTo_length]; omega); intro v1 w1 ho hb hg hat; have HO1 := Aside0.mk ho; have HB1 := Aside0.mk hb; clear ho hb hg hat)))
        go_roundw
        case rel => exact ⟨k + 1, by omega, by go_num, ⟨by rw [hstep.out]; exact HO1.out⟩, HB1⟩
        case measure => simp [intOf]; omega
    · obtain rfl : k = s.dur.length := by omega
      go_wp2
      go_ret
      exact ⟨_, rfl, HR.out, HB.out⟩

end Go.Proofs.Ytccomlafacdcjaa.Dk
