/-
  The law Sha256Tags, walked, for arguments that are no longer than a bound.
-/
import Derived.Test.YtiafadmkkehdnaaTd
namespace Go.Proofs.Ytiafadmkkehdnaa.Sh
open Go.RowKit Go.Great Go.Proofs.YtiafadmkkehdnaaW.PrintWords Go.Proofs.YtiafadmkkehdnaaW.PrintMore
set_option linter.unusedVariables false
theorem info9t : (Try.prog.info? 9).map (fun i => (i.zero, i.size, i.bytes)) = some (some (.string ⟨#[]⟩), 1, 16) := by kernel_rfl
theorem catT_len : ∀ (l : List ByteArray) (b : ByteArray), (catT b l).size = b.size + 8 * l.length + tot l
  | [], b => by simp [catT, tot]
  | p :: l, b => by
    rw [catT, catT_len l, ByteArray.size_append, ByteArray.size_append, numB_size, tot, List.length_cons]
    omega
theorem tagB_len (tag : ByteArray) (l : List ByteArray) : (tagB tag l).size = 8 + tag.size + 8 * l.length + tot l := by
  unfold tagB
  rw [catT_len, ByteArray.size_append, numB_size]
attribute [local irreducible] Sep rowT boxT hashT sumB tagB
set_option maxHeartbeats 2000000 in
set_option maxRecDepth 100000 in
theorem Tags_main (w : World) (tag : ByteArray) (A : Option Addr) (c : Nat) (l : List ByteArray) (hC : Kd.C Kd.string w A l.length l) (hc : l.length ≤ c) (hb : tag.size + l.length + tot l ≤ 4000000) (q : Bool) (hq : decide ((((tag :: l).length + tot (tag :: l) : Nat) : Int) ≤ 2000) = q) :
    Calls Try.prog 6 #[.string tag, .slice A l.length c] w fun e w' => e = .returned (.bool true) ∧ Below w.heap.size w w' := by
  have S := Aside0.mk (SepT.start w)
  have HC := Aside0.mk hC
  have k1 : [tag].length ≤ 1000000000 := by simp
  have ht : (tagB tag l).size ≤ 100000000 := by rw [tagB_len]; omega
  have hlen : (tag :: l).length + tot (tag :: l) ≤ 4611686018427387904 := by simp [tot]; omega
  have haL : ([tag].length + l.length) * 16 ≤ 140737488355328 := by simp; omega
  have HF : Aside0 (∀ V ts (B : Option Addr) (n cb : Nat), SepT w V (rowT Kd.string 9 (.slice B n cb) (tag :: l) :: ts) → Calls Try.prog 30 #[.slice B n cb, .int .i64 2000] V fun e w' => e = .returned (.bool q) ∧ SepT w w' ts) := ⟨fun V ts B n cb h => FewR_S h hlen q hq⟩
  cases q with
  | false =>
    clear hC hc hb ht hlen hq
    go_enter Try.func6, Try.ntmps6
    go_wp2_with (first
      | (go_at_call 27; have hc := awake_S S.out; go_fit hc; clear hc; rintro e w1 ⟨rfl, hh⟩; clear S; have S := Aside0.mk hh; clear hh)
      | ((with_reducible refine gate_builtin (b := .append) (xs := #[.tmp 8, .tmp 9]) rfl ?_); at_builtin; go_loud (refine SepT.appendCame Kd.string rfl (.tmp 8) (.tmp 9) 22 9 (.string ⟨#[]⟩) 16 rfl Try.underlying22 info9t rfl (by decide) (by decide) (.slice (some ⟨w1.heap.size, 0, none⟩) 1 1) [tag] l A l.length c rfl rfl (fun _ _ h => h) (SepT.lit (enc := Value.string) (h1 := fun _ => rfl) S.out 9 [tag] k1) HC.out haL ?_; intro An cn w2 hq2; clear S; have S := Aside0.mk hq2; clear hq2))
      | (go_at_call 30; have hc := HF.out _ _ _ _ _ S.out; go_fit hc; clear hc; rintro e w3 ⟨rfl, hh⟩; clear S; have S := Aside0.mk hh; clear hh))
    go_ret
    exact ⟨rfl, Sep.base S.out⟩
  | true =>
    have hl : l.length < 1000000 := by
      have := of_decide_eq_true hq
      simp [tot] at this
      omega
    have H31 : Aside0 (∀ V ts, SepT w V ts → Calls Try.prog 31 #[.string tag, .slice A l.length c] V fun e w' => e = .returned (.string (sumB (tagB tag l))) ∧ SepT w w' ts) := ⟨fun V ts h => Tagged_S h tag A c l hC hl ht⟩
    have H32 : Aside0 (∀ V ts, SepT w V ts → Calls Try.prog 32 #[.string tag, .slice A l.length c] V fun e w' => e = .returned (.string (sumB (tagB tag l))) ∧ SepT w w' ts) := ⟨fun V ts h => RefTagged_S h tag A c l hC hl ht⟩
    clear hC hc hb ht hlen hq hl
    generalize sumB (tagB tag l) = R at *
    go_enter Try.func6, Try.ntmps6
    go_wp2_with (first
      | (go_at_call 27; have hc := awake_S S.out; go_fit hc; clear hc; rintro e w1 ⟨rfl, hh⟩; clear S; have S := Aside0.mk hh; clear hh)
      | ((with_reducible refine gate_builtin (b := .append) (xs := #[.tmp 8, .tmp 9]) rfl ?_); at_builtin; go_loud (refine SepT.appendCame Kd.string rfl (.tmp 8) (.tmp 9) 22 9 (.string ⟨#[]⟩) 16 rfl Try.underlying22 info9t rfl (by decide) (by decide) (.slice (some ⟨w1.heap.size, 0, none⟩) 1 1) [tag] l A l.length c rfl rfl (fun _ _ h => h) (SepT.lit (enc := Value.string) (h1 := fun _ => rfl) S.out 9 [tag] k1) HC.out haL ?_; intro An cn w2 hq2; clear S; have S := Aside0.mk hq2; clear hq2))
      | (go_at_call 30; have hc := HF.out _ _ _ _ _ S.out; go_fit hc; clear hc; rintro e w3 ⟨rfl, hh⟩; clear S; have S := Aside0.mk hh; clear hh)
      | (go_at_call 31; have hc := H31.out _ _ S.out; go_fit hc; clear hc; rintro e w4 ⟨rfl, hh⟩; clear S; have S := Aside0.mk hh; clear hh)
      | (go_at_call 32; have hc := H32.out _ _ S.out; go_fit hc; clear hc; rintro e w5 ⟨rfl, hh⟩; clear S; have S := Aside0.mk hh; clear hh))
    go_ret
    exact ⟨by first | rfl | simp, Sep.base S.out⟩
theorem Sha256Tags_law (w : World) (tag : ByteArray) (A : Option Addr) (c : Nat) (l : List ByteArray) (hC : Kd.C Kd.string w A l.length l) (hc : l.length ≤ c) (hb : tag.size + (l.length + tot l) ≤ 1048576) :
    Calls Try.prog 6 #[.string tag, .slice A l.length c] w fun e w' => e = .returned (.bool true) ∧ Below w.heap.size w w' :=
  Tags_main w tag A c l hC hc (by omega) _ rfl
end Go.Proofs.Ytiafadmkkehdnaa.Sh
