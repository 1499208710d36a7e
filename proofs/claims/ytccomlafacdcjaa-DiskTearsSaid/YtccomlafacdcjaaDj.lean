/-
  The laws' example: awake answers true.
-/
import Derived.Test.YtccomlafacdcjaaDt
namespace Go.Proofs.Ytccomlafacdcjaa.Dk
open Go.RowKit Go.Proofs.YtccomlafacdcjaaW.PrintWords Go.Proofs.YtccomlafacdcjaaW.PrintMore
set_option linter.unusedVariables false

/-- A literal's row, just built. -/
theorem SepT.lit {w0 w : World} {ts : List Th} (h : SepT w0 w ts) {α : Type} {enc : α → Value} {h1 : ∀ x, (enc x).oneCell' = true} (e : Nat) (xs : List α) (hx : xs.length ≤ 1000000000) :
    SepT w0 (w.alloc (.cells (xs.map enc).toArray e)) (rowT (Kd.scalar enc h1) e (.slice (some ⟨w.heap.size, 0, none⟩) xs.length xs.length) xs :: ts) := by
  refine h.addRow ((Below.refl _ w).alloc (Nat.le_refl _) _) (ok := fun k => True) (Kd.R_of_own ⟨by simp [encs], .inr ⟨w.heap.size, xs.length, _, rfl, Nat.le_refl _, heap_new w _, Nat.le_refl _, ?_, ?_, ?_⟩⟩ (fun _ _ => trivial))
  · have : (1000000000 : Nat) ≤ maxLen := by decide
    omega
  · simp
  · simp [encs, List.take_of_length_le]
theorem SepT.alloc {w0 w : World} {ts : List Th} (h : SepT w0 w ts) (o : Obj) : SepT w0 (w.alloc o) ts := h.below ((Below.refl _ w).alloc (Nat.le_refl _) o)

theorem Equal_same {w0 w : World} {ts : List Th} (A0 : Option Addr) (c0 : Nat) (l : List ByteArray) (A1 : Option Addr) (c1 : Nat) (h : SepT w0 w ts) (hm0 : rowT Kd.string 9 (.slice A0 l.length c0) l ∈ ts) (hm1 : rowT Kd.string 9 (.slice A1 l.length c1) l ∈ ts) (hl : l.length < 1000000000) :
    Calls Try.prog 17 #[.slice A0 l.length c0, .slice A1 l.length c1] w fun e w' => e = .returned (.bool true) ∧ SepT w0 w' ts := by
  have hc := Equal_S A0 c0 l A1 c1 l h hm0 hm1 hl
  rw [decide_eq_true rfl] at hc
  exact hc

theorem page97 (w : World) : Calls Try.prog 34 #[.int .u8 97] w fun e w' => e = .returned (.string (pageOf 97)) ∧ Below w.heap.size w w' := page_calls 97 w
theorem page98 (w : World) : Calls Try.prog 34 #[.int .u8 98] w fun e w' => e = .returned (.string (pageOf 98)) ∧ Below w.heap.size w w' := page_calls 98 w
theorem page99 (w : World) : Calls Try.prog 34 #[.int .u8 99] w fun e w' => e = .returned (.string (pageOf 99)) ∧ Below w.heap.size w w' := page_calls 99 w

attribute [local irreducible] Sep diskT rowT
set_option maxHeartbeats 1000000 in
set_option maxRecDepth 100000 in
theorem awake_core (w : World) (x y z : ByteArray) (a0 a1 a2 a3 a4 a5 a6 a7 : DS)
    (hx : ∀ w, Calls Try.prog 34 #[.int .u8 97] w fun e w' => e = .returned (.string x) ∧ Below w.heap.size w w')
    (hy : ∀ w, Calls Try.prog 34 #[.int .u8 98] w fun e w' => e = .returned (.string y) ∧ Below w.heap.size w w')
    (hz : ∀ w, Calls Try.prog 34 #[.int .u8 99] w fun e w' => e = .returned (.string z) ∧ Below w.heap.size w w')
    (e0 : Aside0 (newD 3 = a0)) (e1 : Aside0 ({ a0 with rc := true, log := [] } = a1)) (e2 : Aside0 ((writeD a1 0 x).1 = a2)) (e3 : Aside0 ((writeD a2 1 y).1 = a3)) (e4 : Aside0 ((writeD a3 0 z).1 = a4))
    (e5 : Aside0 ({ a4 with rc := false, log := [] } = a5)) (e6 : Aside0 (crashD a5 [1, 2] = a6)) (e7 : Aside0 (syncD a5 = a7))
    (l0 : a0.dur.length = 3) (l1 : a1.pen.length = 0 ∧ a1.log.length = 0) (l2 : a2.pen.length = 1 ∧ a2.log.length = 1) (l3 : a3.pen.length = 2 ∧ a3.log.length = 2) (l4 : a4.pen.length = 3 ∧ a4.log.length = 3) (l5 : a5.pen.length = 3 ∧ a5.log.length = 0)
    (f1 : (writeD a1 0 x).2 = 0) (f2 : (writeD a2 1 y).2 = 0) (f3 : (writeD a3 0 z).2 = 0)
    (f6 : Aside0 (flush a6.dur a6.pen = [z, torn, nb])) (f7 : Aside0 (flush a7.dur a7.pen = [z, y, nb])) (f8 : a7.pen.length = 0) :
    Calls Try.prog 10 #[] w fun e w' => e = .returned (.bool true) ∧ Below w.heap.size w w' := by
  have HL := Aside0.mk (show a1.log.length < 1000000 ∧ a1.pen.length < 1000000 ∧ a2.log.length < 1000000 ∧ a2.pen.length < 1000000 ∧ a3.log.length < 1000000 ∧ a3.pen.length < 1000000 ∧ a4.pen.length < 1000000 ∧ a5.pen.length < 1000000 ∧ a5.log.length < 1000000 by omega)
  have HX := Aside0.mk hx
  have HY := Aside0.mk hy
  have HZ := Aside0.mk hz
  clear hx hy hz
  have f0b : ((a0.dur.length : Int) != 3) = false := by simp [l0]
  have f4b : ((a4.pen.length : Int) != 3) = false := by simp [l4]
  have f5b : ((a4.log.length : Int) != 3) = false := by simp [l4]
  have f8b : ((a7.pen.length : Int) == 0) = true := by simp [f8]
  have f1b : ((writeD a1 0 x).2 != 0) = false := by simp [f1]
  have f2b : ((writeD a2 1 y).2 != 0) = false := by simp [f2]
  have f3b : ((writeD a3 0 z).2 != 0) = false := by simp [f3]
  clear f1 f2 f3 f8 l0 l1 l2 l3 l4 l5
  have S := Aside0.mk (SepT.start w)
  go_enter Try.func10, Try.ntmps10
  have k1 : ∀ {a b c : ByteArray}, [a, b, c].length ≤ 1000000000 := fun {a b c} => by simp
  have k2 : ∀ {a b c : ByteArray}, [a, b, c].length < 1000000000 := fun {a b c} => by simp
  have n1 : 1 ≤ 3 := by decide
  have n2 : 3 ≤ 4096 := by decide
  have n3 : [(1 : Int), 2].length ≤ 1000000000 := by decide
  have n4 : [(1 : Int), 2].length < 1000000 := by decide
  have n5 : ([] : List (Int × ByteArray × Bool)).length < 1000000 := by decide
  go_wp2_with (first
    | (go_at_call 12; have hc := New_S S.out 3 n1 n2; refine hc.mono ?_; clear hc; rintro e w1 ⟨g, rfl, hs⟩; rw [e0.out] at hs; clear S; have S := Aside0.mk hs; clear hs)
    | (go_at_call 22; have hc := Pages_S S.out m0 (s := a0); refine hc.mono ?_; clear hc; rintro e w' ⟨rfl, rfl⟩)
    | (go_at_call 26; have hc := Record_S (s := a0) S.out true; refine hc.mono ?_; clear hc; rintro e w1 ⟨A, c, rfl, hs⟩; rw [e1.out] at hs; clear S; have S := Aside0.mk (SepT.drop hs.swap); clear hs)
    | (go_at_call 34; (with_reducible refine (HX.out _).mono ?_); rintro e w1 ⟨rfl, hb⟩; have S1 := Aside0.mk (S.out.below hb); clear S hb; have S := S1; clear S1)
    | (go_at_call 34; (with_reducible refine (HY.out _).mono ?_); rintro e w1 ⟨rfl, hb⟩; have S1 := Aside0.mk (S.out.below hb); clear S hb; have S := S1; clear S1)
    | (go_at_call 34; (with_reducible refine (HZ.out _).mono ?_); rintro e w1 ⟨rfl, hb⟩; have S1 := Aside0.mk (S.out.below hb); clear S hb; have S := S1; clear S1)
    | (go_at_call 27; have hc := Write_S (s := a1) S.out 0 x HL.out.1 HL.out.2.1; refine hc.mono ?_; clear hc; rintro e w1 ⟨rfl, hs⟩; rw [e2.out] at hs; clear S; have S := Aside0.mk hs; clear hs)
    | (go_at_call 27; have hc := Write_S (s := a2) S.out 1 y HL.out.2.2.1 HL.out.2.2.2.1; refine hc.mono ?_; clear hc; rintro e w1 ⟨rfl, hs⟩; rw [e3.out] at hs; clear S; have S := Aside0.mk hs; clear hs)
    | (go_at_call 27; have hc := Write_S (s := a3) S.out 0 z HL.out.2.2.2.2.1 HL.out.2.2.2.2.2.1; refine hc.mono ?_; clear hc; rintro e w1 ⟨rfl, hs⟩; rw [e4.out] at hs; clear S; have S := Aside0.mk hs; clear hs)
    | (go_at_call 16; have hc := Pending_S (s := a4) S.out m0; (with_reducible refine hc.mono ?_); clear hc; rintro e w' ⟨rfl, rfl⟩)
    | (go_at_call 23; have hc := Clone_S (s := a4) S.out m0 HL.out.2.2.2.2.2.2.1; refine hc.mono ?_; clear hc; rintro e w1 ⟨g', rfl, hs⟩; have S1 := Aside0.mk hs.swap; clear S hs; have S := S1; clear S1)
    | (go_at_call 26; have hc := Record_S (s := a4) S.out false; refine hc.mono ?_; clear hc; rintro e w1 ⟨A, c, rfl, hs⟩; rw [e5.out] at hs; clear S; have S := Aside0.mk (SepT.drop hs.swap); clear hs)
    | (go_at_call 24; have hc := Crash_row (s := a5) _ 2 [1, 2] ((S.out.lit (enc := Value.int .i64) (h1 := fun _ => rfl) 3 [1, 2] (by decide)).swap) m0 n4 HL.out.2.2.2.2.2.2.2.1; refine hc.mono ?_; clear hc; rintro e w1 ⟨rfl, hs⟩; rw [e6.out] at hs; clear S; have S := Aside0.mk (SepT.drop hs.swap).swap; clear hs)
    | (go_at_call 25; have hc := Sync_S (s := a5) S.out HL.out.2.2.2.2.2.2.2.2 HL.out.2.2.2.2.2.2.2.1; refine hc.mono ?_; clear hc; rintro e w1 ⟨rfl, hs⟩; rw [e7.out] at hs; clear S; have S := Aside0.mk hs; clear hs)
    | (go_at_call 18; have hc := Image_S (s := a6) S.out m1; rw [f6.out] at hc; (with_reducible refine hc.mono ?_); clear hc; rintro e w1 ⟨A, c, rfl, hs⟩; clear S; have S := Aside0.mk hs; clear hs)
    | (go_at_call 17; have hc := Equal_same A c _ _ 3 (S.out.lit (enc := Value.string) (h1 := fun _ => rfl) 9 [z, torn, nb] k1) m1 m0 k2; go_fit hc; clear hc; rintro e w1 ⟨rfl, hs⟩; clear S; have S := Aside0.mk (SepT.drop (SepT.drop hs)); clear hs)
    | (go_at_call 18; have hc := Image_S (s := a7) S.out m0; rw [f7.out] at hc; (with_reducible refine hc.mono ?_); clear hc; rintro e w1 ⟨A1, c1, rfl, hs⟩; clear S; have S := Aside0.mk hs; clear hs)
    | (go_at_call 17; (have hc := Equal_same A1 c1 _ _ 3 (S.out.lit (enc := Value.string) (h1 := fun _ => rfl) 9 [z, y, nb] k1) m1 m0 k2; go_fit hc; clear hc; rintro e w1 ⟨rfl, hs⟩; clear S; have S := Aside0.mk (SepT.drop (SepT.drop hs)); clear hs))
    | (go_at_call 16; have hc := Pending_S (s := a7) S.out m0; (with_reducible refine hc.mono ?_); clear hc; rintro e w' ⟨rfl, rfl⟩))
  go_ret
  exact ⟨rfl, Sep.base S.out⟩

set_option maxRecDepth 100000 in
theorem awake_calls (w : World) :
    Calls Try.prog 10 #[] w fun e w' => e = .returned (.bool true) ∧ Below w.heap.size w w' := by
  obtain ⟨f1, f2, f3, f4, f5, f6, f7, f8⟩ := aw_facts
  have e1 : aw1 = { dur := [nb, nb, nb], pen := [], rc := true, log := [] } := rfl
  have w1 := writeD_ok aw1 0 (pageOf 97) (by simp [e1]) (pageOf_size _)
  have e2 : aw2 = { dur := [nb, nb, nb], pen := [(0, pageOf 97)], rc := true, log := [(0, pageOf 97, false)] } := by
    unfold aw2; rw [w1, e1]; rfl
  have w2 := writeD_ok aw2 1 (pageOf 98) (by simp [e2]) (pageOf_size _)
  have e3 : aw3 = { dur := [nb, nb, nb], pen := [(0, pageOf 97), (1, pageOf 98)], rc := true, log := [(0, pageOf 97, false), (1, pageOf 98, false)] } := by
    unfold aw3; rw [w2, e2]; rfl
  exact awake_core w (pageOf 97) (pageOf 98) (pageOf 99) aw0 aw1 aw2 aw3 aw4 aw5 aw6 aw7 page97 page98 page99 ⟨rfl⟩ ⟨rfl⟩ ⟨rfl⟩ ⟨rfl⟩ ⟨rfl⟩ ⟨rfl⟩ ⟨rfl⟩ ⟨rfl⟩ rfl ⟨rfl, rfl⟩ (by rw [e2]; exact ⟨rfl, rfl⟩) (by rw [e3]; exact ⟨rfl, rfl⟩) ⟨f4, f5⟩ ⟨f4, rfl⟩ f1 f2 f3 ⟨f6⟩ ⟨f7⟩ f8

end Go.Proofs.Ytccomlafacdcjaa.Dk
