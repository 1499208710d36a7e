/-
  Plain laws of the disk: what is read of all pages is what a sync would write.
-/
import Derived.Test.YtccomlafacdcjaaDh
namespace Go.Proofs.Ytccomlafacdcjaa.Dk
open Go.RowKit Go.Proofs.YtccomlafacdcjaaW.PrintWords Go.Proofs.YtccomlafacdcjaaW.PrintMore
set_option linter.unusedVariables false

theorem snoc_ind {α : Type} {P : List α → Prop} (h0 : P []) (h1 : ∀ l x, P l → P (l ++ [x])) (l : List α) : P l := by
  have h : ∀ r : List α, P r.reverse := fun r => by
    induction r with
    | nil => exact h0
    | cons x r ih => rw [List.reverse_cons]; exact h1 _ _ ih
  simpa using h l.reverse

theorem flush_get (d : List ByteArray) (q : Nat) (hq : q < d.length) (l : List (Int × ByteArray)) : (∀ x ∈ l, 0 ≤ x.1 ∧ x.1 < d.length) →
    (flush d l).getD q nb = match lastIdx l q with | some j => (l.getD j.toNat (0, nb)).2 | none => d.getD q nb := by
  induction l using snoc_ind with
  | h0 => intro _; rfl
  | h1 l x ih =>
    intro hb
    have ih := ih (fun y hy => hb y (List.mem_append_left _ hy))
    have hx := hb x (by simp)
    rw [flush_snoc]
    unfold lastIdx at ih ⊢
    rw [lastAt_snoc]
    by_cases e : (q : Int) = x.1
    · rw [if_pos e]
      have e2 : x.1.toNat = q := by omega
      simp [e2, flush_length, hq]
    · rw [if_neg e]
      have e2 : x.1.toNat ≠ q := by omega
      have e3 : ((flush d l).set x.1.toNat x.2).getD q nb = (flush d l).getD q nb := by
        simp [List.getD, List.getElem?_set_ne e2]
      rw [e3, ih]
      cases hl : lastAt l 0 q with
      | none => rfl
      | some j =>
        obtain ⟨k, rfl, hk, _⟩ := lastAt_some q j l 0 hl
        have hk2 : k < l.length := hk
        simp [List.getD, List.getElem?_append_left hk2]

theorem imageAt_eq (s : DS) (hb : ∀ x ∈ s.pen, 0 ≤ x.1 ∧ x.1 < s.dur.length) (q : Nat) (hq : q < s.dur.length) : imageAt s q = (flush s.dur s.pen).getD q nb := by
  rw [flush_get s.dur q hq s.pen hb]
  unfold imageAt readD
  have h1 : hasB s.dur.length (q : Int) = true := by simp [hasB, hq]
  rw [if_pos h1]
  cases hl : lastIdx s.pen q with
  | some j => simp
  | none =>
    simp only [Int.toNat_natCast]
    by_cases he : (s.dur.getD q nb).toList = [33]
    · rw [if_pos he]
      have : s.dur.getD q nb = torn := bytes_eq.mp (by rw [he, ByteArray.toList_eq])
      rw [this]; rfl
    · rw [if_neg he]; rfl

theorem imageD_eq (s : DS) (hb : ∀ x ∈ s.pen, 0 ≤ x.1 ∧ x.1 < s.dur.length) : imageD s = flush s.dur s.pen := by
  apply List.ext_getElem
  · rw [imageD_length, flush_length]
  · intro i h1 h2
    have hi : i < s.dur.length := by rw [imageD_length] at h1; exact h1
    have e : (imageD s)[i] = imageAt s i := by simp [imageD, imageTo]
    rw [e, imageAt_eq s hb i hi]
    simp [List.getD, h2]

theorem IsDisk.inb {w : World} {g : Nat} {ok : Nat → Prop} {s : DS} (h : IsDisk w g ok s) : ∀ x ∈ s.pen, 0 ≤ x.1 ∧ x.1 < s.dur.length := by
  obtain ⟨vd, vp, m, vr, h⟩ := h
  exact h.inb
/-- The image, by what a sync would write. -/
theorem Image_calls (g : Nat) (ok : Nat → Prop) (s : DS) (w : World) (h : IsDisk w g ok s) :
    Calls Try.prog 18 #[.pointer (some ⟨g, 0, none⟩)] w fun e w' => ∃ A c, e = .returned (.slice A (flush s.dur s.pen).length c) ∧ (flush s.dur s.pen).length ≤ c ∧ Kd.C Kd.string w' A (flush s.dur s.pen).length (flush s.dur s.pen) ∧ Below w.heap.size w w' := by
  refine (image_calls g ok s w h).mono ?_
  rintro e w' ⟨v, rfl, hR, hB⟩
  rw [imageD_eq s h.inb] at hR
  obtain ⟨A, c, rfl, hc, hC⟩ := Kd.R_reads hR
  exact ⟨A, c, rfl, hc, hC, hB⟩

/-! the example's states -/
theorem aw_facts : (writeD aw1 0 (pageOf 97)).2 = 0 ∧ (writeD aw2 1 (pageOf 98)).2 = 0 ∧ (writeD aw3 0 (pageOf 99)).2 = 0 ∧ aw4.pen.length = 3 ∧ aw4.log.length = 3 ∧ flush aw6.dur aw6.pen = [pageOf 99, torn, nb] ∧ flush aw7.dur aw7.pen = [pageOf 99, pageOf 98, nb] ∧ aw7.pen.length = 0 := by
  have e1 : aw1 = { dur := [nb, nb, nb], pen := [], rc := true, log := [] } := rfl
  have w1 := writeD_ok aw1 0 (pageOf 97) (by simp [e1]) (pageOf_size _)
  have e2 : aw2 = { dur := [nb, nb, nb], pen := [(0, pageOf 97)], rc := true, log := [(0, pageOf 97, false)] } := by
    unfold aw2; rw [w1, e1]; rfl
  have w2 := writeD_ok aw2 1 (pageOf 98) (by simp [e2]) (pageOf_size _)
  have e3 : aw3 = { dur := [nb, nb, nb], pen := [(0, pageOf 97), (1, pageOf 98)], rc := true, log := [(0, pageOf 97, false), (1, pageOf 98, false)] } := by
    unfold aw3; rw [w2, e2]; rfl
  have w3 := writeD_ok aw3 0 (pageOf 99) (by simp [e3]) (pageOf_size _)
  have e4 : aw4 = { dur := [nb, nb, nb], pen := [(0, pageOf 97), (1, pageOf 98), (0, pageOf 99)], rc := true, log := [(0, pageOf 97, false), (1, pageOf 98, false), (0, pageOf 99, false)] } := by
    unfold aw4; rw [w3, e3]; rfl
  refine ⟨by rw [w1], by rw [w2], by rw [w3], by rw [e4]; rfl, by rw [e4]; rfl, ?_, ?_, ?_⟩
  · unfold aw6 aw5; rw [e4]
    have c0 : choiceOf [1, 2] 0 = 1 := by decide +kernel
    have c1 : choiceOf [1, 2] 1 = 2 := by decide +kernel
    have c2 : choiceOf [1, 2] 2 = 1 := by decide +kernel
    simp [crashD, crashAt, stepC, flush, c0, c1, c2]
  · unfold aw7; rw [e4]
    rfl
  · unfold aw7; rw [e4]; rfl
end Go.Proofs.Ytccomlafacdcjaa.Dk
