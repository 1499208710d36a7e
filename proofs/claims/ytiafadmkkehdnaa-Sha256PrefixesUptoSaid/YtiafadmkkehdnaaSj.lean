/-
  sha256's Sum of a string, and Tagged.
-/
import Derived.Test.YtiafadmkkehdnaaSi
namespace Go.Proofs.Ytiafadmkkehdnaa.Sh
open Go.RowKit Go.Great Go.Proofs.YtiafadmkkehdnaaW.PrintWords Go.Proofs.YtiafadmkkehdnaaW.PrintMore
set_option linter.unusedVariables false

theorem str_at {w : World} {A : Option Addr} {n : Nat} {xs : List ByteArray} (h : Kd.C Kd.string w A n xs) (i : Int) (h0 : 0 ≤ i) (h1 : i < n) : ∃ ad, A = some ad ∧ w.cell? (ad.add i.toNat) = some (.string (xs.getD i.toNat ⟨#[]⟩)) := by
  obtain ⟨ad, c, e, _, hK, hc0⟩ := Kd.C_get h ⟨#[]⟩ i h0 h1
  obtain rfl : c = [.string (xs.getD i.toNat ⟨#[]⟩)] := hK
  have hc := hc0 0 _ rfl
  exact ⟨ad, e, by simpa [Kd.string, Kd.scalar] using hc⟩
theorem empty_append (s : ByteArray) : (⟨#[]⟩ : ByteArray) ++ s = s := by
  apply ByteArray.ext
  rw [ByteArray.data_append]
  simp
/-- A tag and its parts, each behind its length. -/
def catT : ByteArray → List ByteArray → ByteArray
  | b, [] => b
  | b, p :: l => catT (b ++ numB (p.size : Nat) ++ p) l
def tagB (tag : ByteArray) (l : List ByteArray) : ByteArray := catT (numB (tag.size : Nat) ++ tag) l
theorem catT_size : ∀ (l : List ByteArray) (b : ByteArray), b.size ≤ (catT b l).size
  | [], b => Nat.le_refl _
  | p :: l, b => by
    have h := catT_size l (b ++ numB (p.size : Nat) ++ p)
    rw [catT]
    rw [ByteArray.size_append, ByteArray.size_append] at h
    omega
theorem numB_size (n : Int) : (numB n).size = 8 := by unfold numB; rw [strOfNums_size]; rfl
attribute [local irreducible] Sep rowT boxT hashT
set_option maxRecDepth 100000 in
theorem SumF_S {w0 w : World} {ts : List Th} (S0 : SepT w0 w ts) (s : ByteArray) (hs : s.size ≤ 100000000) :
    Calls Try.prog 28 #[.string s] w fun e w' => e = .returned (.string (sumB s)) ∧ SepT w0 w' ts := by
  have S := Aside0.mk S0
  clear S0
  go_enter Try.func28, Try.ntmps28
  go_wp2_with (first
    | (go_at_call 37; have hc := New_S S.out; go_fit hc; clear hc; rintro e w1 ⟨g, rfl, hh⟩; clear S; have S := Aside0.mk hh; clear hh)
    | (go_at_call 38; have hc := Write_S S.out s (by show 0 + _ ≤ _; omega); rw [empty_append] at hc; go_fit hc; clear hc; rintro e w2 ⟨rfl, hh⟩; clear S; have S := Aside0.mk hh; clear hh)
    | (go_at_call 40; have hc := Sum_S S.out m0 hs; go_fit hc; clear hc; rintro e w3 ⟨rfl, hh⟩; clear S; have S := Aside0.mk hh; clear hh))
  go_ret
  exact ⟨rfl, S.out.drop⟩
set_option maxHeartbeats 2000000 in
set_option maxRecDepth 100000 in
theorem Tagged_S {w0 w : World} {ts : List Th} (S0 : SepT w0 w ts) (tag : ByteArray) (A : Option Addr) (c : Nat) (l : List ByteArray) (hC : Kd.C Kd.string w0 A l.length l) (hl : l.length < 1000000) (ht : (tagB tag l).size ≤ 100000000) :
    Calls Try.prog 31 #[.string tag, .slice A l.length c] w fun e w' => e = .returned (.string (sumB (tagB tag l))) ∧ SepT w0 w' ts := by
  have S := Aside0.mk S0
  have HC := Aside0.mk hC
  obtain ⟨T, hT⟩ : ∃ T, tagB tag l = T := ⟨_, rfl⟩
  have h1 : (numB (tag.size : Nat) ++ tag).size ≤ (tagB tag l).size := catT_size l _
  rw [ByteArray.size_append, numB_size] at h1
  rw [hT] at h1 ht ⊢
  have htg : (tag.size : Int) ≤ 100000000 := by omega
  have HT := Aside0.mk (show catT (numB (tag.size : Nat) ++ tag) l = T from hT)
  obtain ⟨N, hN⟩ : ∃ N, numB ((tag.size : Nat) : Int) = N := ⟨_, rfl⟩
  have hNs : N.size = 8 := by rw [← hN]; exact numB_size _
  have hNi : (N.size : Int) ≤ 8 := by omega
  have hsz : (⟨#[]⟩ : ByteArray).size + (N ++ tag).size ≤ 140737488351232 := by rw [ByteArray.size_append]; show 0 + _ ≤ _; omega
  have HN := Aside0.mk hN
  rw [hN] at HT
  clear S0 hC hT h1 hN hNs
  go_enter Try.func31, Try.ntmps31
  go_wp2_with (first
    | (go_at_call 37; have hc := New_S S.out; go_fit hc; clear hc; rintro e w1 ⟨g, rfl, hh⟩; clear S; have S := Aside0.mk hh; clear hh)
    | (go_at_call 70; have hc := number_S S.out (tag.size : Int) (by omega) (by omega); rw [HN.out] at hc; go_fit hc; clear hc; rintro e w2 ⟨rfl, hh⟩; clear S; have S := Aside0.mk hh; clear hh)
    | (go_at_call 38; have hc := Write_S S.out (N ++ tag) hsz; rw [empty_append] at hc; go_fit hc; clear hc; rintro e w3 ⟨rfl, hh⟩; clear S; have S := Aside0.mk hh; clear hh))
  go_loopw [19] (fun v19 wr => ∃ (k : Nat) (b : ByteArray), k ≤ l.length ∧ v19 = .int .i64 k ∧ Aside0 (catT b (l.drop k) = T) ∧ Aside0 (SepT w0 wr (hashT g b :: ts))) (fun v19 _ => l.length - (intOf v19).toNat)
  case atStart => exact ⟨0, N ++ tag, Nat.zero_le _, rfl, HT, S⟩
  case round =>
    clear S HT
    obtain ⟨k, b, hk, rfl, HT, S⟩ := hrel
    by_cases hlt : k < l.length
    · have hlt2 : (k : Int) < l.length := by omega
      obtain ⟨ad, hAd, d0⟩ := str_at HC.out k (by omega) (by omega)
      subst hAd
      have hB := Sep.base S.out
      replace d0 := pw_cell_below hB d0
      rw [Int.toNat_natCast] at d0
      have hdr : l.drop k = l.getD k ⟨#[]⟩ :: l.drop (k + 1) := by
        rw [List.drop_eq_getElem_cons hlt]; simp [List.getD, hlt]
      rw [hdr, catT] at HT
      clear hdr hB
      generalize l.getD k ⟨#[]⟩ = p at d0 HT
      have h1 : (b ++ numB (p.size : Nat) ++ p).size ≤ T.size := by rw [← HT.out]; exact catT_size _ _
      rw [ByteArray.size_append, ByteArray.size_append, numB_size] at h1
      obtain ⟨N2, hN2⟩ : ∃ N2, numB ((p.size : Nat) : Int) = N2 := ⟨_, rfl⟩
      have hNs2 : N2.size = 8 := by rw [← hN2]; exact numB_size _
      rw [hN2] at HT
      have HN2 := Aside0.mk hN2
      have hp1 : (p.size : Int) ≤ 100000000 := by omega
      have hw1 : b.size + N2.size ≤ 140737488351232 := by omega
      have hw2 : (b ++ N2).size + p.size ≤ 140737488351232 := by rw [ByteArray.size_append]; omega
      clear hN2 hNs2 h1
      go_wp2_with (first
        | (go_at_call 70; have hc := number_S S.out (p.size : Int) (by omega) (by omega); rw [HN2.out] at hc; go_fit hc; clear hc; rintro e w4 ⟨rfl, hh⟩; clear S; have S := Aside0.mk hh; clear hh)
        | (go_at_call 38; have hc := Write_S S.out N2 hw1; go_fit hc; clear hc; rintro e w5 ⟨rfl, hh⟩; clear S; have S := Aside0.mk hh; clear hh)
        | (go_at_call 38; have hc := Write_S S.out p hw2; go_fit hc; clear hc; rintro e w6 ⟨rfl, hh⟩; clear S; have S := Aside0.mk hh; clear hh))
      clear d0
      go_roundw
      case rel => exact ⟨k + 1, _, by omega, by go_num, HT, S⟩
      case measure => simp [intOf]; omega
    · obtain rfl : k = l.length := by omega
      have hb : b = T := by rw [← HT.out, List.drop_length]; rfl
      have hbs : b.size ≤ 100000000 := by rw [hb]; exact ht
      have HB := Aside0.mk hb
      clear hb
      go_wp2_with (go_at_call 40; have hc := Sum_S S.out m0 hbs; go_fit hc; clear hc; rintro e w7 ⟨rfl, hh⟩; clear S; have S := Aside0.mk hh; clear hh)
      go_ret
      exact ⟨by rw [HB.out]; rfl, S.out.drop⟩
end Go.Proofs.Ytiafadmkkehdnaa.Sh
