/-
  The law Sha256Returns, walked.
-/
import Derived.Test.YtiafadmkkehdnaaSo
import Derived.Test.YtiafadmkkehdnaaSr
namespace Go.Proofs.Ytiafadmkkehdnaa.Sh
open Go.RowKit Go.Great Go.Proofs.YtiafadmkkehdnaaW.PrintWords Go.Proofs.YtiafadmkkehdnaaW.PrintMore
set_option linter.unusedVariables false

theorem ParseQ_S {w0 w : World} {ts : List Th} (S0 : SepT w0 w ts) (s : ByteArray) (hs : s.size ≤ 100000000) :
    Calls Try.prog 33 #[.string s] w fun e w' => e = .returned (.tuple #[.string (parB s), .int .i64 (parC s)]) ∧ SepT w0 w' ts := Parse_S S0 s hs
theorem reads_set {W : World} {n : Nat} {x : ByteArray} {p : Nat} {v : Int} (hx : x.size = 64) (hp : p < 64) (h : ReadsInt W .u8 (some ⟨n, 0, none⟩) 64 (bytesOf x)) (hc : ∃ u, W.cell? ⟨n, p, none⟩ = some u) :
    ReadsInt (W.setCell ⟨n, p, none⟩ (.int .u8 v)) .u8 (some ⟨n, 0, none⟩) 64 ((bytesOf x).set p v) := by
  obtain ⟨h1, h2, h3⟩ := h
  refine ⟨by rw [List.length_set]; exact h1, h2, fun _ => ⟨_, rfl, fun j hj => ?_⟩⟩
  obtain ⟨ad, e, hcell⟩ := h3 (by omega)
  injection e with e
  subst e
  have hj2 := hcell j hj
  rw [add_plain] at hj2 ⊢
  obtain ⟨u, hu⟩ := hc
  by_cases hjp : j = p
  · subst hjp
    rw [World.cell?_setCell_same _ _ _ hu]
    simp only [List.getD_eq_getElem?_getD]
    rw [List.getElem?_set_self (by rw [bytesOf_length]; omega)]
    rfl
  · rw [World.cell?_setCell_other _ _ _ _ (by intro h; simp only [Addr.mk.injEq] at h; omega), hj2]
    simp only [List.getD_eq_getElem?_getD]
    rw [List.getElem?_set_ne (by omega)]
theorem withByte_eq (x : ByteArray) (p : Nat) (v : Int) : strOfNums ((bytesOf x).set p v) = withByte x p v := rfl
theorem bytes_cell (W : World) (x : ByteArray) (p : Nat) (hp : p < x.size) : (Lib.bytesWorld W 5 x).cell? ⟨W.heap.size, p, none⟩ = some (.int .u8 (byteN x p)) := by
  rw [Lib.bytesWorld_cell W 5 x p hp]
  unfold byteN
  simp [Array.getD, List.getD, hp]
theorem toList_inj {a b : ByteArray} (h : a.toList = b.toList) : a = b := by
  apply ByteArray.ext
  apply Array.toList_inj.1
  rw [ByteArray.toList_eq, ByteArray.toList_eq] at h
  exact h
theorem bytes_frozen (W : World) (x : ByteArray) (p : Nat) (hp : p < x.size) : (Lib.bytesWorld W 5 x).frozen? ⟨W.heap.size, p, none⟩ = false := by
  unfold World.frozen?
  rw [Lib.bytesWorld_at_new]
  simp [Lib.bytesCells]
  omega
attribute [local irreducible] Sep rowT boxT hashT sumB hexB parB parC withByte Lib.bytesWorld
set_option maxHeartbeats 2000000 in
set_option maxRecDepth 100000 in
theorem Sha256Returns_law (w : World) (s : ByteArray) (at_ : Nat) (hat : at_ < 256) (xr : Nat) (hxr : xr < 256) (hs : s.size ≤ 140737488351232) :
    Calls Try.prog 8 #[.string s, .int .u8 at_, .int .u8 xr] w fun e w' => e = .returned (.bool true) ∧ Below w.heap.size w w' := by
  have S := Aside0.mk (SepT.start w)
  by_cases h1 : (s.size : Int) ≤ 2000
  · have k1 : s.size ≤ 100000000 := by omega
    have g1 : decide (2000 < (s.size : Int)) = false := by simp; omega
    obtain ⟨D, hD⟩ : ∃ D, sumB s = D := ⟨_, rfl⟩
    have hD32 : D.size = 32 := by rw [← hD]; exact sumB_size s
    obtain ⟨X, hX⟩ : ∃ X, hexB D = X := ⟨_, rfl⟩
    have hX64 : X.size = 64 := by rw [← hX, hexB_size, hD32]
    have hpo := ret_parse D hD32
    have hro := ret_other D hD32
    rw [hX] at hpo hro
    obtain ⟨p, hp⟩ : ∃ p, at_ % 64 = p := ⟨_, rfl⟩
    have hp64 : p < 64 := by omega
    have hpt : Int.tmod (at_ : Int) 64 = (p : Int) := by rw [Int.tmod_eq_emod_of_nonneg (by omega)]; omega
    have hpm : (at_ : Int) % 64 = (p : Int) := by omega
    obtain ⟨old, hold⟩ : ∃ o, byteN X p = o := ⟨_, rfl⟩
    have hor := byteN_range X p
    obtain ⟨v, hv⟩ : ∃ v, bits .xor .u8 old (xr : Int) = v := ⟨_, rfl⟩
    rw [hold] at hor
    have hv255 : 0 ≤ v ∧ v ≤ 255 := by
      rcases Nat.eq_zero_or_pos xr with h0 | h0
      · subst h0
        obtain ⟨o, rfl⟩ := Int.eq_ofNat_of_zero_le hor.1
        have : ∀ o : Nat, o < 256 → 0 ≤ bits .xor .u8 (o : Int) ((0 : Nat) : Int) ∧ bits .xor .u8 (o : Int) ((0 : Nat) : Int) ≤ 255 := by decide +kernel
        rw [← hv]
        exact this o (by omega)
      · rw [← hv]; exact (xor_ne old xr hor (by omega) (by omega)).2
    obtain ⟨Z, hZ⟩ : ∃ Z, withByte X p v = Z := ⟨_, rfl⟩
    have hZ64 : Z.size = 64 := by rw [← hZ, withByte_size, hX64]
    have hPX : parB X = D ∧ parC X = 0 := ⟨hpo.2, by unfold parC; rw [if_pos hpo.1]⟩
    -- the three ends
    have hend : xr = 0 ∨ (xr ≠ 0 ∧ parB Z = ⟨#[]⟩ ∧ parC Z = 3) ∨ (xr ≠ 0 ∧ parC Z = 0 ∧ (parB Z).size = 32 ∧ parB Z ≠ D) := by
      rcases Nat.eq_zero_or_pos xr with h0 | h0
      · exact .inl h0
      · cases hk : parOk Z with
        | false => exact .inr (.inl ⟨by omega, (par_bad hk).1, (par_bad hk).2⟩)
        | true =>
          refine .inr (.inr ⟨by omega, by unfold parC; rw [if_pos hk], par_size Z hk, ?_⟩)
          rw [← hZ]
          refine hro p hp64 v hv255 ?_ (by rw [hZ]; exact hk)
          rw [hold, ← hv]
          exact (xor_ne old xr hor (by omega) (by omega)).1
    have HEND := Aside0.mk hend
    have HD := Aside0.mk hD
    have HX := Aside0.mk hX
    have HPX := Aside0.mk hPX
    have HZ := Aside0.mk hZ
    have HV := Aside0.mk hv
    have HO := Aside0.mk hold
    have HX64 := Aside0.mk hX64
    have kD : D.size ≤ 100000000 := by omega
    have kX : X.size ≤ 100000000 := by omega
    have kZ : Z.size ≤ 100000000 := by omega
    have g2 : (D.size : Int) = 32 := by omega
    have g3 : (X.size : Int) = 64 := by omega
    clear hD hX hpo hro hold hv hZ hPX hend hs h1 hor hv255 hp hD32 hX64 hZ64
    go_enter Try.func8, Try.ntmps8
    go_upto_region 10 with (first
      | (go_at_call 27; have hc := awake_S S.out; go_fit hc; clear hc; rintro e w1 ⟨rfl, hh⟩; clear S; have S := Aside0.mk hh; clear hh)
      | (go_at_call 28; have hc := SumF_S S.out s k1; rw [HD.out] at hc; go_fit hc; clear hc; rintro e w2 ⟨rfl, hh⟩; clear S; have S := Aside0.mk hh; clear hh)
      | (go_at_call 35; have hc := Hex_S S.out D kD; rw [HX.out] at hc; go_fit hc; clear hc; rintro e w3 ⟨rfl, hh⟩; clear S; have S := Aside0.mk hh; clear hh)
      | (go_at_call 33; have hc := ParseQ_S S.out X kX; rw [HPX.out.1, HPX.out.2] at hc; go_fit hc; clear hc; rintro e w4 ⟨rfl, hh⟩; clear S; have S := Aside0.mk hh; clear hh))
    have hcv := print_bytes (P := Try.prog) 9 49 5 Try.underlying9 Try.underlying49 Try.underlying5 X w4
    have hr1 := bytes_reads w4 5 X (by omega)
    have y1 : (Lib.bytesWorld w4 5 X).cell? ⟨w4.heap.size, p, none⟩ = some (.int .u8 old) := by rw [← HO.out]; exact bytes_cell w4 X p (by rw [HX64.out]; exact hp64)
    have e1 := bytes_frozen w4 X p (by rw [HX64.out]; exact hp64)
    rw [HX64.out] at hcv hr1
    have hB1 := bytes_below (Below.refl w4.heap.size w4) (Nat.le_refl _) 5 X
    generalize grownCap w4 64 0 5 = cc at hcv
    have S2 := Aside0.mk (S.out.below (hB1.setCell (p := ⟨w4.heap.size, p, none⟩) (Nat.le_refl _) (.int .u8 v)))
    have hr2 := reads_set (v := v) HX64.out hp64 hr1 ⟨_, y1⟩
    have hcv2 := string_of_reads (P := Try.prog) (src := 49) (dst := 9) (e := 5) (c := cc) Try.underlying49 Try.underlying5 Try.underlying9 hr2
    rw [withByte_eq, HZ.out] at hcv2
    rw [← HV.out] at hcv2 S2
    clear S hB1 hr1 hr2
    generalize Lib.bytesWorld w4 5 X = V1 at *
    generalize w4.heap.size = n at *
    go_upto_region 12 with fail
    clear hcv y1 e1
    generalize World.setCell _ _ _ = V2 at *
    rcases HEND.out with hx0 | ⟨hx0, hB, hC⟩ | ⟨hx0, hC, hS, hN⟩
    · have hx1 : ((xr : Int) == 0) = true := by simp [hx0]
      clear hx0
      go_wp2_with (go_at_call 33; have hc := ParseQ_S S2.out Z kZ; go_fit hc; clear hc; rintro e w5 ⟨rfl, hh⟩; clear S2; have S := Aside0.mk hh; clear hh)
      go_ret
      exact ⟨rfl, Sep.base S.out⟩
    · have hx1 : ((xr : Int) == 0) = false := by simp; omega
      have HB := Aside0.mk hB
      have HC := Aside0.mk hC
      clear hx0 hB hC
      go_wp2_with (go_at_call 33; have hc := ParseQ_S S2.out Z kZ; rw [HB.out, HC.out] at hc; go_fit hc; clear hc; rintro e w5 ⟨rfl, hh⟩; clear S2; have S := Aside0.mk hh; clear hh)
      go_ret
      exact ⟨rfl, Sep.base S.out⟩
    · have hx1 : ((xr : Int) == 0) = false := by simp; omega
      obtain ⟨B, hB⟩ : ∃ B, parB Z = B := ⟨_, rfl⟩
      rw [hB] at hS hN
      have hS2 : (B.size : Int) = 32 := by omega
      have hN2 : (B.toList == D.toList) = false := by
        rw [beq_eq_false_iff_ne]
        intro h
        exact hN (toList_inj h)
      have HB := Aside0.mk hB
      have HC := Aside0.mk hC
      clear hx0 hB hC hS hN
      go_wp2_with (go_at_call 33; have hc := ParseQ_S S2.out Z kZ; rw [HB.out, HC.out] at hc; go_fit hc; clear hc; rintro e w5 ⟨rfl, hh⟩; clear S2; have S := Aside0.mk hh; clear hh)
      go_ret
      exact ⟨rfl, Sep.base S.out⟩
  · go_enter Try.func8, Try.ntmps8
    go_wp2_with (go_at_call 27; have hc := awake_S S.out; go_fit hc; clear hc; rintro e w1 ⟨rfl, hh⟩; clear S; have S := Aside0.mk hh; clear hh)
    go_ret
    exact ⟨rfl, Sep.base S.out⟩
end Go.Proofs.Ytiafadmkkehdnaa.Sh
