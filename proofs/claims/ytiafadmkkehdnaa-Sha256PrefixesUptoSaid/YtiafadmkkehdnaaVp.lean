/-
  The law Sha256Prefixes, walked, for arguments that are no longer than a bound.
-/
import Derived.Test.YtiafadmkkehdnaaSw
import Derived.Test.YtiafadmkkehdnaaVa
import Derived.Deep.LoopGhost
namespace Go.Proofs.Ytiafadmkkehdnaa.Sh
open Go.RowKit Go.Great Go.Proofs.YtiafadmkkehdnaaW.PrintWords Go.Proofs.YtiafadmkkehdnaaW.PrintMore
set_option linter.unusedVariables false
theorem Only.str {S : Nat → Prop} {w w' : World} (h : Only S w w') {ad : Addr} {s : ByteArray} (hc : w.cell? ad = some (.string s)) (hn : ¬ S ad.block) : w'.cell? ad = some (.string s) := by
  have hlt : ad.block < w.heap.size := by
    rcases Nat.lt_or_ge ad.block w.heap.size with h1 | h1
    · exact h1
    · unfold World.cell? at hc
      simp [Array.getElem?_eq_none h1] at hc
  rw [World.cell?_of_block (h.block ad.block hlt hn)]
  exact hc
theorem not_box {w : World} {b : Nat} {p v : Value} {ad : Addr} {s : ByteArray} (hb : w.heap[b]? = some (.cells #[p, v] 58 (0, 0))) (hp : ∀ s, p ≠ .string s) (hv : ∀ s, v ≠ .string s) (hc : w.cell? ad = some (.string s)) : ad.block ≠ b := by
  intro e
  obtain ⟨bb, o, sl⟩ := ad
  simp only at e
  subst e
  cases sl with
  | some k =>
    unfold World.cell? at hc
    rw [hb] at hc
    simp at hc
  | none =>
    rw [Lib.cell_of_heap hb] at hc
    match o, hc with
    | 0, hc => simp at hc; exact hp _ hc
    | 1, hc => simp at hc; exact hv _ hc
    | o + 2, hc => simp at hc
theorem BW.start {W0 : World} {b : Nat} (hv : W0.heap[b]? = some (.cells #[.pointer none, .slice none 0 0] 58 (0, 0))) : BW W0 b ⟨#[]⟩ W0 :=
  ⟨Only.refl _ _, blk_lt hv, _, _, .inl rfl, hv, rfl, .inl ⟨rfl, rfl⟩⟩
theorem strOfNums_app (a b : List Int) : strOfNums (a ++ b) = strOfNums a ++ strOfNums b := by
  apply ByteArray.ext
  simp [strOfNums, ByteArray.data_append]
/-- The first j bytes of a number, behind T. -/
def pre (T : ByteArray) (n : Int) (j : Nat) : ByteArray := T ++ strOfNums ((numL n).take j)
theorem pre_0 (T : ByteArray) (n : Int) : pre T n 0 = T := by
  unfold pre
  apply ByteArray.ext
  simp [strOfNums, ByteArray.data_append]
theorem pre_8 (T : ByteArray) (n : Int) : pre T n 8 = T ++ numB n := rfl
theorem pre_succ (T : ByteArray) (n : Int) (j : Nat) (hj : j < 8) : pre T n j ++ strOfNums [(numL n).getD j 0] = pre T n (j + 1) := by
  have hl : (numL n).length = 8 := rfl
  unfold pre
  rw [List.take_succ_eq_append_getElem (by omega), strOfNums_app]
  simp [List.getD, hl, hj, ByteArray.append_assoc]
theorem pre_size (T : ByteArray) (n : Int) (j : Nat) : (pre T n j).size ≤ T.size + 8 := by
  unfold pre
  rw [ByteArray.size_append, strOfNums_size, List.length_take]
  show T.size + min j 8 ≤ _
  omega

theorem BW.step {W0 w : World} {b : Nat} {T : ByteArray} {n c : Int} (j : Nat) (h : BW W0 b (pre T n j ++ strOfNums [c]) w) (hj : j < 8) (hc : c = (numL n).getD j 0) : BW W0 b (pre T n (j + 1)) w := by
  rw [hc, pre_succ T n j hj] at h
  exact h
theorem BW.below {W0 w w' : World} {b : Nat} {T : ByteArray} (h : BW W0 b T w) (hb : Below w.heap.size w w') : BW W0 b T w' := by
  obtain ⟨ho, hlt, p, v, hp, hv, hown⟩ := h
  refine ⟨ho.trans (S2 := fun _ => False) (Only.of_below hb _) (fun _ h => h.elim), hlt, p, v, hp, (hb.block b (blk_lt hv)).trans hv, hown.1, ?_⟩
  rcases hown.2 with h | ⟨g, cap, cur, e, hg, hh, r⟩
  · exact .inl h
  · exact .inr ⟨g, cap, cur, e, hg, (hb.block g (blk_lt hh)).trans hh, r⟩
theorem BW.base {W0 w w0 : World} {b : Nat} {T : ByteArray} (h : BW W0 b T w) (h0 : w0.heap.size ≤ b) (hs : Below w0.heap.size w0 W0) : Below w0.heap.size w0 w :=
  hs.trans (h.1.below hs.size (fun x hx => by omega))
theorem SepT.boxLit {w0 w : World} {ts : List Th} (h : SepT w0 w ts) (tag : ByteArray) : SepT w0 ((w.alloc (.cells #[.pointer none, .slice none 0 0] 58)).alloc (.cells ([tag].map Value.string).toArray 9)) (rowT Kd.string 9 (.slice (some ⟨w.heap.size + 1, 0, none⟩) 1 1) [tag] :: boxT w.heap.size #[.pointer none, .slice none 0 0] 58 :: ts) := by
  have k1 : [tag].length ≤ 1000000000 := by simp
  have h2 := SepT.lit (enc := Value.string) (h1 := fun _ => rfl) (h.allocBox #[.pointer none, .slice none 0 0] 58) 9 [tag] k1
  have e : (w.alloc (.cells #[.pointer none, .slice none 0 0] 58)).heap.size = w.heap.size + 1 := by simp
  rw [e] at h2
  exact h2
attribute [local irreducible] Sep rowT boxT hashT sumB tagB BW pre catT numB
set_option linter.unusedSimpArgs false
set_option maxHeartbeats 4000000 in
set_option maxRecDepth 100000 in
theorem Prefixes_main (w : World) (tag : ByteArray) (A : Option Addr) (c : Nat) (l : List ByteArray) (hC : Kd.C Kd.string w A l.length l) (hc : l.length ≤ c) (hb : tag.size + l.length + tot l ≤ 4000000) (q : Bool) (hq : decide ((((tag :: l).length + tot (tag :: l) : Nat) : Int) ≤ 2000) = q) :
    Calls Try.prog 10 #[.string tag, .slice A l.length c] w fun e w' => e = .returned (.bool true) ∧ Below w.heap.size w w' := by
  have S := Aside0.mk (SepT.start w)
  have HC := Aside0.mk hC
  have k1 : [tag].length ≤ 1000000000 := by simp
  have ht : (tagB tag l).size ≤ 100000000 := by rw [tagB_len]; omega
  have hlen : (tag :: l).length + tot (tag :: l) ≤ 4611686018427387904 := by simp [tot]; omega
  have haL : ([tag].length + l.length) * 16 ≤ 140737488355328 := by simp; omega
  have HF : Aside0 (∀ V ts (B : Option Addr) (n cb : Nat), SepT w V (rowT Kd.string 9 (.slice B n cb) (tag :: l) :: ts) → Calls Try.prog 30 #[.slice B n cb, .int .i64 2000] V fun e w' => e = .returned (.bool q) ∧ SepT w w' ts) := ⟨fun V ts B n cb h => FewR_S h hlen q hq⟩
  cases q with
  | false =>
    clear hC hc hb ht hlen hq
    go_enter Try.func10, Try.ntmps10
    go_wp2_with (first
      | (go_at_call 27; have hc := awake_S S.out; go_fit hc; clear hc; rintro e w1 ⟨rfl, hh⟩; clear S; have S := Aside0.mk hh; clear hh)
      | ((with_reducible refine gate_builtin (b := .append) (xs := #[.tmp 12, .tmp 13]) rfl ?_); at_builtin; go_loud (refine SepT.appendCame Kd.string rfl (.tmp 12) (.tmp 13) 22 9 (.string ⟨#[]⟩) 16 rfl Try.underlying22 info9t rfl (by decide) (by decide) (.slice (some ⟨w1.heap.size, 0, none⟩) 1 1) [tag] l A l.length c rfl rfl (fun _ _ h => h) (SepT.lit (enc := Value.string) (h1 := fun _ => rfl) S.out 9 [tag] k1) HC.out haL ?_; intro An cn w2 hq2; clear S; have S := Aside0.mk hq2; clear hq2))
      | (go_at_call 30; have hc := HF.out _ _ _ _ _ S.out; go_fit hc; clear hc; rintro e w3 ⟨rfl, hh⟩; clear S; have S := Aside0.mk hh; clear hh))
    go_ret
    exact ⟨rfl, Sep.base S.out⟩
  | true =>
    have hl : l.length < 1000000 := by
      have := of_decide_eq_true hq
      simp [tot] at this
      omega
    have H31 : Aside0 (∀ V, Below w.heap.size w V → Calls Try.prog 31 #[.string tag, .slice A l.length c] V fun e w' => e = .returned (.string (sumB (tagB tag l))) ∧ Below V.heap.size V w') := ⟨fun V h => by
      refine (Tagged_S (SepT.start V) tag A c l (Kd.C_below hC h) hl ht).mono ?_
      rintro e w' ⟨rfl, hh⟩
      exact ⟨rfl, Sep.base hh⟩⟩
    have HT0 : catT ⟨#[]⟩ (tag :: l) = tagB tag l := by
      unfold tagB
      rw [catT, empty_append]
    have hL2 : (tag :: l).length ≤ 2000000 := by simp; omega
    have HTs := Aside0.mk ht
    generalize tagB tag l = T at *
    have H28 : Aside0 (∀ V ts, SepT w V ts → Calls Try.prog 28 #[.string T] V fun e w' => e = .returned (.string (sumB T)) ∧ SepT w w' ts) := ⟨fun V ts h => SumF_S h T ht⟩
    generalize sumB T = R at *
    clear hC hc hb ht hlen hq hl
    go_enter Try.func10, Try.ntmps10
    go_wp2_with (first
      | (go_at_call 27; have hc := awake_S S.out; go_fit hc; clear hc; rintro e w1 ⟨rfl, hh⟩; clear S; have S := Aside0.mk hh; clear hh)
      | ((with_reducible refine gate_builtin (b := .append) (xs := #[.tmp 12, .tmp 13]) rfl ?_); at_builtin; go_loud (refine SepT.appendCame Kd.string rfl (.tmp 12) (.tmp 13) 22 9 (.string ⟨#[]⟩) 16 rfl Try.underlying22 info9t rfl (by decide) (by decide) (.slice (some ⟨w1.heap.size, 0, none⟩) 1 1) [tag] l A l.length c rfl rfl (fun _ _ h => h) (SepT.lit (enc := Value.string) (h1 := fun _ => rfl) S.out 9 [tag] k1) HC.out haL ?_; intro An cn w2 hq2; clear S; have S := Aside0.mk hq2; clear hq2))
      | (go_at_call 30; have hc := HF.out _ _ _ _ _ S.out; go_fit hc; clear hc; rintro e w3 ⟨rfl, hh⟩; clear S; have S := Aside0.mk (SepT.boxLit hh tag); clear hh)
      | ((with_reducible refine gate_builtin (b := .append) (xs := #[.tmp 18, .tmp 19]) rfl ?_); at_builtin; go_loud (refine SepT.appendCame Kd.string rfl (.tmp 18) (.tmp 19) 22 9 (.string ⟨#[]⟩) 16 rfl Try.underlying22 info9t rfl (by decide) (by decide) (.slice (some ⟨w3.heap.size + 1, 0, none⟩) 1 1) [tag] l A l.length c rfl rfl (fun _ _ h => h) S.out HC.out haL ?_; intro An5 cn5 w5 hq2; clear S; have S := Aside0.mk hq2; clear hq2)))
    generalize hbb : w3.heap.size = b at *
    obtain ⟨L2, hL⟩ : ∃ L2, [tag] ++ l = L2 := ⟨_, rfl⟩
    rw [hL] at S
    have hL' : tag :: l = L2 := hL
    rw [hL'] at HT0 hL2
    have hLl : l.length + 1 = L2.length := by rw [← hL']; simp
    have hLi : (l.length : Int) + 1 = (L2.length : Int) := by omega
    simp only [hLl, hLi]
    have hbx := (SepT.box S.out m1).1
    have hb0 := (SepT.box S.out m1).2
    obtain ⟨A6, c6, e6, hc6, hC6⟩ := SepT.row S.out
    injection e6 with e1 e2 e3
    subst e1
    subst e3
    have HC5 := Aside0.mk hC6
    have HS5 := Aside0.mk (Sep.base S.out)
    have HBX := Aside0.mk hbx
    have HW := Aside0.mk (BW.start hbx)
    have HT := Aside0.mk HT0
    have H43 : Aside0 (∀ V, BW w5 b T V → Calls Try.prog 43 #[.pointer (some ⟨b, 0, none⟩)] V fun e w' => e = .returned (.string T) ∧ SepT w w' []) := ⟨fun V h => String_B h hb0 (S.out.drop.drop)⟩
    have HBase : Aside0 (∀ T V, BW w5 b T V → Below w.heap.size w V) := ⟨fun T V h => h.base hb0 HS5.out⟩
    clear hC6 hbx HT0 S hbb hL hL' HF HC haL k1 hb0 e2 hLl hLi
    go_loopg [22] L2.length (fun g v22 wr => ∃ (k : Nat) (X : ByteArray), k ≤ L2.length ∧ g = L2.length - k ∧ v22 = .int .i64 k ∧ Aside0 (catT X (L2.drop k) = T) ∧ Aside0 (BW w5 b X wr))
    case atStart => exact ⟨0, _, Nat.zero_le _, rfl, rfl, HT, HW⟩
    case round =>
      clear HW HT
      obtain ⟨k, X, hk, rfl, rfl, HT, HW⟩ := hrel
      by_cases hlt : k < L2.length
      · have hlt2 : (k : Int) < L2.length := by omega
        obtain ⟨ad, hAd, d0⟩ := str_at HC5.out k (by omega) (by omega)
        subst hAd
        rw [Int.toNat_natCast] at d0
        have hne : (ad.add k).block ≠ b := not_box HBX.out (by simp) (by simp) d0
        have hdr : L2.drop k = L2.getD k ⟨#[]⟩ :: L2.drop (k + 1) := by
          rw [List.drop_eq_getElem_cons hlt]; simp [List.getD, hlt]
        rw [hdr, catT] at HT
        clear hdr
        generalize L2.getD k ⟨#[]⟩ = p at d0 HT
        have h1 : (X ++ numB (p.size : Nat) ++ p).size ≤ T.size := by rw [← HT.out]; exact catT_size _ _
        rw [ByteArray.size_append, ByteArray.size_append, numB_size] at h1
        have hTs := HTs.out
        have hps : (p.size : Int) ≤ 100000000 := by omega
        have hXs : X.size ≤ 100000000 := by omega
        clear h1 hTs
        have HO : Only (fun k => k = b) w5 wr := by have := HW.out; unfold BW at this; exact this.1
        replace d0 := HO.str d0 hne
        clear HO hne
        have HW0 := Aside0.mk (show BW w5 b (pre X (p.size : Int) 0) wr by rw [pre_0]; exact HW.out)
        clear HW
        go_wp2_with fail
        go_loopg [8] 8 (fun g2 v8 wq => ∃ z : Int, -1 ≤ z ∧ z ≤ 7 ∧ g2 = (z + 1).toNat ∧ v8 = .int .i64 z ∧ Aside0 (BW w5 b (pre X (p.size : Int) (7 - z).toNat) wq))
        case atStart => exact ⟨7, by omega, by omega, rfl, rfl, HW0⟩
        case round =>
          clear HW0
          obtain ⟨z, hz0, hz7, rfl, rfl, HB⟩ := hrel
          rcases (by omega : z = 7 ∨ z = 6 ∨ z = 5 ∨ z = 4 ∨ z = 3 ∨ z = 2 ∨ z = 1 ∨ z = 0 ∨ z = -1) with rfl | rfl | rfl | rfl | rfl | rfl | rfl | rfl | rfl
          · have hB := Aside0.mk (show BW w5 b (pre X (p.size : Int) 0) _ from HB.out)
            have hpz := pre_size X (p.size : Int) 0
            clear HB
            go_wp2_with (go_at_call 41; (with_reducible refine (WriteByte_B hB.out _ (by omega) (by omega) (by omega)).mono ?_); rintro e w6 ⟨rfl, hh⟩; have HB2 := Aside0.mk (BW.step 0 hh (by omega) (by show _ = List.getD (numL _) _ 0; simp only [numL, List.getD_cons_succ, List.getD_cons_zero]; try omega)); clear hh)
            go_roundg 7
            case rel => exact ⟨6, by omega, by omega, rfl, rfl, HB2⟩
            case measure => decide
          · have hB := Aside0.mk (show BW w5 b (pre X (p.size : Int) 1) _ from HB.out)
            have hpz := pre_size X (p.size : Int) 1
            clear HB
            go_wp2_with (go_at_call 41; (with_reducible refine (WriteByte_B hB.out _ (by omega) (by omega) (by omega)).mono ?_); rintro e w6 ⟨rfl, hh⟩; have HB2 := Aside0.mk (BW.step 1 hh (by omega) (by show _ = List.getD (numL _) _ 0; simp only [numL, List.getD_cons_succ, List.getD_cons_zero]; try omega)); clear hh)
            go_roundg 6
            case rel => exact ⟨5, by omega, by omega, rfl, rfl, HB2⟩
            case measure => decide
          · have hB := Aside0.mk (show BW w5 b (pre X (p.size : Int) 2) _ from HB.out)
            have hpz := pre_size X (p.size : Int) 2
            clear HB
            go_wp2_with (go_at_call 41; (with_reducible refine (WriteByte_B hB.out _ (by omega) (by omega) (by omega)).mono ?_); rintro e w6 ⟨rfl, hh⟩; have HB2 := Aside0.mk (BW.step 2 hh (by omega) (by show _ = List.getD (numL _) _ 0; simp only [numL, List.getD_cons_succ, List.getD_cons_zero]; try omega)); clear hh)
            go_roundg 5
            case rel => exact ⟨4, by omega, by omega, rfl, rfl, HB2⟩
            case measure => decide
          · have hB := Aside0.mk (show BW w5 b (pre X (p.size : Int) 3) _ from HB.out)
            have hpz := pre_size X (p.size : Int) 3
            clear HB
            go_wp2_with (go_at_call 41; (with_reducible refine (WriteByte_B hB.out _ (by omega) (by omega) (by omega)).mono ?_); rintro e w6 ⟨rfl, hh⟩; have HB2 := Aside0.mk (BW.step 3 hh (by omega) (by show _ = List.getD (numL _) _ 0; simp only [numL, List.getD_cons_succ, List.getD_cons_zero]; try omega)); clear hh)
            go_roundg 4
            case rel => exact ⟨3, by omega, by omega, rfl, rfl, HB2⟩
            case measure => decide
          · have hB := Aside0.mk (show BW w5 b (pre X (p.size : Int) 4) _ from HB.out)
            have hpz := pre_size X (p.size : Int) 4
            clear HB
            go_wp2_with (go_at_call 41; (with_reducible refine (WriteByte_B hB.out _ (by omega) (by omega) (by omega)).mono ?_); rintro e w6 ⟨rfl, hh⟩; have HB2 := Aside0.mk (BW.step 4 hh (by omega) (by show _ = List.getD (numL _) _ 0; simp only [numL, List.getD_cons_succ, List.getD_cons_zero]; try omega)); clear hh)
            go_roundg 3
            case rel => exact ⟨2, by omega, by omega, rfl, rfl, HB2⟩
            case measure => decide
          · have hB := Aside0.mk (show BW w5 b (pre X (p.size : Int) 5) _ from HB.out)
            have hpz := pre_size X (p.size : Int) 5
            clear HB
            go_wp2_with (go_at_call 41; (with_reducible refine (WriteByte_B hB.out _ (by omega) (by omega) (by omega)).mono ?_); rintro e w6 ⟨rfl, hh⟩; have HB2 := Aside0.mk (BW.step 5 hh (by omega) (by show _ = List.getD (numL _) _ 0; simp only [numL, List.getD_cons_succ, List.getD_cons_zero]; try omega)); clear hh)
            go_roundg 2
            case rel => exact ⟨1, by omega, by omega, rfl, rfl, HB2⟩
            case measure => decide
          · have hB := Aside0.mk (show BW w5 b (pre X (p.size : Int) 6) _ from HB.out)
            have hpz := pre_size X (p.size : Int) 6
            clear HB
            go_wp2_with (go_at_call 41; (with_reducible refine (WriteByte_B hB.out _ (by omega) (by omega) (by omega)).mono ?_); rintro e w6 ⟨rfl, hh⟩; have HB2 := Aside0.mk (BW.step 6 hh (by omega) (by show _ = List.getD (numL _) _ 0; simp only [numL, List.getD_cons_succ, List.getD_cons_zero]; try omega)); clear hh)
            go_roundg 1
            case rel => exact ⟨0, by omega, by omega, rfl, rfl, HB2⟩
            case measure => decide
          · have hB := Aside0.mk (show BW w5 b (pre X (p.size : Int) 7) _ from HB.out)
            have hpz := pre_size X (p.size : Int) 7
            clear HB
            go_wp2_with (go_at_call 41; (with_reducible refine (WriteByte_B hB.out _ (by omega) (by omega) (by omega)).mono ?_); rintro e w6 ⟨rfl, hh⟩; have HB2 := Aside0.mk (BW.step 7 hh (by omega) (by show _ = List.getD (numL _) _ 0; simp only [numL, List.getD_cons_succ, List.getD_cons_zero]; try omega)); clear hh)
            go_roundg 0
            case rel => exact ⟨-1, by omega, by omega, rfl, rfl, HB2⟩
            case measure => decide
          · have hB := Aside0.mk (show BW w5 b (X ++ numB (p.size : Int)) _ by rw [← pre_8]; exact HB.out)
            clear HB
            have hsz : (X ++ numB (p.size : Int)).size + p.size ≤ 140737488351232 := by rw [ByteArray.size_append, numB_size]; omega
            go_wp2_with (go_at_call 42; have hc := WriteString_B hB.out p hsz; go_fit hc; clear hc; rintro e w6 ⟨rfl, hh⟩; have HB2 := Aside0.mk hh; clear hh)
            go_roundg (L2.length - (k + 1))
            case rel => exact ⟨k + 1, _, by omega, rfl, by go_num, HT, HB2⟩
            case measure => omega
      · obtain rfl : k = L2.length := by omega
        have hX : X = T := by rw [← HT.out, List.drop_length]; unfold catT; rfl
        subst hX
        have HB := HW
        clear HW
        go_wp2_with (first
          | (go_at_call 31; have hc := H31.out _ (HBase.out _ _ HB.out); go_fit hc; clear hc; rintro e w7 ⟨rfl, hh⟩; have HB3 := Aside0.mk (HB.out.below hh); clear hh)
          | (go_at_call 43; have hc := H43.out _ HB3.out; go_fit hc; clear hc; rintro e w8 ⟨rfl, hh⟩; have S := Aside0.mk hh; clear hh)
          | (go_at_call 28; have hc := H28.out _ _ S.out; go_fit hc; clear hc; rintro e w9 ⟨rfl, hh⟩; clear S; have S := Aside0.mk hh; clear hh))
        go_ret
        exact ⟨by first | rfl | simp, Sep.base S.out⟩
theorem Sha256Prefixes_law (w : World) (tag : ByteArray) (A : Option Addr) (c : Nat) (l : List ByteArray) (hC : Kd.C Kd.string w A l.length l) (hc : l.length ≤ c) (hb : tag.size + (l.length + tot l) ≤ 1048576) :
    Calls Try.prog 10 #[.string tag, .slice A l.length c] w fun e w' => e = .returned (.bool true) ∧ Below w.heap.size w w' :=
  Prefixes_main w tag A c l hC hc (by omega) _ rfl
end Go.Proofs.Ytiafadmkkehdnaa.Sh
