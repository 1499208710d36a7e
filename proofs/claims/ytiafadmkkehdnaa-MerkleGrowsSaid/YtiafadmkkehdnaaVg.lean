/-
  The law MerkleGrows, walked.
-/
import Derived.Test.YtiafadmkkehdnaaPb
namespace Go.Proofs.Ytiafadmkkehdnaa.Sh
open Go.RowKit Go.Great Go.Proofs.YtiafadmkkehdnaaW.PrintWords Go.Proofs.YtiafadmkkehdnaaW.PrintMore
set_option linter.unusedVariables false
attribute [local irreducible] Sep rowT boxT hashT sumB splitN rootB nodeB nodeP leafB cutA inclB consB validB givR readR popN FewB consP frontB topN
set_option maxHeartbeats 8000000 in
set_option maxRecDepth 100000 in
theorem Grows_main (w : World) (A : Option Addr) (c n : Nat) (dat l : List ByteArray) (hC : Kd.C Kd.string w A n dat) (hcn : n ≤ c) (hn : n ≤ 40) (hf : FewB dat = true) (hbs : ∀ x ∈ dat, x.size ≤ 140737488351232) (hl : dat.map leafB = l) :
    Calls Try.prog 3 #[.slice A n c] w fun e w' => e = .returned (.bool true) ∧ Below w.heap.size w w' := by
  have S := Aside0.mk (SepT.start w)
  have hdn : dat.length = n := hC.1
  have hln : l.length = n := by rw [← hl, List.length_map, hdn]
  have hd : AllD l := by rw [← hl]; exact leaves_all dat
  have hts := (FewB_true hf).2
  have hsz : ∀ x ∈ dat, x.size ≤ 10000000 := fun x hx => by have := tot2_mem hx; omega
  have HF : Aside0 (∀ V ts, SepT w V ts → Calls Try.prog 17 #[.slice A n c] V fun e w' => e = .returned (.bool true) ∧ SepT w w' ts) := ⟨fun V ts h => by
    have hc := Few2_S h A c dat (by rw [hdn]; exact Kd.C_below hC (Sep.base h)) (by omega) hbs
    rw [hdn, hf] at hc
    exact hc⟩
  have H18 : Aside0 (∀ V ts, SepT w V ts → Calls Try.prog 18 #[.slice A n c] V fun e w' => ∃ B cb, e = .returned (.slice B n cb) ∧ SepT w w' (rowT Kd.string 9 (.slice B n cb) l :: ts)) := ⟨fun V ts h => by
    rw [← hl]
    exact leaves_C h (Kd.C_below hC (Sep.base h)) (by omega) hsz⟩
  have HLN := Aside0.mk hln
  have HD := Aside0.mk hd
  have hn40 : (n : Int) ≤ 40 := by omega
  have hn40' : ¬ 40 < (n : Int) := by omega
  have HN := Aside0.mk hn
  clear hC hcn hn hf hbs hl hdn hln hd hts hsz
  go_enter Try.func3, Try.ntmps3
  go_wp2_with (first
    | (go_at_call 16; have hc := awake46_S S.out; go_fit hc; clear hc; rintro e w1 ⟨rfl, hh⟩; clear S; have S := Aside0.mk hh; clear hh)
    | (go_at_call 17; have hc := HF.out _ _ S.out; go_fit hc; clear hc; rintro e w2 ⟨rfl, hh⟩; clear S; have S := Aside0.mk hh; clear hh)
    | (go_at_call 18; have hc := H18.out _ _ (S.out.allocBox #[.int .i64 0, .slice none 0 0] 26); go_fit hc; clear hc; rintro e w3 ⟨B, cb, rfl, hh⟩; clear S; have S := Aside0.mk hh; clear hh))
  generalize w2.heap.size = bf at S ⊢
  go_loopw [23] (fun v23 wr => ∃ (i m : Nat) (Bf : Option Addr) (cf : Nat), i ≤ n ∧ v23 = .int .i64 i ∧ Aside0 (m ≤ 20) ∧ Aside0 (SepT w wr [boxT bf #[.int .i64 i, .slice Bf m cf] 26, rowT Kd.string 9 (.slice Bf m cf) (frontB (l.take i)), rowT Kd.string 9 (.slice B n cb) l])) (fun v23 _ => n - (intOf v23).toNat)
  case atStart => exact ⟨0, 0, none, 0, Nat.zero_le _, rfl, ⟨Nat.zero_le _⟩, ⟨by
    have h := S.out.swap.nilRow.swap
    rw [List.take_zero, frontB_nil]
    exact h⟩⟩
  case round =>
    clear S
    obtain ⟨i, m, Bf, cf, hi, rfl, HM, S⟩ := hrel
    by_cases hlt : i < n
    · have hlt2 : (i : Int) < n := by omega
      have hln := HLN.out
      have hnn := HN.out
      obtain ⟨ad, hAd, _⟩ := row_str S.out m2 i hlt
      subst hAd
      obtain ⟨x, hx⟩ : ∃ x, l.getD i ⟨#[]⟩ = x := ⟨_, rfl⟩
      have hxs : x.size = 32 := by rw [← hx]; exact HD.out _ (by simp [List.getD, show i < l.length by omega])
      have HK : Aside0 (∀ V ts, SepT w V ts → rowT Kd.string 9 (.slice (some ad) n cb) l ∈ ts → V.cell? (ad.add i) = some (.string x)) := ⟨fun V ts h hm => by
        obtain ⟨ad2, e, d⟩ := row_str h hm i hlt
        injection e with e
        subst e
        rw [hx] at d
        exact d⟩
      have HKB : Aside0 (∀ V ts, SepT w V ts → boxT bf #[.int .i64 i, .slice Bf m cf] 26 ∈ ts → V.cell? ⟨bf, 0, none⟩ = some (.int .i64 i) ∧ V.cell? ⟨bf, 1, none⟩ = some (.slice Bf m cf)) := ⟨fun V ts h hm => by
        have xg := (SepT.box h hm).1
        exact ⟨(blk_cell xg 0).trans rfl, (blk_cell xg 1).trans rfl⟩⟩
      obtain ⟨i2, hi2⟩ : ∃ i2 : Nat, i + 1 = i2 := ⟨_, rfl⟩
      have hi2i : (i : Int) + 1 = (i2 : Int) := by omega
      have hi2w : IntKind.i64.wrap (i2 : Int) = i2 := IntWalk.i64_in _ (by omega)
      have hi2u : IntKind.u64.wrap (i2 : Int) = i2 := by simp [IntKind.wrap, IntKind.bits, IntKind.signed]; omega
      have ht0 : (l.take i).length = i := by rw [List.length_take]; omega
      have ht1 : (l.take i2).length = i2 := by rw [List.length_take]; omega
      have ht2 : l.take i2 = l.take i ++ [x] := by rw [← hi2, List.take_succ_eq_append_getElem (by omega), ← hx]; simp [List.getD, show i < l.length by omega]
      obtain ⟨f1, hf1⟩ : ∃ f1, frontB (l.take i2) = f1 := ⟨_, rfl⟩
      obtain ⟨m1', hm1⟩ : ∃ m1', f1.length = m1' := ⟨_, rfl⟩
      have happ : AppR (i : Int) (frontB (l.take i)) x = ((i2 : Int), f1, 0) := by
        have := AppR_front (l := l.take i) (x := x) (by omega) (HD.out.take i) hxs
        rw [ht0, ← ht2, hf1, hi2i] at this
        exact this
      obtain ⟨R, hR⟩ : ∃ R, rootB (l.take i2) = R := ⟨_, rfl⟩
      have hfr : FrR (i2 : Int) f1 = (R, 0) := by
        have := FrR_front (l := l.take i2) (by omega) (by omega) (HD.out.take i2)
        rw [ht1, hf1, hR] at this
        exact this
      have hpop : popN i2 = m1' := by
        have := frontB_length (i2 + 1) (l.take i2) (by omega) (by omega)
        rw [ht1, hf1, hm1] at this
        exact this.symm
      have hm20 : m1' ≤ 20 := by rw [← hpop]; have := popN_le i2; omega
      have H19 : Aside0 (∀ V ts, SepT w V ts → rowT Kd.string 9 (.slice Bf m cf) (frontB (l.take i)) ∈ ts → Calls Try.prog 19 #[.agg #[.int .i64 i, .slice Bf m cf], .string x] V fun e w' => ∃ B2 c2, e = .returned (.tuple #[.agg #[.int .i64 i2, .slice B2 m1' c2], .int .i64 0]) ∧ SepT w w' (rowT Kd.string 9 (.slice B2 m1' c2) f1 :: ts)) := ⟨fun V ts h hm => by
        have := Append_C h (SepT.rowC h hm).1 (SepT.rowC h hm).2 (i : Int) x (i2 : Int) f1 0 happ
        rw [hm1] at this
        exact this⟩
      have H20 : Aside0 (∀ V ts, SepT w V ts → Calls Try.prog 20 #[.int .u64 i2] V fun e w' => e = .returned (.int .i64 m1') ∧ SepT w w' ts) := ⟨fun V ts h => by
        rw [← hpop]
        exact Ones_S h i2 (by omega)⟩
      have H21 : Aside0 (∀ V ts B2 c2, SepT w V ts → rowT Kd.string 9 (.slice B2 m1' c2) f1 ∈ ts → Calls Try.prog 21 #[.agg #[.int .i64 i2, .slice B2 m1' c2]] V fun e w' => e = .returned (.tuple #[.string R, .int .i64 0]) ∧ SepT w w' ts) := ⟨fun V ts B2 c2 h hm => FrontierRoot_C h (SepT.rowC h hm).1 (SepT.rowC h hm).2 (i2 : Int) R 0 hfr⟩
      have H22 : Aside0 (∀ V ts, SepT w V ts → rowT Kd.string 9 (.slice (some ad) n cb) l ∈ ts → Calls Try.prog 22 #[.slice (some ad) i2 cb] V fun e w' => e = .returned (.string R) ∧ SepT w w' ts) := ⟨fun V ts h hm => Root_C h (C_lo (SepT.rowC h hm).1 (by omega)) (Nat.le_trans (by omega) (SepT.rowC h hm).2) R (by rw [RootB_valid (by omega) (HD.out.take i2), hR])⟩
      have hss := slice_lo (some ad) n cb i2 (by omega) (SepT.rowC S.out m2).2
      have hi0 : (0 : Int) ≤ i := by omega
      have HF1 := Aside0.mk hf1
      have HM1 : Aside0 (m1' ≤ 20) := ⟨hm20⟩
      have HI2 := Aside0.mk hi2
      have hmm : ((m1' : Int) == (m1' : Int)) = true := by simp
      clear hln hnn hx hxs hi2 ht0 ht1 ht2 hf1 hm1 happ hR hfr hpop hm20
      go_upto_region 10 with fail
      go_cut [6, 7] (fun v6 v7 wx => ∃ (B2 : Option Addr) (c2 b6 : Nat), v6 = .pointer (some ⟨b6, 0, none⟩) ∧ v7 = .int .i64 0 ∧ SepT w wx [boxT b6 #[.int .i64 i2, .slice B2 m1' c2] 26, rowT Kd.string 9 (.slice B2 m1' c2) f1, boxT bf #[.int .i64 i, .slice Bf m cf] 26, rowT Kd.string 9 (.slice Bf m cf) (frontB (l.take i)), rowT Kd.string 9 (.slice (some ad) n cb) l])
      case first =>
        have SP := S
        have S1 := Aside0.mk S.out.drew
        clear S
        have S := S1
        clear S1
        go_region_held3 (fun V => V.cell? ⟨bf, 0, none⟩ = some (.int .i64 i) ∧ V.cell? ⟨bf, 1, none⟩ = some (.slice Bf m cf) ∧ V.cell? (ad.add i) = some (.string x)) (first
            | exact ⟨(HKB.out _ _ S.out m0).1, (HKB.out _ _ S.out m0).2, HK.out _ _ S.out m2⟩
            | exact ⟨(HKB.out _ _ S.out m1).1, (HKB.out _ _ S.out m1).2, HK.out _ _ S.out m3'⟩
            | exact ⟨(HKB.out _ _ S.out m2).1, (HKB.out _ _ S.out m2).2, HK.out _ _ S.out m4⟩
            | (have h9 := S.out.alloc (.cells #[.int .i64 0, .slice none 0 0] 26); exact ⟨(HKB.out _ _ h9 m1).1, (HKB.out _ _ h9 m1).2, HK.out _ _ h9 m3'⟩)
            | (have h9 := S.out.alloc (.cells #[.int .i64 i2, .slice B2 m1' c2] 26); exact ⟨(HKB.out _ _ h9 m1).1, (HKB.out _ _ h9 m1).2, HK.out _ _ h9 m3'⟩)
            | (have h9 := (SP.out.alloc (.cells #[.int .i64 0, .slice none 0 0] 26)).drew; exact ⟨(HKB.out _ _ h9 m0).1, (HKB.out _ _ h9 m0).2, HK.out _ _ h9 m2⟩)
            | (have h9 := (S.out.swap.setBox 0 (.int .i64 i2)).setBox 1 (.slice B2 m1' c2); exact ⟨(HKB.out _ _ h9 m2).1, (HKB.out _ _ h9 m2).2, HK.out _ _ h9 m4⟩)
            | (trace_state; fail)) (first
          | (go_at_call 19; have hc := H19.out _ _ S.out m1; go_fit hc; clear hc; rintro e w4 ⟨B2, c2, rfl, hh⟩; clear S; have S := Aside0.mk hh; clear hh)
          | (go_at_call 19; have hc := H19.out _ _ (SP.out.allocBox #[.int .i64 0, .slice none 0 0] 26).drew m2; go_fit hc; clear hc; rintro e w4 ⟨B2, c2, rfl, hh⟩; clear S; have S := Aside0.mk hh; clear hh; have xg := (SepT.box S.out m1).1; have y0 := (blk_cell xg 0).trans rfl; have y1 := (blk_cell xg 1).trans rfl; have y2 := blk_frozen xg 0; have y3 := blk_frozen xg 1; clear xg))
        all_goals
          go_wp2_with fail
          go_meet
          first
            | exact ⟨B2, c2, _, rfl, rfl, S.out.allocBox #[.int .i64 i2, .slice B2 m1' c2] 26⟩
            | exact ⟨B2, c2, _, rfl, rfl, (S.out.swap.setBox 0 (.int .i64 i2)).setBox 1 (.slice B2 m1' c2)⟩
      case rest =>
        clear S
        obtain ⟨B2, c2, b6, rfl, rfl, hs⟩ := hcut
        have S := Aside0.mk hs
        clear hs
        have HK6 : Aside0 (∀ V ts, SepT w V ts → boxT b6 #[.int .i64 i2, .slice B2 m1' c2] 26 ∈ ts → V.cell? ⟨b6, 0, none⟩ = some (.int .i64 i2) ∧ V.cell? ⟨b6, 1, none⟩ = some (.slice B2 m1' c2)) := ⟨fun V ts h hm => by
          have xg := (SepT.box h hm).1
          exact ⟨(blk_cell xg 0).trans rfl, (blk_cell xg 1).trans rfl⟩⟩
        go_upto_region 11 with fail
        have S1 := Aside0.mk S.out.drew
        clear S
        have S := S1
        clear S1
        go_region_held3 (fun V => V.cell? ⟨b6, 0, none⟩ = some (.int .i64 i2) ∧ V.cell? ⟨b6, 1, none⟩ = some (.slice B2 m1' c2)) (exact HK6.out _ _ S.out m0) (first
          | (go_at_call 20; have hc := H20.out _ _ S.out; go_fit hc; clear hc; rintro e w5 ⟨rfl, hh⟩; clear S; have S := Aside0.mk hh; clear hh))
        have z6 := HK6.out _ _ S.out m0
        obtain ⟨z60, z61⟩ := z6
        have xg := (SepT.box S.out m2).1
        have z0 : w5.cell? ⟨bf, 0, none⟩ = some (.int .i64 i) := (blk_cell xg 0).trans rfl
        have z1 : w5.cell? ⟨bf, 1, none⟩ = some (.slice Bf m cf) := (blk_cell xg 1).trans rfl
        have z2 := blk_frozen xg 0
        have z3 := blk_frozen xg 1
        clear xg
        have S6 := Aside0.mk (show SepT w _ [boxT bf #[.int .i64 i2, .slice B2 m1' c2] 26, boxT b6 #[.int .i64 i2, .slice B2 m1' c2] 26, rowT Kd.string 9 (.slice B2 m1' c2) f1, rowT Kd.string 9 (.slice Bf m cf) (frontB (l.take i)), rowT Kd.string 9 (.slice (some ad) n cb) l] from (S.out.third.setBox 0 (.int .i64 i2)).setBox 1 (.slice B2 m1' c2))
        clear S
        go_wp2_with (first
          | (go_at_call 21; have hc := H21.out _ _ B2 c2 S6.out m2; go_fit hc; clear hc; rintro e w6 ⟨rfl, hh⟩; clear S6; have S := Aside0.mk hh; clear hh)
          | (go_at_call 22; have hc := H22.out _ _ S.out m4; go_fit hc; clear hc; rintro e w7 ⟨rfl, hh⟩; clear S; have S := Aside0.mk hh; clear hh))
        clear z60 z61 z0 z1 z2 z3
        have S7 := Aside0.mk S.out.swap.drop.third.drop
        clear S
        go_roundw
        case rel => exact ⟨i2, m1', B2, c2, by have := HI2.out; omega, by go_num, HM1, by rw [HF1.out]; exact S7⟩
        case measure => simp [intOf]; have := HI2.out; omega
    · obtain rfl : i = n := by omega
      go_wp2
      go_ret
      exact ⟨rfl, Sep.base S.out⟩
set_option maxHeartbeats 2000000 in
set_option maxRecDepth 100000 in
theorem MerkleGrows_law (w : World) (A : Option Addr) (c : Nat) (dat : List ByteArray) (hC : Kd.C Kd.string w A dat.length dat) (hcn : dat.length ≤ c) (hbs : ∀ x ∈ dat, x.size ≤ 140737488351232) :
    Calls Try.prog 3 #[.slice A dat.length c] w fun e w' => e = .returned (.bool true) ∧ Below w.heap.size w w' := by
  have HF : Aside0 (∀ V ts, SepT w V ts → Calls Try.prog 17 #[.slice A dat.length c] V fun e w' => e = .returned (.bool (FewB dat)) ∧ SepT w w' ts) := ⟨fun V ts h => Few2_S h A c dat (Kd.C_below hC (Sep.base h)) hcn hbs⟩
  have S := Aside0.mk (SepT.start w)
  by_cases hf : FewB dat = true
  · by_cases hn : dat.length ≤ 40
    · exact Grows_main w A c dat.length dat _ hC hcn hn hf hbs rfl
    · have hn2 : (40 : Int) < dat.length := by omega
      rw [hf] at HF
      clear hC hcn hbs hf hn
      go_enter Try.func3, Try.ntmps3
      go_wp2_with (first
        | (go_at_call 16; have hc := awake46_S S.out; go_fit hc; clear hc; rintro e w1 ⟨rfl, hh⟩; clear S; have S := Aside0.mk hh; clear hh)
        | (go_at_call 17; have hc := HF.out _ _ S.out; go_fit hc; clear hc; rintro e w2 ⟨rfl, hh⟩; clear S; have S := Aside0.mk hh; clear hh))
      go_ret
      exact ⟨rfl, Sep.base S.out⟩
  · rw [show FewB dat = false by simpa using hf] at HF
    clear hC hcn hbs hf
    go_enter Try.func3, Try.ntmps3
    go_wp2_with (first
      | (go_at_call 16; have hc := awake46_S S.out; go_fit hc; clear hc; rintro e w1 ⟨rfl, hh⟩; clear S; have S := Aside0.mk hh; clear hh)
      | (go_at_call 17; have hc := HF.out _ _ S.out; go_fit hc; clear hc; rintro e w2 ⟨rfl, hh⟩; clear S; have S := Aside0.mk hh; clear hh))
    go_ret
    exact ⟨rfl, Sep.base S.out⟩
end Go.Proofs.Ytiafadmkkehdnaa.Sh
