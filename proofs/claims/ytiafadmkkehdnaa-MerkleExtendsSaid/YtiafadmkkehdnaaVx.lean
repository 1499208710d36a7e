/-
  The law MerkleExtends, walked.
-/
import Derived.Test.YtiafadmkkehdnaaY5
namespace Go.Proofs.Ytiafadmkkehdnaa.Sh
open Go.RowKit Go.Great Go.Proofs.YtiafadmkkehdnaaW.PrintWords Go.Proofs.YtiafadmkkehdnaaW.PrintMore
set_option linter.unusedVariables false
attribute [local irreducible] Sep rowT boxT hashT sumB splitN rootB nodeB nodeP leafB cutA inclB consB validB givR readR popN FewB consP
set_option maxHeartbeats 8000000 in
set_option maxRecDepth 100000 in
theorem Extends_main (w : World) (A : Option Addr) (c n m : Nat) (dat l p : List ByteArray) (o : Int) (hC : Kd.C Kd.string w A n dat) (hcn : n ≤ c) (hn : n ≤ 40) (hf : FewB dat = true) (hbs : ∀ x ∈ dat, x.size ≤ 140737488351232) (ho : 0 ≤ o ∧ o ≤ 255) (hl : dat.map leafB = l) (hm : (m : Int) = Int.tmod o ((n : Int) + 1)) (hp : consP l m = p) :
    Calls Try.prog 15 #[.slice A n c, .int .u8 o] w fun e w' => e = .returned (.bool true) ∧ Below w.heap.size w w' := by
  have S := Aside0.mk (SepT.start w)
  have hdn : dat.length = n := hC.1
  have hln : l.length = n := by rw [← hl, List.length_map, hdn]
  have hd : AllD l := by rw [← hl]; exact leaves_all dat
  have hmn : m ≤ n := by
    have h0 := Int.tmod_lt_of_pos o (show (0 : Int) < (n : Int) + 1 by omega)
    omega
  have hts := (FewB_true hf).2
  have hsz : ∀ x ∈ dat, x.size ≤ 10000000 := fun x hx => by have := tot2_mem hx; omega
  have HF : Aside0 (∀ V ts, SepT w V ts → Calls Try.prog 17 #[.slice A n c] V fun e w' => e = .returned (.bool true) ∧ SepT w w' ts) := ⟨fun V ts h => by
    have hc := Few2_S h A c dat (by rw [hdn]; exact Kd.C_below hC (Sep.base h)) (by omega) hbs
    rw [hdn, hf] at hc
    exact hc⟩
  have H18 : Aside0 (∀ V ts, SepT w V ts → Calls Try.prog 18 #[.slice A n c] V fun e w' => ∃ B cb, e = .returned (.slice B n cb) ∧ SepT w w' (rowT Kd.string 9 (.slice B n cb) l :: ts)) := ⟨fun V ts h => by
    rw [← hl]
    exact leaves_C h (Kd.C_below hC (Sep.base h)) (by omega) hsz⟩
  obtain ⟨R, hR⟩ : ∃ R, rootB l = R := ⟨_, rfl⟩
  obtain ⟨F, hF⟩ : ∃ F, rootB (l.take m) = F := ⟨_, rfl⟩
  have sR : R.size = 32 := by rw [← hR]; exact rootB_size l hd (by omega)
  have sF : F.size = 32 := by rw [← hF]; exact rootB_size _ (hd.take m) (by rw [List.length_take]; omega)
  have H22 : Aside0 (∀ V ts B cb, SepT w V ts → rowT Kd.string 9 (.slice B n cb) l ∈ ts → Calls Try.prog 22 #[.slice B n cb] V fun e w' => e = .returned (.string R) ∧ SepT w w' ts) := ⟨fun V ts B cb h hm => Root_C h (SepT.rowC h hm).1 (SepT.rowC h hm).2 R (by rw [RootB_valid (by omega) hd, hR])⟩
  have H22b : Aside0 (∀ V ts B cb, SepT w V ts → rowT Kd.string 9 (.slice B n cb) l ∈ ts → Calls Try.prog 22 #[.slice B m cb] V fun e w' => e = .returned (.string F) ∧ SepT w w' ts) := ⟨fun V ts B cb h hmm => Root_C h (C_lo (SepT.rowC h hmm).1 hmn) (Nat.le_trans hmn (SepT.rowC h hmm).2) F (by rw [RootB_valid (by rw [List.length_take]; omega) (hd.take m), hF])⟩
  have hpa : AllD p := by rw [← hp]; exact consP_all (by omega) hd (by omega)
  have hpl : p.length ≤ 41 := by rw [← hp]; have := consP_len l m; omega
  obtain ⟨k, hk⟩ : ∃ k, p.length = k := ⟨_, rfl⟩
  have H24 : Aside0 (∀ V ts B cb, SepT w V ts → rowT Kd.string 9 (.slice B n cb) l ∈ ts → Calls Try.prog 24 #[.slice B n cb, .int .i64 m] V fun e w' => ∃ B2 c2 B3 n3 c3, e = .returned (.tuple #[.slice B2 k c2, .int .i64 0]) ∧ (1 ≤ k → Rest w B2 k c2 p B3 n3 c3 ∧ n3 = k - 1) ∧ SepT w w' (rowT Kd.string 9 (.slice B2 k c2) p :: ts)) := ⟨fun V ts B cb h hmm => by
    have hR := consP_R (l := l) (m := m) (by omega) hd (by omega)
    rw [hp] at hR
    refine (Consistency_C h (SepT.rowC h hmm).1 (SepT.rowC h hmm).2 (m : Int) p 0 hR).mono ?_
    rintro e w1 ⟨B2, c2, rfl, hs⟩
    rw [hk] at hs ⊢
    exact ⟨B2, c2, _, _, _, rfl, fun h1 => ⟨rest_of w B2 k c2 p h1 (SepT.rowC hs m0).2, rfl⟩, hs⟩⟩
  have H26 : Aside0 (∀ V ts B cb q j (b : Bool), SepT w V ts → Kd.C Kd.string V B j q → j ≤ cb → AllD q → j ≤ 4096 → ((b = true ∧ q = p) ∨ (b = false ∧ j ≠ k)) → Calls Try.prog 26 #[.int .i64 m, .int .i64 n, .string F, .string R, .slice B j cb] V fun e w' => e = .returned (.bool b) ∧ SepT w w' ts) := ⟨fun V ts B cb q j b h hC hc hq hj hb => by
    rw [← hF, ← hR]
    exact Extends_any h hC hc hq hj (by omega) hd hln hmn b (by rw [hp, hk]; exact hb)⟩
  have H26o : Aside0 (m < n → ∀ V ts B cb, SepT w V ts → Kd.C Kd.string V B k p → k ≤ cb → Calls Try.prog 26 #[.int .i64 n, .int .i64 m, .string R, .string F, .slice B k cb] V fun e w' => e = .returned (.bool false) ∧ SepT w w' ts) := ⟨fun hlt V ts B cb h hC hc => Extends_outC h hC hc R F n m (val_of hpa (by omega)) sR sF hlt⟩
  have H56 : Aside0 (∀ V ts B cb, SepT w V ts → rowT Kd.string 9 (.slice B k cb) p ∈ ts → Calls Try.prog 56 #[.slice B k cb] V fun e w' => ∃ B2 c2, e = .returned (.slice B2 k c2) ∧ SepT w w' (rowT Kd.string 9 (.slice B2 k c2) p :: ts)) := ⟨fun V ts B cb h hm => Clone_C h (SepT.rowC h hm).1 (SepT.rowC h hm).2 (by omega)⟩
  have HLN : Aside0 ((p ++ [R]).length = k + 1) := ⟨by rw [List.length_append, hk]; rfl⟩
  have HPA : Aside0 (AllD p) := ⟨hpa⟩
  have HPB : Aside0 (AllD (p ++ [R])) := ⟨fun x hx => by
    rcases List.mem_append.1 hx with h | h
    · exact hpa x h
    · rw [List.mem_singleton.1 h]; exact sR⟩
  have HPC : Aside0 (AllD (p.drop 1)) := ⟨hpa.drop 1⟩
  have haL : (p.length + 1) * 16 ≤ 140737488355328 := by omega
  have hk41 : k ≤ 41 := by omega
  obtain ⟨n1, hn1⟩ : ∃ n1 : Nat, (n : Int) + 1 = n1 := ⟨n + 1, by omega⟩
  have hn1p : (0 : Int) < n1 := by omega
  have hn1z : ¬ (n1 : Int) = 0 := by omega
  have hn1b : ((n1 : Int) == 0) = false := by rw [beq_eq_false_iff_ne]; exact hn1z
  have hn1w : IntKind.i64.wrap (n1 : Int) = n1 := IntWalk.i64_in _ (by omega)
  have how : IntKind.i64.wrap o = o := IntWalk.i64_in _ (by omega)
  have hmw : IntKind.i64.wrap (m : Int) = m := IntWalk.i64_in _ (by omega)
  rw [hn1] at hm
  have hr1 : Int.tmod o (n1 : Int) = (m : Int) := hm.symm
  have hr2 : o % (n1 : Int) = (m : Int) := by rw [← Int.tmod_eq_emod_of_nonneg ho.1]; exact hm.symm
  have hn40 : (n : Int) ≤ 40 := by omega
  have hn40' : ¬ 40 < (n : Int) := by omega
  have hmn0 : (0 : Int) ≤ m := by omega
  have hmn1 : (m : Int) ≤ n := by omega
  have hs2 : ∀ (B : Option Addr) (cb : Nat), n ≤ cb → ∀ V : World, (Instr.slice 22 (.slice B n cb) none (some (.int .i64 (m : Int))) none).run Try.prog V = .ok (.slice B m cb) V := fun B cb h => slice_lo B n cb m hmn h
  have HS2 := Aside0.mk hs2
  have hcase : (k = 0 ∧ m = 0 ∧ n = 0) ∨ (k = 0 ∧ m = 0 ∧ 0 < n) ∨ (k = 0 ∧ 0 < m ∧ m = n) ∨ (1 ≤ k ∧ 0 < m ∧ m < n) := by
    rcases Nat.eq_zero_or_pos m with h0 | h0
    · have : k = 0 := by rw [← hk, ← hp]; unfold consP; rw [if_pos h0]; rfl
      rcases Nat.eq_zero_or_pos n with h1 | h1
      · exact .inl ⟨this, h0, h1⟩
      · exact .inr (.inl ⟨this, h0, h1⟩)
    · rcases Nat.lt_or_ge m n with h1 | h1
      · refine .inr (.inr (.inr ⟨?_, h0, h1⟩))
        rw [← hk, ← hp]
        unfold consP
        rw [if_neg (by omega)]
        exact consB_pos l m h0 (by omega) (by omega)
      · have : k = 0 := by
          rw [← hk, ← hp]
          unfold consP
          rw [if_neg (by omega), show m = l.length by omega]
          exact consB_end l
        exact .inr (.inr (.inl ⟨this, h0, by omega⟩))
  have HCASE := Aside0.mk hcase
  have HK := Aside0.mk hk
  clear hcase hk hs2 hm hpa hpl hp hF hR sR sF hts hsz hf hl hln hdn hd hbs hC hmn hn ho
  go_enter Try.func15, Try.ntmps15
  go_upto_region 7 with (first
    | (go_at_call 16; have hc := awake46_S S.out; go_fit hc; clear hc; rintro e w1 ⟨rfl, hh⟩; clear S; have S := Aside0.mk hh; clear hh)
    | (go_at_call 17; have hc := HF.out _ _ S.out; go_fit hc; clear hc; rintro e w2 ⟨rfl, hh⟩; clear S; have S := Aside0.mk hh; clear hh)
    | (go_at_call 18; have hc := H18.out _ _ S.out; go_fit hc; clear hc; rintro e w3 ⟨B, cb, rfl, hh⟩; clear S; have S := Aside0.mk hh; clear hh))
  have hss := HS2.out B cb (SepT.rowC S.out m0).2
  have S1 := Aside0.mk S.out.drew
  clear S HS2
  have S := S1
  clear S1
  go_region_held3 (fun V => True) (trivial) (first
    | (go_at_call 22; have hc := H22.out _ _ B cb S.out m0; go_fit hc; clear hc; rintro e w4 ⟨rfl, hh⟩; clear S; have S := Aside0.mk hh; clear hh)
    | (go_at_call 22; have hc := H22b.out _ _ B cb S.out m0; go_fit hc; clear hc; rintro e w5 ⟨rfl, hh⟩; clear S; have S := Aside0.mk hh; clear hh))
  all_goals
    clear hss
    have HK41 : Aside0 (k ≤ 4096) := ⟨by omega⟩
    have HK42 : Aside0 (k + 1 ≤ 4096) := ⟨by omega⟩
    have HK43 : Aside0 (k + 1 ≠ k) := ⟨by omega⟩
    have HK44 : Aside0 (k - 1 ≤ 4096) := ⟨by omega⟩
    rcases HCASE.out with ⟨e1, e2, e3⟩ | ⟨e1, e2, e3⟩ | ⟨e1, e2, e3⟩ | ⟨hk1, e2, e3⟩
    · have g1 : ¬ (0 : Int) < (k : Int) := by omega
      have g2 : ((k : Int) == 0) = true := by rw [e1]; rfl
      have d1 : decide ((0 : Int) < (k : Int)) = false := decide_eq_false g1
      have g3 : ¬ (0 : Int) < (m : Int) := by omega
      have d3 : decide ((0 : Int) < (m : Int)) = false := decide_eq_false g3
      have g4 : ¬ (m : Int) < (n : Int) := by omega
      have d4 : decide ((m : Int) < (n : Int)) = false := decide_eq_false g4
      clear e1 e2 e3
      go_wp2_with (first
        | (go_at_call 24; have hc := H24.out _ _ B cb S.out m0; go_fit hc; clear hc; rintro e w6 ⟨B2, c2, B3, n3, c3, rfl, hrest, hh⟩; clear S; have S := Aside0.mk hh; clear hh; first | (have HRS := Aside0.mk (hrest hk1).1; have hrs := HRS.out.s; have HN3 := Aside0.mk (hrest hk1).2; clear hrest) | clear hrest)
        | (go_at_call 26; have hc := H26.out _ _ B2 c2 p k true S.out (SepT.rowC S.out m0).1 (SepT.rowC S.out m0).2 HPA.out HK41.out (.inl ⟨rfl, rfl⟩); go_fit hc; clear hc; rintro e w7 ⟨rfl, hh⟩; clear S; have S := Aside0.mk hh; clear hh)
        | (go_at_call 56; have hc := H56.out _ _ B2 c2 S.out m0; go_fit hc; clear hc; rintro e w8 ⟨B5, c5, rfl, hh⟩; clear S; have S := Aside0.mk hh; clear hh)
        | ((with_reducible refine gate_builtin (b := .append) (xs := #[.tmp 60, .tmp 62]) rfl ?_); at_builtin; go_loud (refine gate_guard (by rfl) ?_; refine SepT.appends Kd.string rfl (.tmp 60) (.tmp 62) 22 9 (.string ⟨#[]⟩) 16 rfl Try.underlying22 info9 rfl (by decide) (by decide) (.slice B5 k c5) p R [.string R] rfl rfl ?aP S.out haL ?_; (case aP => exact rfl); intro Bn cn w9 hq; rw [HLN.out] at hq ⊢; clear S; have S := Aside0.mk hq; clear hq))
        | (go_at_call 26; have hc := H26.out _ _ Bn cn (p ++ [R]) (k + 1) false S.out (SepT.rowC S.out m0).1 (SepT.rowC S.out m0).2 HPB.out HK42.out (.inr ⟨rfl, HK43.out⟩); go_fit hc; clear hc; rintro e w10 ⟨rfl, hh⟩; clear S; have S := Aside0.mk hh; clear hh)
        | (go_at_call 26; have hc := H26.out _ _ B3 c3 (p.drop 1) n3 false S.out (HRS.out.c _ _ S.out m1) HRS.out.le HPC.out (HN3.out ▸ HK44.out) (.inr ⟨rfl, HN3.out ▸ HK45.out⟩); go_fit hc; clear hc; rintro e w11 ⟨rfl, hh⟩; clear S; have S := Aside0.mk hh; clear hh)
        | (go_at_call 26; have hc := H26o.out HLT.out _ _ B2 c2 S.out (SepT.rowC S.out m1).1 (SepT.rowC S.out m1).2; go_fit hc; clear hc; rintro e w12 ⟨rfl, hh⟩; clear S; have S := Aside0.mk hh; clear hh))
      go_ret
      exact ⟨rfl, Sep.base S.out⟩
    · have g1 : ¬ (0 : Int) < (k : Int) := by omega
      have g2 : ((k : Int) == 0) = true := by rw [e1]; rfl
      have d1 : decide ((0 : Int) < (k : Int)) = false := decide_eq_false g1
      have g3 : ¬ (0 : Int) < (m : Int) := by omega
      have d3 : decide ((0 : Int) < (m : Int)) = false := decide_eq_false g3
      have g4 : (m : Int) < (n : Int) := by omega
      have d4 : decide ((m : Int) < (n : Int)) = true := decide_eq_true g4
      have HLT : Aside0 (m < n) := ⟨by omega⟩
      clear e1 e2 e3
      go_wp2_with (first
        | (go_at_call 24; have hc := H24.out _ _ B cb S.out m0; go_fit hc; clear hc; rintro e w6 ⟨B2, c2, B3, n3, c3, rfl, hrest, hh⟩; clear S; have S := Aside0.mk hh; clear hh; first | (have HRS := Aside0.mk (hrest hk1).1; have hrs := HRS.out.s; have HN3 := Aside0.mk (hrest hk1).2; clear hrest) | clear hrest)
        | (go_at_call 26; have hc := H26.out _ _ B2 c2 p k true S.out (SepT.rowC S.out m0).1 (SepT.rowC S.out m0).2 HPA.out HK41.out (.inl ⟨rfl, rfl⟩); go_fit hc; clear hc; rintro e w7 ⟨rfl, hh⟩; clear S; have S := Aside0.mk hh; clear hh)
        | (go_at_call 56; have hc := H56.out _ _ B2 c2 S.out m0; go_fit hc; clear hc; rintro e w8 ⟨B5, c5, rfl, hh⟩; clear S; have S := Aside0.mk hh; clear hh)
        | ((with_reducible refine gate_builtin (b := .append) (xs := #[.tmp 60, .tmp 62]) rfl ?_); at_builtin; go_loud (refine gate_guard (by rfl) ?_; refine SepT.appends Kd.string rfl (.tmp 60) (.tmp 62) 22 9 (.string ⟨#[]⟩) 16 rfl Try.underlying22 info9 rfl (by decide) (by decide) (.slice B5 k c5) p R [.string R] rfl rfl ?aP S.out haL ?_; (case aP => exact rfl); intro Bn cn w9 hq; rw [HLN.out] at hq ⊢; clear S; have S := Aside0.mk hq; clear hq))
        | (go_at_call 26; have hc := H26.out _ _ Bn cn (p ++ [R]) (k + 1) false S.out (SepT.rowC S.out m0).1 (SepT.rowC S.out m0).2 HPB.out HK42.out (.inr ⟨rfl, HK43.out⟩); go_fit hc; clear hc; rintro e w10 ⟨rfl, hh⟩; clear S; have S := Aside0.mk hh; clear hh)
        | (go_at_call 26; have hc := H26.out _ _ B3 c3 (p.drop 1) n3 false S.out (HRS.out.c _ _ S.out m1) HRS.out.le HPC.out (HN3.out ▸ HK44.out) (.inr ⟨rfl, HN3.out ▸ HK45.out⟩); go_fit hc; clear hc; rintro e w11 ⟨rfl, hh⟩; clear S; have S := Aside0.mk hh; clear hh)
        | (go_at_call 26; have hc := H26o.out HLT.out _ _ B2 c2 S.out (SepT.rowC S.out m1).1 (SepT.rowC S.out m1).2; go_fit hc; clear hc; rintro e w12 ⟨rfl, hh⟩; clear S; have S := Aside0.mk hh; clear hh))
      go_ret
      exact ⟨rfl, Sep.base S.out⟩
    · have g1 : ¬ (0 : Int) < (k : Int) := by omega
      have g2 : ((k : Int) == 0) = true := by rw [e1]; rfl
      have d1 : decide ((0 : Int) < (k : Int)) = false := decide_eq_false g1
      have g3 : (0 : Int) < (m : Int) := by omega
      have d3 : decide ((0 : Int) < (m : Int)) = true := decide_eq_true g3
      have g4 : ¬ (m : Int) < (n : Int) := by omega
      have d4 : decide ((m : Int) < (n : Int)) = false := decide_eq_false g4
      clear e1 e2 e3
      go_wp2_with (first
        | (go_at_call 24; have hc := H24.out _ _ B cb S.out m0; go_fit hc; clear hc; rintro e w6 ⟨B2, c2, B3, n3, c3, rfl, hrest, hh⟩; clear S; have S := Aside0.mk hh; clear hh; first | (have HRS := Aside0.mk (hrest hk1).1; have hrs := HRS.out.s; have HN3 := Aside0.mk (hrest hk1).2; clear hrest) | clear hrest)
        | (go_at_call 26; have hc := H26.out _ _ B2 c2 p k true S.out (SepT.rowC S.out m0).1 (SepT.rowC S.out m0).2 HPA.out HK41.out (.inl ⟨rfl, rfl⟩); go_fit hc; clear hc; rintro e w7 ⟨rfl, hh⟩; clear S; have S := Aside0.mk hh; clear hh)
        | (go_at_call 56; have hc := H56.out _ _ B2 c2 S.out m0; go_fit hc; clear hc; rintro e w8 ⟨B5, c5, rfl, hh⟩; clear S; have S := Aside0.mk hh; clear hh)
        | ((with_reducible refine gate_builtin (b := .append) (xs := #[.tmp 60, .tmp 62]) rfl ?_); at_builtin; go_loud (refine gate_guard (by rfl) ?_; refine SepT.appends Kd.string rfl (.tmp 60) (.tmp 62) 22 9 (.string ⟨#[]⟩) 16 rfl Try.underlying22 info9 rfl (by decide) (by decide) (.slice B5 k c5) p R [.string R] rfl rfl ?aP S.out haL ?_; (case aP => exact rfl); intro Bn cn w9 hq; rw [HLN.out] at hq ⊢; clear S; have S := Aside0.mk hq; clear hq))
        | (go_at_call 26; have hc := H26.out _ _ Bn cn (p ++ [R]) (k + 1) false S.out (SepT.rowC S.out m0).1 (SepT.rowC S.out m0).2 HPB.out HK42.out (.inr ⟨rfl, HK43.out⟩); go_fit hc; clear hc; rintro e w10 ⟨rfl, hh⟩; clear S; have S := Aside0.mk hh; clear hh)
        | (go_at_call 26; have hc := H26.out _ _ B3 c3 (p.drop 1) n3 false S.out (HRS.out.c _ _ S.out m1) HRS.out.le HPC.out (HN3.out ▸ HK44.out) (.inr ⟨rfl, HN3.out ▸ HK45.out⟩); go_fit hc; clear hc; rintro e w11 ⟨rfl, hh⟩; clear S; have S := Aside0.mk hh; clear hh)
        | (go_at_call 26; have hc := H26o.out HLT.out _ _ B2 c2 S.out (SepT.rowC S.out m1).1 (SepT.rowC S.out m1).2; go_fit hc; clear hc; rintro e w12 ⟨rfl, hh⟩; clear S; have S := Aside0.mk hh; clear hh))
      go_ret
      exact ⟨rfl, Sep.base S.out⟩
    · have HK45 : Aside0 (k - 1 ≠ k) := ⟨by omega⟩
      have g1 : (0 : Int) < (k : Int) := by omega
      have g2 : ((k : Int) == 0) = false := by rw [beq_eq_false_iff_ne]; omega
      have d1 : decide ((0 : Int) < (k : Int)) = true := decide_eq_true g1
      have g3 : (0 : Int) < (m : Int) := by omega
      have d3 : decide ((0 : Int) < (m : Int)) = true := decide_eq_true g3
      have g4 : (m : Int) < (n : Int) := by omega
      have d4 : decide ((m : Int) < (n : Int)) = true := decide_eq_true g4
      have HLT : Aside0 (m < n) := ⟨by omega⟩
      clear e2 e3
      go_wp2_with (first
        | (go_at_call 24; have hc := H24.out _ _ B cb S.out m0; go_fit hc; clear hc; rintro e w6 ⟨B2, c2, B3, n3, c3, rfl, hrest, hh⟩; clear S; have S := Aside0.mk hh; clear hh; first | (have HRS := Aside0.mk (hrest hk1).1; have hrs := HRS.out.s; have HN3 := Aside0.mk (hrest hk1).2; clear hrest) | clear hrest)
        | (go_at_call 26; have hc := H26.out _ _ B2 c2 p k true S.out (SepT.rowC S.out m0).1 (SepT.rowC S.out m0).2 HPA.out HK41.out (.inl ⟨rfl, rfl⟩); go_fit hc; clear hc; rintro e w7 ⟨rfl, hh⟩; clear S; have S := Aside0.mk hh; clear hh)
        | (go_at_call 56; have hc := H56.out _ _ B2 c2 S.out m0; go_fit hc; clear hc; rintro e w8 ⟨B5, c5, rfl, hh⟩; clear S; have S := Aside0.mk hh; clear hh)
        | ((with_reducible refine gate_builtin (b := .append) (xs := #[.tmp 60, .tmp 62]) rfl ?_); at_builtin; go_loud (refine gate_guard (by rfl) ?_; refine SepT.appends Kd.string rfl (.tmp 60) (.tmp 62) 22 9 (.string ⟨#[]⟩) 16 rfl Try.underlying22 info9 rfl (by decide) (by decide) (.slice B5 k c5) p R [.string R] rfl rfl ?aP S.out haL ?_; (case aP => exact rfl); intro Bn cn w9 hq; rw [HLN.out] at hq ⊢; clear S; have S := Aside0.mk hq; clear hq))
        | (go_at_call 26; have hc := H26.out _ _ Bn cn (p ++ [R]) (k + 1) false S.out (SepT.rowC S.out m0).1 (SepT.rowC S.out m0).2 HPB.out HK42.out (.inr ⟨rfl, HK43.out⟩); go_fit hc; clear hc; rintro e w10 ⟨rfl, hh⟩; clear S; have S := Aside0.mk hh; clear hh)
        | (go_at_call 26; have hc := H26.out _ _ B3 c3 (p.drop 1) n3 false S.out (HRS.out.c _ _ S.out m1) HRS.out.le HPC.out (HN3.out ▸ HK44.out) (.inr ⟨rfl, HN3.out ▸ HK45.out⟩); go_fit hc; clear hc; rintro e w11 ⟨rfl, hh⟩; clear S; have S := Aside0.mk hh; clear hh)
        | (go_at_call 26; have hc := H26o.out HLT.out _ _ B2 c2 S.out (SepT.rowC S.out m1).1 (SepT.rowC S.out m1).2; go_fit hc; clear hc; rintro e w12 ⟨rfl, hh⟩; clear S; have S := Aside0.mk hh; clear hh))
      go_ret
      exact ⟨rfl, Sep.base S.out⟩
set_option maxHeartbeats 2000000 in
set_option maxRecDepth 100000 in
theorem MerkleExtends_law (w : World) (A : Option Addr) (c : Nat) (dat : List ByteArray) (hC : Kd.C Kd.string w A dat.length dat) (hcn : dat.length ≤ c) (hbs : ∀ x ∈ dat, x.size ≤ 140737488351232) (o : Nat) (ho : o ≤ 255) :
    Calls Try.prog 15 #[.slice A dat.length c, .int .u8 o] w fun e w' => e = .returned (.bool true) ∧ Below w.heap.size w w' := by
  have h0 : (0 : Int) ≤ Int.tmod (o : Int) ((dat.length : Int) + 1) := Int.tmod_nonneg _ (by omega)
  have hm : ((Int.tmod (o : Int) ((dat.length : Int) + 1)).toNat : Int) = Int.tmod (o : Int) ((dat.length : Int) + 1) := Int.toNat_of_nonneg h0
  have HF : Aside0 (∀ V ts, SepT w V ts → Calls Try.prog 17 #[.slice A dat.length c] V fun e w' => e = .returned (.bool (FewB dat)) ∧ SepT w w' ts) := ⟨fun V ts h => Few2_S h A c dat (Kd.C_below hC (Sep.base h)) hcn hbs⟩
  have S := Aside0.mk (SepT.start w)
  by_cases hf : FewB dat = true
  · by_cases hn : dat.length ≤ 40
    · exact Extends_main w A c dat.length _ dat _ _ (o : Int) hC hcn hn hf hbs (by omega) rfl hm rfl
    · have hn2 : (40 : Int) < dat.length := by omega
      rw [hf] at HF
      clear hC hcn hbs hf hn h0 hm
      go_enter Try.func15, Try.ntmps15
      go_wp2_with (first
        | (go_at_call 16; have hc := awake46_S S.out; go_fit hc; clear hc; rintro e w1 ⟨rfl, hh⟩; clear S; have S := Aside0.mk hh; clear hh)
        | (go_at_call 17; have hc := HF.out _ _ S.out; go_fit hc; clear hc; rintro e w2 ⟨rfl, hh⟩; clear S; have S := Aside0.mk hh; clear hh))
      go_ret
      exact ⟨rfl, Sep.base S.out⟩
  · rw [show FewB dat = false by simpa using hf] at HF
    clear hC hcn hbs hf h0 hm
    go_enter Try.func15, Try.ntmps15
    go_wp2_with (first
      | (go_at_call 16; have hc := awake46_S S.out; go_fit hc; clear hc; rintro e w1 ⟨rfl, hh⟩; clear S; have S := Aside0.mk hh; clear hh)
      | (go_at_call 17; have hc := HF.out _ _ S.out; go_fit hc; clear hc; rintro e w2 ⟨rfl, hh⟩; clear S; have S := Aside0.mk hh; clear hh))
    go_ret
    exact ⟨rfl, Sep.base S.out⟩
end Go.Proofs.Ytiafadmkkehdnaa.Sh
