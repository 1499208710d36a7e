/-
  The law MerkleStays, walked.
-/
import Derived.Test.YtiafadmkkehdnaaY5
namespace Go.Proofs.Ytiafadmkkehdnaa.Sh
open Go.RowKit Go.Great Go.Proofs.YtiafadmkkehdnaaW.PrintWords Go.Proofs.YtiafadmkkehdnaaW.PrintMore
set_option linter.unusedVariables false
attribute [local irreducible] Sep rowT boxT hashT sumB splitN rootB nodeB nodeP leafB cutA inclB consB validB givR readR popN FewB consP
set_option maxHeartbeats 8000000 in
set_option maxRecDepth 100000 in
theorem Stays_main (w : World) (A A' : Option Addr) (c c' n n' j m i : Nat) (dat oth l k : List ByteArray) (o q : Int) (hC : Kd.C Kd.string w A n dat) (hcn : n ≤ c) (hC' : Kd.C Kd.string w A' n' oth) (hcn' : n' ≤ c') (hn : n ≤ 40) (hn1 : 1 ≤ n) (hnn : n ≤ n') (hf : FewB dat = true) (hf' : FewB oth = true)
    (hbs : ∀ x ∈ dat, x.size ≤ 140737488351232) (hbs' : ∀ x ∈ oth, x.size ≤ 140737488351232) (ho : 0 ≤ o ∧ o ≤ 255) (hq : 0 ≤ q ∧ q ≤ 255) (hl : dat.map leafB = l) (hk : (oth.take n).map leafB = k) (hj : (j : Int) = Int.tmod o (n : Int)) (hm : m = 1 + j) (hi : (i : Int) = Int.tmod q (m : Int)) :
    Calls Try.prog 4 #[.slice A n c, .slice A' n' c', .int .u8 q, .int .u8 o] w fun e w' => e = .returned (.bool true) ∧ Below w.heap.size w w' := by
  have S := Aside0.mk (SepT.start w)
  have hdn : dat.length = n := hC.1
  have hon : oth.length = n' := hC'.1
  have hln : l.length = n := by rw [← hl, List.length_map, hdn]
  have hkn : k.length = n := by rw [← hk, List.length_map, List.length_take]; omega
  have hd : AllD l := by rw [← hl]; exact leaves_all dat
  have hd' : AllD k := by rw [← hk]; exact leaves_all _
  have hjn : j < n := by
    have h0 := Int.tmod_lt_of_pos o (show (0 : Int) < (n : Int) by omega)
    omega
  have him : i < m := by
    have h0 := Int.tmod_lt_of_pos q (show (0 : Int) < (m : Int) by omega)
    omega
  have hmn : m ≤ n := by omega
  have hts := (FewB_true hf).2
  have hts' := (FewB_true hf').2
  have hsz : ∀ x ∈ dat, x.size ≤ 10000000 := fun x hx => by have := tot2_mem hx; omega
  have hsz' : ∀ x ∈ oth.take n, x.size ≤ 10000000 := fun x hx => by have := tot2_mem (List.mem_of_mem_take hx); omega
  have HF : Aside0 (∀ V ts, SepT w V ts → Calls Try.prog 17 #[.slice A n c] V fun e w' => e = .returned (.bool true) ∧ SepT w w' ts) := ⟨fun V ts h => by
    have hc := Few2_S h A c dat (by rw [hdn]; exact Kd.C_below hC (Sep.base h)) (by omega) hbs
    rw [hdn, hf] at hc
    exact hc⟩
  have HF' : Aside0 (∀ V ts, SepT w V ts → Calls Try.prog 17 #[.slice A' n' c'] V fun e w' => e = .returned (.bool true) ∧ SepT w w' ts) := ⟨fun V ts h => by
    have hc := Few2_S h A' c' oth (by rw [hon]; exact Kd.C_below hC' (Sep.base h)) (by omega) hbs'
    rw [hon, hf'] at hc
    exact hc⟩
  have H18 : Aside0 (∀ V ts, SepT w V ts → Calls Try.prog 18 #[.slice A n c] V fun e w' => ∃ ad cb, e = .returned (.slice (some ad) n cb) ∧ SepT w w' (rowT Kd.string 9 (.slice (some ad) n cb) l :: ts)) := ⟨fun V ts h => by
    rw [← hl]
    refine (leaves_C h (Kd.C_below hC (Sep.base h)) (by omega) hsz).mono ?_
    rintro e w1 ⟨B, cb, rfl, hs⟩
    obtain ⟨ad, rfl, _⟩ := row_str hs m0 0 (by omega)
    exact ⟨ad, cb, rfl, hs⟩⟩
  have H18' : Aside0 (∀ V ts, SepT w V ts → Calls Try.prog 18 #[.slice A' n c'] V fun e w' => ∃ B cb, e = .returned (.slice B n cb) ∧ SepT w w' (rowT Kd.string 9 (.slice B n cb) k :: ts)) := ⟨fun V ts h => by
    rw [← hk]
    exact leaves_C h (C_lo (Kd.C_below hC' (Sep.base h)) hnn) (by omega) hsz'⟩
  obtain ⟨R, hR⟩ : ∃ R, rootB l = R := ⟨_, rfl⟩
  obtain ⟨F, hF⟩ : ∃ F, rootB (l.take m) = F := ⟨_, rfl⟩
  obtain ⟨leaf, hleaf⟩ : ∃ leaf, l.getD i ⟨#[]⟩ = leaf := ⟨_, rfl⟩
  have hlm : (l.take m).length = m := by rw [List.length_take]; omega
  have sR : R.size = 32 := by rw [← hR]; exact rootB_size l hd (by omega)
  have sF : F.size = 32 := by rw [← hF]; exact rootB_size _ (hd.take m) (by omega)
  have sl : leaf.size = 32 := by
    rw [← hleaf]
    exact hd _ (by simp [List.getD, show i < l.length by omega])
  have H22 : Aside0 (∀ V ts B cb, SepT w V ts → rowT Kd.string 9 (.slice B n cb) l ∈ ts → Calls Try.prog 22 #[.slice B n cb] V fun e w' => e = .returned (.string R) ∧ SepT w w' ts) := ⟨fun V ts B cb h hm => Root_C h (SepT.rowC h hm).1 (SepT.rowC h hm).2 R (by rw [RootB_valid (by omega) hd, hR])⟩
  have H22b : Aside0 (∀ V ts B cb, SepT w V ts → rowT Kd.string 9 (.slice B n cb) l ∈ ts → Calls Try.prog 22 #[.slice B m cb] V fun e w' => e = .returned (.string F) ∧ SepT w w' ts) := ⟨fun V ts B cb h hmm => Root_C h (C_lo (SepT.rowC h hmm).1 hmn) (Nat.le_trans hmn (SepT.rowC h hmm).2) F (by rw [RootB_valid (by omega) (hd.take m), hF])⟩
  obtain ⟨p1, hp1⟩ : ∃ p1, inclB (l.take m) i = p1 := ⟨_, rfl⟩
  obtain ⟨p2, hp2⟩ : ∃ p2, inclB l i = p2 := ⟨_, rfl⟩
  obtain ⟨p3, hp3⟩ : ∃ p3, inclB k i = p3 := ⟨_, rfl⟩
  obtain ⟨p4, hp4⟩ : ∃ p4, consB l m true = p4 := ⟨_, rfl⟩
  obtain ⟨p5, hp5⟩ : ∃ p5, consB k m true = p5 := ⟨_, rfl⟩
  obtain ⟨k1, hk1⟩ : ∃ k1, p1.length = k1 := ⟨_, rfl⟩
  obtain ⟨k2, hk2⟩ : ∃ k2, p2.length = k2 := ⟨_, rfl⟩
  obtain ⟨k4, hk4⟩ : ∃ k4, p4.length = k4 := ⟨_, rfl⟩
  have hk3 : p3.length = k2 := by rw [← hp3, ← hk2, ← hp2]; exact (inclB_same (l.length + 1) l k i (by omega) (by omega) (by omega) (by omega)).symm
  have hk5 : p5.length = k4 := by rw [← hp5, ← hk4, ← hp4]; exact (consB_same (l.length + 1) l k m true (by omega) (by omega) (by omega) (by omega) (by omega)).symm
  have v1 : validB p1 = true := by rw [← hp1]; exact val_of (inclB_all (m + 1) _ i (by omega) (by omega) (hd.take m) (by omega)) (by have := inclB_length (l.take m) i; omega)
  have v2 : validB p2 = true := by rw [← hp2]; exact val_of (inclB_all (n + 1) _ i (by omega) (by omega) hd (by omega)) (by have := inclB_length l i; omega)
  have v4 : validB p4 = true := by rw [← hp4]; exact val_of (consB_all (n + 1) _ m true (by omega) (by omega) hd (by omega) (by omega)) (by have := consB_length l m true; omega)
  have H23a : Aside0 (∀ V ts B cb, SepT w V ts → rowT Kd.string 9 (.slice B n cb) l ∈ ts → Calls Try.prog 23 #[.slice B m cb, .int .i64 i] V fun e w' => ∃ B2 c2, e = .returned (.tuple #[.slice B2 k1 c2, .int .i64 0]) ∧ SepT w w' (rowT Kd.string 9 (.slice B2 k1 c2) p1 :: ts)) := ⟨fun V ts B cb h hmm => by
    have := Inclusion_C h (C_lo (SepT.rowC h hmm).1 hmn) (Nat.le_trans hmn (SepT.rowC h hmm).2) (i : Int) p1 0 (by rw [InclR_valid (by omega) (hd.take m) (by omega), hp1])
    rw [hk1] at this
    exact this⟩
  have H23b : Aside0 (∀ V ts B cb, SepT w V ts → rowT Kd.string 9 (.slice B n cb) l ∈ ts → Calls Try.prog 23 #[.slice B n cb, .int .i64 i] V fun e w' => ∃ B2 c2, e = .returned (.tuple #[.slice B2 k2 c2, .int .i64 0]) ∧ SepT w w' (rowT Kd.string 9 (.slice B2 k2 c2) p2 :: ts)) := ⟨fun V ts B cb h hmm => by
    have := Inclusion_C h (SepT.rowC h hmm).1 (SepT.rowC h hmm).2 (i : Int) p2 0 (by rw [InclR_valid (by omega) hd (by omega), hp2])
    rw [hk2] at this
    exact this⟩
  have H23c : Aside0 (∀ V ts B cb, SepT w V ts → rowT Kd.string 9 (.slice B n cb) k ∈ ts → Calls Try.prog 23 #[.slice B n cb, .int .i64 i] V fun e w' => ∃ B2 c2, e = .returned (.tuple #[.slice B2 k2 c2, .int .i64 0]) ∧ SepT w w' (rowT Kd.string 9 (.slice B2 k2 c2) p3 :: ts)) := ⟨fun V ts B cb h hmm => by
    have := Inclusion_C h (SepT.rowC h hmm).1 (SepT.rowC h hmm).2 (i : Int) p3 0 (by rw [InclR_valid (by omega) hd' (by omega), hp3])
    rw [hk3] at this
    exact this⟩
  have H24a : Aside0 (∀ V ts B cb, SepT w V ts → rowT Kd.string 9 (.slice B n cb) l ∈ ts → Calls Try.prog 24 #[.slice B n cb, .int .i64 m] V fun e w' => ∃ B2 c2, e = .returned (.tuple #[.slice B2 k4 c2, .int .i64 0]) ∧ SepT w w' (rowT Kd.string 9 (.slice B2 k4 c2) p4 :: ts)) := ⟨fun V ts B cb h hmm => by
    have := Consistency_C h (SepT.rowC h hmm).1 (SepT.rowC h hmm).2 (m : Int) p4 0 (by rw [ConsR_valid (by omega) hd (by omega) (by omega), hp4])
    rw [hk4] at this
    exact this⟩
  have H24b : Aside0 (∀ V ts B cb, SepT w V ts → rowT Kd.string 9 (.slice B n cb) k ∈ ts → Calls Try.prog 24 #[.slice B n cb, .int .i64 m] V fun e w' => ∃ B2 c2, e = .returned (.tuple #[.slice B2 k4 c2, .int .i64 0]) ∧ SepT w w' (rowT Kd.string 9 (.slice B2 k4 c2) p5 :: ts)) := ⟨fun V ts B cb h hmm => by
    have := Consistency_C h (SepT.rowC h hmm).1 (SepT.rowC h hmm).2 (m : Int) p5 0 (by rw [ConsR_valid (by omega) hd' (by omega) (by omega), hp5])
    rw [hk5] at this
    exact this⟩
  have H25a : Aside0 (∀ V ts B cb, SepT w V ts → rowT Kd.string 9 (.slice B k1 cb) p1 ∈ ts → Calls Try.prog 25 #[.string leaf, .int .i64 i, .int .i64 m, .slice B k1 cb, .string F] V fun e w' => e = .returned (.bool true) ∧ SepT w w' ts) := ⟨fun V ts B cb h hmm => Included_C h (SepT.rowC h hmm).1 (SepT.rowC h hmm).2 leaf F i m v1 sl sF (by omega) him true (by
    have := InclOk_made (l.take m) i (by omega) (hd.take m) (by omega)
    rw [hlm, hp1, hF, show (l.take m).getD i ⟨#[]⟩ = leaf from by rw [← hleaf]; simp [List.getD, him]] at this
    exact this)⟩
  have H25b : Aside0 (∀ V ts B cb, SepT w V ts → rowT Kd.string 9 (.slice B k2 cb) p2 ∈ ts → Calls Try.prog 25 #[.string leaf, .int .i64 i, .int .i64 n, .slice B k2 cb, .string R] V fun e w' => e = .returned (.bool true) ∧ SepT w w' ts) := ⟨fun V ts B cb h hmm => Included_C h (SepT.rowC h hmm).1 (SepT.rowC h hmm).2 leaf R i n v2 sl sR (by omega) (by omega) true (by
    have := InclOk_made l i (by omega) hd (by omega)
    rw [hln, hp2, hR, hleaf] at this
    exact this)⟩
  have H26 : Aside0 (∀ V ts B cb, SepT w V ts → rowT Kd.string 9 (.slice B k4 cb) p4 ∈ ts → Calls Try.prog 26 #[.int .i64 m, .int .i64 n, .string F, .string R, .slice B k4 cb] V fun e w' => e = .returned (.bool true) ∧ SepT w w' ts) := ⟨fun V ts B cb h hmm => Extends_C h (SepT.rowC h hmm).1 (SepT.rowC h hmm).2 F R m n v4 sF sR (by omega) hmn (by omega) true (by
    have := ExtOk_made l m (by omega) hd (by omega) (by omega)
    rw [hln, hp4, hF, hR] at this
    exact this)⟩
  have HK : Aside0 (∀ V ts ad cb, SepT w V ts → rowT Kd.string 9 (.slice (some ad) n cb) l ∈ ts → V.cell? (ad.add i) = some (.string leaf)) := ⟨fun V ts ad cb h hmm => by
    obtain ⟨ad2, e, d⟩ := row_str h hmm i (by omega)
    injection e with e
    subst e
    rw [hleaf] at d
    exact d⟩
  have how : IntKind.i64.wrap o = o := IntWalk.i64_in _ (by omega)
  have hqw : IntKind.i64.wrap q = q := IntWalk.i64_in _ (by omega)
  have hjw : IntKind.i64.wrap (j : Int) = j := IntWalk.i64_in _ (by omega)
  have hiw : IntKind.i64.wrap (i : Int) = i := IntWalk.i64_in _ (by omega)
  have hmw : IntKind.i64.wrap (m : Int) = m := IntWalk.i64_in _ (by omega)
  have hm1 : (1 : Int) + (j : Int) = (m : Int) := by omega
  have hr1 : Int.tmod o (n : Int) = (j : Int) := hj.symm
  have hr2 : o % (n : Int) = (j : Int) := by rw [← Int.tmod_eq_emod_of_nonneg ho.1]; exact hj.symm
  have hr3 : Int.tmod q (m : Int) = (i : Int) := hi.symm
  have hr4 : q % (m : Int) = (i : Int) := by rw [← Int.tmod_eq_emod_of_nonneg hq.1]; exact hi.symm
  have hnz : ¬ (n : Int) = 0 := by omega
  have hnb : ((n : Int) == 0) = false := by rw [beq_eq_false_iff_ne]; exact hnz
  have hmz : ¬ (m : Int) = 0 := by omega
  have hmb : ((m : Int) == 0) = false := by rw [beq_eq_false_iff_ne]; exact hmz
  have hn40 : (n : Int) ≤ 40 := by omega
  have hn40' : ¬ 40 < (n : Int) := by omega
  have hnn0 : ¬ (n' : Int) < (n : Int) := by omega
  have hi0 : (0 : Int) ≤ i := by omega
  have hi1 : (i : Int) < n := by omega
  have hs0 := slice_lo A' n' c' n hnn hcn'
  have HS2 : Aside0 (∀ (B : Option Addr) (cb : Nat), n ≤ cb → ∀ V : World, (Instr.slice 22 (.slice B n cb) none (some (.int .i64 (m : Int))) none).run Try.prog V = .ok (.slice B m cb) V) := ⟨fun B cb h => slice_lo B n cb m hmn h⟩
  clear hC hcn hC' hcn' hn hn1 hnn hf hf' hbs hbs' ho hq hl hk hj hm hi hdn hon hln hkn hd hd' hjn him hmn hts hts' hsz hsz' hR hF hleaf hlm sR sF sl hp1 hp2 hp3 hp4 hp5 hk1 hk2 hk3 hk4 hk5 v1 v2 v4
  go_enter Try.func4, Try.ntmps4
  go_upto_region 5 with (first
    | (go_at_call 16; have hc := awake46_S S.out; go_fit hc; clear hc; rintro e w1 ⟨rfl, hh⟩; clear S; have S := Aside0.mk hh; clear hh)
    | (go_at_call 17; have hc := HF.out _ _ S.out; go_fit hc; clear hc; rintro e w2 ⟨rfl, hh⟩; clear S; have S := Aside0.mk hh; clear hh)
    | (go_at_call 17; have hc := HF'.out _ _ S.out; go_fit hc; clear hc; rintro e w3 ⟨rfl, hh⟩; clear S; have S := Aside0.mk hh; clear hh))
  have S1 := Aside0.mk S.out.drew
  clear S
  have S := S1
  clear S1
  go_region_held3 (fun V => True) (trivial) (first
    | (go_at_call 18; have hc := H18.out _ _ S.out; go_fit hc; clear hc; rintro e w4 ⟨ad, cb, rfl, hh⟩; clear S; have S := Aside0.mk hh; clear hh)
    | (go_at_call 18; have hc := H18'.out _ _ S.out; go_fit hc; clear hc; rintro e w5 ⟨B', cb', rfl, hh⟩; clear S; have S := Aside0.mk hh; clear hh))
  have hss := HS2.out (some ad) cb (SepT.rowC S.out m1).2
  clear HS2 hs0
  go_upto_region 15 with (first
    | (go_at_call 23; have hc := H23a.out _ _ (some ad) cb S.out m1; go_fit hc; clear hc; rintro e w6 ⟨B1, c1, rfl, hh⟩; clear S; have S := Aside0.mk hh; clear hh)
    | (go_at_call 23; have hc := H23b.out _ _ (some ad) cb S.out m2; go_fit hc; clear hc; rintro e w7 ⟨B2, c2, rfl, hh⟩; clear S; have S := Aside0.mk hh; clear hh)
    | (go_at_call 23; have hc := H23c.out _ _ B' cb' S.out m2; go_fit hc; clear hc; rintro e w8 ⟨B3, c3, rfl, hh⟩; clear S; have S := Aside0.mk hh; clear hh)
    | (go_at_call 24; have hc := H24a.out _ _ (some ad) cb S.out m4; go_fit hc; clear hc; rintro e w9 ⟨B4, c4, rfl, hh⟩; clear S; have S := Aside0.mk hh; clear hh)
    | (go_at_call 24; have hc := H24b.out _ _ B' cb' S.out m4; go_fit hc; clear hc; rintro e w10 ⟨B5, c5, rfl, hh⟩; clear S; have S := Aside0.mk hh; clear hh))
  have S1 := Aside0.mk S.out.drew
  clear S
  have S := S1
  clear S1
  go_region_held3 (fun V => V.cell? (ad.add i) = some (.string leaf)) (exact HK.out _ _ ad cb S.out m6) (first
    | (go_at_call 22; have hc := H22b.out _ _ (some ad) cb S.out m6; go_fit hc; clear hc; rintro e w11 ⟨rfl, hh⟩; clear S; have S := Aside0.mk hh; clear hh)
    | (go_at_call 22; have hc := H22.out _ _ (some ad) cb S.out m6; go_fit hc; clear hc; rintro e w11 ⟨rfl, hh⟩; clear S; have S := Aside0.mk hh; clear hh)
    | (go_at_call 25; have hc := H25a.out _ _ B1 c1 S.out m4; go_fit hc; clear hc; rintro e w12 ⟨rfl, hh⟩; clear S; have S := Aside0.mk hh; clear hh)
    | (go_at_call 25; have hc := H25b.out _ _ B2 c2 S.out m3'; go_fit hc; clear hc; rintro e w12 ⟨rfl, hh⟩; clear S; have S := Aside0.mk hh; clear hh)
    | (go_at_call 26; have hc := H26.out _ _ B4 c4 S.out m1; go_fit hc; clear hc; rintro e w13 ⟨rfl, hh⟩; clear S; have S := Aside0.mk hh; clear hh))
  all_goals
    go_wp2_with fail
    go_ret
    exact ⟨rfl, Sep.base S.out⟩
set_option maxHeartbeats 2000000 in
set_option maxRecDepth 100000 in
theorem MerkleStays_law (w : World) (A : Option Addr) (c : Nat) (dat : List ByteArray) (hC : Kd.C Kd.string w A dat.length dat) (hcn : dat.length ≤ c) (hbs : ∀ x ∈ dat, x.size ≤ 140737488351232) (A' : Option Addr) (c' : Nat) (oth : List ByteArray) (hC' : Kd.C Kd.string w A' oth.length oth) (hcn' : oth.length ≤ c') (hbs' : ∀ x ∈ oth, x.size ≤ 140737488351232) (q : Nat) (hq : q ≤ 255) (o : Nat) (ho : o ≤ 255) :
    Calls Try.prog 4 #[.slice A dat.length c, .slice A' oth.length c', .int .u8 q, .int .u8 o] w fun e w' => e = .returned (.bool true) ∧ Below w.heap.size w w' := by
  have HF : Aside0 (∀ V ts, SepT w V ts → Calls Try.prog 17 #[.slice A dat.length c] V fun e w' => e = .returned (.bool (FewB dat)) ∧ SepT w w' ts) := ⟨fun V ts h => Few2_S h A c dat (Kd.C_below hC (Sep.base h)) hcn hbs⟩
  have HF' : Aside0 (∀ V ts, SepT w V ts → Calls Try.prog 17 #[.slice A' oth.length c'] V fun e w' => e = .returned (.bool (FewB oth)) ∧ SepT w w' ts) := ⟨fun V ts h => Few2_S h A' c' oth (Kd.C_below hC' (Sep.base h)) hcn' hbs'⟩
  have S := Aside0.mk (SepT.start w)
  by_cases hf : FewB dat = true
  · by_cases hf' : FewB oth = true
    · by_cases hn : dat.length ≤ 40
      · by_cases hnn : dat.length ≤ oth.length
        · by_cases hn1 : 1 ≤ dat.length
          · have h0 : (0 : Int) ≤ Int.tmod (o : Int) (dat.length : Int) := Int.tmod_nonneg _ (by omega)
            have h1 : (0 : Int) ≤ Int.tmod (q : Int) ((1 + (Int.tmod (o : Int) (dat.length : Int)).toNat : Nat) : Int) := Int.tmod_nonneg _ (by omega)
            exact Stays_main w A A' c c' dat.length oth.length (Int.tmod (o : Int) (dat.length : Int)).toNat _ (Int.tmod (q : Int) ((1 + (Int.tmod (o : Int) (dat.length : Int)).toNat : Nat) : Int)).toNat dat oth _ _ (o : Int) (q : Int) hC hcn hC' hcn' hn hn1 hnn hf hf' hbs hbs' (by omega) (by omega) rfl rfl (Int.toNat_of_nonneg h0) rfl (Int.toNat_of_nonneg h1)
          · have hz : dat.length = 0 := by omega
            have hn2 : ((dat.length : Int) == 0) = true := by rw [hz]; rfl
            have hn3 : ¬ (40 : Int) < dat.length := by omega
            have hn4 : ¬ (oth.length : Int) < dat.length := by omega
            rw [hf] at HF
            rw [hf'] at HF'
            clear hC hcn hbs hf hn hC' hcn' hbs' hf' hnn hn1 hz ho hq
            go_enter Try.func4, Try.ntmps4
            go_wp2_with (first
              | (go_at_call 16; have hc := awake46_S S.out; go_fit hc; clear hc; rintro e w1 ⟨rfl, hh⟩; clear S; have S := Aside0.mk hh; clear hh)
              | (go_at_call 17; have hc := HF.out _ _ S.out; go_fit hc; clear hc; rintro e w2 ⟨rfl, hh⟩; clear S; have S := Aside0.mk hh; clear hh)
              | (go_at_call 17; have hc := HF'.out _ _ S.out; go_fit hc; clear hc; rintro e w2 ⟨rfl, hh⟩; clear S; have S := Aside0.mk hh; clear hh))
            go_ret
            exact ⟨rfl, Sep.base S.out⟩
        · have hn3 : ¬ (40 : Int) < dat.length := by omega
          have hn4 : (oth.length : Int) < dat.length := by omega
          rw [hf] at HF
          rw [hf'] at HF'
          clear hC hcn hbs hf hn hC' hcn' hbs' hf' hnn ho hq
          go_enter Try.func4, Try.ntmps4
          go_wp2_with (first
            | (go_at_call 16; have hc := awake46_S S.out; go_fit hc; clear hc; rintro e w1 ⟨rfl, hh⟩; clear S; have S := Aside0.mk hh; clear hh)
            | (go_at_call 17; have hc := HF.out _ _ S.out; go_fit hc; clear hc; rintro e w2 ⟨rfl, hh⟩; clear S; have S := Aside0.mk hh; clear hh)
            | (go_at_call 17; have hc := HF'.out _ _ S.out; go_fit hc; clear hc; rintro e w2 ⟨rfl, hh⟩; clear S; have S := Aside0.mk hh; clear hh))
          go_ret
          exact ⟨rfl, Sep.base S.out⟩
      · have hn2 : (40 : Int) < dat.length := by omega
        rw [hf] at HF
        rw [hf'] at HF'
        clear hC hcn hbs hf hn hC' hcn' hbs' hf' ho hq
        go_enter Try.func4, Try.ntmps4
        go_wp2_with (first
          | (go_at_call 16; have hc := awake46_S S.out; go_fit hc; clear hc; rintro e w1 ⟨rfl, hh⟩; clear S; have S := Aside0.mk hh; clear hh)
          | (go_at_call 17; have hc := HF.out _ _ S.out; go_fit hc; clear hc; rintro e w2 ⟨rfl, hh⟩; clear S; have S := Aside0.mk hh; clear hh)
          | (go_at_call 17; have hc := HF'.out _ _ S.out; go_fit hc; clear hc; rintro e w2 ⟨rfl, hh⟩; clear S; have S := Aside0.mk hh; clear hh))
        go_ret
        exact ⟨rfl, Sep.base S.out⟩
    · rw [hf] at HF
      rw [show FewB oth = false by simpa using hf'] at HF'
      clear hC hcn hbs hf hC' hcn' hbs' hf' ho hq
      go_enter Try.func4, Try.ntmps4
      go_wp2_with (first
        | (go_at_call 16; have hc := awake46_S S.out; go_fit hc; clear hc; rintro e w1 ⟨rfl, hh⟩; clear S; have S := Aside0.mk hh; clear hh)
        | (go_at_call 17; have hc := HF.out _ _ S.out; go_fit hc; clear hc; rintro e w2 ⟨rfl, hh⟩; clear S; have S := Aside0.mk hh; clear hh)
        | (go_at_call 17; have hc := HF'.out _ _ S.out; go_fit hc; clear hc; rintro e w2 ⟨rfl, hh⟩; clear S; have S := Aside0.mk hh; clear hh))
      go_ret
      exact ⟨rfl, Sep.base S.out⟩
  · rw [show FewB dat = false by simpa using hf] at HF
    clear hC hcn hbs hf hC' hcn' hbs' ho hq
    go_enter Try.func4, Try.ntmps4
    go_wp2_with (first
      | (go_at_call 16; have hc := awake46_S S.out; go_fit hc; clear hc; rintro e w1 ⟨rfl, hh⟩; clear S; have S := Aside0.mk hh; clear hh)
      | (go_at_call 17; have hc := HF.out _ _ S.out; go_fit hc; clear hc; rintro e w2 ⟨rfl, hh⟩; clear S; have S := Aside0.mk hh; clear hh))
    go_ret
    exact ⟨rfl, Sep.base S.out⟩
end Go.Proofs.Ytiafadmkkehdnaa.Sh
