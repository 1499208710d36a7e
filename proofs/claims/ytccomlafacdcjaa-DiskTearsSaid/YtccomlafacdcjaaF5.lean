/-
  DiskClones, walked.
-/
import Derived.Test.YtccomlafacdcjaaF3
namespace Go.Proofs.Ytccomlafacdcjaa.Dk
open Go.RowKit Go.Proofs.YtccomlafacdcjaaW.PrintWords Go.Proofs.YtccomlafacdcjaaW.PrintMore
open Go.Proofs.Ytccomlafacdcjaa.Ref
set_option linter.unusedVariables false
attribute [local irreducible] Sep diskT rowT refT boxT

theorem few_choices {l : List S41} (hf : fewB l = true) {k : Nat} (hlt : k < l.length) : (rd_T41 l (k : Int)).f2.length < 1000000 := by
  simp only [fewB, Bool.and_eq_true, List.all_eq_true, decide_eq_true_eq] at hf
  have hm : rd_T41 l k ∈ l := by simp [rd_T41, hlt]
  have := (hf.1 _ hm).2
  omega
theorem few_len {l : List S41} (hf : fewB l = true) : l.length ≤ 40 := by simp [fewB] at hf; exact hf.2

set_option maxHeartbeats 2000000 in
set_option maxRecDepth 100000 in
theorem DiskClones_few (w : World) (p : Nat) (hp : p < 256) (A : Option Addr) (c : Nat) (l : List S41) (hC : Kd.C k41 w A l.length l) (hl : l.length ≤ c) (hf : fewB l = true)
    (A' : Option Addr) (c' : Nat) (l' : List S41) (hC' : Kd.C k41 w A' l'.length l') (hl' : l'.length ≤ c') (hf' : fewB l' = true)
    (A2 : Option Addr) (c2 : Nat) (cs : List Int) (hC2 : Kd.C (Kd.int .i64) w A2 cs.length cs) (hl2 : cs.length ≤ c2) (hcs : (cs.length : Int) ≤ 20) :
    Calls Try.prog 5 #[.int .u8 p, .slice A l.length c, .slice A' l'.length c', .slice A2 cs.length c2] w fun e w' => e = .returned (.bool true) ∧ Below w.heap.size w w' := by
  have S := Aside0.mk (SepT.start w)
  have HC := Aside0.mk hC
  have HC' := Aside0.mk hC'
  have HC2 := Aside0.mk hC2
  clear hC hC' hC2
  have HF := Aside0.mk hf
  have HF' := Aside0.mk hf'
  have hlen := few_len hf
  have hlen' := few_len hf'
  have hm := Kd.C_max HC.out
  have hm' := Kd.C_max HC'.out
  have hcs2 : cs.length < 1000000 := by omega
  go_enter Try.func5, Try.ntmps5
  go_wp2_with (first
    | (go_at_call 10; have hc := awake_S S.out; go_fit hc; clear hc; rintro e w1 ⟨rfl, hs⟩; clear S; have S := Aside0.mk hs; clear hs)
    | (go_at_call 11; have hc := Few_S S.out A c l HC.out hl hm; rw [HF.out] at hc; (with_reducible refine hc.mono ?_); clear hc; rintro e w1 ⟨rfl, hs⟩; clear S; have S := Aside0.mk hs; clear hs)
    | (go_at_call 11; have hc := Few_S S.out A' c' l' HC'.out hl' hm'; rw [HF'.out] at hc; (with_reducible refine hc.mono ?_); clear hc; rintro e w1 ⟨rfl, hs⟩; clear S; have S := Aside0.mk hs; clear hs)
    | (go_at_call 14; have hc := start_S S.out p hp; go_fit hc; clear hc; rintro e w1 ⟨g, A0, n0, c0, A1, n1, c1, rfl, hs⟩; have S1 := Aside0.mk (hs.allocBox #[.slice A0 n0 c0, .slice A1 n1 c1] 32); clear S; have S := S1; clear S1 hs))
  obtain ⟨W, hW⟩ : ∃ W, W = w1.alloc (.cells #[.slice A0 n0 c0, .slice A1 n1 c1] 32) := ⟨_, rfl⟩
  generalize hb10 : w1.heap.size = b10 at S ⊢
  rw [← hW] at S ⊢
  clear hW hb10
  go_loopw [42] (fun v42 wr => ∃ (k : Nat) (s : DS) (B0 : Option Addr) (k0 j0 : Nat) (B1 : Option Addr) (k1 j1 : Nat), k ≤ l.length ∧ v42 = .int .i64 k ∧ Good s (pagesOf p) (k) ∧ Aside0 (SepT w wr [boxT b10 #[.slice B0 k0 j0, .slice B1 k1 j1] 32, refT w.heap.size (.slice B0 k0 j0) (.slice B1 k1 j1) s.dur s.pen, diskT g s])) (fun v42 _ => l.length - (intOf v42).toNat)
  case atStart => exact ⟨0, newD (pagesOf p), A0, n0, c0, A1, n1, c1, Nat.zero_le _, rfl, Good.start _, S⟩
  case round =>
    clear S
    obtain ⟨k, s, B0, k0, j0, B1, k1, j1, hk, rfl, hG, S⟩ := hrel
    by_cases hlt : k < l.length
    · have hlt2 : (k : Int) < l.length := by omega
      have hcs4 := few_choices HF.out hlt
      obtain ⟨ad, A4, c4, hAd, d0, d1, d2, d3, d4, hl4, hC4⟩ := at_T41 HC.out k (by omega) (by omega)
      subst hAd
      have hB := (Sep.base S.out)
      have HC4 := Aside0.mk hC4
      have hpen : s.pen.length < 1000000 := by have := hG.pen; omega
      have hlog : s.log.length < 1000000 := by have := hG.log; omega
      generalize rd_T41 l k = a at d0 d1 d2 d3 d4 hl4 HC4 hcs4
      have hG2 := hG.do a
      replace d0 := pw_cell_below hB d0
      replace d1 := pw_cell_below hB d1
      replace d2 := pw_cell_below hB d2
      replace d3 := pw_cell_below hB d3
      replace d4 := pw_cell_below hB d4
      simp only [Int.toNat_natCast] at d0 d1 d2 d3 d4
      have x12 := (SepT.box S.out m0).1
      have y0 : wr.cell? ⟨b10, 0, none⟩ = some (.slice B0 k0 j0) := (blk_cell x12 0).trans rfl
      have y1 : wr.cell? ⟨b10, 1, none⟩ = some (.slice B1 k1 j1) := (blk_cell x12 1).trans rfl
      have hb12 := blk_lt x12
      clear x12 hC4 hB
      have S1 := Aside0.mk (((S.out.allocBox #[.int .u8 a.f0, .int .i64 a.f1.f0, .string a.f1.f1, .bool a.f1.f2, .slice A4 a.f2.length c4] 41).third.fourth).swap)
      clear S
      have S := S1
      clear S1
      go_wp2_with (first
        | (go_at_call 15; have hc := do_S S.out a A4 c4 HC4.out hl4 hcs4 hpen hlog; go_fit hc; clear hc; rintro e w2 ⟨B2, k2, j2, B3, k3, j3, rfl, hs⟩; clear S; have S := Aside0.mk hs; clear hs; have x12 := (SepT.box S.out m3').1; have z0 : w2.cell? ⟨b10, 0, none⟩ = some (.slice B0 k0 j0) := (blk_cell x12 0).trans rfl; have z1 : w2.cell? ⟨b10, 1, none⟩ = some (.slice B1 k1 j1) := (blk_cell x12 1).trans rfl; have e0 := blk_frozen x12 0; have e1 := blk_frozen x12 1; have hlt12 := blk_lt x12; clear x12))
      have S1 := Aside0.mk (SepT.drop (SepT.fourth ((S.out.fourth.setBox 0 (.slice B2 k2 j2)).setBox 1 (.slice B3 k3 j3))))
      clear S
      have S2 := Aside0.mk (show SepT w _ (boxT b10 #[.slice B2 k2 j2, .slice B3 k3 j3] 32 :: _) from S1.out)
      clear S1 y0 y1 z0 z1 e0 e1 d0 d1 d2 d3 d4
      go_roundw
      case rel => exact ⟨k + 1, doD s a, B2, k2, j2, B3, k3, j3, by omega, by go_num, hG2, S2⟩
      case measure => simp [intOf]; omega
    · obtain rfl : k = l.length := by omega
      have hpen : s.pen.length < 1000000 := by have := hG.pen; omega
      obtain ⟨sc, hsc⟩ : ∃ sc : DS, { dur := s.dur, pen := s.pen, rc := false, log := [] } = sc := ⟨_, rfl⟩
      have HSC := Aside0.mk hsc
      have q1 : sc.dur = s.dur := by rw [← hsc]
      have q2 : sc.pen = s.pen := by rw [← hsc]
      have q3 : sc.log = [] := by rw [← hsc]
      have q4 : { sc with rc := false, log := [] } = sc := by rw [← hsc]
      clear hsc
      have HQ := Aside0.mk (And.intro q1 (And.intro q2 (And.intro q3 q4)))
      clear q1 q2 q3 q4
      go_wp2_with (first
        | (go_at_call 23; have hc := Clone_S S.out (g := g) (s := s) m2 hpen; rw [HSC.out] at hc; go_fit hc; clear hc; rintro e w3 ⟨gc, rfl, hs⟩; clear S; have S := Aside0.mk hs; clear hs)
        | (go_at_call 23; have hc := Clone_S S.out (g := g) (s := s) m3' hpen; rw [HSC.out] at hc; go_fit hc; clear hc; rintro e w4 ⟨gx, rfl, hs⟩; clear S; have S := Aside0.mk hs; clear hs)
        | (go_at_call 18; have hc := Image_S S.out (g := g) (s := s) m4; go_fit hc; clear hc; rintro e w5 ⟨Ai, ci, rfl, hs⟩; clear S; have S := Aside0.mk hs; clear hs))
      have HFl := Aside0.mk (show flush sc.dur sc.pen = flush s.dur s.pen by rw [HQ.out.1, HQ.out.2.1])
      have S1 := Aside0.mk S.out.sixth.sixth.sixth
      clear S
      have S := S1
      clear S1
      have hFl : (flush s.dur s.pen).length < 1000000000 := by rw [flush_length]; have := hG.dur; have := (pagesOf_range p).2; omega
      have hscp : sc.pen.length < 1000000 := by rw [HQ.out.2.1]; exact hpen
      clear HSC
      generalize flush s.dur s.pen = F at S HFl hFl ⊢
      go_loopw [68] (fun v68 wr => ∃ (k : Nat) (s : DS) (B0 : Option Addr) (k0 j0 : Nat) (B1 : Option Addr) (k1 j1 : Nat), k ≤ l'.length ∧ v68 = .int .i64 k ∧ Good s (pagesOf p) (l.length + k) ∧ Aside0 (SepT w wr [boxT b10 #[.slice B0 k0 j0, .slice B1 k1 j1] 32, refT w.heap.size (.slice B0 k0 j0) (.slice B1 k1 j1) s.dur s.pen, diskT g s, rowT Kd.string 9 (.slice Ai F.length ci) F, diskT gx sc, diskT gc sc])) (fun v68 _ => l'.length - (intOf v68).toNat)
      case atStart => exact ⟨0, s, B0, k0, j0, B1, k1, j1, Nat.zero_le _, rfl, hG, S⟩
      case round =>
        clear S hG
        obtain ⟨k, s, B0, k0, j0, B1, k1, j1, hk, rfl, hG, S⟩ := hrel
        by_cases hlt : k < l'.length
        · have hlt2 : (k : Int) < l'.length := by omega
          have hcs4 := few_choices HF'.out hlt
          obtain ⟨ad, A4, c4, hAd, d0, d1, d2, d3, d4, hl4, hC4⟩ := at_T41 HC'.out k (by omega) (by omega)
          subst hAd
          have hB := (Sep.base S.out)
          have HC4 := Aside0.mk hC4
          have hpen : s.pen.length < 1000000 := by have := hG.pen; omega
          have hlog : s.log.length < 1000000 := by have := hG.log; omega
          generalize rd_T41 l' k = a at d0 d1 d2 d3 d4 hl4 HC4 hcs4
          have hG2 := hG.do a
          replace d0 := pw_cell_below hB d0
          replace d1 := pw_cell_below hB d1
          replace d2 := pw_cell_below hB d2
          replace d3 := pw_cell_below hB d3
          replace d4 := pw_cell_below hB d4
          simp only [Int.toNat_natCast] at d0 d1 d2 d3 d4
          have x12 := (SepT.box S.out m0).1
          have y0 : wr.cell? ⟨b10, 0, none⟩ = some (.slice B0 k0 j0) := (blk_cell x12 0).trans rfl
          have y1 : wr.cell? ⟨b10, 1, none⟩ = some (.slice B1 k1 j1) := (blk_cell x12 1).trans rfl
          have hb12 := blk_lt x12
          clear x12 hC4 hB
          have S1 := Aside0.mk (((S.out.allocBox #[.int .u8 a.f0, .int .i64 a.f1.f0, .string a.f1.f1, .bool a.f1.f2, .slice A4 a.f2.length c4] 41).third.fourth).swap)
          clear S
          have S := S1
          clear S1
          go_wp2_with (first
            | (go_at_call 15; have hc := do_S S.out a A4 c4 HC4.out hl4 hcs4 hpen hlog; go_fit hc; clear hc; rintro e w2 ⟨B2, k2, j2, B3, k3, j3, rfl, hs⟩; clear S; have S := Aside0.mk hs; clear hs; have x12 := (SepT.box S.out m3').1; have z0 : w2.cell? ⟨b10, 0, none⟩ = some (.slice B0 k0 j0) := (blk_cell x12 0).trans rfl; have z1 : w2.cell? ⟨b10, 1, none⟩ = some (.slice B1 k1 j1) := (blk_cell x12 1).trans rfl; have e0 := blk_frozen x12 0; have e1 := blk_frozen x12 1; have hlt12 := blk_lt x12; clear x12))
          have S1 := Aside0.mk (SepT.drop (SepT.fourth ((S.out.fourth.setBox 0 (.slice B2 k2 j2)).setBox 1 (.slice B3 k3 j3))))
          clear S
          have S2 := Aside0.mk (show SepT w _ (boxT b10 #[.slice B2 k2 j2, .slice B3 k3 j3] 32 :: _) from S1.out)
          clear S1 y0 y1 z0 z1 e0 e1 d0 d1 d2 d3 d4
          go_roundw
          case rel => exact ⟨k + 1, doD s a, B2, k2, j2, B3, k3, j3, by omega, by go_num, hG2, S2⟩
          case measure => simp [intOf]; omega
        · obtain rfl : k = l'.length := by omega
          have S1 := Aside0.mk (SepT.drop (SepT.drop (SepT.drop S.out)))
          clear S
          have S := S1
          clear S1
          obtain ⟨sd, hsd⟩ : ∃ sd, crashD sc cs = sd := ⟨_, rfl⟩
          have HSD := Aside0.mk hsd
          clear hsd
          have hdl : (flush sd.dur sd.pen).length < 1000000000 := by
            rw [flush_length, ← HSD.out, crashD, crashAt_length, HQ.out.1]
            have := hG.dur
            have := (SepT.inb S.out m1).2
            rw [HQ.out.1] at this
            omega
          go_wp2_with (first
            | (go_at_call 18; have hc := Image_S S.out (g := gc) (s := sc) m2; rw [HFl.out] at hc; (with_reducible refine hc.mono ?_); clear hc; rintro e w6 ⟨Aj, cj, rfl, hs⟩; clear S; have S := Aside0.mk hs; clear hs)
            | (go_at_call 17; have hc := Equal_same Aj cj F Ai ci S.out m0 m1 hFl; go_fit hc; clear hc; rintro e w7 ⟨rfl, hs⟩; clear S; have S := Aside0.mk (SepT.drop (SepT.drop hs)); clear hs)
            | (go_at_call 16; have hc := Pending_S S.out (g := gc) (s := sc) m1; (with_reducible refine hc.mono ?_); clear hc; rintro e w' ⟨rfl, rfl⟩)
            | (go_at_call 16; have hc := Pending_S S.out (g := gx) (s := sc) m0; (with_reducible refine hc.mono ?_); clear hc; rintro e w' ⟨rfl, rfl⟩)
            | (go_at_call 26; have hc := Record_S (s := sc) S.out.swap false; rw [HQ.out.2.2.2, HQ.out.2.2.1, List.length_nil] at hc; go_fit hc; clear hc; rintro e w8 ⟨Ar, cr, rfl, hs⟩; clear S; have S := Aside0.mk (SepT.drop hs.swap); clear hs)
            | (go_at_call 24; have hc := Crash_S (s := sc) S.out A2 c2 cs HC2.out hl2 hcs2 hscp; rw [HSD.out] at hc; (with_reducible refine hc.mono ?_); clear hc; rintro e w9 ⟨rfl, hs⟩; clear S; have S := Aside0.mk hs.swap; clear hs)
            | (go_at_call 18; have hc := Image_S S.out (g := gc) (s := sd) m1; (with_reducible refine hc.mono ?_); clear hc; rintro e wa ⟨Au, cu, rfl, hs⟩; clear S; have S := Aside0.mk hs; clear hs)
            | (go_at_call 18; have hc := Image_S S.out (g := gx) (s := sd) m1; (with_reducible refine hc.mono ?_); clear hc; rintro e wb ⟨Av, cv, rfl, hs⟩; clear S; have S := Aside0.mk hs; clear hs)
            | (go_at_call 18; have hc := Image_S S.out (g := gc) (s := sd) m0; (with_reducible refine hc.mono ?_); clear hc; rintro e wa ⟨Au, cu, rfl, hs⟩; clear S; have S := Aside0.mk hs; clear hs)
            | (go_at_call 18; have hc := Image_S S.out (g := gx) (s := sd) m2; (with_reducible refine hc.mono ?_); clear hc; rintro e wb ⟨Av, cv, rfl, hs⟩; clear S; have S := Aside0.mk hs; clear hs)
            | (go_at_call 17; have hc := Equal_same Au cu (flush sd.dur sd.pen) Av cv S.out m1 m0 hdl; go_fit hc; clear hc; rintro e wc ⟨rfl, hs⟩; clear S; have S := Aside0.mk hs; clear hs))
          go_ret
          exact ⟨rfl, Sep.base S.out⟩

set_option maxHeartbeats 2000000 in
set_option maxRecDepth 100000 in
theorem DiskClones_law (w : World) (p : Nat) (hp : p < 256) (A : Option Addr) (c : Nat) (l : List S41) (hC : Kd.C k41 w A l.length l) (hl : l.length ≤ c)
    (A' : Option Addr) (c' : Nat) (l' : List S41) (hC' : Kd.C k41 w A' l'.length l') (hl' : l'.length ≤ c')
    (A2 : Option Addr) (c2 : Nat) (cs : List Int) (hC2 : Kd.C (Kd.int .i64) w A2 cs.length cs) (hl2 : cs.length ≤ c2) :
    Calls Try.prog 5 #[.int .u8 p, .slice A l.length c, .slice A' l'.length c', .slice A2 cs.length c2] w fun e w' => e = .returned (.bool true) ∧ Below w.heap.size w w' := by
  have S := Aside0.mk (SepT.start w)
  have HC := Aside0.mk hC
  have HC' := Aside0.mk hC'
  have hm := Kd.C_max hC
  have hm' := Kd.C_max hC'
  by_cases hf : fewB l = true
  · by_cases hf' : fewB l' = true
    · by_cases hcs : (cs.length : Int) ≤ 20
      · exact DiskClones_few w p hp A c l hC hl hf A' c' l' hC' hl' hf' A2 c2 cs hC2 hl2 hcs
      · have hcs2 : (20 : Int) < cs.length := by omega
        clear hC hC' hC2 hcs
        have HF := Aside0.mk hf
        have HF' := Aside0.mk hf'
        go_enter Try.func5, Try.ntmps5
        go_wp2_with (first
          | (go_at_call 10; have hc := awake_S S.out; go_fit hc; clear hc; rintro e w1 ⟨rfl, hs⟩; clear S; have S := Aside0.mk hs; clear hs)
          | (go_at_call 11; have hc := Few_S S.out A c l HC.out hl hm; rw [HF.out] at hc; (with_reducible refine hc.mono ?_); clear hc; rintro e w1 ⟨rfl, hs⟩; clear S; have S := Aside0.mk hs; clear hs)
          | (go_at_call 11; have hc := Few_S S.out A' c' l' HC'.out hl' hm'; rw [HF'.out] at hc; (with_reducible refine hc.mono ?_); clear hc; rintro e w1 ⟨rfl, hs⟩; clear S; have S := Aside0.mk hs; clear hs))
        go_ret
        exact ⟨rfl, Sep.base S.out⟩
    · have HF := Aside0.mk hf
      have HF' := Aside0.mk (show fewB l' = false by simpa using hf')
      clear hC hC' hC2
      go_enter Try.func5, Try.ntmps5
      go_wp2_with (first
        | (go_at_call 10; have hc := awake_S S.out; go_fit hc; clear hc; rintro e w1 ⟨rfl, hs⟩; clear S; have S := Aside0.mk hs; clear hs)
        | (go_at_call 11; have hc := Few_S S.out A c l HC.out hl hm; rw [HF.out] at hc; (with_reducible refine hc.mono ?_); clear hc; rintro e w1 ⟨rfl, hs⟩; clear S; have S := Aside0.mk hs; clear hs)
        | (go_at_call 11; have hc := Few_S S.out A' c' l' HC'.out hl' hm'; rw [HF'.out] at hc; (with_reducible refine hc.mono ?_); clear hc; rintro e w1 ⟨rfl, hs⟩; clear S; have S := Aside0.mk hs; clear hs))
      go_ret
      exact ⟨rfl, Sep.base S.out⟩
  · have HF := Aside0.mk (show fewB l = false by simpa using hf)
    clear hC hC' hC2
    go_enter Try.func5, Try.ntmps5
    go_wp2_with (first
      | (go_at_call 10; have hc := awake_S S.out; go_fit hc; clear hc; rintro e w1 ⟨rfl, hs⟩; clear S; have S := Aside0.mk hs; clear hs)
      | (go_at_call 11; have hc := Few_S S.out A c l HC.out hl hm; rw [HF.out] at hc; (with_reducible refine hc.mono ?_); clear hc; rintro e w1 ⟨rfl, hs⟩; clear S; have S := Aside0.mk hs; clear hs))
    go_ret
    exact ⟨rfl, Sep.base S.out⟩
end Go.Proofs.Ytccomlafacdcjaa.Dk
