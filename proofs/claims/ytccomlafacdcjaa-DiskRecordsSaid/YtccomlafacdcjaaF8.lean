/-
  DiskRecords, walked.
-/
import Derived.Test.YtccomlafacdcjaaF5
namespace Go.Proofs.Ytccomlafacdcjaa.Dk
open Go.RowKit Go.Proofs.YtccomlafacdcjaaW.PrintWords Go.Proofs.YtccomlafacdcjaaW.PrintMore
open Go.Proofs.Ytccomlafacdcjaa.Ref
set_option linter.unusedVariables false

/-! what was recorded, executed -/
/-- A clone. -/
def twin (t : DS) : DS := { dur := t.dur, pen := t.pen, rc := false, log := [] }
theorem execD_snoc (x : Int × ByteArray × Bool) : ∀ (l : List (Int × ByteArray × Bool)) (s : DS), (execD s l).2 = 0 → execD s (l ++ [x]) = execD (execD s l).1 [x]
  | [], s, _ => rfl
  | (p, y, b) :: l, s, h => by
    rw [List.cons_append]
    have u : ∀ l', execD s ((p, y, b) :: l') = if b = true then execD (syncD s) l' else if (writeD s p y).2 = 0 then execD (writeD s p y).1 l' else writeD s p y := fun _ => rfl
    rw [u] at h
    rw [u, u]
    by_cases hb : b = true
    · rw [if_pos hb] at h
      rw [if_pos hb, if_pos hb]
      exact execD_snoc x l _ h
    · rw [if_neg hb] at h
      rw [if_neg hb, if_neg hb]
      by_cases hz : (writeD s p y).2 = 0
      · rw [if_pos hz] at h
        rw [if_pos hz, if_pos hz]
        exact execD_snoc x l _ h
      · rw [if_neg hz] at h
        exact absurd h hz
/-- What was recorded since c brings c to what t is. -/
structure Rec (c t : DS) : Prop where
  rc : t.rc = true
  run : execD c t.log = (twin t, 0)
theorem Rec.start (s : DS) : Rec (twin s) { s with rc := true, log := [] } := ⟨rfl, rfl⟩
theorem Rec.sync {c t : DS} (h : Rec c t) : Rec c (syncD t) ∧ (syncD t).log.length = t.log.length + 1 := by
  have e : syncD t = { dur := flush t.dur t.pen, pen := [], rc := t.rc, log := t.log ++ [(0, nb, true)] } := by
    unfold syncD noted; rw [if_pos h.rc]
  rw [e]
  refine ⟨⟨h.rc, ?_⟩, by simp⟩
  show execD c (t.log ++ [(0, nb, true)]) = _
  rw [execD_snoc _ _ _ (by rw [h.run]), h.run]
  rfl
theorem Rec.write {c t : DS} (h : Rec c t) (p : Int) (x : ByteArray) (hz : (writeD t p x).2 = 0) : Rec c (writeD t p x).1 ∧ (writeD t p x).1.log.length = t.log.length + 1 := by
  unfold writeD at hz
  by_cases h1 : hasB t.dur.length p = false
  · rw [if_pos h1] at hz; exact absurd hz (show ¬ (2 : Int) = 0 by decide)
  · by_cases h2 : x.size ≠ 512
    · rw [if_neg h1, if_pos h2] at hz; exact absurd hz (show ¬ (1 : Int) = 0 by decide)
    · have e : writeD t p x = ({ dur := t.dur, pen := t.pen ++ [(p, x)], rc := t.rc, log := t.log ++ [(p, x, false)] }, 0) := by
        unfold writeD noted; rw [if_neg h1, if_neg h2, if_pos h.rc]
      rw [e]
      refine ⟨⟨h.rc, ?_⟩, by simp⟩
      show execD c (t.log ++ [(p, x, false)]) = _
      rw [execD_snoc _ _ _ (by rw [h.run]), h.run]
      have e2 : writeD (twin t) p x = ({ dur := t.dur, pen := t.pen ++ [(p, x)], rc := false, log := [] }, 0) := by
        unfold writeD noted twin; rw [if_neg h1, if_neg h2]; rfl
      have e3 : execD (twin t) [(p, x, false)] = if (writeD (twin t) p x).2 = 0 then ((writeD (twin t) p x).1, 0) else writeD (twin t) p x := rfl
      show execD (twin t) [(p, x, false)] = _
      rw [e3, e2, if_pos rfl]
      rfl
theorem writeD_bad (t : DS) (p : Int) (x : ByteArray) (hz : (writeD t p x).2 ≠ 0) : (writeD t p x).1 = t := by
  unfold writeD at hz ⊢
  by_cases h1 : hasB t.dur.length p = false
  · rw [if_pos h1]
  · by_cases h2 : x.size ≠ 512
    · rw [if_neg h1, if_pos h2]
    · rw [if_neg h1, if_neg h2] at hz; exact absurd rfl hz
attribute [local irreducible] Sep diskT rowT refT boxT

set_option maxHeartbeats 2000000 in
set_option maxRecDepth 100000 in
theorem DiskRecords_few (w : World) (p : Nat) (hp : p < 256) (A : Option Addr) (c : Nat) (l : List S41) (hC : Kd.C k41 w A l.length l) (hl : l.length ≤ c) (hf : fewB l = true)
    (A' : Option Addr) (c' : Nat) (l' : List S41) (hC' : Kd.C k41 w A' l'.length l') (hl' : l'.length ≤ c') (hf' : fewB l' = true) :
    Calls Try.prog 8 #[.int .u8 p, .slice A l.length c, .slice A' l'.length c'] w fun e w' => e = .returned (.bool true) ∧ Below w.heap.size w w' := by
  have S := Aside0.mk (SepT.start w)
  have HC := Aside0.mk hC
  have HC' := Aside0.mk hC'
  clear hC hC'
  have HF := Aside0.mk hf
  have HF' := Aside0.mk hf'
  have hlen := few_len hf
  have hlen' := few_len hf'
  have hm := Kd.C_max HC.out
  have hm' := Kd.C_max HC'.out
  go_enter Try.func8, Try.ntmps8
  go_wp2_with (first
    | (go_at_call 10; have hc := awake_S S.out; go_fit hc; clear hc; rintro e w1 ⟨rfl, hs⟩; clear S; have S := Aside0.mk hs; clear hs)
    | (go_at_call 11; have hc := Few_S S.out A c l HC.out hl hm; rw [HF.out] at hc; (with_reducible refine hc.mono ?_); clear hc; rintro e w1 ⟨rfl, hs⟩; clear S; have S := Aside0.mk hs; clear hs)
    | (go_at_call 11; have hc := Few_S S.out A' c' l' HC'.out hl' hm'; rw [HF'.out] at hc; (with_reducible refine hc.mono ?_); clear hc; rintro e w1 ⟨rfl, hs⟩; clear S; have S := Aside0.mk hs; clear hs)
    | (go_at_call 14; have hc := start_S S.out p hp; go_fit hc; clear hc; rintro e w1 ⟨g, A0, n0, c0, A1, n1, c1, rfl, hs⟩; have S1 := Aside0.mk (hs.allocBox #[.slice A0 n0 c0, .slice A1 n1 c1] 32); clear S; have S := S1; clear S1 hs))
  obtain ⟨W, hW⟩ : ∃ W, W = w1.alloc (.cells #[.slice A0 n0 c0, .slice A1 n1 c1] 32) := ⟨_, rfl⟩
  generalize hb8 : w1.heap.size = b8 at S ⊢
  rw [← hW] at S ⊢
  clear hW hb8
  go_loopw [35] (fun v35 wr => ∃ (k : Nat) (s : DS) (B0 : Option Addr) (k0 j0 : Nat) (B1 : Option Addr) (k1 j1 : Nat), k ≤ l.length ∧ v35 = .int .i64 k ∧ Good s (pagesOf p) (k) ∧ Aside0 (SepT w wr [boxT b8 #[.slice B0 k0 j0, .slice B1 k1 j1] 32, refT w.heap.size (.slice B0 k0 j0) (.slice B1 k1 j1) s.dur s.pen, diskT g s])) (fun v35 _ => l.length - (intOf v35).toNat)
  case atStart => exact ⟨0, newD (pagesOf p), A0, n0, c0, A1, n1, c1, Nat.zero_le _, rfl, Good.start _, S⟩
  case round =>
    clear S
    obtain ⟨k, s, B0, k0, j0, B1, k1, j1, hk, rfl, hG, S⟩ := hrel
    by_cases hlt : k < l.length
    · have hlt2 : (k : Int) < l.length := by omega
      have hcs4 := few_choices HF.out hlt
      obtain ⟨ad, A4, c4, hAd, d0, d1, d2, d3, d4, hl4, hC4⟩ := at_T41 HC.out k (by omega) (by omega)
      subst hAd
      have hB := (Sep.base S.out)
      have HC4 := Aside0.mk hC4
      have hpen : s.pen.length < 1000000 := by have := hG.pen; omega
      have hlog : s.log.length < 1000000 := by have := hG.log; omega
      generalize rd_T41 l k = a at d0 d1 d2 d3 d4 hl4 HC4 hcs4
      have hG2 := hG.do a
      replace d0 := pw_cell_below hB d0
      replace d1 := pw_cell_below hB d1
      replace d2 := pw_cell_below hB d2
      replace d3 := pw_cell_below hB d3
      replace d4 := pw_cell_below hB d4
      simp only [Int.toNat_natCast] at d0 d1 d2 d3 d4
      have x12 := (SepT.box S.out m0).1
      have y0 : wr.cell? ⟨b8, 0, none⟩ = some (.slice B0 k0 j0) := (blk_cell x12 0).trans rfl
      have y1 : wr.cell? ⟨b8, 1, none⟩ = some (.slice B1 k1 j1) := (blk_cell x12 1).trans rfl
      have hb12 := blk_lt x12
      clear x12 hC4 hB
      have S1 := Aside0.mk (((S.out.allocBox #[.int .u8 a.f0, .int .i64 a.f1.f0, .string a.f1.f1, .bool a.f1.f2, .slice A4 a.f2.length c4] 41).third.fourth).swap)
      clear S
      have S := S1
      clear S1
      go_wp2_with (first
        | (go_at_call 15; have hc := do_S S.out a A4 c4 HC4.out hl4 hcs4 hpen hlog; go_fit hc; clear hc; rintro e w2 ⟨B2, k2, j2, B3, k3, j3, rfl, hs⟩; clear S; have S := Aside0.mk hs; clear hs; have x12 := (SepT.box S.out m3').1; have z0 : w2.cell? ⟨b8, 0, none⟩ = some (.slice B0 k0 j0) := (blk_cell x12 0).trans rfl; have z1 : w2.cell? ⟨b8, 1, none⟩ = some (.slice B1 k1 j1) := (blk_cell x12 1).trans rfl; have e0 := blk_frozen x12 0; have e1 := blk_frozen x12 1; have hlt12 := blk_lt x12; clear x12))
      have S1 := Aside0.mk (SepT.drop (SepT.fourth ((S.out.fourth.setBox 0 (.slice B2 k2 j2)).setBox 1 (.slice B3 k3 j3))))
      clear S
      have S2 := Aside0.mk (show SepT w _ (boxT b8 #[.slice B2 k2 j2, .slice B3 k3 j3] 32 :: _) from S1.out)
      clear S1 y0 y1 z0 z1 e0 e1 d0 d1 d2 d3 d4
      go_roundw
      case rel => exact ⟨k + 1, doD s a, B2, k2, j2, B3, k3, j3, by omega, by go_num, hG2, S2⟩
      case measure => simp [intOf]; omega
    · obtain rfl : k = l.length := by omega
      have hpen : s.pen.length < 1000000 := by have := hG.pen; omega
      have hp40 := hG.pen
      obtain ⟨sc, hsc⟩ : ∃ sc : DS, twin s = sc := ⟨_, rfl⟩
      obtain ⟨t0, ht0⟩ : ∃ t0 : DS, { s with rc := true, log := [] } = t0 := ⟨_, rfl⟩
      have HT := Aside0.mk ht0
      have HSC := Aside0.mk (show { dur := s.dur, pen := s.pen, rc := false, log := [] } = sc from hsc)
      have hR : Rec sc t0 := by rw [← hsc, ← ht0]; exact Rec.start s
      have hlog0 : ((t0.log.length : Nat) : Int) = 0 := by rw [← ht0]; rfl
      have hp0 : t0.pen.length ≤ l.length := by rw [← ht0]; exact hG.pen
      have hl0 : t0.log.length = 0 := by omega
      have hd0 : t0.dur.length ≤ 4096 := by rw [← ht0]; have := hG.dur; have := (pagesOf_range p).2; show s.dur.length ≤ 4096; omega
      have hscp : sc.pen.length ≤ 40 := by rw [← hsc]; show s.pen.length ≤ 40; omega
      have hscl : sc.log.length = 0 := by rw [← hsc]; rfl
      have HR := Aside0.mk hR
      have HL0 := Aside0.mk (And.intro hlog0 (And.intro hp0 (And.intro hl0 (And.intro hd0 hscl))))
      clear hsc ht0 hR hlog0 hp0 hl0 hd0 hscl
      go_wp2_with (first
        | (go_at_call 23; have hc := Clone_S S.out (g := g) (s := s) m2 hpen; rw [HSC.out] at hc; go_fit hc; clear hc; rintro e w3 ⟨gc, rfl, hs⟩; clear S; have S := Aside0.mk hs; clear hs)
        | (go_at_call 26; have hc := Record_S (s := s) (g := g) S.out.fourth true; rw [HT.out] at hc; go_fit hc; clear hc; rintro e w4 ⟨Ar, cr, rfl, hs⟩; clear S; have S := Aside0.mk (SepT.drop hs.swap); clear hs))
      have S1 := Aside0.mk (SepT.drop (SepT.third (SepT.drop (SepT.third S.out))))
      clear S
      have S := S1
      clear S1 HT HSC
      go_loopw [12, 55] (fun v12 v55 wr => ∃ (k : Nat) (t : DS), k ≤ l'.length ∧ v55 = .int .i64 k ∧ v12 = .int .i64 (t.log.length : Nat) ∧ Aside0 (Rec sc t) ∧ t.pen.length ≤ l.length + k ∧ t.log.length ≤ k ∧ t.dur.length ≤ 4096 ∧ Aside0 (SepT w wr [diskT g t, diskT gc sc])) (fun _ v55 _ => l'.length - (intOf v55).toNat)
      case atStart => exact ⟨0, t0, Nat.zero_le _, rfl, by rw [HL0.out.1], HR, HL0.out.2.1, by rw [HL0.out.2.2.1]; exact Nat.le_refl _, HL0.out.2.2.2.1, S⟩
      case round =>
        clear S HR hG
        obtain ⟨k, t, hk, rfl, rfl, HR, htp, htl, htd, S⟩ := hrel
        by_cases hlt : k < l'.length
        · have hlt2 : (k : Int) < l'.length := by omega
          obtain ⟨ad, A4, c4, hAd, d0, d1, d2, d3, d4, hl4, hC4⟩ := at_T41 HC'.out k (by omega) (by omega)
          subst hAd
          have hB := (Sep.base S.out)
          have hpen' : t.pen.length < 1000000 := by omega
          have hlog' : t.log.length < 1000000 := by omega
          generalize rd_T41 l' k = a at d0 d1 d2 d3 d4 hl4 hC4
          replace d0 := pw_cell_below hB d0
          replace d1 := pw_cell_below hB d1
          replace d2 := pw_cell_below hB d2
          replace d3 := pw_cell_below hB d3
          replace d4 := pw_cell_below hB d4
          simp only [Int.toNat_natCast] at d0 d1 d2 d3 d4
          clear hC4 hB
          have S1 := Aside0.mk (S.out.allocBox #[.int .u8 a.f0, .int .i64 a.f1.f0, .string a.f1.f1, .bool a.f1.f2, .slice A4 a.f2.length c4] 41).drop
          by_cases h1 : Int.tmod a.f0 3 = 1
          · have h1b : (Int.tmod a.f0 3 == 1) = true := by simp [h1]
            clear h1 S
            go_wp2
            go_roundw
            case rel => exact ⟨k + 1, t, by omega, by go_num, rfl, HR, by omega, by omega, htd, S1⟩
            case measure => simp [intOf]; omega
          · have h1b : (Int.tmod a.f0 3 == 1) = false := by simp [h1]
            clear h1 S
            by_cases h2 : Int.tmod a.f0 3 = 2
            · have h2b : (Int.tmod a.f0 3 == 2) = true := by simp [h2]
              clear h2
              have hS2 := HR.out.sync
              have HR2 := Aside0.mk hS2.1
              have hL2 := Aside0.mk hS2.2
              have hD2 : Aside0 ((syncD t).dur.length ≤ 4096) := ⟨by rw [syncD_dur, flush_length]; exact htd⟩
              have hP2 : Aside0 ((syncD t).pen = []) := ⟨syncD_pen t⟩
              clear hS2
              go_wp2_with (go_at_call 25; have hc := Sync_S S1.out hlog' hpen'; go_fit hc; clear hc; rintro e w3 ⟨rfl, hs⟩; clear S1; have S1 := Aside0.mk hs; clear hs)
              go_roundw
              case rel => exact ⟨k + 1, syncD t, by omega, by go_num, by rw [hL2.out]; go_num, HR2, by rw [hP2.out]; simp, by rw [hL2.out]; omega, hD2.out, S1⟩
              case measure => simp [intOf]; omega
            · have h2b : (Int.tmod a.f0 3 == 2) = false := by simp [h2]
              clear h2
              by_cases hz : (writeD t a.f1.f0 a.f1.f1).2 = 0
              · have hS2 := HR.out.write _ _ hz
                have HR2 := Aside0.mk hS2.1
                have hL2 := Aside0.mk hS2.2
                have hD2 : Aside0 ((writeD t a.f1.f0 a.f1.f1).1.dur.length ≤ 4096) := ⟨by rw [writeD_dur]; exact htd⟩
                have hP2 := Aside0.mk (writeD_pen t a.f1.f0 a.f1.f1)
                have HZ := Aside0.mk hz
                clear hS2 hz
                go_wp2_with (go_at_call 27; have hc := Write_S S1.out a.f1.f0 a.f1.f1 hlog' hpen'; rw [HZ.out] at hc; go_fit hc; clear hc; rintro e w3 ⟨rfl, hs⟩; clear S1; have S1 := Aside0.mk hs; clear hs)
                go_roundw
                case rel => exact ⟨k + 1, (writeD t a.f1.f0 a.f1.f1).1, by omega, by go_num, by rw [hL2.out]; go_num, HR2, by have := hP2.out; omega, by rw [hL2.out]; omega, hD2.out, S1⟩
                case measure => simp [intOf]; omega
              · have hzc : ((writeD t a.f1.f0 a.f1.f1).2 == 0) = false := by simp [hz]
                have hE := Aside0.mk (writeD_bad _ _ _ hz)
                clear hz
                go_wp2_with (go_at_call 27; have hc := Write_S S1.out a.f1.f0 a.f1.f1 hlog' hpen'; rw [hE.out] at hc; go_fit hc; clear hc; rintro e w3 ⟨rfl, hs⟩; clear S1; have S1 := Aside0.mk hs; clear hs)
                go_roundw
                case rel => exact ⟨k + 1, t, by omega, by go_num, rfl, HR, by omega, by omega, htd, S1⟩
                case measure => simp [intOf]; omega
        · obtain rfl : k = l'.length := by omega
          obtain ⟨tw, htw⟩ : ∃ tw, twin t = tw := ⟨_, rfl⟩
          have HW : Aside0 ({ t with rc := false, log := [] } = tw) := ⟨htw⟩
          have HW2 : Aside0 ({ tw with rc := false, log := [] } = tw) := ⟨by rw [← htw]; rfl⟩
          have hwl : tw.log = [] := by rw [← htw]; rfl
          have HWL := Aside0.mk hwl
          have hrun : execD sc t.log = (tw, 0) := by rw [← htw]; exact HR.out.run
          have hr1 : (execD sc t.log).1 = tw := by rw [hrun]
          have hr2 : (execD sc t.log).2 = 0 := by rw [hrun]
          have HR1 := Aside0.mk hr1
          have HR2 := Aside0.mk hr2
          have hwd : (flush tw.dur tw.pen).length < 1000000000 := by rw [flush_length, ← htw]; show t.dur.length < _; omega
          have hx1 : sc.log.length + t.log.length < 1000000 := by rw [HL0.out.2.2.2.2]; omega
          have hx2 : sc.pen.length + t.log.length < 1000000 := by omega
          clear htw hwl hrun hr1 hr2
          go_wp2_with (first
            | (go_at_call 26; have hc := Record_S (s := t) (g := g) S.out false; rw [HW.out] at hc; go_fit hc; clear hc; rintro e w5 ⟨Ap, cp, rfl, hs⟩; clear S; have S := Aside0.mk hs; clear hs)
            | (go_at_call 26; have hc := Record_S (s := tw) (g := g) S.out false; rw [HW2.out, HWL.out, List.length_nil] at hc; go_fit hc; clear hc; rintro e w6 ⟨Aq, cq, rfl, hs⟩; clear S; have S := Aside0.mk (SepT.drop hs.swap).third; clear hs)
            | (go_at_call 30; have hc := Execute_row (g := gc) (s := sc) Ap cp t.log S.out m1 hx1 hx2; rw [HR1.out, HR2.out] at hc; go_fit hc; clear hc; rintro e w7 ⟨rfl, hs⟩; clear S; have S := Aside0.mk hs; clear hs)
            | (go_at_call 18; have hc := Image_S S.out (g := gc) (s := tw) m0; (with_reducible refine hc.mono ?_); clear hc; rintro e w8 ⟨Ax, cx, rfl, hs⟩; clear S; have S := Aside0.mk hs; clear hs)
            | (go_at_call 18; have hc := Image_S S.out (g := g) (s := tw) m2; (with_reducible refine hc.mono ?_); clear hc; rintro e w9 ⟨Ay, cy, rfl, hs⟩; clear S; have S := Aside0.mk hs; clear hs)
            | (go_at_call 17; have hc := Equal_same Ax cx (flush tw.dur tw.pen) Ay cy S.out m1 m0 hwd; go_fit hc; clear hc; rintro e wa ⟨rfl, hs⟩; clear S; have S := Aside0.mk hs; clear hs)
            | (go_at_call 16; have hc := Pending_S S.out (g := gc) (s := tw) m2; (with_reducible refine hc.mono ?_); clear hc; rintro e w' ⟨rfl, rfl⟩)
            | (go_at_call 16; have hc := Pending_S S.out (g := g) (s := tw) m3'; (with_reducible refine hc.mono ?_); clear hc; rintro e w' ⟨rfl, rfl⟩))
          go_ret
          exact ⟨rfl, Sep.base S.out⟩

set_option maxHeartbeats 2000000 in
set_option maxRecDepth 100000 in
theorem DiskRecords_law (w : World) (p : Nat) (hp : p < 256) (A : Option Addr) (c : Nat) (l : List S41) (hC : Kd.C k41 w A l.length l) (hl : l.length ≤ c)
    (A' : Option Addr) (c' : Nat) (l' : List S41) (hC' : Kd.C k41 w A' l'.length l') (hl' : l'.length ≤ c') :
    Calls Try.prog 8 #[.int .u8 p, .slice A l.length c, .slice A' l'.length c'] w fun e w' => e = .returned (.bool true) ∧ Below w.heap.size w w' := by
  have S := Aside0.mk (SepT.start w)
  have HC := Aside0.mk hC
  have HC' := Aside0.mk hC'
  have hm := Kd.C_max hC
  have hm' := Kd.C_max hC'
  by_cases hf : fewB l = true
  · by_cases hf' : fewB l' = true
    · exact DiskRecords_few w p hp A c l hC hl hf A' c' l' hC' hl' hf'
    · have HF := Aside0.mk hf
      have HF' := Aside0.mk (show fewB l' = false by simpa using hf')
      clear hC hC'
      go_enter Try.func8, Try.ntmps8
      go_wp2_with (first
        | (go_at_call 10; have hc := awake_S S.out; go_fit hc; clear hc; rintro e w1 ⟨rfl, hs⟩; clear S; have S := Aside0.mk hs; clear hs)
        | (go_at_call 11; have hc := Few_S S.out A c l HC.out hl hm; rw [HF.out] at hc; (with_reducible refine hc.mono ?_); clear hc; rintro e w1 ⟨rfl, hs⟩; clear S; have S := Aside0.mk hs; clear hs)
        | (go_at_call 11; have hc := Few_S S.out A' c' l' HC'.out hl' hm'; rw [HF'.out] at hc; (with_reducible refine hc.mono ?_); clear hc; rintro e w1 ⟨rfl, hs⟩; clear S; have S := Aside0.mk hs; clear hs))
      go_ret
      exact ⟨rfl, Sep.base S.out⟩
  · have HF := Aside0.mk (show fewB l = false by simpa using hf)
    clear hC hC'
    go_enter Try.func8, Try.ntmps8
    go_wp2_with (first
      | (go_at_call 10; have hc := awake_S S.out; go_fit hc; clear hc; rintro e w1 ⟨rfl, hs⟩; clear S; have S := Aside0.mk hs; clear hs)
      | (go_at_call 11; have hc := Few_S S.out A c l HC.out hl hm; rw [HF.out] at hc; (with_reducible refine hc.mono ?_); clear hc; rintro e w1 ⟨rfl, hs⟩; clear S; have S := Aside0.mk hs; clear hs))
    go_ret
    exact ⟨rfl, Sep.base S.out⟩
end Go.Proofs.Ytccomlafacdcjaa.Dk
