/-
  DiskCalls, walked.
-/
import Derived.Test.YtccomlafacdcjaaEd
namespace Go.Proofs.Ytccomlafacdcjaa.Dk
open Go.RowKit Go.Proofs.YtccomlafacdcjaaW.PrintWords Go.Proofs.YtccomlafacdcjaaW.PrintMore
open Go.Proofs.Ytccomlafacdcjaa.Ref
set_option linter.unusedVariables false
attribute [local irreducible] Sep diskT rowT refT boxT

def errN (n : Int) : Int := if n < 1 ∨ 4096 < n then 2 else 0
theorem New_any {w0 w : World} {ts : List Th} (h : SepT w0 w ts) (n : Int) :
    Calls Try.prog 12 #[.int .i64 n] w fun e w' => ∃ q, e = .returned (.tuple #[.pointer q, .int .i64 (errN n)]) ∧ SepT w0 w' ts := by
  by_cases hn : n < 1 ∨ 4096 < n
  · refine (New_no n w hn).mono ?_
    rintro e w1 ⟨rfl, rfl⟩
    exact ⟨none, by rw [errN, if_pos hn], h⟩
  · obtain ⟨m, rfl⟩ := Int.eq_ofNat_of_zero_le (show 0 ≤ n by omega)
    refine (New_S h m (by omega) (by omega)).mono ?_
    rintro e w1 ⟨g, rfl, hs⟩
    exact ⟨_, by rw [errN, if_neg hn], hs.drop⟩
theorem refNew_any {w0 w : World} {ts : List Th} (h : SepT w0 w ts) (n : Int) :
    Calls Try.prog 13 #[.int .i64 n] w fun e w' => ∃ A0 n0 c0 A1 n1 c1, e = .returned (.tuple #[.agg #[.slice A0 n0 c0, .slice A1 n1 c1], .int .i64 (errN n)]) ∧ SepT w0 w' ts := by
  by_cases hn : n < 1 ∨ 4096 < n
  · refine (modcertref50_New.calls n _ _ _ w (new_f_no n hn)).mono ?_
    rintro e w1 ⟨v0, v1, rfl, hR0, hR1, hb⟩
    obtain ⟨A0, c0, rfl, _⟩ := Kd.R_reads hR0
    obtain ⟨A1, c1, rfl, _⟩ := Kd.R_reads hR1
    exact ⟨A0, _, c0, A1, _, c1, by rw [errN, if_pos hn], h.below hb⟩
  · obtain ⟨m, rfl⟩ := Int.eq_ofNat_of_zero_le (show 0 ≤ n by omega)
    refine (refNew_S h m (by omega) (by omega)).mono ?_
    rintro e w1 ⟨A0, n0, c0, A1, n1, c1, rfl, hs⟩
    exact ⟨A0, n0, c0, A1, n1, c1, by rw [errN, if_neg hn], hs.drop⟩
theorem awake_S {w0 w : World} {ts : List Th} (h : SepT w0 w ts) : Calls Try.prog 10 #[] w fun e w' => e = .returned (.bool true) ∧ SepT w0 w' ts := by
  refine (awake_calls w).mono ?_
  rintro e w1 ⟨rfl, hb⟩
  exact ⟨rfl, h.below hb⟩

/-- Within bounds, behind k calls. -/
structure Good (s : DS) (n k : Nat) : Prop where
  dur : s.dur.length = n
  pen : s.pen.length ≤ k
  log : s.log.length ≤ k
  full : Full s.pen
theorem Good.start (n : Nat) : Good (newD n) n 0 := ⟨by simp [newD], by simp [newD], by simp [newD], by simp [newD, Full]⟩
theorem writeD_full (s : DS) (p : Int) (x : ByteArray) (h : Full s.pen) : Full (writeD s p x).1.pen := by
  unfold writeD; split
  · exact h
  · split
    · exact h
    · rename_i h1 h2
      rw [noted_pen]
      intro y hy
      rcases List.mem_append.1 hy with hy | hy
      · exact h y hy
      · simp at hy
        rw [hy]
        simpa using h2
theorem Good.do {s : DS} {n k : Nat} (h : Good s n k) (a : S41) : Good (doD s a) n (k + 1) := by
  unfold doD
  split
  · exact ⟨by rw [crashD, crashAt_length]; exact h.dur, by simp [crashD], Nat.le_succ_of_le h.log, by simp [crashD, Full]⟩
  · split
    · exact ⟨by rw [syncD_dur, flush_length]; exact h.dur, by rw [syncD_pen]; simp, Nat.le_trans (syncD_log s) (Nat.succ_le_succ h.log), by rw [syncD_pen]; simp [Full]⟩
    · exact ⟨by rw [writeD_dur]; exact h.dur, Nat.le_trans (writeD_pen _ _ _) (Nat.succ_le_succ h.pen), Nat.le_trans (writeD_log _ _ _) (Nat.succ_le_succ h.log), writeD_full _ _ _ h.full⟩

set_option maxHeartbeats 2000000 in
set_option maxRecDepth 100000 in
theorem DiskCalls_few (w : World) (pages read : Int) (A : Option Addr) (c : Nat) (l : List S41) (hC : Kd.C k41 w A l.length l) (hl : l.length ≤ c) (hf : fewB l = true) :
    Calls Try.prog 3 #[.int .i64 pages, .slice A l.length c, .int .i64 read] w fun e w' => e = .returned (.bool true) ∧ Below w.heap.size w w' := by
  have S := Aside0.mk (SepT.start w)
  have HC := Aside0.mk hC
  clear hC
  have HF := Aside0.mk hf
  have hlen : l.length ≤ 40 := by simp [fewB] at hf; exact hf.2
  obtain ⟨p, hp, hpe⟩ : ∃ p : Nat, p < 256 ∧ pages % 256 = (p : Int) := ⟨(pages % 256).toNat, by omega, by omega⟩
  go_enter Try.func3, Try.ntmps3
  go_wp2_with (first
    | (go_at_call 10; have hc := awake_S S.out; go_fit hc; clear hc; rintro e w1 ⟨rfl, hs⟩; clear S; have S := Aside0.mk hs; clear hs)
    | (go_at_call 11; have hc := Few_S S.out A c l HC.out hl (by omega); rw [HF.out] at hc; go_fit hc; clear hc; rintro e w1 ⟨rfl, hs⟩; clear S; have S := Aside0.mk hs; clear hs)
    | (go_at_call 12; have hc := New_any S.out pages; go_fit hc; clear hc; rintro e w1 ⟨q0, rfl, hs⟩; clear S; have S := Aside0.mk hs; clear hs)
    | (go_at_call 13; have hc := refNew_any S.out pages; go_fit hc; clear hc; rintro e w1 ⟨A0, n0, c0, A1, n1, c1, rfl, hs⟩; have S1 := Aside0.mk (hs.alloc (.cells #[.slice A0 n0 c0, .slice A1 n1 c1] 32)); clear S; have S := S1; clear S1 hs)
    | (go_at_call 14; have hc := start_S S.out p hp; (first | go_fit hc | (rw [← hpe] at hc; go_fit hc)); clear hc; rintro e w1 ⟨g, A0, n0, c0, A1, n1, c1, rfl, hs⟩; have S1 := Aside0.mk (hs.allocBox #[.slice A0 n0 c0, .slice A1 n1 c1] 32); clear S; have S := S1; clear S1 hs))
  clear hpe
  obtain ⟨W, hW⟩ : ∃ W, W = w1.alloc (.cells #[.slice A0 n0 c0, .slice A1 n1 c1] 32) := ⟨_, rfl⟩
  generalize hb12 : w1.heap.size = b12 at S ⊢
  rw [← hW] at S ⊢
  clear hW hb12
  go_loopw [48] (fun v48 wr => ∃ (k : Nat) (s : DS) (A0 : Option Addr) (n0 c0 : Nat) (A1 : Option Addr) (n1 c1 : Nat), k ≤ l.length ∧ v48 = .int .i64 k ∧ Good s (pagesOf p) k ∧ Aside0 (SepT w wr [boxT b12 #[.slice A0 n0 c0, .slice A1 n1 c1] 32, refT w.heap.size (.slice A0 n0 c0) (.slice A1 n1 c1) s.dur s.pen, diskT g s])) (fun v48 _ => l.length - (intOf v48).toNat)
  case atStart => exact ⟨0, newD (pagesOf p), A0, n0, c0, A1, n1, c1, Nat.zero_le _, rfl, Good.start _, S⟩
  case round =>
    clear S
    obtain ⟨k, s, B0, k0, j0, B1, k1, j1, hk, rfl, hG, S⟩ := hrel
    by_cases hlt : k < l.length
    · have hlt2 : (k : Int) < l.length := by omega
      obtain ⟨ad, A4, c4, rfl, d0, d1, d2, d3, d4, hl4, hC4⟩ := at_T41 HC.out k (by omega) (by omega)
      have hB := (Sep.base S.out)
      have HC4 := Aside0.mk hC4
      have hcs : (rd_T41 l k).f2.length < 1000000 := by
        have h := HF.out
        simp only [fewB, Bool.and_eq_true, List.all_eq_true, decide_eq_true_eq] at h
        have hm : rd_T41 l k ∈ l := by simp [rd_T41, hlt]
        have := (h.1 _ hm).2
        omega
      have hpen : s.pen.length < 1000000 := by have := hG.pen; omega
      have hlog : s.log.length < 1000000 := by have := hG.log; omega
      generalize rd_T41 l k = a at d0 d1 d2 d3 d4 hl4 HC4 hcs
      have hG2 := hG.do a
      replace d0 := pw_cell_below hB d0
      replace d1 := pw_cell_below hB d1
      replace d2 := pw_cell_below hB d2
      replace d3 := pw_cell_below hB d3
      replace d4 := pw_cell_below hB d4
      simp only [Int.toNat_natCast] at d0 d1 d2 d3 d4
      have x12 := (SepT.box S.out m0).1
      have y0 : wr.cell? ⟨b12, 0, none⟩ = some (.slice B0 k0 j0) := (blk_cell x12 0).trans rfl
      have y1 : wr.cell? ⟨b12, 1, none⟩ = some (.slice B1 k1 j1) := (blk_cell x12 1).trans rfl
      have hb12 := blk_lt x12
      clear x12 hC4 hB
      have S1 := Aside0.mk (((S.out.allocBox #[.int .u8 a.f0, .int .i64 a.f1.f0, .string a.f1.f1, .bool a.f1.f2, .slice A4 a.f2.length c4] 41).third.fourth).swap)
      clear S
      have S := S1
      clear S1
      go_upto_region 17 with (first
        | (go_at_call 15; have hc := do_S S.out a A4 c4 HC4.out hl4 hcs hpen hlog; go_fit hc; clear hc; rintro e w2 ⟨B2, k2, j2, B3, k3, j3, rfl, hs⟩; clear S; have S := Aside0.mk hs; clear hs; have x12 := (SepT.box S.out m3').1; have z0 : w2.cell? ⟨b12, 0, none⟩ = some (.slice B0 k0 j0) := (blk_cell x12 0).trans rfl; have z1 : w2.cell? ⟨b12, 1, none⟩ = some (.slice B1 k1 j1) := (blk_cell x12 1).trans rfl; have e0 := blk_frozen x12 0; have e1 := blk_frozen x12 1; have hlt12 := blk_lt x12; clear x12))
      have S1 := Aside0.mk (((S.out.fourth.setBox 0 (.slice B2 k2 j2)).setBox 1 (.slice B3 k3 j3)).alloc (.cells #[.slice B2 k2 j2, .slice B3 k3 j3] 32))
      clear S
      have S2 := Aside0.mk (show SepT w _ (boxT b12 #[.slice B2 k2 j2, .slice B3 k3 j3] 32 :: _) from S1.out)
      clear S1 y0 y1 z0 z1 e0 e1 d0 d1 d2 d3 d4
      have S := S2
      clear S2
      generalize (World.setCell (World.setCell _ _ _) _ _).alloc _ = W2 at S ⊢
      generalize w2.heap.size = b15
      go_cut [77] (fun v77 wx => v77 = .bool false ∧ SepT w wx [boxT b12 #[.slice B2 k2 j2, .slice B3 k3 j3] 32, refT w.heap.size (.slice B2 k2 j2) (.slice B3 k3 j3) (doD s a).dur (doD s a).pen, diskT g (doD s a)])
      case first =>
        obtain ⟨t, ht⟩ : ∃ t, doD s a = t := ⟨_, rfl⟩
        rw [ht] at S hG2
        obtain ⟨rfl, rfl⟩ := SepT.refLen S.out m1
        have HI := Aside0.mk (SepT.inb S.out m2)
        have hpt : t.pen.length < 1000000 := by have := hG2.pen; omega
        have hfl : (flush t.dur t.pen).length < 1000000000 := by rw [flush_length]; have := HI.out.2; omega
        have S1 := Aside0.mk S.out.drew
        clear S
        have S := S1
        clear S1
        have HK : Aside0 (∀ (W : World) (ts : List Th), SepT w W ts → boxT b12 #[.slice B2 t.dur.length j2, .slice B3 t.pen.length j3] 32 ∈ ts → W.cell? ⟨b12, 0, none⟩ = some (.slice B2 t.dur.length j2) ∧ W.cell? ⟨b12, 1, none⟩ = some (.slice B3 t.pen.length j3)) := ⟨fun W ts h hm => ⟨(blk_cell (SepT.box h hm).1 0).trans rfl, (blk_cell (SepT.box h hm).1 1).trans rfl⟩⟩
        go_region_held3 (fun W => W.cell? ⟨b12, 0, none⟩ = some (.slice B2 t.dur.length j2) ∧ W.cell? ⟨b12, 1, none⟩ = some (.slice B3 t.pen.length j3)) (exact HK.out _ _ S.out (by first | exact m0 | exact m1 | exact m2 | exact m3' | exact m4))
          (first
            | (go_at_call 16; have hc := Pending_S S.out (g := g) (s := t) (by first | exact m0 | exact m1 | exact m2 | exact m3' | exact m4); go_fit hc; clear hc; rintro e w' ⟨rfl, rfl⟩)
            | (go_at_call 18; have hc := Image_S S.out (g := g) (s := t) (by first | exact m0 | exact m1 | exact m2 | exact m3' | exact m4); go_fit hc; clear hc; rintro e w5 ⟨Ai, ci, rfl, hs⟩; clear S; have S := Aside0.mk hs; clear hs)
            | (go_at_call 19; have hc := refImage_S (v0 := .slice B2 t.dur.length j2) (v1 := .slice B3 t.pen.length j3) S.out (by first | exact m0 | exact m1 | exact m2 | exact m3' | exact m4) HI.out.2 hpt HI.out.1; go_fit hc; clear hc; rintro e w6 ⟨Aj, cj, rfl, hs⟩; clear S; have S := Aside0.mk hs; clear hs)
            | (go_at_call 17; have hc := Equal_same Ai ci (flush t.dur t.pen) Aj cj S.out (by first | exact m0 | exact m1 | exact m2 | exact m3' | exact m4) (by first | exact m0 | exact m1 | exact m2 | exact m3' | exact m4) hfl; go_fit hc; clear hc; rintro e w7 ⟨rfl, hs⟩; clear S; have S := Aside0.mk hs; clear hs))
        have S1 := Aside0.mk (SepT.drop (SepT.fourth (SepT.drop (SepT.drop S.out))))
        clear S
        go_wp2_with fail
        go_meet
        rw [ht]
        exact ⟨rfl, S1.out⟩
      case rest =>
        obtain ⟨rfl, hs⟩ := hcut
        have S := Aside0.mk hs
        clear hs
        go_wp2
        go_roundw
        case rel => exact ⟨k + 1, doD s a, B2, k2, j2, B3, k3, j3, by omega, by go_num, hG2, S⟩
        case measure => simp [intOf]; omega
    · obtain rfl : k = l.length := by omega
      obtain ⟨rfl, rfl⟩ := SepT.refLen S.out m1
      have HI := Aside0.mk (SepT.inb S.out m2)
      have hpt : s.pen.length < 1000000 := by have := hG.pen; omega
      have hre := readD_eq s HI.out.1 hG.full read
      generalize hfd : readF s.dur s.pen read = rd at hre
      have x12 := (SepT.box S.out m0).1
      have y0 : wr.cell? ⟨b12, 0, none⟩ = some (.slice B0 s.dur.length j0) := (blk_cell x12 0).trans rfl
      have y1 : wr.cell? ⟨b12, 1, none⟩ = some (.slice B1 s.pen.length j1) := (blk_cell x12 1).trans rfl
      clear x12
      go_upto_region 22 with (first
        | (go_at_call 20; have hc := Read_S S.out (g := g) (s := s) (by first | exact m0 | exact m1 | exact m2 | exact m3' | exact m4) read; rw [hre] at hc; go_fit hc; clear hc; rintro e w' ⟨rfl, rfl⟩)
        | (go_at_call 21; have hc := refRead_S (v0 := .slice B0 s.dur.length j0) (v1 := .slice B1 s.pen.length j1) S.out (by first | exact m0 | exact m1 | exact m2 | exact m3' | exact m4) read HI.out.2 hpt HI.out.1; rw [hfd] at hc; go_fit hc; clear hc; rintro e w5 ⟨rfl, hs⟩; clear S; have S := Aside0.mk hs; clear hs))
      go_cut [6] (fun v6 wx => v6 = .bool true ∧ SepT w wx [boxT b12 #[.slice B0 s.dur.length j0, .slice B1 s.pen.length j1] 32, refT w.heap.size (.slice B0 s.dur.length j0) (.slice B1 s.pen.length j1) s.dur s.pen, diskT g s])
      case first =>
        have S1 := Aside0.mk S.out.drew
        clear S
        have S := S1
        clear S1
        have HK : Aside0 (∀ (W : World) (ts : List Th), SepT w W ts → boxT b12 #[.slice B0 s.dur.length j0, .slice B1 s.pen.length j1] 32 ∈ ts → W.cell? ⟨b12, 0, none⟩ = some (.slice B0 s.dur.length j0) ∧ W.cell? ⟨b12, 1, none⟩ = some (.slice B1 s.pen.length j1)) := ⟨fun W ts h hm => ⟨(blk_cell (SepT.box h hm).1 0).trans rfl, (blk_cell (SepT.box h hm).1 1).trans rfl⟩⟩
        go_region_held3 (fun W => W.cell? ⟨b12, 0, none⟩ = some (.slice B0 s.dur.length j0) ∧ W.cell? ⟨b12, 1, none⟩ = some (.slice B1 s.pen.length j1)) (exact HK.out _ _ S.out (by first | exact m0 | exact m1 | exact m2 | exact m3' | exact m4))
          ((go_at_call 22; have hc := Pages_S S.out (g := g) (s := s) (by first | exact m0 | exact m1 | exact m2 | exact m3' | exact m4); go_fit hc; clear hc; rintro e w' ⟨rfl, rfl⟩))
        go_wp2_with fail
        go_meet
        exact ⟨rfl, S.out⟩
      case rest =>
        obtain ⟨rfl, hs⟩ := hcut
        go_wp2
        go_ret
        exact ⟨rfl, Sep.base hs⟩

theorem DiskCalls_calls (w : World) (pages read : Int) (A : Option Addr) (c : Nat) (l : List S41) (hC : Kd.C k41 w A l.length l) (hl : l.length ≤ c) :
    Calls Try.prog 3 #[.int .i64 pages, .slice A l.length c, .int .i64 read] w fun e w' => e = .returned (.bool true) ∧ Below w.heap.size w w' := by
  by_cases hf : fewB l = true
  · exact DiskCalls_few w pages read A c l hC hl hf
  · have hf' : fewB l = false := by simpa using hf
    have S := Aside0.mk (SepT.start w)
    have HC := Aside0.mk hC
    have hx := Kd.C_max hC
    clear hC
    have HF := Aside0.mk hf'
    go_enter Try.func3, Try.ntmps3
    go_wp2_with (first
      | (go_at_call 10; have hc := awake_S S.out; go_fit hc; clear hc; rintro e w1 ⟨rfl, hs⟩; clear S; have S := Aside0.mk hs; clear hs)
      | (go_at_call 11; have hc := Few_S S.out A c l HC.out hl hx; rw [HF.out] at hc; go_fit hc; clear hc; rintro e w1 ⟨rfl, hs⟩; clear S; have S := Aside0.mk hs; clear hs))
    go_ret
    exact ⟨rfl, Sep.base S.out⟩
theorem DiskCalls_law (w : World) (pages : Int) (A : Option Addr) (c : Nat) (l : List S41) (hC : Kd.C k41 w A l.length l) (hl : l.length ≤ c) (read : Int) :
    Calls Try.prog 3 #[.int .i64 pages, .slice A l.length c, .int .i64 read] w fun e w' => e = .returned (.bool true) ∧ Below w.heap.size w w' := DiskCalls_calls w pages read A c l hC hl
end Go.Proofs.Ytccomlafacdcjaa.Dk
