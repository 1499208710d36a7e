/-
  DiskDurable, walked.
-/
import Derived.Test.YtccomlafacdcjaaF5
namespace Go.Proofs.Ytccomlafacdcjaa.Dk
open Go.RowKit Go.Proofs.YtccomlafacdcjaaW.PrintWords Go.Proofs.YtccomlafacdcjaaW.PrintMore
open Go.Proofs.Ytccomlafacdcjaa.Ref
set_option linter.unusedVariables false
attribute [local irreducible] Sep diskT rowT refT boxT

theorem choice_zero (i : Nat) : choiceOf [0] i = 0 := by
  have e : i % (some1 [0]).length = 0 := by simp [some1, Nat.mod_one]
  unfold choiceOf
  rw [e]
  decide +kernel
theorem crash_zero (l : List (Int × ByteArray)) : ∀ (i : Nat) (d : List ByteArray), crashAt (choiceOf [0]) i d l = d := by
  induction l with
  | nil => intro i d; rfl
  | cons x l ih =>
    intro i d
    rw [crashAt, ih, choice_zero]
    rfl

theorem tmod3 {x : Int} (h : 0 ≤ x) (h0 : Int.tmod x 3 ≠ 0) : Int.tmod x 3 = 1 ∨ Int.tmod x 3 = 2 := by
  rw [Int.tmod_eq_emod_of_nonneg h] at h0 ⊢; omega
theorem m5 {a b c d e f : Th} {l : List Th} : a ∈ b :: c :: d :: e :: f :: a :: l := by simp
theorem m6 {a b c d e f g : Th} {l : List Th} : a ∈ b :: c :: d :: e :: f :: g :: a :: l := by simp
theorem m7 {a b c d e f g h : Th} {l : List Th} : a ∈ b :: c :: d :: e :: f :: g :: h :: a :: l := by simp
theorem doD_write (s : DS) (a : S41) (h : Int.tmod a.f0 3 ≠ 1) (h2 : Int.tmod a.f0 3 ≠ 2) : (doD s a).dur = s.dur := by
  unfold doD; rw [if_neg h, if_neg h2, writeD_dur]
theorem doD_flat (s : DS) (a : S41) (h : Int.tmod a.f0 3 = 1 ∨ Int.tmod a.f0 3 = 2) : (doD s a).pen = [] := by
  unfold doD
  rcases h with h | h
  · rw [if_pos h]; rfl
  · rw [if_neg (by omega), if_pos h, syncD_pen]

set_option maxHeartbeats 4000000 in
set_option maxRecDepth 100000 in
theorem DiskDurable_few (w : World) (p : Nat) (hp : p < 256) (A : Option Addr) (c : Nat) (l : List S41) (hC : Kd.C k41 w A l.length l) (hl : l.length ≤ c) (hf : fewB l = true) (hpos : ∀ a ∈ l, 0 ≤ a.f0)
    (A2 : Option Addr) (c2 : Nat) (cs : List Int) (hC2 : Kd.C (Kd.int .i64) w A2 cs.length cs) (hl2 : cs.length ≤ c2) (hcs : (cs.length : Int) ≤ 20) :
    Calls Try.prog 4 #[.int .u8 p, .slice A l.length c, .slice A2 cs.length c2] w fun e w' => e = .returned (.bool true) ∧ Below w.heap.size w w' := by
  have S := Aside0.mk (SepT.start w)
  have HC := Aside0.mk hC
  have HC2 := Aside0.mk hC2
  have HP := Aside0.mk hpos
  clear hC hC2 hpos
  have HF := Aside0.mk hf
  have hlen := few_len hf
  have hm := Kd.C_max HC.out
  have hcs2 : cs.length < 1000000 := by omega
  go_enter Try.func4, Try.ntmps4
  go_wp2_with (first
    | (go_at_call 10; have hc := awake_S S.out; go_fit hc; clear hc; rintro e w1 ⟨rfl, hs⟩; clear S; have S := Aside0.mk hs; clear hs)
    | (go_at_call 11; have hc := Few_S S.out A c l HC.out hl hm; rw [HF.out] at hc; (with_reducible refine hc.mono ?_); clear hc; rintro e w1 ⟨rfl, hs⟩; clear S; have S := Aside0.mk hs; clear hs)
    | (go_at_call 14; have hc := start_S S.out p hp; go_fit hc; clear hc; rintro e w1 ⟨g, A0, n0, c0, A1, n1, c1, rfl, hs⟩; have S1 := Aside0.mk (hs.allocBox #[.slice A0 n0 c0, .slice A1 n1 c1] 32); clear S; have S := S1; clear S1 hs)
    | (go_at_call 18; have hc := Image_S S.out (g := g) (s := newD (pagesOf p)) m2; rw [show flush (newD (pagesOf p)).dur (newD (pagesOf p)).pen = (newD (pagesOf p)).dur from rfl] at hc; go_fit hc; clear hc; rintro e w5 ⟨Ai, ci, rfl, hs⟩; clear S; have S := Aside0.mk hs; clear hs))
  generalize hb8 : w1.heap.size = b8 at S ⊢
  clear hb8
  have S1 := Aside0.mk S.out.fourth.fourth.fourth
  clear S
  have S := S1
  clear S1
  go_loopw [9, 36] (fun v9 v36 wr => ∃ (k : Nat) (s : DS) (B0 : Option Addr) (k0 j0 : Nat) (B1 : Option Addr) (k1 j1 : Nat) (D0 : Option Addr) (q0 : Nat), k ≤ l.length ∧ v36 = .int .i64 k ∧ v9 = .slice D0 s.dur.length q0 ∧ Good s (pagesOf p) k ∧ Aside0 (SepT w wr [boxT b8 #[.slice B0 k0 j0, .slice B1 k1 j1] 32, refT w.heap.size (.slice B0 k0 j0) (.slice B1 k1 j1) s.dur s.pen, diskT g s, rowT Kd.string 9 (.slice D0 s.dur.length q0) s.dur])) (fun _ v36 _ => l.length - (intOf v36).toNat)
  case atStart => exact ⟨0, newD (pagesOf p), A0, n0, c0, A1, n1, c1, Ai, ci, Nat.zero_le _, rfl, rfl, Good.start _, S⟩
  case round =>
    clear S
    obtain ⟨k, s, B0, k0, j0, B1, k1, j1, D0, q0, hk, rfl, rfl, hG, S⟩ := hrel
    by_cases hlt : k < l.length
    · have hlt2 : (k : Int) < l.length := by omega
      have hcs4 := few_choices HF.out hlt
      obtain ⟨ad, A4, c4, hAd, d0, d1, d2, d3, d4, hl4, hC4⟩ := at_T41 HC.out k (by omega) (by omega)
      subst hAd
      have hB := (Sep.base S.out)
      have HC4 := Aside0.mk hC4
      have hpen : s.pen.length < 1000000 := by have := hG.pen; omega
      have hlog : s.log.length < 1000000 := by have := hG.log; omega
      have hk0 : 0 ≤ (rd_T41 l (k : Int)).f0 := HP.out _ (by simp [rd_T41, hlt])
      have HK0 := Aside0.mk hk0
      clear hk0
      generalize rd_T41 l k = a at d0 d1 d2 d3 d4 hl4 HC4 hcs4 HK0
      have hG2 := hG.do a
      replace d0 := pw_cell_below hB d0
      replace d1 := pw_cell_below hB d1
      replace d2 := pw_cell_below hB d2
      replace d3 := pw_cell_below hB d3
      replace d4 := pw_cell_below hB d4
      simp only [Int.toNat_natCast] at d0 d1 d2 d3 d4
      clear hC4 hB
      have x12 := (SepT.box S.out m0).1
      have t0 : wr.cell? ⟨b8, 0, none⟩ = some (.slice B0 k0 j0) := (blk_cell x12 0).trans rfl
      have t1 : wr.cell? ⟨b8, 1, none⟩ = some (.slice B1 k1 j1) := (blk_cell x12 1).trans rfl
      have hb12 := blk_lt x12
      clear x12
      have S1 := Aside0.mk (S.out.allocBox #[.int .u8 a.f0, .int .i64 a.f1.f0, .string a.f1.f1, .bool a.f1.f2, .slice A4 a.f2.length c4] 41)
      clear S
      have S := S1
      clear S1
      by_cases hm0 : Int.tmod a.f0 3 = 0
      · have hm0b : (Int.tmod a.f0 3 != 0) = false := by simp [hm0]
        have hdw : Aside0 ((doD s a).dur = s.dur) := ⟨doD_write s a (by omega) (by omega)⟩
        clear hm0
        have S1 := Aside0.mk (S.out.third.fourth).swap
        clear S
        have S := S1
        clear S1
        go_upto_region 21 with (first
          | (go_at_call 15; have hc := do_S S.out a A4 c4 HC4.out hl4 hcs4 hpen hlog; go_fit hc; clear hc; rintro e w2 ⟨B2, k2, j2, B3, k3, j3, rfl, hs⟩; clear S; have S := Aside0.mk hs; clear hs; have x12 := (SepT.box S.out m3').1; have z0 : w2.cell? ⟨b8, 0, none⟩ = some (.slice B0 k0 j0) := (blk_cell x12 0).trans rfl; have z1 : w2.cell? ⟨b8, 1, none⟩ = some (.slice B1 k1 j1) := (blk_cell x12 1).trans rfl; have e0 := blk_frozen x12 0; have e1 := blk_frozen x12 1; clear x12))
        have S1 := Aside0.mk (((S.out.fourth.setBox 0 (.slice B2 k2 j2)).setBox 1 (.slice B3 k3 j3)).fourth)
        clear S
        have S := Aside0.mk (show SepT w _ (_ :: boxT b8 #[.slice B2 k2 j2, .slice B3 k3 j3] 32 :: _) from S1.out)
        clear S1 z0 z1 e0 e1 t0 t1 d0 d1 d2 d3 d4
        generalize World.setCell (World.setCell _ _ _) _ _ = W2 at S ⊢
        have t0 : W2.cell? ⟨wr.heap.size, 0, none⟩ = some (.int .u8 a.f0) := (blk_cell (SepT.box S.out m0).1 0).trans rfl
        have S1 := Aside0.mk (SepT.drop S.out)
        clear S
        go_wp2
        have hde := hdw.out
        rw [← hde] at S1
        have HS1 := Aside0.mk (And.intro S1 hde)
        clear S1 hde
        go_roundw
        case rel => exact ⟨k + 1, doD s a, B2, k2, j2, B3, k3, j3, D0, q0, by omega, by go_num, by rw [HS1.out.2], hG2, HS1.out.1⟩
        case measure => simp [intOf]; omega
      · have hm0b : (Int.tmod a.f0 3 != 0) = true := by simp [hm0]
        clear t0 t1
        go_upto_region 16 with (first
          | (go_at_call 23; have hc := Clone_S S.out (g := g) (s := s) m3' hpen; go_fit hc; clear hc; rintro e w3 ⟨gx, rfl, hs⟩; clear S; have S := Aside0.mk hs; clear hs)
          | (go_at_call 23; have hc := Clone_S S.out (g := g) (s := s) m4 hpen; go_fit hc; clear hc; rintro e w4 ⟨gy, rfl, hs⟩; clear S; have S := Aside0.mk hs; clear hs))
        have hin := SepT.inb S.out m5
        obtain ⟨sc, hsc⟩ : ∃ sc : DS, { dur := s.dur, pen := s.pen, rc := false, log := [] } = sc := ⟨_, rfl⟩
        rw [hsc] at S
        have q1 : sc.dur = s.dur := by rw [← hsc]
        have q2 : sc.pen = s.pen := by rw [← hsc]
        have hscp : sc.pen.length < 1000000 := by rw [q2]; exact hpen
        obtain ⟨sx, hsx⟩ : ∃ sx, crashD sc [1] = sx := ⟨_, rfl⟩
        obtain ⟨sy, hsy⟩ : ∃ sy, crashD sc [0] = sy := ⟨_, rfl⟩
        have hX : Aside0 (flush sx.dur sx.pen = flush s.dur s.pen) := ⟨by rw [← hsx]; show flush (crashAt (choiceOf [1]) 0 sc.dur sc.pen) [] = _; rw [crash_one, q1, q2]; rfl⟩
        have hY : Aside0 (flush sy.dur sy.pen = s.dur) := ⟨by rw [← hsy]; show flush (crashAt (choiceOf [0]) 0 sc.dur sc.pen) [] = _; rw [crash_zero, q1]; rfl⟩
        have HSX := Aside0.mk hsx
        have HSY := Aside0.mk hsy
        have hfl : (flush s.dur s.pen).length < 1000000000 := by rw [flush_length]; have := hin.2; omega
        have hdl : s.dur.length < 1000000000 := by have := hin.2; omega
        have o1 : [(1 : Int)].length ≤ 1000000000 := by decide
        have o2 : [(0 : Int)].length ≤ 1000000000 := by decide
        have o3 : [(1 : Int)].length < 1000000 := by decide
        have o4 : [(0 : Int)].length < 1000000 := by decide
        clear hsx hsy hsc q1 q2 hin
        obtain ⟨F, hF⟩ : ∃ F, flush s.dur s.pen = F := ⟨_, rfl⟩
        rw [hF] at hX hfl
        have HFd := Aside0.mk hF
        clear hF
        go_upto_region 20 with (first
          | (go_at_call 24; have hc := Crash_row (g := gx) (s := sc) _ 1 [1] ((S.out.lit (enc := Value.int .i64) (h1 := fun _ => rfl) 3 [1] o1).third) m0 o3 hscp; rw [HSX.out] at hc; go_fit hc; clear hc; rintro e w5 ⟨rfl, hs⟩; clear S; have S := Aside0.mk (SepT.drop hs.swap); clear hs)
          | (go_at_call 24; have hc := Crash_row (g := gy) (s := sc) _ 1 [0] ((S.out.lit (enc := Value.int .i64) (h1 := fun _ => rfl) 3 [0] o2).third) m0 o4 hscp; rw [HSY.out] at hc; go_fit hc; clear hc; rintro e w6 ⟨rfl, hs⟩; clear S; have S := Aside0.mk (SepT.drop hs.swap); clear hs)
          | (go_at_call 18; have hc := Image_S S.out (g := gx) (s := sx) m1; rw [hX.out] at hc; (with_reducible refine hc.mono ?_); clear hc; rintro e w7 ⟨Ax, cx, rfl, hs⟩; clear S; have S := Aside0.mk hs; clear hs)
          | (go_at_call 18; have hc := Image_S S.out (g := g) (s := s) m6; rw [HFd.out] at hc; (with_reducible refine hc.mono ?_); clear hc; rintro e w8 ⟨Ad, cd, rfl, hs⟩; clear S; have S := Aside0.mk hs; clear hs)
          | (go_at_call 17; have hc := Equal_same Ax cx F Ad cd S.out m1 m0 hfl; go_fit hc; clear hc; rintro e w9 ⟨rfl, hs⟩; clear S; have S := Aside0.mk (SepT.drop (SepT.drop hs)); clear hs)
          | (go_at_call 18; have hc := Image_S S.out (g := gy) (s := sy) m0; rw [hY.out] at hc; (with_reducible refine hc.mono ?_); clear hc; rintro e wa ⟨Ay, cy, rfl, hs⟩; clear S; have S := Aside0.mk hs; clear hs)
          | (go_at_call 17; have hc := Equal_same Ay cy s.dur D0 q0 S.out m0 m7 hdl; go_fit hc; clear hc; rintro e wb ⟨rfl, hs⟩; clear S; have S := Aside0.mk (SepT.drop (SepT.drop (SepT.drop hs))); clear hs))
        clear d0 d1 d2 d3 d4
        have x11 := (SepT.box S.out m0).1
        have x8 := (SepT.box S.out m1).1
        have t0 : wb.cell? ⟨wr.heap.size, 0, none⟩ = some (.int .u8 a.f0) := (blk_cell x11 0).trans rfl
        have t1 : wb.cell? ⟨wr.heap.size, 1, none⟩ = some (.int .i64 a.f1.f0) := (blk_cell x11 1).trans rfl
        have t2 : wb.cell? ⟨wr.heap.size, 2, none⟩ = some (.string a.f1.f1) := (blk_cell x11 2).trans rfl
        have t3 : wb.cell? ⟨wr.heap.size, 3, none⟩ = some (.bool a.f1.f2) := (blk_cell x11 3).trans rfl
        have t4 : wb.cell? ⟨wr.heap.size, 4, none⟩ = some (.slice A4 a.f2.length c4) := (blk_cell x11 4).trans rfl
        have y0 : wb.cell? ⟨b8, 0, none⟩ = some (.slice B0 k0 j0) := (blk_cell x8 0).trans rfl
        have y1 : wb.cell? ⟨b8, 1, none⟩ = some (.slice B1 k1 j1) := (blk_cell x8 1).trans rfl
        clear x11 x8
        have S1 := Aside0.mk (S.out.third.fourth).swap
        clear S
        have S := S1
        clear S1
        go_upto_region 21 with (first
          | (go_at_call 15; have hc := do_S S.out a A4 c4 HC4.out hl4 hcs4 hpen hlog; go_fit hc; clear hc; rintro e w2 ⟨B2, k2, j2, B3, k3, j3, rfl, hs⟩; clear S; have S := Aside0.mk hs; clear hs; have x12 := (SepT.box S.out m3').1; have z0 : w2.cell? ⟨b8, 0, none⟩ = some (.slice B0 k0 j0) := (blk_cell x12 0).trans rfl; have z1 : w2.cell? ⟨b8, 1, none⟩ = some (.slice B1 k1 j1) := (blk_cell x12 1).trans rfl; have e0 := blk_frozen x12 0; have e1 := blk_frozen x12 1; clear x12))
        have S1 := Aside0.mk (((S.out.fourth.setBox 0 (.slice B2 k2 j2)).setBox 1 (.slice B3 k3 j3)).fourth)
        clear S
        have S := Aside0.mk (show SepT w _ (_ :: boxT b8 #[.slice B2 k2 j2, .slice B3 k3 j3] 32 :: _) from S1.out)
        clear S1 y0 y1 z0 z1 e0 e1 t0 t1 t2 t3 t4
        generalize World.setCell (World.setCell _ _ _) _ _ = W2 at S ⊢
        have t0 : W2.cell? ⟨wr.heap.size, 0, none⟩ = some (.int .u8 a.f0) := (blk_cell (SepT.box S.out m0).1 0).trans rfl
        have hpn : (doD s a).pen = [] := doD_flat s a (tmod3 HK0.out hm0)
        have hfl2 : Aside0 (flush (doD s a).dur (doD s a).pen = (doD s a).dur) := ⟨by rw [hpn]; rfl⟩
        clear hpn
        go_wp2_with (go_at_call 18; have hc := Image_S S.out (g := g) (s := doD s a) m3'; rw [hfl2.out] at hc; (with_reducible refine hc.mono ?_); clear hc; rintro e wc ⟨Ae, ce, rfl, hs⟩; clear S; have S := Aside0.mk hs; clear hs)
        have S1 := Aside0.mk (SepT.drop S.out.swap).fifth.drop.fourth.fourth.fourth
        clear S t0
        go_roundw
        case rel => exact ⟨k + 1, doD s a, B2, k2, j2, B3, k3, j3, Ae, ce, by omega, by go_num, rfl, hG2, S1⟩
        case measure => simp [intOf]; omega
    · obtain rfl : k = l.length := by omega
      have hpen : s.pen.length < 1000000 := by have := hG.pen; omega
      have hlog : s.log.length < 1000000 := by have := hG.log; omega
      obtain ⟨sx, hsx⟩ : ∃ sx, syncD s = sx := ⟨_, rfl⟩
      have q0 : sx.pen = [] := by rw [← hsx, syncD_pen]
      obtain ⟨sy, hsy⟩ : ∃ sy, crashD sx cs = sy := ⟨_, rfl⟩
      have q1 : flush sx.dur sx.pen = sx.dur := by rw [q0]; rfl
      have q2 : flush sy.dur sy.pen = sx.dur := by rw [← hsy]; show flush (crashAt (choiceOf cs) 0 sx.dur sx.pen) [] = _; rw [q0]; rfl
      have q3 : ((sy.pen.length : Nat) : Int) = 0 := by rw [← hsy]; rfl
      have q4 : sx.pen.length < 1000000 := by rw [q0]; simp
      have hdl : sx.dur.length < 1000000000 := by
        have := (SepT.inb S.out m2).2
        rw [← hsx, syncD_dur, flush_length]
        omega
      have Q := Aside0.mk (And.intro hsx (And.intro hsy (And.intro q1 (And.intro q2 q3))))
      clear hsx hsy q0 q1 q2 q3
      have S1 := Aside0.mk S.out.third
      clear S
      have S := S1
      clear S1
      go_wp2_with (first
        | (go_at_call 25; have hc := Sync_S S.out hlog hpen; rw [Q.out.1] at hc; go_fit hc; clear hc; rintro e w3 ⟨rfl, hs⟩; clear S; have S := Aside0.mk hs; clear hs)
        | (go_at_call 18; have hc := Image_S S.out (g := g) (s := sx) m0; rw [Q.out.2.2.1] at hc; (with_reducible refine hc.mono ?_); clear hc; rintro e w4 ⟨Ax, cx, rfl, hs⟩; clear S; have S := Aside0.mk hs.swap; clear hs)
        | (go_at_call 24; have hc := Crash_S (s := sx) S.out A2 c2 cs HC2.out hl2 hcs2 q4; rw [Q.out.2.1] at hc; (with_reducible refine hc.mono ?_); clear hc; rintro e w5 ⟨rfl, hs⟩; clear S; have S := Aside0.mk hs; clear hs)
        | (go_at_call 18; have hc := Image_S S.out (g := g) (s := sy) m0; rw [Q.out.2.2.2.1] at hc; (with_reducible refine hc.mono ?_); clear hc; rintro e w6 ⟨Ay, cy, rfl, hs⟩; clear S; have S := Aside0.mk hs; clear hs)
        | (go_at_call 17; have hc := Equal_same Ay cy sx.dur Ax cx S.out m0 m2 hdl; go_fit hc; clear hc; rintro e w7 ⟨rfl, hs⟩; clear S; have S := Aside0.mk hs; clear hs)
        | (go_at_call 16; have hc := Pending_S S.out (g := g) (s := sy) m1; rw [Q.out.2.2.2.2] at hc; (with_reducible refine hc.mono ?_); clear hc; rintro e w' ⟨rfl, rfl⟩))
      go_ret
      exact ⟨rfl, Sep.base S.out⟩

set_option maxHeartbeats 2000000 in
set_option maxRecDepth 100000 in
theorem DiskDurable_law (w : World) (p : Nat) (hp : p < 256) (A : Option Addr) (c : Nat) (l : List S41) (hC : Kd.C k41 w A l.length l) (hl : l.length ≤ c) (hpos : ∀ a ∈ l, 0 ≤ a.f0)
    (A2 : Option Addr) (c2 : Nat) (cs : List Int) (hC2 : Kd.C (Kd.int .i64) w A2 cs.length cs) (hl2 : cs.length ≤ c2) :
    Calls Try.prog 4 #[.int .u8 p, .slice A l.length c, .slice A2 cs.length c2] w fun e w' => e = .returned (.bool true) ∧ Below w.heap.size w w' := by
  have S := Aside0.mk (SepT.start w)
  have HC := Aside0.mk hC
  have hm := Kd.C_max hC
  by_cases hf : fewB l = true
  · by_cases hcs : (cs.length : Int) ≤ 20
    · exact DiskDurable_few w p hp A c l hC hl hf hpos A2 c2 cs hC2 hl2 hcs
    · have hcs2 : (20 : Int) < cs.length := by omega
      clear hC hC2 hcs hpos
      have HF := Aside0.mk hf
      go_enter Try.func4, Try.ntmps4
      go_wp2_with (first
        | (go_at_call 10; have hc := awake_S S.out; go_fit hc; clear hc; rintro e w1 ⟨rfl, hs⟩; clear S; have S := Aside0.mk hs; clear hs)
        | (go_at_call 11; have hc := Few_S S.out A c l HC.out hl hm; rw [HF.out] at hc; (with_reducible refine hc.mono ?_); clear hc; rintro e w1 ⟨rfl, hs⟩; clear S; have S := Aside0.mk hs; clear hs))
      go_ret
      exact ⟨rfl, Sep.base S.out⟩
  · have HF := Aside0.mk (show fewB l = false by simpa using hf)
    clear hC hC2 hpos
    go_enter Try.func4, Try.ntmps4
    go_wp2_with (first
      | (go_at_call 10; have hc := awake_S S.out; go_fit hc; clear hc; rintro e w1 ⟨rfl, hs⟩; clear S; have S := Aside0.mk hs; clear hs)
      | (go_at_call 11; have hc := Few_S S.out A c l HC.out hl hm; rw [HF.out] at hc; (with_reducible refine hc.mono ?_); clear hc; rintro e w1 ⟨rfl, hs⟩; clear S; have S := Aside0.mk hs; clear hs))
    go_ret
    exact ⟨rfl, Sep.base S.out⟩
end Go.Proofs.Ytccomlafacdcjaa.Dk
