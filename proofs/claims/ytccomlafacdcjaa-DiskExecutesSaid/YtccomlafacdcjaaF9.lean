/-
  DiskExecutes, walked.
-/
import Derived.Test.YtccomlafacdcjaaE9
namespace Go.Proofs.Ytccomlafacdcjaa.Dk
open Go.RowKit Go.Proofs.YtccomlafacdcjaaW.PrintWords Go.Proofs.YtccomlafacdcjaaW.PrintMore
open Go.Proofs.Ytccomlafacdcjaa.Ref
set_option linter.unusedVariables false
attribute [local irreducible] Sep diskT rowT refT boxT

abbrev Op3 := Int × ByteArray × Bool
def big1 (y : Op3) : Bool := decide (600 < y.2.1.size)
set_option maxRecDepth 100000 in
theorem lit_calls (w : World) (p : Int) (x : ByteArray) (b : Bool) : Calls Try.prog 32 #[.agg #[.int .i64 p, .string x, .bool b]] w fun e w' => e = .returned (.bool (big1 (p, x, b))) ∧ Below w.heap.size w w' := by
  by_cases h : 600 < x.size
  · have e : big1 (p, x, b) = true := by simp [big1, h]
    rw [e]
    have h2 : (600 : Int) < x.size := by omega
    clear h e
    go_enter Try.func32, Try.ntmps32
    go_wp2
    go_ret
    exact ⟨rfl, (Below.refl _ _).alloc (Nat.le_refl _) _⟩
  · have e : big1 (p, x, b) = false := by simp [big1]; omega
    rw [e]
    have h2 : decide ((600 : Int) < x.size) = false := by simp; omega
    clear h e
    go_enter Try.func32, Try.ntmps32
    go_wp2
    go_ret
    exact ⟨rfl, (Below.refl _ _).alloc (Nat.le_refl _) _⟩
theorem lit_S {w0 w : World} {ts : List Th} (h : SepT w0 w ts) (p : Int) (x : ByteArray) (b : Bool) : Calls Try.prog 32 #[.agg #[.int .i64 p, .string x, .bool b]] w fun e w' => e = .returned (.bool (big1 (p, x, b))) ∧ SepT w0 w' ts := by
  refine (lit_calls w p x b).mono ?_
  rintro e w1 ⟨rfl, hb⟩
  exact ⟨rfl, h.below hb⟩

def Found (w0 : World) (ts : List Th) (l : List Op3) (e : Ending) (w' : World) : Prop := ∃ i : Int, e = .returned (.int .i64 i) ∧ decide (0 ≤ i) = l.any big1 ∧ SepT w0 w' ts
set_option maxHeartbeats 1000000 in
set_option maxRecDepth 100000 in
theorem IndexF_S {w0 w : World} {ts : List Th} (h : SepT w0 w ts) (A : Option Addr) (c : Nat) (l : List Op3) (hC : Kd.C kop w0 A l.length l) (hl : l.length < 1000000) :
    Calls Try.prog 44 #[.slice A l.length c, .func (.func 32) #[] #[]] w (Found w0 ts l) := by
  have S := Aside0.mk h
  have HC := Aside0.mk hC
  clear h hC
  go_enter Try.func44, Try.ntmps44
  go_wp2
  go_loopw [8] (fun v8 wr => ∃ k : Nat, k ≤ l.length ∧ v8 = .int .i64 k ∧ Aside0 ((l.take k).any big1 = false) ∧ Aside0 (SepT w0 wr ts)) (fun v8 _ => l.length - (intOf v8).toNat)
  case atStart => exact ⟨0, Nat.zero_le _, rfl, ⟨rfl⟩, S⟩
  case round =>
    clear S
    obtain ⟨k, hk, rfl, HT, S⟩ := hrel
    by_cases hlt : k < l.length
    · have hlt2 : (k : Int) < l.length := by omega
      obtain ⟨ad, hAd, d0, d1, d2⟩ := op_at HC.out k (by omega) (by omega)
      subst hAd
      simp only [Int.toNat_natCast] at d0 d1 d2
      have hts : l.take (k + 1) = l.take k ++ [l.getD k (0, nb, false)] := by rw [List.take_succ_eq_append_getElem hlt]; simp [List.getD, hlt]
      have hmem : l.getD k (0, nb, false) ∈ l := by simp [List.getD, hlt]
      generalize l.getD k (0, nb, false) = y at hts hmem d0 d1 d2
      obtain ⟨p, x, b⟩ := y
      dsimp only at d0 d1 d2
      have hB := Sep.base S.out
      replace d0 := pw_cell_below hB d0
      replace d1 := pw_cell_below hB d1
      replace d2 := pw_cell_below hB d2
      have HTS := Aside0.mk hts
      have HM := Aside0.mk hmem
      clear hts hmem hB
      by_cases hb : big1 (p, x, b) = true
      · have HB := Aside0.mk hb
        clear hb
        go_wp2_with (go_at_call 32; have hc := lit_S S.out p x b; rw [HB.out] at hc; go_fit hc; clear hc; rintro e w1 ⟨rfl, hs⟩; clear S; have S := Aside0.mk hs; clear hs)
        go_ret
        exact ⟨k, rfl, by rw [List.any_eq_true.2 ⟨_, HM.out, HB.out⟩]; simp, S.out⟩
      · have HB := Aside0.mk (show big1 (p, x, b) = false by simpa using hb)
        clear hb
        go_wp2_with (go_at_call 32; have hc := lit_S S.out p x b; rw [HB.out] at hc; go_fit hc; clear hc; rintro e w1 ⟨rfl, hs⟩; clear S; have S := Aside0.mk hs; clear hs)
        clear d0 d1 d2
        go_roundw
        case rel => exact ⟨k + 1, by omega, by go_num, ⟨by rw [HTS.out, List.any_append, HT.out]; simp [HB.out]⟩, S⟩
        case measure => simp [intOf]; omega
    · obtain rfl : k = l.length := by omega
      go_wp2
      go_ret
      exact ⟨-1, rfl, by have := HT.out; rw [List.take_length] at this; rw [this]; rfl, S.out⟩
set_option maxRecDepth 100000 in
theorem ContainsF_S {w0 w : World} {ts : List Th} (h : SepT w0 w ts) (A : Option Addr) (c : Nat) (l : List Op3) (hC : Kd.C kop w0 A l.length l) (hl : l.length < 1000000) :
    Calls Try.prog 31 #[.slice A l.length c, .func (.func 32) #[] #[]] w fun e w' => e = .returned (.bool (l.any big1)) ∧ SepT w0 w' ts := by
  have S := Aside0.mk h
  have HC := Aside0.mk hC
  clear h hC
  go_enter Try.func31, Try.ntmps31
  go_wp2_with (go_at_call 44; have hc := IndexF_S S.out A c l HC.out hl; go_fit hc; clear hc; rintro e w1 ⟨i, rfl, hi, hs⟩; clear S; have S := Aside0.mk hs; have HI := Aside0.mk hi; clear hi hs)
  go_ret
  exact ⟨by rw [← HI.out]; rfl, S.out⟩

theorem execD_pen : ∀ (l : List Op3) (s : DS), (execD s l).1.pen.length ≤ s.pen.length + l.length
  | [], s => by simp [execD]
  | (p, x, b) :: l, s => by
    have u : execD s ((p, x, b) :: l) = if b = true then execD (syncD s) l else if (writeD s p x).2 = 0 then execD (writeD s p x).1 l else writeD s p x := rfl
    rw [u, List.length_cons]
    split
    · have := execD_pen l (syncD s); rw [syncD_pen] at this; simp at this; omega
    · have h := writeD_pen s p x
      split
      · have := execD_pen l (writeD s p x).1; omega
      · omega

set_option maxHeartbeats 2000000 in
set_option maxRecDepth 100000 in
theorem DiskExecutes_few (w : World) (p : Nat) (hp : p < 256) (A : Option Addr) (c : Nat) (l : List Op3) (hC : Kd.C kop w A l.length l) (hl40 : (l.length : Int) ≤ 40) (hb : l.any big1 = false) :
    Calls Try.prog 9 #[.int .u8 p, .slice A l.length c] w fun e w' => e = .returned (.bool true) ∧ Below w.heap.size w w' := by
  have S := Aside0.mk (SepT.start w)
  have HC := Aside0.mk hC
  have HB := Aside0.mk hb
  clear hC hb
  have hl : l.length < 1000000 := by omega
  obtain ⟨N, hN⟩ : ∃ N, pagesOf p = N := ⟨_, rfl⟩
  have hN2 : N ≤ 4096 := by rw [← hN]; exact (pagesOf_range p).2
  obtain ⟨s0, hs0⟩ : ∃ s0, newD N = s0 := ⟨_, rfl⟩
  have HS0 := Aside0.mk (show newD (pagesOf p) = s0 by rw [hN]; exact hs0)
  have HS1 := Aside0.mk (show List.replicate (pagesOf p) nb = s0.dur ∧ ([] : List (Int × ByteArray)) = s0.pen by rw [← hs0, hN]; exact ⟨rfl, rfl⟩)
  have q1 : s0.log.length + l.length < 1000000 := by rw [← hs0]; show 0 + _ < _; omega
  have q2 : s0.pen.length + l.length < 1000000 := by rw [← hs0]; show 0 + _ < _; omega
  have q3 : s0.dur.length ≤ 4096 := by rw [← hs0]; simp [newD]; omega
  have HQ : Aside0 (∀ x ∈ s0.pen, 0 ≤ x.1 ∧ x.1 < s0.dur.length) := ⟨by rw [← hs0]; simp [newD]⟩
  clear hs0 hN
  obtain ⟨sE, hsE⟩ : ∃ sE, (execD s0 l).1 = sE := ⟨_, rfl⟩
  obtain ⟨eE, heE⟩ : ∃ eE, (execD s0 l).2 = eE := ⟨_, rfl⟩
  have hpt : sE.pen.length < 1000000 := by have := execD_pen l s0; rw [hsE] at this; omega
  have HSE := Aside0.mk hsE
  have HEE := Aside0.mk heE
  clear hsE heE
  go_enter Try.func9, Try.ntmps9
  go_upto_region 10 with (first
    | (go_at_call 10; have hc := awake_S S.out; go_fit hc; clear hc; rintro e w1 ⟨rfl, hs⟩; clear S; have S := Aside0.mk hs; clear hs)
    | (go_at_call 31; have hc := ContainsF_S S.out A c l HC.out hl; rw [HB.out] at hc; go_fit hc; clear hc; rintro e w1 ⟨rfl, hs⟩; clear S; have S := Aside0.mk hs; clear hs)
    | (go_at_call 14; have hc := start_S S.out p hp; rw [HS0.out] at hc; go_fit hc; clear hc; rintro e w1 ⟨g, A0, n0, c0, A1, n1, c1, rfl, hs⟩; rw [HS1.out.1, HS1.out.2] at hs; have S1 := Aside0.mk (hs.allocBox #[.slice A0 n0 c0, .slice A1 n1 c1] 32).third; clear S; have S := S1; clear S1 hs)
    | (go_at_call 30; have hc := Execute_S (g := g) (s := s0) A c l S.out HC.out q1 q2; rw [HSE.out, HEE.out] at hc; go_fit hc; clear hc; rintro e w2 ⟨rfl, hs⟩; clear S; have S := Aside0.mk hs.third; clear hs; have x6 := (SepT.box S.out m2).1; have y0 : w2.cell? ⟨w1.heap.size, 0, none⟩ = some (.slice A0 n0 c0) := (blk_cell x6 0).trans rfl; have y1 : w2.cell? ⟨w1.heap.size, 1, none⟩ = some (.slice A1 n1 c1) := (blk_cell x6 1).trans rfl; clear x6)
    | (go_at_call 33; go_loud (have hc := refExecute_S (c := c) s0 S.out l HC.out q3 q2 HQ.out; rw [HSE.out, HEE.out] at hc; go_fit hc; clear hc; rintro e w3 ⟨B0, k0, j0, B1, k1, j1, rfl, hs⟩; clear S; have S := Aside0.mk hs.third; clear hs; have x6 := (SepT.box S.out m0).1; clear y0 y1; have y0 : w3.cell? ⟨w1.heap.size, 0, none⟩ = some (.slice A0 n0 c0) := (blk_cell x6 0).trans rfl; have y1 : w3.cell? ⟨w1.heap.size, 1, none⟩ = some (.slice A1 n1 c1) := (blk_cell x6 1).trans rfl; have e0 := blk_frozen x6 0; have e1 := blk_frozen x6 1; clear x6)))
  have S1 := Aside0.mk ((S.out.setBox 0 (.slice B0 k0 j0)).setBox 1 (.slice B1 k1 j1))
  clear S
  have S := Aside0.mk (show SepT w _ (boxT w1.heap.size #[.slice B0 k0 j0, .slice B1 k1 j1] 32 :: _) from S1.out)
  clear S1 y0 y1 e0 e1
  generalize World.setCell (World.setCell _ _ _) _ _ = W2 at S ⊢
  generalize w1.heap.size = b6 at S ⊢
  obtain ⟨rfl, rfl⟩ := SepT.refLen S.out m1
  have HI := Aside0.mk (SepT.inb S.out m2)
  have hfl : (flush sE.dur sE.pen).length < 1000000000 := by rw [flush_length]; have := HI.out.2; omega
  go_cut [4] (fun v4 wx => v4 = .bool true ∧ Below w.heap.size w wx)
  case first =>
    have S1 := Aside0.mk S.out.drew
    clear S
    have S := S1
    clear S1
    have HK : Aside0 (∀ (W : World) (ts : List Th), SepT w W ts → boxT b6 #[.slice B0 sE.dur.length j0, .slice B1 sE.pen.length j1] 32 ∈ ts → W.cell? ⟨b6, 0, none⟩ = some (.slice B0 sE.dur.length j0) ∧ W.cell? ⟨b6, 1, none⟩ = some (.slice B1 sE.pen.length j1)) := ⟨fun W ts h hm => ⟨(blk_cell (SepT.box h hm).1 0).trans rfl, (blk_cell (SepT.box h hm).1 1).trans rfl⟩⟩
    go_region_held3 (fun W => W.cell? ⟨b6, 0, none⟩ = some (.slice B0 sE.dur.length j0) ∧ W.cell? ⟨b6, 1, none⟩ = some (.slice B1 sE.pen.length j1)) (exact HK.out _ _ S.out (by first | exact m0 | exact m1 | exact m2 | exact m3' | exact m4))
      (first
        | (go_at_call 16; have hc := Pending_S S.out (g := g) (s := sE) (by first | exact m0 | exact m1 | exact m2 | exact m3' | exact m4); go_fit hc; clear hc; rintro e w' ⟨rfl, rfl⟩)
        | (go_at_call 18; have hc := Image_S S.out (g := g) (s := sE) (by first | exact m0 | exact m1 | exact m2 | exact m3' | exact m4); go_fit hc; clear hc; rintro e w5 ⟨Ai, ci, rfl, hs⟩; clear S; have S := Aside0.mk hs; clear hs)
        | (go_at_call 19; have hc := refImage_S (v0 := .slice B0 sE.dur.length j0) (v1 := .slice B1 sE.pen.length j1) S.out (by first | exact m0 | exact m1 | exact m2 | exact m3' | exact m4) HI.out.2 hpt HI.out.1; go_fit hc; clear hc; rintro e w6 ⟨Aj, cj, rfl, hs⟩; clear S; have S := Aside0.mk hs; clear hs)
        | (go_at_call 17; have hc := Equal_same Ai ci (flush sE.dur sE.pen) Aj cj S.out (by first | exact m0 | exact m1 | exact m2 | exact m3' | exact m4) (by first | exact m0 | exact m1 | exact m2 | exact m3' | exact m4) hfl; go_fit hc; clear hc; rintro e w7 ⟨rfl, hs⟩; clear S; have S := Aside0.mk hs; clear hs))
    go_wp2_with fail
    go_meet
    exact ⟨rfl, Sep.base S.out⟩
  case rest =>
    obtain ⟨rfl, hb⟩ := hcut
    go_wp2
    go_ret
    exact ⟨rfl, hb⟩

set_option maxHeartbeats 2000000 in
set_option maxRecDepth 100000 in
theorem DiskExecutes_any (w : World) (p : Nat) (hp : p < 256) (A : Option Addr) (c : Nat) (l : List Op3) (hC : Kd.C kop w A l.length l) :
    Calls Try.prog 9 #[.int .u8 p, .slice A l.length c] w fun e w' => e = .returned (.bool true) ∧ Below w.heap.size w w' := by
  have S := Aside0.mk (SepT.start w)
  have HC := Aside0.mk hC
  by_cases h40 : (l.length : Int) ≤ 40
  · by_cases hb : l.any big1 = false
    · exact DiskExecutes_few w p hp A c l hC h40 hb
    · have HB := Aside0.mk (show l.any big1 = true by cases h : l.any big1 with | true => rfl | false => exact absurd h hb)
      have hl : l.length < 1000000 := by omega
      clear hb hC
      go_enter Try.func9, Try.ntmps9
      go_wp2_with (first
        | (go_at_call 10; have hc := awake_S S.out; go_fit hc; clear hc; rintro e w1 ⟨rfl, hs⟩; clear S; have S := Aside0.mk hs; clear hs)
        | (go_at_call 31; have hc := ContainsF_S S.out A c l HC.out hl; rw [HB.out] at hc; go_fit hc; clear hc; rintro e w1 ⟨rfl, hs⟩; clear S; have S := Aside0.mk hs; clear hs))
      go_ret
      exact ⟨rfl, Sep.base S.out⟩
  · have h41 : (40 : Int) < l.length := by omega
    clear h40 hC
    go_enter Try.func9, Try.ntmps9
    go_wp2_with (first
      | (go_at_call 10; have hc := awake_S S.out; go_fit hc; clear hc; rintro e w1 ⟨rfl, hs⟩; clear S; have S := Aside0.mk hs; clear hs))
    go_ret
    exact ⟨rfl, Sep.base S.out⟩
/-- A plan as it came in. -/
theorem C_kop {w : World} {A : Option Addr} {xs : List S38} (h : Kd.C k38 w A xs.length xs) : Kd.C kop w A (xs.map (fun o => (o.f0, o.f1, o.f2))).length (xs.map (fun o => (o.f0, o.f1, o.f2))) := by
  obtain ⟨h1, h2, h3⟩ := h
  refine ⟨rfl, by rw [List.length_map]; exact h2, fun hn => ?_⟩
  rw [List.length_map] at hn
  obtain ⟨ad, e, hc⟩ := h3 hn
  refine ⟨ad, e, fun j p hj => ?_⟩
  rw [List.getElem?_map] at hj
  obtain ⟨o, ho, rfl⟩ := Option.map_eq_some_iff.1 hj
  obtain ⟨cs, hl, hk, hu⟩ := hc j o ho
  refine ⟨cs, hl, ?_, hu⟩
  have hk2 := k38_open hk
  rw [hk2]
  exact ⟨[.int .i64 o.f0], [.string o.f1, .bool o.f2], rfl, rfl, [.string o.f1], [.bool o.f2], rfl, rfl, rfl⟩
theorem DiskExecutes_law (w : World) (p : Nat) (hp : p < 256) (A : Option Addr) (c : Nat) (xs : List S38) (hC : Kd.C k38 w A xs.length xs) (hl : xs.length ≤ c) :
    Calls Try.prog 9 #[.int .u8 p, .slice A xs.length c] w fun e w' => e = .returned (.bool true) ∧ Below w.heap.size w w' := by
  have h := DiskExecutes_any w p hp A c _ (C_kop hC)
  rw [List.length_map] at h
  exact h
end Go.Proofs.Ytccomlafacdcjaa.Dk
