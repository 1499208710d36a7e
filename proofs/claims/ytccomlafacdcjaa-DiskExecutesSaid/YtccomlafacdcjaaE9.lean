/-
  The reference's Execute, and ContainsFunc of DiskExecutes: contracts on things apart.
-/
import Derived.Test.YtccomlafacdcjaaF5
namespace Go.Proofs.Ytccomlafacdcjaa.Dk
open Go.RowKit Go.Proofs.YtccomlafacdcjaaW.PrintWords Go.Proofs.YtccomlafacdcjaaW.PrintMore
open Go.Proofs.Ytccomlafacdcjaa.Ref
set_option linter.unusedVariables false

theorem writeD_none (t : DS) (p : Int) (x : ByteArray) (hz : (writeD t p x).2 ≠ 0) : (writeD t p x).1 = t := by
  unfold writeD at hz ⊢
  by_cases h1 : hasB t.dur.length p = false
  · rw [if_pos h1]
  · by_cases h2 : x.size ≠ 512
    · rw [if_neg h1, if_pos h2]
    · rw [if_neg h1, if_neg h2] at hz; exact absurd rfl hz

set_option maxRecDepth 100000 in
theorem refWrite_range (w : World) (A0 A1 : Option Addr) (n0 c0 n1 c1 : Nat) (p : Int) (x : ByteArray) (h : p < 0 ∨ (n0 : Int) ≤ p) (hn : n0 ≤ 4096) :
    Calls Try.prog 36 #[.agg #[.slice A0 n0 c0, .slice A1 n1 c1], .int .i64 p, .string x] w fun e w' => e = .returned (.tuple #[.agg #[.slice A0 n0 c0, .slice A1 n1 c1], .int .i64 2]) ∧ Below w.heap.size w w' := by
  rcases h with h | h
  · go_enter Try.func36, Try.ntmps36
    go_wp2
    exact bodyPost_ret (v := .tuple #[.agg #[.slice A0 n0 c0, .slice A1 n1 c1], .int .i64 2]) (by simp [results, Try.results36, go_sem]) rfl ⟨rfl, ((Below.refl _ _).alloc (Nat.le_refl _) _).alloc (by simp) _⟩
  · have h0 : ¬ p < 0 := by omega
    go_enter Try.func36, Try.ntmps36
    go_wp2
    exact bodyPost_ret (v := .tuple #[.agg #[.slice A0 n0 c0, .slice A1 n1 c1], .int .i64 2]) (by simp [results, Try.results36, go_sem]) rfl ⟨rfl, ((Below.refl _ _).alloc (Nat.le_refl _) _).alloc (by simp) _⟩

set_option maxRecDepth 100000 in
theorem refWrite_arg (w : World) (A0 A1 : Option Addr) (n0 c0 n1 c1 : Nat) (p : Int) (x : ByteArray) (h0 : 0 ≤ p) (h1 : p < (n0 : Int)) (hn : n0 ≤ 4096) (hx : ((x.size : Int) != 512) = true) :
    Calls Try.prog 36 #[.agg #[.slice A0 n0 c0, .slice A1 n1 c1], .int .i64 p, .string x] w fun e w' => e = .returned (.tuple #[.agg #[.slice A0 n0 c0, .slice A1 n1 c1], .int .i64 1]) ∧ Below w.heap.size w w' := by
  go_enter Try.func36, Try.ntmps36
  go_wp2
  exact bodyPost_ret (v := .tuple #[.agg #[.slice A0 n0 c0, .slice A1 n1 c1], .int .i64 1]) (by simp [results, Try.results36, go_sem]) rfl ⟨rfl, ((Below.refl _ _).alloc (Nat.le_refl _) _).alloc (by simp) _⟩

theorem refWrite_bad (w : World) (A0 A1 : Option Addr) (c0 n1 c1 : Nat) (s : DS) (p : Int) (x : ByteArray) (hd : s.dur.length ≤ 4096) (hz : (writeD s p x).2 ≠ 0) :
    Calls Try.prog 36 #[.agg #[.slice A0 s.dur.length c0, .slice A1 n1 c1], .int .i64 p, .string x] w fun e w' => e = .returned (.tuple #[.agg #[.slice A0 s.dur.length c0, .slice A1 n1 c1], .int .i64 (writeD s p x).2]) ∧ Below w.heap.size w w' := by
  unfold writeD at hz ⊢
  by_cases h1 : hasB s.dur.length p = false
  · rw [if_pos h1]
    exact refWrite_range w A0 A1 _ c0 n1 c1 p x (by simp [hasB] at h1; omega) hd
  · have h1' : 0 ≤ p ∧ p < s.dur.length := by simpa [hasB] using h1
    by_cases h2 : x.size ≠ 512
    · rw [if_neg h1, if_pos h2]
      exact refWrite_arg w A0 A1 _ c0 n1 c1 p x h1'.1 h1'.2 hd (by simp; omega)
    · rw [if_neg h1, if_neg h2] at hz; exact absurd rfl hz

attribute [local irreducible] Sep diskT rowT refT boxT
theorem refWrite_badS {w0 w : World} {ts : List Th} (h : SepT w0 w ts) (A0 A1 : Option Addr) (c0 n1 c1 : Nat) (s : DS) (p : Int) (x : ByteArray) (hd : s.dur.length ≤ 4096) (hz : (writeD s p x).2 ≠ 0) :
    Calls Try.prog 36 #[.agg #[.slice A0 s.dur.length c0, .slice A1 n1 c1], .int .i64 p, .string x] w fun e w' => e = .returned (.tuple #[.agg #[.slice A0 s.dur.length c0, .slice A1 n1 c1], .int .i64 (writeD s p x).2]) ∧ SepT w0 w' ts := by
  refine (refWrite_bad w A0 A1 c0 n1 c1 s p x hd hz).mono ?_
  rintro e w1 ⟨rfl, hb⟩
  exact ⟨rfl, h.below hb⟩
set_option maxHeartbeats 1000000 in
set_option maxRecDepth 100000 in
theorem refDo_bad {w0 w : World} {ts : List Th} (S0 : SepT w0 w ts) (A0 A1 : Option Addr) (c0 n1 c1 : Nat) (s : DS) (p : Int) (x : ByteArray) (hd : s.dur.length ≤ 4096) (hz : (writeD s p x).2 ≠ 0) :
    Calls Try.prog 45 #[.agg #[.slice A0 s.dur.length c0, .slice A1 n1 c1], .agg #[.int .i64 p, .string x, .bool false]] w fun e w' => e = .returned (.tuple #[.agg #[.slice A0 s.dur.length c0, .slice A1 n1 c1], .int .i64 (writeD s p x).2]) ∧ SepT w0 w' ts := by
  have HZ := Aside0.mk hz
  clear hz
  have S := Aside0.mk (((S0.allocBox #[.slice A0 s.dur.length c0, .slice A1 n1 c1] 32).allocBox #[.int .i64 p, .string x, .bool false] 38).allocBox #[.slice none 0 0, .slice none 0 0] 32)
  simp only [World.size_alloc] at S
  clear S0
  go_enter Try.func45, Try.ntmps45
  go_wp2_with (go_at_call 36; have hc := refWrite_badS S.out A0 A1 c0 n1 c1 s p x hd HZ.out; go_fit hc; clear hc; rintro e w1 ⟨rfl, hs⟩; clear S; have S := Aside0.mk hs; clear hs; have x6 := (SepT.box S.out m0).1; have d0 : w1.cell? ⟨w.heap.size + 1 + 1, 0, none⟩ = some (.slice none 0 0) := (blk_cell x6 0).trans rfl; have d1 : w1.cell? ⟨w.heap.size + 1 + 1, 1, none⟩ = some (.slice none 0 0) := (blk_cell x6 1).trans rfl; have e0 := blk_frozen x6 0; have e1 := blk_frozen x6 1; clear x6)
  have S2 := Aside0.mk ((S.out.setBox 0 (.slice A0 s.dur.length c0)).setBox 1 (.slice A1 n1 c1))
  clear d0 d1 e0 e1 S
  generalize World.setCell (World.setCell _ _ _) _ _ = W2 at S2 ⊢
  have x6 : W2.heap[w.heap.size + 1 + 1]? = some (.cells #[.slice A0 s.dur.length c0, .slice A1 n1 c1] 32 (0, 0)) := (SepT.box S2.out m0).1
  refine bodyPost_ret (results_ct rfl _ _ (w.heap.size + 1 + 1) 32 #[.slice A0 s.dur.length c0, .slice A1 n1 c1] (0, 0) _ rfl x6 Try.underlying32 rfl (by kernel_rfl)) rfl ?_
  exact ⟨rfl, SepT.drop (SepT.drop (SepT.drop S2.out))⟩

/-- A step of a plan. -/
def stepE (s : DS) (p : Int) (x : ByteArray) (b : Bool) : DS := if b = true then syncD s else (writeD s p x).1
theorem execD_step (t : DS) (p : Int) (x : ByteArray) (b : Bool) (l : List (Int × ByteArray × Bool)) (hz : b = false → (writeD t p x).2 = 0) : execD t ((p, x, b) :: l) = execD (stepE t p x b) l := by
  cases b with
  | true => rfl
  | false => simp [execD, stepE, hz rfl]
theorem stepE_pen (t : DS) (p : Int) (x : ByteArray) (b : Bool) : (stepE t p x b).pen.length ≤ t.pen.length + 1 := by
  unfold stepE; split
  · rw [syncD_pen]; simp
  · exact writeD_pen t p x
theorem stepE_dur (t : DS) (p : Int) (x : ByteArray) (b : Bool) : (stepE t p x b).dur.length = t.dur.length := by
  unfold stepE; split
  · rw [syncD_dur, flush_length]
  · rw [writeD_dur]
theorem writeD_in (t : DS) (p : Int) (x : ByteArray) (h : ∀ y ∈ t.pen, 0 ≤ y.1 ∧ y.1 < t.dur.length) : ∀ y ∈ (writeD t p x).1.pen, 0 ≤ y.1 ∧ y.1 < (writeD t p x).1.dur.length := by
  intro y hy
  rw [writeD_dur]
  unfold writeD at hy
  by_cases h1 : hasB t.dur.length p = false
  · rw [if_pos h1] at hy; exact h y hy
  · by_cases h2 : x.size ≠ 512
    · rw [if_neg h1, if_pos h2] at hy; exact h y hy
    · rw [if_neg h1, if_neg h2, noted_pen] at hy
      rcases List.mem_append.1 hy with hy | hy
      · exact h y hy
      · simp at hy
        subst hy
        simpa [hasB] using h1
theorem stepE_in (t : DS) (p : Int) (x : ByteArray) (b : Bool) (h : ∀ y ∈ t.pen, 0 ≤ y.1 ∧ y.1 < t.dur.length) : ∀ y ∈ (stepE t p x b).pen, 0 ≤ y.1 ∧ y.1 < (stepE t p x b).dur.length := by
  unfold stepE; split
  · rw [syncD_pen]; simp
  · exact writeD_in t p x h
theorem do_f (s : DS) (hd : s.dur.length ≤ 4096) (hl : s.pen.length < 1000000) (hb : ∀ x ∈ s.pen, 0 ≤ x.1 ∧ x.1 < s.dur.length) (p : Int) (x : ByteArray) (b : Bool) (hz : b = false → (writeD s p x).2 = 0) :
    ∃ k, modcertref50_Do.f k s.dur (pen81 s.pen) p x b = some ((stepE s p x b).dur, pen81 (stepE s p x b).pen, 0) := by
  cases b with
  | true =>
    refine ⟨s.pen.length + 1, ?_⟩
    unfold modcertref50_Do.f stepE
    rw [if_pos rfl, if_pos rfl, sync_f s.dur hd s.pen (by omega) hb, Option.bind_some, syncD_dur, syncD_pen]
    rfl
  | false =>
    refine ⟨1, ?_⟩
    unfold modcertref50_Do.f stepE
    rw [if_neg (by decide), if_neg (by decide), write_f s hd (by omega) p x, Option.bind_some, writeD_dur, hz rfl]
theorem refDo_S {w0 w : World} {ts : List Th} {v0 v1 : Value} (s : DS) (h : SepT w0 w (refT w0.heap.size v0 v1 s.dur s.pen :: ts)) (p : Int) (x : ByteArray) (b : Bool) (hd : s.dur.length ≤ 4096) (hlen : s.pen.length < 1000000) (hb : ∀ x ∈ s.pen, 0 ≤ x.1 ∧ x.1 < s.dur.length) (hz : b = false → (writeD s p x).2 = 0) :
    Calls Try.prog 45 #[.agg #[v0, v1], .agg #[.int .i64 p, .string x, .bool b]] w fun e w' => ∃ A0 n0 c0 A1 n1 c1, e = .returned (.tuple #[.agg #[.slice A0 n0 c0, .slice A1 n1 c1], .int .i64 0]) ∧ SepT w0 w' (refT w0.heap.size (.slice A0 n0 c0) (.slice A1 n1 c1) (stepE s p x b).dur (stepE s p x b).pen :: ts) := by
  obtain ⟨k, hf⟩ := do_f s hd hlen hb p x b hz
  have hbase := Sep.base h
  obtain ⟨ok, h12, _, hk⟩ := h.focus
  have h12' : Kd.R Kd.string 9 w w0.heap.size ok v0 s.dur ∧ Kd.R k81 81 w w0.heap.size ok v1 (pen81 s.pen) := by unfold refT at h12; exact h12
  obtain ⟨h1, h2⟩ := h12'
  refine (modcertref50_Do.calls k ok v0 s.dur ok v1 (pen81 s.pen) p x b _ _ _ w0 w hbase h1 h2 hf).mono ?_
  rintro e w1 ⟨u0, u1, rfl, hR0, hR1, hb, hK⟩
  have h' := hk w1 (refT w0.heap.size u0 u1 (stepE s p x b).dur (stepE s p x b).pen) ⟨hb.os.trans hbase.os.symm, hb.tape.trans hbase.tape.symm, hb.output.trans hbase.output.symm, hK.1, fun k hk hn => hK.2 k hk (fun h => hn (h.elim id id))⟩ (by unfold refT; exact ⟨Kd.R_mono hR0 (fun k hk => hk.elim (fun h => .inl (h.elim id id)) .inr), Kd.R_mono hR1 (fun k hk => hk.elim (fun h => .inl (h.elim id id)) .inr)⟩)
  obtain ⟨A0, n0, c0, A1, n1, c1, rfl, rfl⟩ := SepT.refForm h' m0
  exact ⟨A0, n0, c0, A1, n1, c1, rfl, h'⟩

/-- Behind a step of the reference's plan. -/
def MidE (w0 wx : World) (ts : List Th) (b2 : Nat) (v0 v1 : Value) (t : DS) (v7 v8 : Value) : Prop := ∃ (b7 : Nat) (B2 : Option Addr) (k2 j2 : Nat) (B3 : Option Addr) (k3 j3 : Nat), v7 = .pointer (some ⟨b7, 0, none⟩) ∧ v8 = .int .i64 0 ∧
  SepT w0 wx (boxT b7 #[.slice B2 k2 j2, .slice B3 k3 j3] 32 :: boxT b2 #[v0, v1] 32 :: refT w0.heap.size (.slice B2 k2 j2) (.slice B3 k3 j3) t.dur t.pen :: boxT (b2 + 1) #[.slice none 0 0, .slice none 0 0] 32 :: ts)
set_option maxHeartbeats 2000000 in
set_option maxRecDepth 100000 in
theorem refExecute_S {w0 w : World} {ts : List Th} {A0 A1 A : Option Addr} {n0 c0 n1 c1 c : Nat} (s : DS) (S0 : SepT w0 w (refT w0.heap.size (.slice A0 n0 c0) (.slice A1 n1 c1) s.dur s.pen :: ts)) (l : List (Int × ByteArray × Bool)) (hP : Kd.C kop w0 A l.length l) (hd : s.dur.length ≤ 4096) (hlen : s.pen.length + l.length < 1000000) (hb : ∀ x ∈ s.pen, 0 ≤ x.1 ∧ x.1 < s.dur.length) :
    Calls Try.prog 33 #[.agg #[.slice A0 n0 c0, .slice A1 n1 c1], .slice A l.length c] w fun e w' => ∃ A0 n0 c0 A1 n1 c1, e = .returned (.tuple #[.agg #[.slice A0 n0 c0, .slice A1 n1 c1], .int .i64 (execD s l).2]) ∧ SepT w0 w' (refT w0.heap.size (.slice A0 n0 c0) (.slice A1 n1 c1) (execD s l).1.dur (execD s l).1.pen :: ts) := by
  have S := Aside0.mk (((S0.allocBox #[.slice A0 n0 c0, .slice A1 n1 c1] 32).allocBox #[.slice none 0 0, .slice none 0 0] 32))
  simp only [World.size_alloc] at S
  clear S0
  have HP := Aside0.mk hP
  have HB := Aside0.mk hb
  clear hP hb
  go_enter Try.func33, Try.ntmps33
  go_wp2
  generalize hz2 : w.heap.size = b2 at S ⊢
  clear hz2
  go_loopw [6] (fun v6 wr => ∃ (k : Nat) (t : DS) (B0 : Option Addr) (k0 j0 : Nat) (B1 : Option Addr) (k1 j1 : Nat), k ≤ l.length ∧ v6 = .int .i64 k ∧ Aside0 (execD s l = execD t (l.drop k)) ∧ t.dur.length = s.dur.length ∧ t.pen.length ≤ s.pen.length + k ∧ Aside0 (∀ x ∈ t.pen, 0 ≤ x.1 ∧ x.1 < t.dur.length) ∧ Aside0 (SepT w0 wr (boxT (b2 + 1) #[.slice none 0 0, .slice none 0 0] 32 :: boxT b2 #[.slice B0 k0 j0, .slice B1 k1 j1] 32 :: refT w0.heap.size (.slice B0 k0 j0) (.slice B1 k1 j1) t.dur t.pen :: ts))) (fun v6 _ => l.length - (intOf v6).toNat)
  case atStart => exact ⟨0, s, A0, n0, c0, A1, n1, c1, Nat.zero_le _, rfl, ⟨rfl⟩, rfl, by omega, HB, S⟩
  case round =>
    clear S
    obtain ⟨k, t, B0, k0, j0, B1, k1, j1, hk, rfl, hE, htd, htp, HI, S⟩ := hrel
    obtain ⟨rfl, rfl⟩ := SepT.refLen S.out m2
    have x12 := (SepT.box S.out m1).1
    have hb12 := blk_lt x12
    by_cases hlt : k < l.length
    · have hlt2 : (k : Int) < l.length := by omega
      obtain ⟨ad, hAd, d0, d1, d2⟩ := op_at HP.out k (by omega) (by omega)
      subst hAd
      simp only [Int.toNat_natCast] at d0 d1 d2
      have hdr : l.drop k = (l.getD k (0, nb, false)) :: l.drop (k + 1) := by
        rw [List.drop_eq_getElem_cons hlt]; simp [List.getD, hlt]
      rw [hdr] at hE
      clear hdr
      generalize l.getD k (0, nb, false) = y at hE d0 d1 d2
      obtain ⟨p, x, b⟩ := y
      dsimp only at d0 d1 d2
      have hT1 : t.dur.length ≤ 4096 := by omega
      have hT2 : t.pen.length < 1000000 := by omega
      have HTD := Aside0.mk htd
      clear htd
      have HK : Aside0 (∀ (W : World) (ts' : List Th), SepT w0 W ts' → boxT b2 #[.slice B0 t.dur.length j0, .slice B1 t.pen.length j1] 32 ∈ ts' → W.cell? ⟨b2, 0, none⟩ = some (.slice B0 t.dur.length j0) ∧ W.cell? ⟨b2, 1, none⟩ = some (.slice B1 t.pen.length j1) ∧ W.cell? (ad.add (k * 3)) = some (.int .i64 p) ∧ W.cell? ⟨(ad.add (k * 3)).block, (ad.add (k * 3)).off + 1, none⟩ = some (.string x) ∧ W.cell? ⟨(ad.add (k * 3)).block, (ad.add (k * 3)).off + 2, none⟩ = some (.bool b)) := ⟨fun W ts' h hm =>
        ⟨(blk_cell (SepT.box h hm).1 0).trans rfl, (blk_cell (SepT.box h hm).1 1).trans rfl, pw_cell_below (Sep.base h) d0, pw_cell_below (Sep.base h) d1, pw_cell_below (Sep.base h) d2⟩⟩
      clear d0 d1 d2 x12
      by_cases hg : b = false ∧ (writeD t p x).2 ≠ 0
      · obtain ⟨hb, hz⟩ := hg
        subst hb
        have hE2 : Aside0 (execD s l = writeD t p x) := ⟨by rw [hE.out]; simp [execD, hz]⟩
        have hwt := Aside0.mk (writeD_none t p x hz)
        have hzb : ((writeD t p x).2 != 0) = true := by simp [hz]
        have HZ := Aside0.mk hz
        clear hz hE
        go_upto_region 4 with fail
        go_cut [8] (fun v8 wx => v8 = .int .i64 (writeD t p x).2 ∧ SepT w0 wx (boxT (b2 + 1) #[.slice none 0 0, .slice none 0 0] 32 :: boxT b2 #[.slice B0 t.dur.length j0, .slice B1 t.pen.length j1] 32 :: refT w0.heap.size (.slice B0 t.dur.length j0) (.slice B1 t.pen.length j1) t.dur t.pen :: ts))
        case first =>
          have S1 := Aside0.mk S.out.drew
          clear S
          have S := S1
          clear S1
          go_region_held3 (fun W => W.cell? ⟨b2, 0, none⟩ = some (.slice B0 t.dur.length j0) ∧ W.cell? ⟨b2, 1, none⟩ = some (.slice B1 t.pen.length j1) ∧ W.cell? (ad.add (k * 3)) = some (.int .i64 p) ∧ W.cell? ⟨(ad.add (k * 3)).block, (ad.add (k * 3)).off + 1, none⟩ = some (.string x) ∧ W.cell? ⟨(ad.add (k * 3)).block, (ad.add (k * 3)).off + 2, none⟩ = some (.bool false)) (first | exact HK.out _ _ S.out m2 | exact HK.out _ _ S.out m1 | exact HK.out _ _ (S.out.allocBox #[.slice none 0 0, .slice none 0 0] 32) m2 | exact HK.out _ _ (S.out.allocBox #[.slice B0 t.dur.length j0, .slice B1 t.pen.length j1] 32) m2 | exact HK.out _ _ ((S.out.setBox 0 (.slice B0 t.dur.length j0)).setBox 1 (.slice B1 t.pen.length j1)) m2)
            (first
              | (go_at_call 45; have hc := refDo_bad S.out B0 B1 j0 t.pen.length j1 t p x hT1 HZ.out; go_fit hc; clear hc; rintro e w2 ⟨rfl, hs⟩; clear S; have S := Aside0.mk hs; clear hs)
              | (go_at_call 45; have hc := refDo_bad (S.out.allocBox #[.slice none 0 0, .slice none 0 0] 32) B0 B1 j0 t.pen.length j1 t p x hT1 HZ.out; go_fit hc; clear hc; rintro e w2 ⟨rfl, hs⟩; clear S; have S := Aside0.mk hs; clear hs; have x7 := (SepT.box S.out m0).1; have f0 : w2.cell? ⟨wr.heap.size, 0, none⟩ = some (.slice none 0 0) := (blk_cell x7 0).trans rfl; have f1 : w2.cell? ⟨wr.heap.size, 1, none⟩ = some (.slice none 0 0) := (blk_cell x7 1).trans rfl; have f2 := blk_frozen x7 0; have f3 := blk_frozen x7 1; have f4 := blk_lt x7; simp only [World.size_drew] at f2 f3 f4; clear x7))
          · have S1 := Aside0.mk (SepT.drop (S.out.allocBox #[.slice B0 t.dur.length j0, .slice B1 t.pen.length j1] 32))
            clear S
            go_wp2_with fail
            go_meet
            exact ⟨rfl, S1.out⟩
          · have S1 := Aside0.mk (SepT.drop ((S.out.setBox 0 (.slice B0 t.dur.length j0)).setBox 1 (.slice B1 t.pen.length j1)))
            clear S f0 f1 f2 f3 f4
            go_wp2_with fail
            go_meet
            exact ⟨rfl, S1.out⟩
        case rest =>
          obtain ⟨rfl, hs⟩ := hcut
          clear S
          have x4 := (SepT.box hs m0).1
          have x2 := (SepT.box hs m1).1
          have y0 : wc.cell? ⟨b2, 0, none⟩ = some (.slice B0 t.dur.length j0) := (blk_cell x2 0).trans rfl
          have y1 : wc.cell? ⟨b2, 1, none⟩ = some (.slice B1 t.pen.length j1) := (blk_cell x2 1).trans rfl
          have e0 := blk_frozen x4 0
          have e1 := blk_frozen x4 1
          have y2 : wc.cell? ⟨b2 + 1, 0, none⟩ = some (.slice none 0 0) := (blk_cell x4 0).trans rfl
          have y3 : wc.cell? ⟨b2 + 1, 1, none⟩ = some (.slice none 0 0) := (blk_cell x4 1).trans rfl
          have S2 := Aside0.mk ((hs.setBox 0 (.slice B0 t.dur.length j0)).setBox 1 (.slice B1 t.pen.length j1))
          clear x2 x4 hs
          go_wp2
          clear y0 y1 y2 y3 e0 e1
          generalize World.setCell (World.setCell _ _ _) _ _ = W2 at S2 ⊢
          have x6 : W2.heap[b2 + 1]? = some (.cells #[.slice B0 t.dur.length j0, .slice B1 t.pen.length j1] 32 (0, 0)) := (SepT.box S2.out m0).1
          refine bodyPost_ret (results_ct rfl _ _ (b2 + 1) 32 #[.slice B0 t.dur.length j0, .slice B1 t.pen.length j1] (0, 0) _ rfl x6 Try.underlying32 rfl (by kernel_rfl)) rfl ?_
          rw [hE2.out, hwt.out]
          exact ⟨B0, _, j0, B1, _, j1, rfl, SepT.drop (SepT.drop S2.out)⟩
      · have hz : b = false → (writeD t p x).2 = 0 := fun hb => Classical.byContradiction fun hn => hg ⟨hb, hn⟩
        have HZ := Aside0.mk hz
        clear hg hz
        go_upto_region 4 with fail
        go_cut [7, 8] (fun v7 v8 wx => MidE w0 wx ts b2 (.slice B0 t.dur.length j0) (.slice B1 t.pen.length j1) (stepE t p x b) v7 v8)
        case first =>
          have S1 := Aside0.mk S.out.third.drew
          clear S
          have S := S1
          clear S1
          go_region_held3 (fun W => W.cell? ⟨b2, 0, none⟩ = some (.slice B0 t.dur.length j0) ∧ W.cell? ⟨b2, 1, none⟩ = some (.slice B1 t.pen.length j1) ∧ W.cell? (ad.add (k * 3)) = some (.int .i64 p) ∧ W.cell? ⟨(ad.add (k * 3)).block, (ad.add (k * 3)).off + 1, none⟩ = some (.string x) ∧ W.cell? ⟨(ad.add (k * 3)).block, (ad.add (k * 3)).off + 2, none⟩ = some (.bool b)) (first | exact HK.out _ _ S.out m2 | exact HK.out _ _ (S.out.allocBox #[.slice none 0 0, .slice none 0 0] 32) m3' | exact HK.out _ _ (S.out.allocBox #[.slice B2 k2 j2, .slice B3 k3 j3] 32) m3' | exact HK.out _ _ S.out m3' | exact HK.out _ _ ((S.out.swap.setBox 0 (.slice B2 k2 j2)).setBox 1 (.slice B3 k3 j3)) m3')
            (first
              | (go_at_call 45; have hc := refDo_S t S.out p x b hT1 hT2 HI.out HZ.out; go_fit hc; clear hc; rintro e w2 ⟨B2, k2, j2, B3, k3, j3, rfl, hs⟩; clear S; have S := Aside0.mk hs; clear hs)
              | (go_at_call 45; have hc := refDo_S t (S.out.allocBox #[.slice none 0 0, .slice none 0 0] 32).swap p x b hT1 hT2 HI.out HZ.out; go_fit hc; clear hc; rintro e w2 ⟨B2, k2, j2, B3, k3, j3, rfl, hs⟩; clear S; have S := Aside0.mk hs; clear hs; have x7 := (SepT.box S.out m1).1; have f0 : w2.cell? ⟨wr.heap.size, 0, none⟩ = some (.slice none 0 0) := (blk_cell x7 0).trans rfl; have f1 : w2.cell? ⟨wr.heap.size, 1, none⟩ = some (.slice none 0 0) := (blk_cell x7 1).trans rfl; have f2 := blk_frozen x7 0; have f3 := blk_frozen x7 1; have f4 := blk_lt x7; simp only [World.size_drew] at f2 f3 f4; clear x7))
          · have S1 := Aside0.mk (SepT.swap (SepT.fourth (S.out.allocBox #[.slice B2 k2 j2, .slice B3 k3 j3] 32)))
            clear S
            go_wp2_with fail
            go_meet
            exact ⟨_, B2, k2, j2, B3, k3, j3, rfl, rfl, S1.out⟩
          · have S1 := Aside0.mk (SepT.swap (SepT.fourth ((S.out.swap.setBox 0 (.slice B2 k2 j2)).setBox 1 (.slice B3 k3 j3))))
            clear S f0 f1 f2 f3 f4
            go_wp2_with fail
            go_meet
            exact ⟨_, B2, k2, j2, B3, k3, j3, rfl, rfl, S1.out⟩
        case rest =>
          obtain ⟨b7, B2, k2, j2, B3, k3, j3, rfl, rfl, hs⟩ := hcut
          clear S
          have x7 := (SepT.box hs m0).1
          have x2 := (SepT.box hs m1).1
          have c0' : wc.cell? ⟨b7, 0, none⟩ = some (.slice B2 k2 j2) := (blk_cell x7 0).trans rfl
          have c1' : wc.cell? ⟨b7, 1, none⟩ = some (.slice B3 k3 j3) := (blk_cell x7 1).trans rfl
          have g0 : wc.cell? ⟨b2, 0, none⟩ = some (.slice B0 t.dur.length j0) := (blk_cell x2 0).trans rfl
          have g1 : wc.cell? ⟨b2, 1, none⟩ = some (.slice B1 t.pen.length j1) := (blk_cell x2 1).trans rfl
          have e0 := blk_frozen x2 0
          have e1 := blk_frozen x2 1
          clear x7 x2
          have S1 := Aside0.mk ((hs.drop.setBox 0 (.slice B2 k2 j2)).setBox 1 (.slice B3 k3 j3))
          have S2 := Aside0.mk (show SepT w0 _ (boxT b2 #[.slice B2 k2 j2, .slice B3 k3 j3] 32 :: refT w0.heap.size (.slice B2 k2 j2) (.slice B3 k3 j3) (stepE t p x b).dur (stepE t p x b).pen :: boxT (b2 + 1) #[.slice none 0 0, .slice none 0 0] 32 :: ts) from S1.out)
          have S := Aside0.mk S2.out.third
          clear S1 S2 hs
          have hE2 : Aside0 (execD s l = execD (stepE t p x b) (l.drop (k + 1))) := ⟨by rw [hE.out]; exact execD_step t p x b _ HZ.out⟩
          have hP2 : Aside0 ((stepE t p x b).pen.length ≤ t.pen.length + 1) := ⟨stepE_pen t p x b⟩
          have hD2 : Aside0 ((stepE t p x b).dur.length = t.dur.length) := ⟨stepE_dur t p x b⟩
          have hI2 : Aside0 (∀ y ∈ (stepE t p x b).pen, 0 ≤ y.1 ∧ y.1 < (stepE t p x b).dur.length) := ⟨stepE_in t p x b HI.out⟩
          go_wp2
          go_roundw
          case rel => exact ⟨k + 1, stepE t p x b, B2, k2, j2, B3, k3, j3, by omega, by go_num, hE2, by rw [hD2.out, HTD.out], by have := hP2.out; omega, hI2, S⟩
          case measure => simp [intOf]; omega
    · obtain rfl : k = l.length := by omega
      have hE2 : Aside0 (execD s l = (t, 0)) := ⟨by rw [hE.out, List.drop_length]; rfl⟩
      have x4 := (SepT.box S.out m0).1
      have y0 : wr.cell? ⟨b2, 0, none⟩ = some (.slice B0 t.dur.length j0) := (blk_cell x12 0).trans rfl
      have y1 : wr.cell? ⟨b2, 1, none⟩ = some (.slice B1 t.pen.length j1) := (blk_cell x12 1).trans rfl
      have e0 := blk_frozen x4 0
      have e1 := blk_frozen x4 1
      have y2 : wr.cell? ⟨b2 + 1, 0, none⟩ = some (.slice none 0 0) := (blk_cell x4 0).trans rfl
      have y3 : wr.cell? ⟨b2 + 1, 1, none⟩ = some (.slice none 0 0) := (blk_cell x4 1).trans rfl
      have S2 := Aside0.mk ((S.out.setBox 0 (.slice B0 t.dur.length j0)).setBox 1 (.slice B1 t.pen.length j1))
      clear x12 x4 S hE htd
      go_wp2
      clear y0 y1 y2 y3 e0 e1
      generalize World.setCell (World.setCell _ _ _) _ _ = W2 at S2 ⊢
      have x6 : W2.heap[b2 + 1]? = some (.cells #[.slice B0 t.dur.length j0, .slice B1 t.pen.length j1] 32 (0, 0)) := (SepT.box S2.out m0).1
      refine bodyPost_ret (results_ct rfl _ _ (b2 + 1) 32 #[.slice B0 t.dur.length j0, .slice B1 t.pen.length j1] (0, 0) _ rfl x6 Try.underlying32 rfl (by kernel_rfl)) rfl ?_
      rw [hE2.out]
      exact ⟨B0, _, j0, B1, _, j1, rfl, SepT.drop (SepT.drop S2.out)⟩
end Go.Proofs.Ytccomlafacdcjaa.Dk
