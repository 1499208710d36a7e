/-
  DiskApart, walked.
-/
import Derived.Test.YtccomlafacdcjaaF5
namespace Go.Proofs.Ytccomlafacdcjaa.Dk
open Go.RowKit Go.Proofs.YtccomlafacdcjaaW.PrintWords Go.Proofs.YtccomlafacdcjaaW.PrintMore
open Go.Proofs.Ytccomlafacdcjaa.Ref
set_option linter.unusedVariables false

/-- The choices as they were drawn. -/
def rawOf (own : List Int) (i : Nat) : Int := m3 (own.getD i 0)
theorem crashAt_congr (f g : Nat → Int) : ∀ (l : List (Int × ByteArray)) (i : Nat) (d : List ByteArray), (∀ j, i ≤ j → j < i + l.length → f j = g j) → crashAt f i d l = crashAt g i d l
  | [], _, _, _ => rfl
  | x :: l, i, d, h => by
    rw [crashAt, crashAt, h i (Nat.le_refl _) (by simp), crashAt_congr f g l (i + 1) _ (fun j h1 h2 => h j (by omega) (by simp; omega))]
theorem choiceOf_raw (own : List Int) (i : Nat) (h : i < own.length) : choiceOf own i = rawOf own i := by
  have hne : own ≠ [] := by intro e; rw [e] at h; simp at h
  unfold choiceOf rawOf some1
  rw [if_neg hne, Nat.mod_eq_of_lt h]
  simp [rd]
theorem choiceOf_pick (cs : List Int) (i : Nat) : choiceOf cs i = m3 (if cs = [] then 0 else cs.getD (i % cs.length) 0) := by
  unfold choiceOf some1
  by_cases h : cs = []
  · rw [if_pos h, if_pos h]
    have e : rd [(0 : Int)] ((i % [(0 : Int)].length : Nat) : Int) = 0 := by simp [rd, Nat.mod_one]
    rw [e]
  · rw [if_neg h, if_neg h]
    unfold rd
    rw [Int.toNat_natCast]
/-- What a page has behind the crash, by all writes and by its own. -/
structure Apt (cs : List Int) (q : Nat) (d : List ByteArray) (pd pe : List (Int × ByteArray)) (own : List Int) : Prop where
  len : own.length = pe.length
  same : (crashAt (choiceOf cs) 0 d pd).getD q nb = (crashAt (rawOf own) 0 d pe).getD q nb
theorem Apt.start (cs : List Int) (q : Nat) (d : List ByteArray) : Apt cs q d [] [] [] := ⟨rfl, rfl⟩
theorem stepC_other (c : Int) (d : List ByteArray) (p : Int) (x : ByteArray) (q : Nat) (h : p.toNat ≠ q) : (stepC c d (p, x)).getD q nb = d.getD q nb := by
  unfold stepC
  split
  · simp [List.getD, List.getElem?_set_ne h]
  · split
    · simp [List.getD, List.getElem?_set_ne h]
    · rfl
theorem stepC_same (c : Int) (d d' : List ByteArray) (p : Int) (x : ByteArray) (q : Nat) (hp : p.toNat = q) (hl : d.length = d'.length) (h : d.getD q nb = d'.getD q nb) : (stepC c d (p, x)).getD q nb = (stepC c d' (p, x)).getD q nb := by
  unfold stepC
  split
  · simp [List.getD, List.getElem?_set, hp, hl]
  · split
    · simp [List.getD, List.getElem?_set, hp, hl]
    · exact h
theorem Apt.other {cs : List Int} {q : Nat} {d : List ByteArray} {pd pe : List (Int × ByteArray)} {own : List Int} (h : Apt cs q d pd pe own) (p : Int) (x : ByteArray) (hp : p.toNat ≠ q) : Apt cs q d (pd ++ [(p, x)]) pe own := by
  refine ⟨h.len, ?_⟩
  rw [crashAt_snoc, stepC_other _ _ _ _ _ hp]
  exact h.same
theorem Apt.mine {cs : List Int} {q : Nat} {d : List ByteArray} {pd pe : List (Int × ByteArray)} {own : List Int} (h : Apt cs q d pd pe own) (p : Int) (x : ByteArray) (hp : p.toNat = q) : Apt cs q d (pd ++ [(p, x)]) (pe ++ [(p, x)]) (own ++ [if cs = [] then 0 else cs.getD (pd.length % cs.length) 0]) := by
  refine ⟨by simp [h.len], ?_⟩
  rw [crashAt_snoc, crashAt_snoc, Nat.zero_add, Nat.zero_add, choiceOf_pick]
  have e1 : rawOf (own ++ [if cs = [] then 0 else cs.getD (pd.length % cs.length) 0]) pe.length = m3 (if cs = [] then 0 else cs.getD (pd.length % cs.length) 0) := by
    unfold rawOf
    rw [← h.len]
    simp [List.getD]
  have e2 : crashAt (rawOf (own ++ [if cs = [] then 0 else cs.getD (pd.length % cs.length) 0])) 0 d pe = crashAt (rawOf own) 0 d pe := crashAt_congr _ _ _ _ _ (fun j _ hj => by
    have hj2 : j < own.length := by rw [h.len]; omega
    unfold rawOf
    simp [List.getD, List.getElem?_append_left hj2])
  rw [e1, e2]
  exact stepC_same _ _ _ _ _ _ hp (by rw [crashAt_length, crashAt_length]) h.same
theorem Apt.done {cs : List Int} {q : Nat} {d : List ByteArray} {pd pe : List (Int × ByteArray)} {own : List Int} (h : Apt cs q d pd pe own) : (crashAt (choiceOf cs) 0 d pd).getD q nb = (crashAt (choiceOf own) 0 d pe).getD q nb := by
  rw [h.same, crashAt_congr (rawOf own) (choiceOf own) pe 0 d (fun j _ hj => (choiceOf_raw own j (by rw [h.len]; omega)).symm)]
theorem readD_flat (s t : DS) (hs : s.pen = []) (ht : t.pen = []) (hl : s.dur.length = t.dur.length) (q : Int) (h : s.dur.getD q.toNat nb = t.dur.getD q.toNat nb) : readD s q = readD t q := by
  unfold readD
  rw [hs, ht, hl, h]

theorem int_at {w : World} {A : Option Addr} {n : Nat} {xs : List Int} (h : Kd.C (Kd.int .i64) w A n xs) (i : Int) (h0 : 0 ≤ i) (h1 : i < n) : ∃ ad, A = some ad ∧ w.cell? (ad.add i.toNat) = some (.int .i64 (xs.getD i.toNat 0)) := by
  obtain ⟨ad, c, e, _, hK, hc0⟩ := Kd.C_get h 0 i h0 h1
  obtain rfl : c = [.int .i64 (xs.getD i.toNat 0)] := hK
  have hc := hc0 0 _ rfl
  exact ⟨ad, e, by simpa [Kd.int, Kd.scalar] using hc⟩
/-- append onto a row of one's own. -/
theorem SepT.appends {P : Program} {ops : Array Oper} {rest : List Oper} {o : Oper} {a : Act} {Q : Exit → Act → World → Prop} {α : Type} (d : Kd α) {w0 W : World} {ts : List Th} (hgd : o.guard = none) (s x : Operand) (t e : TypeId) (z : Value) (bytes : Nat)
    (ho : o.op = .call { callee := .builtin .append, args := #[s, x], argTypes := #[t, t] })
    (ht : P.underlying t = some (.slice e)) (hinfo : (P.info? e).map (fun i => (i.zero, i.size, i.bytes)) = some (some z, d.sz, bytes)) (hz : z.cells.size = d.sz) (hs0 : 0 < d.sz) (hb0 : 0 < bytes)
    (v : Value) (xs : List α) (p : α) (cs : List Value) (hs : a.eval s = v) (hx : a.eval x = .slice (some ⟨W.heap.size, 0, none⟩) 1 1) (hp : d.M W 0 (fun _ => False) p cs)
    (S : SepT w0 W (rowT d e v xs :: ts)) (hl : (xs.length + 1) * bytes ≤ 140737488355328)
    (h : ∀ A c w1, SepT w0 w1 (rowT d e (.slice A (xs ++ [p]).length c) (xs ++ [p]) :: ts) → wpList P ops Q rest (a.put o.dst (.slice A (xs ++ [p]).length c)) w1) :
    wpList P ops Q (o :: rest) a (W.alloc (.cells cs.toArray e)) := by
  obtain ⟨ok, hR, h0, hk⟩ := S.focus
  have hR' : Kd.R d e W 0 ok v xs := hR
  refine Kd.R_append d (w0 := W) 0 hgd s x t e z bytes ho ht hinfo hz hs0 hb0 v xs p cs (fun k => ok k ∨ W.heap.size ≤ k) (fun _ => False) hs hx hp (fun _ hk => hk.elim) (fun k hk => .inr hk) (Kd.R_mono hR' (fun k hk => .inl hk)) (Below.refl _ _) (Nat.zero_le _) hl ?_
  intro v1 w1 h1 _ hg _
  obtain ⟨A, c, rfl⟩ := Kd.R_slice h1
  exact h A c w1 (hk w1 (rowT d e _ (xs ++ [p])) ((Only.refl ok W).grown hg (fun k hk => .inl (hR'.1 k hk))) h1)
theorem sync_new (n : Nat) : syncD (newD n) = newD n := rfl
theorem clone_new (n : Nat) : { dur := (newD n).dur, pen := (newD n).pen, rc := false, log := [] } = newD n := rfl
theorem new_length (n : Nat) : (newD n).dur.length = n := by simp [newD]
attribute [local irreducible] Sep diskT rowT refT boxT

set_option maxHeartbeats 4000000 in
set_option maxRecDepth 100000 in
theorem DiskApart_few (w : World) (p : Nat) (hp : p < 256) (A : Option Addr) (c : Nat) (l : List S41) (hC : Kd.C k41 w A l.length l) (hl : l.length ≤ c) (hf : fewB l = true)
    (A2 : Option Addr) (c2 : Nat) (cs : List Int) (hC2 : Kd.C (Kd.int .i64) w A2 cs.length cs) (hl2 : cs.length ≤ c2) (hcs : (cs.length : Int) ≤ 20) (y : Nat) (hy : y < 256) :
    Calls Try.prog 6 #[.int .u8 p, .slice A l.length c, .slice A2 cs.length c2, .int .u8 y] w fun e w' => e = .returned (.bool true) ∧ Below w.heap.size w w' := by
  have S := Aside0.mk (SepT.start w)
  have HC := Aside0.mk hC
  have HC2 := Aside0.mk hC2
  clear hC hC2
  have HF := Aside0.mk hf
  have hlen := few_len hf
  have hm := Kd.C_max HC.out
  have hcs2 : cs.length < 1000000 := by omega
  obtain ⟨N, hN⟩ : ∃ N, pagesOf p = N := ⟨_, rfl⟩
  have hN1 : 1 ≤ N := by rw [← hN]; exact (pagesOf_range p).1
  have hN2 : N ≤ 4096 := by rw [← hN]; exact (pagesOf_range p).2
  have HN := Aside0.mk hN
  clear hN
  obtain ⟨s0, hs0⟩ : ∃ s0, newD N = s0 := ⟨_, rfl⟩
  have hsl : s0.dur.length = N := by rw [← hs0]; exact new_length N
  have HS0 := Aside0.mk (show newD (pagesOf p) = s0 by rw [HN.out]; exact hs0)
  have HS1 := Aside0.mk (show syncD s0 = s0 by rw [← hs0]; rfl)
  have HS2 := Aside0.mk (show { dur := s0.dur, pen := s0.pen, rc := false, log := [] } = s0 by rw [← hs0]; rfl)
  have HS3 := Aside0.mk (show s0.pen = [] ∧ s0.log = [] by rw [← hs0]; exact ⟨rfl, rfl⟩)
  have q1 : s0.log.length < 1000000 := by rw [HS3.out.2]; simp
  have q2 : s0.pen.length < 1000000 := by rw [HS3.out.1]; simp
  have HSL := Aside0.mk hsl
  clear hs0 hsl
  have hN1' : (1 : Int) ≤ N := by omega
  have hN2' : (N : Int) ≤ 4096 := by omega
  obtain ⟨q, hq⟩ : ∃ q, y % N = q := ⟨_, rfl⟩
  have hqN : (q : Int) < N := by rw [← hq]; have := Nat.mod_lt y (show 0 < N by omega); omega
  have hq0 : (0 : Int) ≤ q := by omega
  have hqi : (y : Int) % (N : Int) = (q : Int) := by rw [← hq]; rfl
  have hqt : Int.tmod (y : Int) (N : Int) = (q : Int) := by rw [← hq]; rfl
  clear hq
  go_enter Try.func6, Try.ntmps6
  go_wp2_with (first
    | (go_at_call 10; have hc := awake_S S.out; go_fit hc; clear hc; rintro e w1 ⟨rfl, hs⟩; clear S; have S := Aside0.mk hs; clear hs)
    | (go_at_call 11; have hc := Few_S S.out A c l HC.out hl hm; rw [HF.out] at hc; (with_reducible refine hc.mono ?_); clear hc; rintro e w1 ⟨rfl, hs⟩; clear S; have S := Aside0.mk hs; clear hs)
    | (go_at_call 14; have hc := start_S S.out p hp; rw [HS0.out] at hc; go_fit hc; clear hc; rintro e w1 ⟨g, A0, n0, c0, A1, n1, c1, rfl, hs⟩; have S1 := Aside0.mk (hs.allocBox #[.slice A0 n0 c0, .slice A1 n1 c1] 32).third; clear S; have S := S1; clear S1 hs)
    | (go_at_call 25; have hc := Sync_S (s := s0) S.out q1 q2; rw [HS1.out] at hc; go_fit hc; clear hc; rintro e w2 ⟨rfl, hs⟩; clear S; have S := Aside0.mk hs; clear hs)
    | (go_at_call 23; have hc := Clone_S S.out (g := g) (s := s0) m0 q2; rw [HS2.out] at hc; go_fit hc; clear hc; rintro e w3 ⟨ge, rfl, hs⟩; clear S; have S := Aside0.mk hs; clear hs)
    | (go_at_call 22; have hc := Pages_S S.out (g := g) (s := s0) m1; rw [HSL.out] at hc; (with_reducible refine hc.mono ?_); clear hc; rintro e w' ⟨rfl, rfl⟩))
  have S1 := Aside0.mk ((SepT.drop (SepT.third (SepT.drop (SepT.fourth S.out)))).addRow (Below.refl _ _) (Kd.R_nil (Kd.int .i64) 3 _ _ (fun _ => True)))
  clear S
  have S := S1
  clear S1
  clear hqi hqt
  go_loopw [13, 14, 58] (fun v13 v14 v58 wr => ∃ (k : Nat) (sd se : DS) (own : List Int) (B : Option Addr) (cb : Nat), k ≤ l.length ∧ v58 = .int .i64 k ∧ v13 = .int .i64 (sd.pen.length : Nat) ∧ v14 = .slice B own.length cb ∧ Aside0 (Apt cs q s0.dur sd.pen se.pen own ∧ sd.dur = s0.dur ∧ se.dur = s0.dur) ∧ sd.pen.length ≤ k ∧ se.pen.length ≤ k ∧ sd.log.length ≤ k ∧ se.log.length ≤ k ∧ Aside0 (SepT w wr [rowT (Kd.int .i64) 3 (.slice B own.length cb) own, diskT ge se, diskT g sd])) (fun _ _ v58 _ => l.length - (intOf v58).toNat)
  case atStart => exact ⟨0, s0, s0, [], none, 0, Nat.zero_le _, rfl, by rw [HS3.out.1]; rfl, rfl, ⟨by rw [HS3.out.1]; exact Apt.start _ _ _, rfl, rfl⟩, by rw [HS3.out.1]; simp, by rw [HS3.out.1]; simp, by rw [HS3.out.2]; simp, by rw [HS3.out.2]; simp, S⟩
  case round =>
    clear S
    obtain ⟨k, sd, se, own, B, cb, hk, rfl, rfl, rfl, HA, n1, n2, n3, n4, S⟩ := hrel
    by_cases hlt : k < l.length
    · have hlt2 : (k : Int) < l.length := by omega
      obtain ⟨ad, A4, c4, hAd, d0, d1, d2, d3, d4, hl4, hC4⟩ := at_T41 HC.out k (by omega) (by omega)
      subst hAd
      have hB := (Sep.base S.out)
      have x1 : sd.pen.length < 1000000 := by omega
      have x2 : sd.log.length < 1000000 := by omega
      have x3 : se.pen.length < 1000000 := by omega
      have x4 : se.log.length < 1000000 := by omega
      have x5 : own.length < 1000000 := by rw [HA.out.1.len]; exact x3
      generalize rd_T41 l k = a at d0 d1 d2 d3 d4 hl4 hC4
      replace d0 := pw_cell_below hB d0
      replace d1 := pw_cell_below hB d1
      replace d2 := pw_cell_below hB d2
      replace d3 := pw_cell_below hB d3
      replace d4 := pw_cell_below hB d4
      simp only [Int.toNat_natCast] at d0 d1 d2 d3 d4
      clear hC4 hB
      have S0 := Aside0.mk (S.out.allocBox #[.int .u8 a.f0, .int .i64 a.f1.f0, .string a.f1.f1, .bool a.f1.f2, .slice A4 a.f2.length c4] 41)
      clear S
      obtain ⟨t, ht⟩ : ∃ t, Int.tmod a.f0 3 = t := ⟨_, rfl⟩
      obtain ⟨m, hmm⟩ : ∃ m, a.f1.f1.size = m := ⟨_, rfl⟩
      have HSZ := Aside0.mk (show sd.dur.length = N by rw [HA.out.2.1]; exact HSL.out)
      by_cases h0 : t ≠ 0
      · have tb : (Int.tmod a.f0 3 != 0) = true := by rw [ht]; simpa using h0
        clear ht hmm h0
        go_wp2_with (go_at_call 22; have hc := Pages_S S0.out (g := g) (s := sd) m3'; rw [HSZ.out] at hc; (with_reducible refine hc.mono ?_); clear hc; rintro e w' ⟨rfl, rfl⟩)
        have S1 := Aside0.mk (SepT.drop S0.out)
        clear S0
        go_roundw
        case rel => exact ⟨k + 1, sd, se, own, B, cb, by omega, by go_num, rfl, rfl, HA, by omega, by omega, by omega, by omega, S1⟩
        case measure => simp [intOf]; omega
      replace h0 : t = 0 := by omega
      by_cases h1 : a.f1.f0 < 0
      · have tb : (Int.tmod a.f0 3 != 0) = false := by rw [ht, h0]; rfl
        clear ht hmm h0
        go_wp2_with (go_at_call 22; have hc := Pages_S S0.out (g := g) (s := sd) m3'; rw [HSZ.out] at hc; (with_reducible refine hc.mono ?_); clear hc; rintro e w' ⟨rfl, rfl⟩)
        have S1 := Aside0.mk (SepT.drop S0.out)
        clear S0
        go_roundw
        case rel => exact ⟨k + 1, sd, se, own, B, cb, by omega, by go_num, rfl, rfl, HA, by omega, by omega, by omega, by omega, S1⟩
        case measure => simp [intOf]; omega
      replace h1 : 0 ≤ a.f1.f0 := by omega
      by_cases h2 : (N : Int) ≤ a.f1.f0
      · have tb : (Int.tmod a.f0 3 != 0) = false := by rw [ht, h0]; rfl
        clear ht hmm h0
        go_wp2_with (go_at_call 22; have hc := Pages_S S0.out (g := g) (s := sd) m3'; rw [HSZ.out] at hc; (with_reducible refine hc.mono ?_); clear hc; rintro e w' ⟨rfl, rfl⟩)
        have S1 := Aside0.mk (SepT.drop S0.out)
        clear S0
        go_roundw
        case rel => exact ⟨k + 1, sd, se, own, B, cb, by omega, by go_num, rfl, rfl, HA, by omega, by omega, by omega, by omega, S1⟩
        case measure => simp [intOf]; omega
      replace h2 : a.f1.f0 < (N : Int) := by omega
      by_cases h3 : m ≠ 512
      · have tb : (Int.tmod a.f0 3 != 0) = false := by rw [ht, h0]; rfl
        have sb : ((a.f1.f1.size : Int) != 512) = true := by rw [hmm]; simp; omega
        clear ht hmm h0 h3
        go_wp2_with (go_at_call 22; have hc := Pages_S S0.out (g := g) (s := sd) m3'; rw [HSZ.out] at hc; (with_reducible refine hc.mono ?_); clear hc; rintro e w' ⟨rfl, rfl⟩)
        have S1 := Aside0.mk (SepT.drop S0.out)
        clear S0
        go_roundw
        case rel => exact ⟨k + 1, sd, se, own, B, cb, by omega, by go_num, rfl, rfl, HA, by omega, by omega, by omega, by omega, S1⟩
        case measure => simp [intOf]; omega
      replace h3 : m = 512 := by omega
      have HW : Aside0 (writeD sd a.f1.f0 a.f1.f1 = (noted { sd with pen := sd.pen ++ [(a.f1.f0, a.f1.f1)] } (a.f1.f0, a.f1.f1, false), 0)) := ⟨writeD_ok sd _ _ (by rw [HSZ.out]; omega) (by rw [hmm]; omega)⟩
      have HWe : Aside0 (writeD se a.f1.f0 a.f1.f1 = (noted { se with pen := se.pen ++ [(a.f1.f0, a.f1.f1)] } (a.f1.f0, a.f1.f1, false), 0)) := ⟨writeD_ok se _ _ (by rw [HA.out.2.2, HSL.out]; omega) (by rw [hmm]; omega)⟩
      have hv0 : (writeD sd a.f1.f0 a.f1.f1).2 = 0 := by rw [HW.out]
      have hv1 : (writeD sd a.f1.f0 a.f1.f1).1.pen = sd.pen ++ [(a.f1.f0, a.f1.f1)] := by rw [HW.out, noted_pen]
      have hu0 : (writeD se a.f1.f0 a.f1.f1).2 = 0 := by rw [HWe.out]
      have hu1 : (writeD se a.f1.f0 a.f1.f1).1.pen = se.pen ++ [(a.f1.f0, a.f1.f1)] := by rw [HWe.out, noted_pen]
      have V := Aside0.mk (And.intro hv0 (And.intro hv1 (And.intro (writeD_dur sd a.f1.f0 a.f1.f1) (writeD_log sd a.f1.f0 a.f1.f1))))
      have U := Aside0.mk (And.intro hu0 (And.intro hu1 (And.intro (writeD_dur se a.f1.f0 a.f1.f1) (writeD_log se a.f1.f0 a.f1.f1))))
      clear hv0 hv1 hu0 hu1 HW HWe
      have HT := Aside0.mk ht
      have HM := Aside0.mk hmm
      have tb : (Int.tmod a.f0 3 != 0) = false := by rw [ht, h0]; rfl
      have sb : ((a.f1.f1.size : Int) != 512) = false := by rw [hmm, h3]; rfl
      clear ht hmm h0 h3
      have HLT := Aside0.mk h2
      by_cases he : a.f1.f0 = (q : Int)
      · have hcase : cs = [] ∨ cs ≠ [] := by by_cases h : cs = [] <;> simp [h]
        have HE := Aside0.mk he
        have heb : (a.f1.f0 == (q : Int)) = true := by simp [he]
        clear he
        rcases hcase with hce | hce
        · have hcl : decide (0 < cs.length) = false := by rw [hce]; rfl
          have hcl2 : decide ((0 : Int) < (cs.length : Int)) = false := by rw [hce]; rfl
          have HCE := Aside0.mk (show (if cs = [] then 0 else cs.getD (sd.pen.length % cs.length) 0) = 0 by rw [if_pos hce])
          clear hce
          go_wp2_with (first
            | (go_at_call 22; have hc := Pages_S S0.out (g := g) (s := sd) m3'; rw [HSZ.out] at hc; (with_reducible refine hc.mono ?_); clear hc; rintro e w' ⟨rfl, rfl⟩)
            | (go_at_call 27; have hc := Write_S (g := g) (s := sd) S0.out.fourth a.f1.f0 a.f1.f1 x2 x1; rw [V.out.1] at hc; (with_reducible refine hc.mono ?_); clear hc; rintro e w4 ⟨rfl, hs⟩; clear S0; have S2 := Aside0.mk hs; clear hs; have z16 := (SepT.box S2.out m1).1; have z1 : w4.cell? ⟨wr.heap.size, 1, none⟩ = some (.int .i64 a.f1.f0) := (blk_cell z16 1).trans rfl; have z2 : w4.cell? ⟨wr.heap.size, 2, none⟩ = some (.string a.f1.f1) := (blk_cell z16 2).trans rfl; clear z16)
            | (go_at_call 27; have hc := Write_S (g := ge) (s := se) S2.out.fourth a.f1.f0 a.f1.f1 x4 x3; rw [U.out.1] at hc; (with_reducible refine hc.mono ?_); clear hc; rintro e w5 ⟨rfl, hs⟩; clear S2 z1 z2; have S3 := Aside0.mk hs.fourth; clear hs)
            | ((with_reducible refine gate_builtin (b := .append) (xs := #[.tmp 113, .tmp 115]) rfl ?_); at_builtin; go_loud (refine SepT.appends (Kd.int .i64) rfl (.tmp 113) (.tmp 115) 39 3 (.int .i64 0) 8 rfl Try.underlying39 info3 rfl (by decide) (by omega) (.slice B own.length cb) own 0 [.int .i64 0] rfl rfl ?aP S3.out ?aL ?_; (case aP => exact rfl); (case aL => omega); intro Bn cn w6 ho; have S4 := Aside0.mk ho; clear ho)))
          have S1 := Aside0.mk (SepT.drop (SepT.fourth S4.out))
          clear S3 S4
          have HA2 : Aside0 (Apt cs q s0.dur (writeD sd a.f1.f0 a.f1.f1).1.pen (writeD se a.f1.f0 a.f1.f1).1.pen (own ++ [0]) ∧ (writeD sd a.f1.f0 a.f1.f1).1.dur = s0.dur ∧ (writeD se a.f1.f0 a.f1.f1).1.dur = s0.dur) := ⟨by
            refine ⟨?_, by rw [V.out.2.2.1]; exact HA.out.2.1, by rw [U.out.2.2.1]; exact HA.out.2.2⟩
            rw [V.out.2.1, U.out.2.1]
            have h := HA.out.1.mine a.f1.f0 a.f1.f1 (by rw [HE.out, Int.toNat_natCast])
            rw [HCE.out] at h
            exact h⟩
          go_roundw
          case rel => exact ⟨k + 1, (writeD sd a.f1.f0 a.f1.f1).1, (writeD se a.f1.f0 a.f1.f1).1, own ++ [0], Bn, cn, by omega, by go_num, by rw [V.out.2.1, List.length_append, List.length_singleton]; go_num, by rw [List.length_append, List.length_singleton], HA2, by rw [V.out.2.1]; simp; omega, by rw [U.out.2.1]; simp; omega, by have := V.out.2.2.2; omega, by have := U.out.2.2.2; omega, S1⟩
          case measure => simp [intOf]; omega
        · have hl1 : 0 < cs.length := List.length_pos_iff.2 hce
          have hcl : (0 : Int) < cs.length := by omega
          obtain ⟨j, hj⟩ : ∃ j, sd.pen.length % cs.length = j := ⟨_, rfl⟩
          have hjl : (j : Int) < cs.length := by rw [← hj]; have := Nat.mod_lt sd.pen.length hl1; omega
          have hji : (sd.pen.length : Int) % (cs.length : Int) = (j : Int) := by rw [← hj]; rfl
          have hjt : Int.tmod (sd.pen.length : Int) (cs.length : Int) = (j : Int) := by rw [← hj]; rfl
          obtain ⟨adc, hadc, hcell⟩ := int_at HC2.out j (by omega) hjl
          subst hadc
          rw [Int.toNat_natCast] at hcell
          have HCL := Aside0.mk hcell
          have HCE := Aside0.mk (show (if cs = [] then 0 else cs.getD (sd.pen.length % cs.length) 0) = cs.getD j 0 by rw [if_neg hce, hj])
          clear hce hj hcell
          go_wp2_with (first
            | (go_at_call 22; have hc := Pages_S S0.out (g := g) (s := sd) m3'; rw [HSZ.out] at hc; (with_reducible refine hc.mono ?_); clear hc; rintro e w' ⟨rfl, rfl⟩)
            | (go_at_call 27; have hc := Write_S (g := g) (s := sd) S0.out.fourth a.f1.f0 a.f1.f1 x2 x1; rw [V.out.1] at hc; (with_reducible refine hc.mono ?_); clear hc; rintro e w4 ⟨rfl, hs⟩; clear S0; have S2 := Aside0.mk hs; clear hs; have z16 := (SepT.box S2.out m1).1; have z1 : w4.cell? ⟨wr.heap.size, 1, none⟩ = some (.int .i64 a.f1.f0) := (blk_cell z16 1).trans rfl; have z2 : w4.cell? ⟨wr.heap.size, 2, none⟩ = some (.string a.f1.f1) := (blk_cell z16 2).trans rfl; clear z16)
            | (go_at_call 27; have hc := Write_S (g := ge) (s := se) S2.out.fourth a.f1.f0 a.f1.f1 x4 x3; rw [U.out.1] at hc; (with_reducible refine hc.mono ?_); clear hc; rintro e w5 ⟨rfl, hs⟩; clear S2 z1 z2; have S3 := Aside0.mk hs.fourth; clear hs; have cc : w5.cell? (adc.add j) = some (.int .i64 (cs.getD j 0)) := pw_cell_below (Sep.base S3.out) HCL.out)
            | ((with_reducible refine gate_builtin (b := .append) (xs := #[.tmp 113, .tmp 115]) rfl ?_); at_builtin; go_loud (refine SepT.appends (Kd.int .i64) rfl (.tmp 113) (.tmp 115) 39 3 (.int .i64 0) 8 rfl Try.underlying39 info3 rfl (by decide) (by omega) (.slice B own.length cb) own (cs.getD j 0) [.int .i64 (cs.getD j 0)] rfl rfl ?aP S3.out ?aL ?_; (case aP => exact rfl); (case aL => omega); intro Bn cn w6 ho; have S4 := Aside0.mk ho; clear ho)))
          have S1 := Aside0.mk (SepT.drop (SepT.fourth S4.out))
          clear S3 S4
          have HA2 : Aside0 (Apt cs q s0.dur (writeD sd a.f1.f0 a.f1.f1).1.pen (writeD se a.f1.f0 a.f1.f1).1.pen (own ++ [(cs.getD j 0)]) ∧ (writeD sd a.f1.f0 a.f1.f1).1.dur = s0.dur ∧ (writeD se a.f1.f0 a.f1.f1).1.dur = s0.dur) := ⟨by
            refine ⟨?_, by rw [V.out.2.2.1]; exact HA.out.2.1, by rw [U.out.2.2.1]; exact HA.out.2.2⟩
            rw [V.out.2.1, U.out.2.1]
            have h := HA.out.1.mine a.f1.f0 a.f1.f1 (by rw [HE.out, Int.toNat_natCast])
            rw [HCE.out] at h
            exact h⟩
          go_roundw
          case rel => exact ⟨k + 1, (writeD sd a.f1.f0 a.f1.f1).1, (writeD se a.f1.f0 a.f1.f1).1, own ++ [(cs.getD j 0)], Bn, cn, by omega, by go_num, by rw [V.out.2.1, List.length_append, List.length_singleton]; go_num, by rw [List.length_append, List.length_singleton], HA2, by rw [V.out.2.1]; simp; omega, by rw [U.out.2.1]; simp; omega, by have := V.out.2.2.2; omega, by have := U.out.2.2.2; omega, S1⟩
          case measure => simp [intOf]; omega
      · have heb : (a.f1.f0 == (q : Int)) = false := by simp [he]
        have HE := Aside0.mk he
        clear he
        go_wp2_with (first
          | (go_at_call 22; have hc := Pages_S S0.out (g := g) (s := sd) m3'; rw [HSZ.out] at hc; (with_reducible refine hc.mono ?_); clear hc; rintro e w' ⟨rfl, rfl⟩)
          | (go_at_call 27; have hc := Write_S (g := g) (s := sd) S0.out.fourth a.f1.f0 a.f1.f1 x2 x1; rw [V.out.1] at hc; (with_reducible refine hc.mono ?_); clear hc; rintro e w4 ⟨rfl, hs⟩; clear S0; have S2 := Aside0.mk hs; clear hs; have z16 := (SepT.box S2.out m1).1; have z1 : w4.cell? ⟨wr.heap.size, 1, none⟩ = some (.int .i64 a.f1.f0) := (blk_cell z16 1).trans rfl; have z2 : w4.cell? ⟨wr.heap.size, 2, none⟩ = some (.string a.f1.f1) := (blk_cell z16 2).trans rfl; clear z16))
        have S1 := Aside0.mk (SepT.third (SepT.drop S2.out.swap)).third
        clear S2 z1 z2
        have HA2 : Aside0 (Apt cs q s0.dur (writeD sd a.f1.f0 a.f1.f1).1.pen se.pen own ∧ (writeD sd a.f1.f0 a.f1.f1).1.dur = s0.dur ∧ se.dur = s0.dur) := ⟨by
          refine ⟨?_, by rw [V.out.2.2.1]; exact HA.out.2.1, HA.out.2.2⟩
          rw [V.out.2.1]
          exact HA.out.1.other a.f1.f0 a.f1.f1 (by have := HE.out; omega)⟩
        go_roundw
        case rel => exact ⟨k + 1, (writeD sd a.f1.f0 a.f1.f1).1, se, own, B, cb, by omega, by go_num, by rw [V.out.2.1, List.length_append, List.length_singleton]; go_num, rfl, HA2, by rw [V.out.2.1]; simp; omega, by omega, by have := V.out.2.2.2; omega, by omega, S1⟩
        case measure => simp [intOf]; omega
    · obtain rfl : k = l.length := by omega
      have x1 : sd.pen.length < 1000000 := by omega
      have x3 : se.pen.length < 1000000 := by omega
      have x5 : own.length < 1000000 := by rw [HA.out.1.len]; exact x3
      obtain ⟨td, htd⟩ : ∃ td, crashD sd cs = td := ⟨_, rfl⟩
      obtain ⟨te, hte⟩ : ∃ te, crashD se own = te := ⟨_, rfl⟩
      have hr : readD td q = readD te q := by
        rw [← htd, ← hte]
        refine readD_flat _ _ rfl rfl ?_ _ ?_
        · show (crashAt _ _ _ _).length = (crashAt _ _ _ _).length
          rw [crashAt_length, crashAt_length, HA.out.2.1, HA.out.2.2]
        · show (crashAt _ _ _ _).getD _ nb = (crashAt _ _ _ _).getD _ nb
          rw [HA.out.2.1, HA.out.2.2, Int.toNat_natCast]
          exact HA.out.1.done
      have HTD := Aside0.mk htd
      have HTE := Aside0.mk hte
      have HR := Aside0.mk hr
      clear htd hte hr
      have S1 := Aside0.mk S.out.third
      clear S
      have S := S1
      clear S1
      obtain ⟨r, hr⟩ : ∃ r, readD te q = r := ⟨_, rfl⟩
      have HRR := Aside0.mk hr
      clear hr
      go_wp2_with (first
        | (go_at_call 24; have hc := Crash_S (g := g) (s := sd) S.out A2 c2 cs HC2.out hl2 hcs2 x1; rw [HTD.out] at hc; (with_reducible refine hc.mono ?_); clear hc; rintro e w4 ⟨rfl, hs⟩; clear S; have S := Aside0.mk hs.third; clear hs)
        | (go_at_call 24; have hc := Crash_row (g := ge) (s := se) B cb own S.out m1 x5 x3; rw [HTE.out] at hc; (with_reducible refine hc.mono ?_); clear hc; rintro e w5 ⟨rfl, hs⟩; clear S; have S := Aside0.mk hs; clear hs)
        | (go_at_call 20; have hc := Read_S S.out (g := g) (s := td) m1 q; rw [HR.out, HRR.out] at hc; (with_reducible refine hc.mono ?_); clear hc; rintro e w' ⟨rfl, rfl⟩)
        | (go_at_call 20; have hc := Read_S S.out (g := ge) (s := te) m0 q; rw [HRR.out] at hc; (with_reducible refine hc.mono ?_); clear hc; rintro e w' ⟨rfl, rfl⟩))
      go_ret
      exact ⟨rfl, Sep.base S.out⟩

set_option maxHeartbeats 2000000 in
set_option maxRecDepth 100000 in
theorem DiskApart_law (w : World) (p : Nat) (hp : p < 256) (A : Option Addr) (c : Nat) (l : List S41) (hC : Kd.C k41 w A l.length l) (hl : l.length ≤ c)
    (A2 : Option Addr) (c2 : Nat) (cs : List Int) (hC2 : Kd.C (Kd.int .i64) w A2 cs.length cs) (hl2 : cs.length ≤ c2) (y : Nat) (hy : y < 256) :
    Calls Try.prog 6 #[.int .u8 p, .slice A l.length c, .slice A2 cs.length c2, .int .u8 y] w fun e w' => e = .returned (.bool true) ∧ Below w.heap.size w w' := by
  have S := Aside0.mk (SepT.start w)
  have HC := Aside0.mk hC
  have hm := Kd.C_max hC
  by_cases hf : fewB l = true
  · by_cases hcs : (cs.length : Int) ≤ 20
    · exact DiskApart_few w p hp A c l hC hl hf A2 c2 cs hC2 hl2 hcs y hy
    · have hcs2 : (20 : Int) < cs.length := by omega
      clear hC hC2 hcs
      have HF := Aside0.mk hf
      go_enter Try.func6, Try.ntmps6
      go_wp2_with (first
        | (go_at_call 10; have hc := awake_S S.out; go_fit hc; clear hc; rintro e w1 ⟨rfl, hs⟩; clear S; have S := Aside0.mk hs; clear hs)
        | (go_at_call 11; have hc := Few_S S.out A c l HC.out hl hm; rw [HF.out] at hc; (with_reducible refine hc.mono ?_); clear hc; rintro e w1 ⟨rfl, hs⟩; clear S; have S := Aside0.mk hs; clear hs))
      go_ret
      exact ⟨rfl, Sep.base S.out⟩
  · have HF := Aside0.mk (show fewB l = false by simpa using hf)
    clear hC hC2
    go_enter Try.func6, Try.ntmps6
    go_wp2_with (first
      | (go_at_call 10; have hc := awake_S S.out; go_fit hc; clear hc; rintro e w1 ⟨rfl, hs⟩; clear S; have S := Aside0.mk hs; clear hs)
      | (go_at_call 11; have hc := Few_S S.out A c l HC.out hl hm; rw [HF.out] at hc; (with_reducible refine hc.mono ?_); clear hc; rintro e w1 ⟨rfl, hs⟩; clear S; have S := Aside0.mk hs; clear hs))
    go_ret
    exact ⟨rfl, Sep.base S.out⟩
end Go.Proofs.Ytccomlafacdcjaa.Dk
