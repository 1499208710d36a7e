/-
  The disk's Crash: the loop over the endless choices.
-/
import Derived.Test.YtccomlafacdcjaaDc
import Derived.Test.YtccomlafacdcjaaDl
import Derived.Sort.CutIn
import Derived.Test.YtccomlafacdcjaaDq
namespace Go.Proofs.Ytccomlafacdcjaa.Dk
open Go.RowKit Go.Shelf Go.Proofs.YtccomlafacdcjaaW.PrintWords
set_option linter.unusedVariables false
attribute [local go_sem] Oper.semAt_some

abbrev torn : ByteArray := ⟨#[33]⟩
/-- One write, by its choice. -/
def stepC (c : Int) (d : List ByteArray) (x : Int × ByteArray) : List ByteArray :=
  if c = 1 then d.set x.1.toNat x.2 else if c = 2 then d.set x.1.toNat torn else d
def crashAt (ch : Nat → Int) : Nat → List ByteArray → List (Int × ByteArray) → List ByteArray
  | _, d, [] => d
  | i, d, x :: l => crashAt ch (i + 1) (stepC (ch i) d x) l
theorem crashAt_snoc (ch : Nat → Int) (x : Int × ByteArray) : ∀ (l : List (Int × ByteArray)) (i : Nat) (d : List ByteArray), crashAt ch i d (l ++ [x]) = stepC (ch (i + l.length)) (crashAt ch i d l) x
  | [], i, d => rfl
  | y :: l, i, d => by
    show crashAt ch (i + 1) _ (l ++ [x]) = _
    rw [crashAt_snoc ch x l (i + 1)]
    simp only [crashAt, List.length_cons]
    congr 2
    omega
theorem stepC_length (c : Int) (d : List ByteArray) (x : Int × ByteArray) : (stepC c d x).length = d.length := by
  unfold stepC; split
  · simp
  · split
    · simp
    · rfl
theorem crashAt_length (ch : Nat → Int) : ∀ (l : List (Int × ByteArray)) (i : Nat) (d : List ByteArray), (crashAt ch i d l).length = d.length
  | [], i, d => rfl
  | y :: l, i, d => by rw [crashAt, crashAt_length ch l, stepC_length]
/-- The choice of write i. -/
def choiceOf (cs : List Int) (i : Nat) : Int := m3 (rd (some1 cs) (i % (some1 cs).length : Nat))
def crashD (s : DS) (cs : List Int) : DS := { s with dur := crashAt (choiceOf cs) 0 s.dur s.pen, pen := [] }
theorem crash_take (ch : Nat → Int) (d : List ByteArray) (l : List (Int × ByteArray)) (k : Nat) (hk : k < l.length) : crashAt ch 0 d (l.take (k + 1)) = stepC (ch k) (crashAt ch 0 d (l.take k)) (l.getD k (0, nb)) := by
  rw [List.take_succ_eq_append_getElem hk, crashAt_snoc]
  simp [List.getD, hk, Nat.min_eq_left (Nat.le_of_lt hk)]

/-- What holds between two rounds: k choices have come. -/
structure CrashIn (w wE W : World) (g : Nat) (ok : Nat → Prop) (s : DS) (ch : Nat → Int) (vd vp vr : Value) (m : Nat) (k : Nat) : Prop where
  le : k ≤ s.pen.length
  dk : IsDiskAt W g ok { s with dur := crashAt ch 0 s.dur (s.pen.take k) } vd vp m vr
  cd : W.cell? ⟨w.heap.size, 0, none⟩ = some (.pointer (some ⟨g, 0, none⟩))
  ci : W.cell? ⟨w.heap.size + 1, 0, none⟩ = some (.int .i64 k)
  fi : W.frozen? ⟨w.heap.size + 1, 0, none⟩ = false
  on : Only (fun b => ok b ∨ b = w.heap.size + 1 ∨ b = wE.heap.size + 1) wE W

def CrashEnd (w wE W : World) (g : Nat) (ok : Nat → Prop) (s : DS) (ch : Nat → Int) (vd vp vr : Value) (m : Nat) : Prop := ∃ k, k = s.pen.length ∧ CrashIn w wE W g ok s ch vd vp vr m k

theorem CrashIn.stay {w wE W W' : World} {g : Nat} {ok : Nat → Prop} {s : DS} {ch : Nat → Int} {vd vp vr : Value} {m k : Nat} (h : CrashIn w wE W g ok s ch vd vp vr m k) (hok : ∀ b, ok b → b < wE.heap.size) (hw : w.heap.size + 1 < wE.heap.size)
    (hb : ∀ b, b < wE.heap.size → W'.heap[b]? = W.heap[b]?) (ho : Only (fun b => ok b ∨ b = w.heap.size + 1 ∨ b = wE.heap.size + 1) W W') : CrashIn w wE W' g ok s ch vd vp vr m k := by
  have e1 := World.cell?_of_block (w := W) (w' := W') (a := ⟨w.heap.size, 0, none⟩) (hb w.heap.size (by omega))
  have e2 := World.cell?_of_block (w := W) (w' := W') (a := ⟨w.heap.size + 1, 0, none⟩) (hb (w.heap.size + 1) hw)
  have e3 := World.frozen?_of_block (w := W) (w' := W') (a := ⟨w.heap.size + 1, 0, none⟩) (hb (w.heap.size + 1) hw)
  exact ⟨h.le, h.dk.stay (fun b h1 _ => hb b (hok b h1)), e1.trans h.cd, e2.trans h.ci, e3.trans h.fi, h.on.trans ho (fun _ h => .inl h)⟩

theorem CrashIn.below {w wE W W' : World} {g : Nat} {ok : Nat → Prop} {s : DS} {ch : Nat → Int} {vd vp vr : Value} {m k : Nat} (h : CrashIn w wE W g ok s ch vd vp vr m k) (hok : ∀ b, ok b → b < wE.heap.size) (hw : w.heap.size + 1 < wE.heap.size)
    (hb : Below W.heap.size W W') : CrashIn w wE W' g ok s ch vd vp vr m k :=
  h.stay hok hw (fun b hlt => hb.block b (Nat.lt_of_lt_of_le hlt h.on.size)) (Only.of_below hb _)

/-- The round's end: the disk has turned; the counter goes on. -/
theorem CrashIn.step {w wE W W3 : World} {g : Nat} {ok : Nat → Prop} {s : DS} {ch : Nat → Int} {vd vp vr : Value} {m k : Nat} (h : CrashIn w wE W g ok s ch vd vp vr m k) (hok : ∀ b, ok b → b < w.heap.size) (hw : w.heap.size + 2 < wE.heap.size) (hk : k < s.pen.length)
    (hd : IsDiskAt W3 g ok { s with dur := crashAt ch 0 s.dur (s.pen.take (k + 1)) } vd vp m vr) (ho : Only ok W W3) : CrashIn w wE (W3.setCell ⟨w.heap.size + 1, 0, none⟩ (.int .i64 ((k + 1 : Nat) : Int))) g ok s ch vd vp vr m (k + 1) := by
  have hWs := h.on.size
  have n1 : ∀ {b}, w.heap.size ≤ b → ¬ ok b := fun hb h2 => by have := hok _ h2; omega
  have b1 := ho.block w.heap.size (by omega) (n1 (Nat.le_refl _))
  have b2 := ho.block (w.heap.size + 1) (by omega) (n1 (Nat.le_succ _))
  have e2 := (World.cell?_of_block (w := W) (w' := W3) (a := ⟨w.heap.size + 1, 0, none⟩) b2).trans h.ci
  refine ⟨hk, hd.stay (fun b h1 _ => Below.heap_setCell _ _ _ _ (fun e => n1 (b := b) (by rw [e]; exact Nat.le_succ _) h1)), ?_, ?_, ?_, ?_⟩
  · refine (World.cell?_of_block (w := W3) (Below.heap_setCell _ _ _ _ (by simp))).trans ((World.cell?_of_block (w := W) (w' := W3) (a := ⟨w.heap.size, 0, none⟩) b1).trans h.cd)
  · exact World.cell?_setCell_same' _ _ _ (by rw [e2]; rfl)
  · rw [World.frozen?_setCell]
    exact (World.frozen?_of_block (w := W) (w' := W3) (a := ⟨w.heap.size + 1, 0, none⟩) b2).trans h.fi
  · exact (h.on.trans ho (fun _ h => .inl (.inl h))).setCell (p := ⟨w.heap.size + 1, 0, none⟩) (.inl (.inr (.inl rfl))) _

set_option maxHeartbeats 4000000 in
set_option maxRecDepth 100000 in
theorem Crash_calls (g : Nat) (ok : Nat → Prop) (s : DS) (A : Option Addr) (c : Nat) (cs : List Int) (w : World) (h : IsDisk w g ok s) (hC : ∀ W, Only ok w W → Kd.C (Kd.int .i64) W A cs.length cs) (hl : cs.length ≤ c) (hc : cs.length < 1000000) (hlen : s.pen.length < 1000000) :
    Calls Try.prog 24 #[.pointer (some ⟨g, 0, none⟩), .slice A cs.length c] w fun e w' => e = .returned (.tuple #[]) ∧ IsDisk w' g (fun k => ok k ∨ w.heap.size ≤ k) (crashD s cs) ∧ Only ok w w' := by
  obtain ⟨okw, hokw⟩ : ∃ okw : Nat → Prop, okw = fun k => ok k ∧ k < w.heap.size := ⟨_, rfl⟩
  have HOW := Aside0.mk hokw
  have hD : IsDisk w g okw s := h.mono (fun k h1 h2 => by rw [hokw]; exact ⟨h1, h2⟩)
  have HC := Aside0.mk hC
  have hlt : ∀ k, okw k → k < w.heap.size := fun k hk => by rw [hokw] at hk; exact hk.2
  have HLT := Aside0.mk hlt
  clear h hC hokw hlt
  obtain ⟨vd, vp, m, vr, hD⟩ := hD
  obtain ⟨A0, k0, rfl, hk0, hC0⟩ := Kd.R_reads hD.dur
  obtain ⟨A1, k1, rfl, hk1, hC1⟩ := Kd.R_reads hD.pen
  clear hC0 hC1
  have HD := Aside0.mk hD
  clear hD
  refine (callsIn_wide (n := 6)).1 ?_
  refine callsIn_of_wp_marks Try.func24 rfl trivial ?_ rfl
  simp only [Try.ntmps24, List.size_toArray, List.length_cons, List.length_nil, Nat.reduceAdd, Nat.reduceSub, Array.replicate_succ, Array.replicate_zero, List.push_toArray, List.append_toArray, List.nil_append, List.cons_append]
  gi_wp2_with fail
  refine ⟨trivial, ?_⟩
  refine (callsIn_wide.2 (endless_calls A c cs _ (fun k => okw k ∨ k = w.heap.size + 1) ?s1 ?s2 hl hc)).mono ?_
  case s1 =>
    rintro k (hk | hk)
    · have := HLT.out k hk
      simp
      omega
    · simp
      omega
  case s2 =>
    intro W hW
    refine HC.out W ((((Only.refl ok w).alloc _).alloc _).trans hW ?_)
    rintro k (hk | rfl)
    · rw [HOW.out] at hk; exact .inl hk.1
    · right; omega
  rintro e wE ⟨rfl, hb, hlt2, A', c', hE⟩
  have HB := Aside0.mk hb
  have HE := Aside0.mk hE
  have HLT2 := Aside0.mk (show w.heap.size + 2 < wE.heap.size by simpa using hlt2)
  have HLE := Aside0.mk (fun b (h : okw b) => show b < wE.heap.size by have := HLT.out b h; have := HLT2.out; omega)
  clear hb hE hlt2
  gi_wp2
  refine range_rounds (n := 6) (by decide) (gf := 48) (lb := #[.pointer (some ⟨w.heap.size + 2, 0, none⟩)]) rfl (enters_of Try.func48 (by kernel_rfl) rfl) (fun k => #[.int .i64 (choiceOf cs k)]) (fun _ => rfl)
    (fun k W => k ≤ s.pen.length ∧ W.cell? ⟨w.heap.size + 2, 0, none⟩ = some (.slice A' (some1 cs).length c') ∧ Kd.C (Kd.int .i64) W A' (some1 cs).length (some1 cs))
    (fun l Inv Post W h1 h2 h3 => endless1_in 5 (by decide) l (w.heap.size + 2) A' c' (some1 cs) (some1_pos cs) (by unfold some1; split <;> first | omega | simp) s.pen.length Inv Post (fun k W h => (h1 k W h).2) (fun k W h => (h1 k W h).1) h2 W h3)
    (fun k W => CrashIn w wE W g okw s (choiceOf cs) (.slice A0 s.dur.length k0) (.slice A1 s.pen.length k1) vr m k) (fun c W => c = .exit 0 ∧ CrashEnd w wE W g okw s (choiceOf cs) (.slice A0 s.dur.length k0) (.slice A1 s.pen.length k1) vr m)
    ?mem ?hI ?hIx ?h0 (fun k => { tmps := #[.pointer (some ⟨g, 0, none⟩), .slice A cs.length c, .pointer (some ⟨w.heap.size, 0, none⟩), undef, .pointer (some ⟨w.heap.size + 1, 0, none⟩), .int .i64 (choiceOf cs k), undef, .slice A cs.length c, .func (.func 48) #[] #[.pointer (some ⟨w.heap.size + 2, 0, none⟩)], .int .i64 (choiceOf cs k), undef, undef, undef, undef, undef, undef, undef, undef, undef, undef, undef, undef, undef, undef, undef, undef, undef, undef, undef, undef, undef, undef, undef, undef, undef, undef, undef, undef, undef, undef, undef, undef, undef, undef, undef, undef, undef, undef, undef], defers := [] }) ?assign ?body ?stop
  case mem =>
    intro k W h
    have e := HE.out W (h.on.mono (fun b hb => by
      rcases hb with hb | hb | hb
      · exact .inl (.inl hb)
      · exact .inl (.inr hb)
      · right; omega))
    simp only [World.size_alloc] at e
    exact ⟨h.le, e⟩
  case hI =>
    intro k W r o h hr
    exact h.stay HLE.out (by have := HLT2.out; omega) (fun b hb => World.putObj_heap_other (by omega)) ((Only.refl _ _).putObj (.inl (.inr (.inr rfl))) _)
  case hIx =>
    rintro c W r o ⟨rfl, k, hk, h⟩ hr
    exact ⟨rfl, k, hk, h.stay HLE.out (by have := HLT2.out; omega) (fun b hb => World.putObj_heap_other (by omega)) ((Only.refl _ _).putObj (.inl (.inr (.inr rfl))) _)⟩
  case h0 =>
    intro d o
    have hBB : Below (w.heap.size + 2) ((w.alloc (.cells #[.pointer (some ⟨g, 0, none⟩)] 25)).alloc (.cells #[.int .i64 0] 3)) ((wE.alloc d).alloc o) := by
      have h1 := HB.out
      simp only [World.size_alloc] at h1
      exact (h1.alloc (by have := HLT2.out; omega) d).alloc (by have := HLT2.out; simp; omega) o
    have hB0 : Below w.heap.size w ((wE.alloc d).alloc o) := (((Below.refl _ _).alloc (Nat.le_refl _) _).alloc (by simp) _).trans (hBB.mono (by omega))
    have e1 : ((w.alloc (.cells #[.pointer (some ⟨g, 0, none⟩)] 25)).alloc (.cells #[.int .i64 0] 3)).heap[w.heap.size]? = some (.cells #[.pointer (some ⟨g, 0, none⟩)] 25 (0, 0)) := (Below.heap_alloc _ _ _ (by simp)).trans (heap_new _ _)
    have e2 : ((w.alloc (.cells #[.pointer (some ⟨g, 0, none⟩)] 25)).alloc (.cells #[.int .i64 0] 3)).heap[w.heap.size + 1]? = some (.cells #[.int .i64 0] 3 (0, 0)) := by
      have := heap_new (w.alloc (.cells #[.pointer (some ⟨g, 0, none⟩)] 25)) (.cells #[.int .i64 0] 3)
      rwa [World.size_alloc] at this
    have f1 := (hBB.block w.heap.size (by omega)).trans e1
    have f2 := (hBB.block (w.heap.size + 1) (by omega)).trans e2
    exact ⟨Nat.zero_le _, HD.out.stay (fun b hb _ => hB0.block b (HLT.out b hb)), blk_cell f1 0, blk_cell f2 0, blk_frozen f2 0, ((Only.refl _ _).alloc _).alloc _⟩
  case assign =>
    intro k W K hK
    gi_wp2
    exact hK
  case body =>
    intro k W r d hI hr hd
    dsimp only
    have HI := Aside0.mk hI
    have HR := Aside0.mk hr
    have HDF := Aside0.mk hd
    have ci := hI.ci
    have cd := hI.cd
    have fi := hI.fi
    clear hI hr hd
    obtain ⟨A1', k1', he1, _, hC1⟩ := Kd.R_reads HI.out.dk.pen
    injection he1 with he2 he3 he4
    subst he2 he4
    clear he3
    have c1 := HI.out.dk.c1
    have c0 := HI.out.dk.c0
    have hle := HI.out.le
    have HC1 := Aside0.mk hC1
    clear hC1
    have hfm : Try.prog.follows Departure.mixedOrders = true := by kernel_rfl
    by_cases hkM : k = s.pen.length
    · have hb1 : ((k : Int) == (s.pen.length : Int)) = true := by simp [hkM]
      have HKM := Aside0.mk hkM
      clear hkM
      gi_upto_region 4 with (fail)
      gi_cut [16] from 10 (fun s16 wc => s16 = .bool true ∧ wc = W.drew)
      case first =>
        gi_region_o
        all_goals (gi_wp2; go_meet; exact ⟨rfl, rfl⟩)
      case rest =>
      obtain ⟨rfl, rfl⟩ := hcut
      gi_wp2
      exact ⟨⟨rfl, ⟨k, HKM.out, HI.out.below HLE.out (by have := HLT2.out; omega) (Below.refl _ _).drew⟩⟩, rfl, rfl⟩
    · have hb1 : ((k : Int) == (s.pen.length : Int)) = false := by simp; omega
      have hlt : k < s.pen.length := by omega
      obtain ⟨ad, rfl, d0, d1⟩ := pen_at HC1.out k (by omega) (by simp; omega)
      simp only [Int.toNat_natCast] at d0 d1
      have hin := HI.out.dk.inb (s.pen[k]) (List.getElem_mem hlt)
      have hgd : s.pen.getD k (0, nb) = s.pen[k] := by simp [List.getD, hlt]
      have HF := Aside0.mk (crash_take (choiceOf cs) s.dur s.pen k hlt)
      rw [← hgd] at hin
      clear hgd
      generalize s.pen.getD k (0, nb) = y at d0 d1 hin HF
      obtain ⟨p, x⟩ := y
      dsimp only at d0 d1 hin
      have hk2 : (k : Int) < s.pen.length := by omega
      have HIN := Aside0.mk hin
      clear hin hkM
      gi_upto_region 4 with (fail)
      gi_cut [16] from 10 (fun s16 wc => s16 = .bool false ∧ wc = W.drew)
      case first =>
        gi_region_o
        all_goals (gi_wp2; go_meet; exact ⟨rfl, rfl⟩)
      case rest =>
      obtain ⟨rfl, rfl⟩ := hcut
      gi_upto_region 5 with (fail)
      have hu79 := Try.underlying79
      have hlt6 := World.block_lt_of_cell? W _ d0
      have hltg := blk_lt HI.out.dk.blk
      have hlti := World.block_lt_of_cell? W _ ci
      have hltd := World.block_lt_of_cell? W _ cd
      gi_cut [6] from 17 (fun s6 wc => ∃ b6 : Nat, s6 = .pointer (some ⟨b6, 0, none⟩) ∧ W.heap.size ≤ b6 ∧ wc.heap[b6]? = some (.cells #[.int .i64 p, .string x] 79 (0, 0)) ∧ Below W.heap.size W wc)
      case first =>
        refine wpIn_region_round (fun V => V.cell? ⟨w.heap.size, 0, none⟩ = some (.pointer (some ⟨g, 0, none⟩)) ∧ V.cell? ⟨g, 1, none⟩ = some (.slice (some ad) s.pen.length k1) ∧ V.cell? ⟨w.heap.size + 1, 0, none⟩ = some (.int .i64 k) ∧ V.cell? (ad.add (k * 2)) = some (.int .i64 p) ∧ V.cell? ⟨(ad.add (k * 2)).block, (ad.add (k * 2)).off + 1, none⟩ = some (.string x)) hfm (by rintro ⟨_, _, h⟩; exact h) (by kernel_rfl) ?_
        refine wpAnyH_take (i := 0) (v := (.pointer (some ⟨g, 0, none⟩))) rfl (by kernel_rfl) (by kernel_rfl) (by kernel_rfl) (fun _ _ _ h => h) (Or.inl ⟨by rfl, ?_⟩) ⟨cd, c1, ci, d0, d1⟩ ?_
        · rintro V ⟨s1, s2, s3, s4, s5⟩
          go_simp
        refine wpAnyH_take (i := 1) (v := (.pointer (some ⟨g, 0, none⟩))) rfl (by kernel_rfl) (by kernel_rfl) (by kernel_rfl) (fun _ _ _ h => h) (Or.inl ⟨by rfl, ?_⟩) ⟨cd, c1, ci, d0, d1⟩ ?_
        · rintro V ⟨s1, s2, s3, s4, s5⟩
          go_simp
        refine wpAnyH_take (i := 2) (v := (.pointer (some ⟨g, 1, none⟩))) rfl (by kernel_rfl) (by kernel_rfl) (by kernel_rfl) (fun _ _ _ h => h) (Or.inl ⟨by rfl, ?_⟩) ⟨cd, c1, ci, d0, d1⟩ ?_
        · rintro V ⟨s1, s2, s3, s4, s5⟩
          go_simp
        refine wpAnyH_take (i := 3) (v := (.slice (some ad) s.pen.length k1)) rfl (by kernel_rfl) (by kernel_rfl) (by kernel_rfl) (fun _ _ _ h => h) (Or.inl ⟨by rfl, ?_⟩) ⟨cd, c1, ci, d0, d1⟩ ?_
        · rintro V ⟨s1, s2, s3, s4, s5⟩
          go_simp
        refine wpAnyH_take (i := 4) (v := (.int .i64 k)) rfl (by kernel_rfl) (by kernel_rfl) (by kernel_rfl) (fun _ _ _ h => h) (Or.inl ⟨by rfl, ?_⟩) ⟨cd, c1, ci, d0, d1⟩ ?_
        · rintro V ⟨s1, s2, s3, s4, s5⟩
          go_simp
        refine wpAnyH_take (i := 5) (v := (.pointer (some (ad.add (k * 2))))) rfl (by kernel_rfl) (by kernel_rfl) (by kernel_rfl) (fun _ _ _ h => h) (Or.inl ⟨by rfl, ?_⟩) ⟨cd, c1, ci, d0, d1⟩ ?_
        · rintro V ⟨s1, s2, s3, s4, s5⟩
          go_simp
        refine wpAnyH_take (i := 6) (v := (.agg #[.int .i64 p, .string x])) rfl (by kernel_rfl) (by kernel_rfl) (by kernel_rfl) (fun _ _ _ h => h) (Or.inl ⟨by rfl, ?_⟩) ⟨cd, c1, ci, d0, d1⟩ ?_
        · rintro V ⟨s1, s2, s3, s4, s5⟩
          go_simp
        refine wpAnyH_all (rs := [7]) (by kernel_rfl) (by simp) ?_
        intro i hi
        obtain rfl := List.mem_singleton.1 hi
        refine wpOp_step rfl (fun K hK => ?_)
        go_simp
        have hBx : Below W.heap.size W (W.alloc (Obj.cells #[Value.int IntKind.i64 0, Value.string { data := #[] }] 79)).drew.drew := (((Below.refl _ _).alloc (Nat.le_refl _) _).drew).drew
        have hBf := fun (a : Addr) (v : Value) (h1 : a.block < W.heap.size) (h2 : W.cell? a = some v) => (hBx.cell (p := a) h1).trans h2
        refine hK _ _ ⟨⟨hBf _ _ hltd cd, hBf _ _ hltg c1, hBf _ _ hlti ci, hBf _ _ hlt6 d0, hBf _ _ hlt6 d1⟩, ?_⟩
        clear hBx hBf hK K
        refine wpAnyH_all (rs := [8]) (by kernel_rfl) (by simp) ?_
        intro i hi
        obtain rfl := List.mem_singleton.1 hi
        refine wpOp_step rfl (fun K hK => ?_)
        go_simp
        have hBx : Below W.heap.size W (W.alloc (Obj.cells #[Value.int IntKind.i64 p, Value.string x] 79)).drew.drew := (((Below.refl _ _).alloc (Nat.le_refl _) _).drew).drew
        have hBf := fun (a : Addr) (v : Value) (h1 : a.block < W.heap.size) (h2 : W.cell? a = some v) => (hBx.cell (p := a) h1).trans h2
        refine hK _ _ ⟨⟨hBf _ _ hltd cd, hBf _ _ hltg c1, hBf _ _ hlti ci, hBf _ _ hlt6 d0, hBf _ _ hlt6 d1⟩, wpAnyH_done (by kernel_rfl) ?_ _⟩
        clear hBx hBf hK K
        gi_wp2
        go_meet
        exact ⟨W.heap.size, rfl, Nat.le_refl _, heap_new _ _, (((Below.refl _ _).drew).drew).alloc (Nat.le_refl _) _⟩
      case rest =>
        obtain ⟨b6, rfl, hb6W, hb6, hB6⟩ := hcut
        have HI2 := Aside0.mk (HI.out.below HLE.out (by have := HLT2.out; omega) hB6)
        have HR2 := Aside0.mk ((hB6.block _ (blk_lt HR.out)).trans HR.out)
        have HD2 := Aside0.mk ((hB6.block _ (blk_lt HDF.out)).trans HDF.out)
        have e60 : wc.cell? ⟨b6, 0, none⟩ = some (.int .i64 p) := blk_cell hb6 0
        have e61 : wc.cell? ⟨b6, 1, none⟩ = some (.string x) := blk_cell hb6 1
        have hHB := Aside0.mk hB6
        clear hb6 hB6 ci cd fi c1 c0 d0 d1
        have ci := HI2.out.ci
        have cd := HI2.out.cd
        have fi := HI2.out.fi
        have c0 := HI2.out.dk.c0
        have hp0 := HIN.out.1
        have hp1 : p < s.dur.length := by have := HIN.out.2; rw [crashAt_length] at this; exact this
        have hm3 := m3_range (rd (some1 cs) (k % (some1 cs).length : Nat))
        have HCH := Aside0.mk (show 0 ≤ choiceOf cs k ∧ choiceOf cs k < 3 from hm3)
        clear hm3
        obtain ⟨ch, hch⟩ : ∃ ch, choiceOf cs k = ch := ⟨_, rfl⟩
        rw [hch]
        by_cases h1 : ch = 1
        · subst h1
          have HC2 := Aside0.mk hch
          clear hch
          gi_wp2
          obtain ⟨b, u, hA0, hbn, hokb, f0, f1, hN⟩ := HI2.out.dk.drew.put p ⟨hp0, by rw [crashAt_length]; exact hp1⟩ x
          subst hA0
          clear hbn
          have HN := Aside0.mk hN
          clear hN
          have hbw := HLT.out b hokb
          have hneg : g ≠ b := fun e => by
            obtain ⟨c9, hc9⟩ := Kd.R_typed HI2.out.dk.dur b (by simp [Value.ownBlock])
            have h9 := HI2.out.dk.blk
            rw [e, hc9] at h9
            injection h9 with h9
            injection h9 with _ h9
            cases h9
          have hne6 : b6 ≠ b := by have := HI.out.on.size; have := HLT2.out; omega
          have HCI : ((wc.setCell ⟨b, p.toNat, none⟩ (.string x)).drew).cell? ⟨w.heap.size + 1, 0, none⟩ = some (.int .i64 k) := (World.cell?_of_block (w := wc) (Below.heap_setCell _ _ _ _ (by simp; omega))).trans ci
          have HCD : ((wc.setCell ⟨b, p.toNat, none⟩ (.string x)).drew).cell? ⟨w.heap.size, 0, none⟩ = some (.pointer (some ⟨g, 0, none⟩)) := (World.cell?_of_block (w := wc) (Below.heap_setCell _ _ _ _ (by simp; omega))).trans cd
          have HFI : ((wc.setCell ⟨b, p.toNat, none⟩ (.string x)).drew).frozen? ⟨w.heap.size + 1, 0, none⟩ = false := (World.frozen?_of_block (w := wc) (Below.heap_setCell _ _ _ _ (by simp; omega))).trans fi
          have HC0 : ((wc.setCell ⟨b, p.toNat, none⟩ (.string x)).drew).cell? ⟨g, 0, none⟩ = some (.slice (some ⟨b, 0, none⟩) s.dur.length k0) := (World.cell?_of_block (w := wc) (Below.heap_setCell _ _ _ _ hneg)).trans c0
          have HE60 : ((wc.setCell ⟨b, p.toNat, none⟩ (.string x)).drew).cell? ⟨b6, 0, none⟩ = some (.int .i64 p) := (World.cell?_of_block (w := wc) (Below.heap_setCell _ _ _ _ hne6)).trans e60
          have HE61 : ((wc.setCell ⟨b, p.toNat, none⟩ (.string x)).drew).cell? ⟨b6, 1, none⟩ = some (.string x) := (World.cell?_of_block (w := wc) (Below.heap_setCell _ _ _ _ hne6)).trans e61
          have HDK := Aside0.mk (show IsDiskAt ((wc.setCell ⟨b, p.toNat, none⟩ (.string x)).drew) g okw { s with dur := crashAt (choiceOf cs) 0 s.dur (s.pen.take (k + 1)) } (.slice (some ⟨b, 0, none⟩) s.dur.length k0) (.slice (some ad) s.pen.length k1) m vr from by rw [HF.out, HC2.out]; exact HN.out)
          have HON2 := Aside0.mk (show Only okw wc ((wc.setCell ⟨b, p.toNat, none⟩ (.string x)).drew) from (((Only.refl okw wc).setCell (p := ⟨b, p.toNat, none⟩) (.inl hokb) (.string x)).drew))
          have hWs := HI.out.on.size
          have HL := Aside0.mk (show (((wc.setCell ⟨b, p.toNat, none⟩ (.string x)).drew).setCell ⟨w.heap.size + 1, 0, none⟩ (.int .i64 ((k : Int) + 1))).heap[wE.heap.size + 1]? = W.heap[wE.heap.size + 1]? from (Below.heap_setCell _ _ _ _ (by have := HLT2.out; simp; omega)).trans ((Below.heap_setCell _ _ _ _ (by have := HLT2.out; simp; omega)).trans (hHB.out.block _ (blk_lt HR.out))))
          have HDD := Aside0.mk (show (((wc.setCell ⟨b, p.toNat, none⟩ (.string x)).drew).setCell ⟨w.heap.size + 1, 0, none⟩ (.int .i64 ((k : Int) + 1))).heap[wE.heap.size]? = W.heap[wE.heap.size]? from (Below.heap_setCell _ _ _ _ (by have := HLT2.out; simp; omega)).trans ((Below.heap_setCell _ _ _ _ (by have := HLT2.out; simp; omega)).trans (hHB.out.block _ (blk_lt HDF.out))))
          have HOKB := Aside0.mk hokb
          clear hokb
          refine wpIn_region_round (fun V => V.cell? ⟨w.heap.size, 0, none⟩ = some (.pointer (some ⟨g, 0, none⟩)) ∧ V.cell? ⟨g, 0, none⟩ = some (.slice (some ⟨b, 0, none⟩) s.dur.length k0) ∧ V.cell? ⟨b6, 0, none⟩ = some (.int .i64 p) ∧ V.cell? ⟨b6, 1, none⟩ = some (.string x)) hfm (by rintro ⟨_, _, h⟩; exact h) (by kernel_rfl) ?_
          refine wpAnyH_take (i := 0) (v := (.pointer (some ⟨g, 0, none⟩))) rfl (by kernel_rfl) (by kernel_rfl) (by kernel_rfl) (fun _ _ _ h => h) (Or.inl ⟨by rfl, ?_⟩) ⟨cd, c0, e60, e61⟩ ?_
          · rintro V ⟨s1, s2, s3, s4⟩
            go_simp
          refine wpAnyH_take (i := 1) (v := (.pointer (some ⟨g, 0, none⟩))) rfl (by kernel_rfl) (by kernel_rfl) (by kernel_rfl) (fun _ _ _ h => h) (Or.inl ⟨by rfl, ?_⟩) ⟨cd, c0, e60, e61⟩ ?_
          · rintro V ⟨s1, s2, s3, s4⟩
            go_simp
          refine wpAnyH_take (i := 2) (v := (.pointer (some ⟨g, 0, none⟩))) rfl (by kernel_rfl) (by kernel_rfl) (by kernel_rfl) (fun _ _ _ h => h) (Or.inl ⟨by rfl, ?_⟩) ⟨cd, c0, e60, e61⟩ ?_
          · rintro V ⟨s1, s2, s3, s4⟩
            go_simp
          refine wpAnyH_take (i := 3) (v := (.slice (some ⟨b, 0, none⟩) s.dur.length k0)) rfl (by kernel_rfl) (by kernel_rfl) (by kernel_rfl) (fun _ _ _ h => h) (Or.inl ⟨by rfl, ?_⟩) ⟨cd, c0, e60, e61⟩ ?_
          · rintro V ⟨s1, s2, s3, s4⟩
            go_simp
          refine wpAnyH_take (i := 4) (v := (.pointer (some ⟨b6, 0, none⟩))) rfl (by kernel_rfl) (by kernel_rfl) (by kernel_rfl) (fun _ _ _ h => h) (Or.inl ⟨by rfl, ?_⟩) ⟨cd, c0, e60, e61⟩ ?_
          · rintro V ⟨s1, s2, s3, s4⟩
            go_simp
          refine wpAnyH_take (i := 5) (v := (.int .i64 p)) rfl (by kernel_rfl) (by kernel_rfl) (by kernel_rfl) (fun _ _ _ h => h) (Or.inl ⟨by rfl, ?_⟩) ⟨cd, c0, e60, e61⟩ ?_
          · rintro V ⟨s1, s2, s3, s4⟩
            go_simp
          refine wpAnyH_take (i := 6) (v := (.pointer (some ⟨b6, 1, none⟩))) rfl (by kernel_rfl) (by kernel_rfl) (by kernel_rfl) (fun _ _ _ h => h) (Or.inl ⟨by rfl, ?_⟩) ⟨cd, c0, e60, e61⟩ ?_
          · rintro V ⟨s1, s2, s3, s4⟩
            go_simp
          refine wpAnyH_take (i := 7) (v := (.string x)) rfl (by kernel_rfl) (by kernel_rfl) (by kernel_rfl) (fun _ _ _ h => h) (Or.inl ⟨by rfl, ?_⟩) ⟨cd, c0, e60, e61⟩ ?_
          · rintro V ⟨s1, s2, s3, s4⟩
            go_simp
          refine wpAnyH_take (i := 8) (v := (.pointer (some ⟨b, p.toNat, none⟩))) rfl (by kernel_rfl) (by kernel_rfl) (by kernel_rfl) (fun _ _ _ h => h) (Or.inl ⟨by rfl, ?_⟩) ⟨cd, c0, e60, e61⟩ ?_
          · rintro V ⟨s1, s2, s3, s4⟩
            go_simp
          refine wpAnyH_all (rs := [9]) (by kernel_rfl) (by simp) ?_
          intro i hi
          obtain rfl := List.mem_singleton.1 hi
          refine wpOp_step rfl (fun K hK => ?_)
          go_simp
          refine hK _ _ ⟨⟨?_, ?_, ?_, ?_⟩, wpAnyH_done (by kernel_rfl) ?_ _⟩
          · exact HCD
          · exact HC0
          · exact HE60
          · exact HE61
          clear cd c0 e60 e61 f0 f1 ci fi
          gi_wp2
          exact ⟨by have hh := CrashIn.step (W3 := ((wc.setCell ⟨b, p.toNat, none⟩ (.string x)).drew)) HI2.out HLT.out HLT2.out hlt HDK.out HON2.out; rwa [show ((k + 1 : Nat) : Int) = (k : Int) + 1 from by omega] at hh, HL.out, HDD.out⟩
        · by_cases h2 : ch = 2
          · subst h2
            have HC2 := Aside0.mk hch
            clear hch
            gi_wp2
            obtain ⟨b, u, hA0, hbn, hokb, f0, f1, hN⟩ := HI2.out.dk.drew.put p ⟨hp0, by rw [crashAt_length]; exact hp1⟩ torn
            subst hA0
            clear hbn
            have HN := Aside0.mk hN
            clear hN
            have hbw := HLT.out b hokb
            have hneg : g ≠ b := fun e => by
              obtain ⟨c9, hc9⟩ := Kd.R_typed HI2.out.dk.dur b (by simp [Value.ownBlock])
              have h9 := HI2.out.dk.blk
              rw [e, hc9] at h9
              injection h9 with h9
              injection h9 with _ h9
              cases h9
            have hne6 : b6 ≠ b := by have := HI.out.on.size; have := HLT2.out; omega
            have HCI : ((wc.setCell ⟨b, p.toNat, none⟩ (.string torn)).drew).cell? ⟨w.heap.size + 1, 0, none⟩ = some (.int .i64 k) := (World.cell?_of_block (w := wc) (Below.heap_setCell _ _ _ _ (by simp; omega))).trans ci
            have HCD : ((wc.setCell ⟨b, p.toNat, none⟩ (.string torn)).drew).cell? ⟨w.heap.size, 0, none⟩ = some (.pointer (some ⟨g, 0, none⟩)) := (World.cell?_of_block (w := wc) (Below.heap_setCell _ _ _ _ (by simp; omega))).trans cd
            have HFI : ((wc.setCell ⟨b, p.toNat, none⟩ (.string torn)).drew).frozen? ⟨w.heap.size + 1, 0, none⟩ = false := (World.frozen?_of_block (w := wc) (Below.heap_setCell _ _ _ _ (by simp; omega))).trans fi
            have HC0 : ((wc.setCell ⟨b, p.toNat, none⟩ (.string torn)).drew).cell? ⟨g, 0, none⟩ = some (.slice (some ⟨b, 0, none⟩) s.dur.length k0) := (World.cell?_of_block (w := wc) (Below.heap_setCell _ _ _ _ hneg)).trans c0
            have HE60 : ((wc.setCell ⟨b, p.toNat, none⟩ (.string torn)).drew).cell? ⟨b6, 0, none⟩ = some (.int .i64 p) := (World.cell?_of_block (w := wc) (Below.heap_setCell _ _ _ _ hne6)).trans e60
            have HE61 : ((wc.setCell ⟨b, p.toNat, none⟩ (.string torn)).drew).cell? ⟨b6, 1, none⟩ = some (.string x) := (World.cell?_of_block (w := wc) (Below.heap_setCell _ _ _ _ hne6)).trans e61
            have HDK := Aside0.mk (show IsDiskAt ((wc.setCell ⟨b, p.toNat, none⟩ (.string torn)).drew) g okw { s with dur := crashAt (choiceOf cs) 0 s.dur (s.pen.take (k + 1)) } (.slice (some ⟨b, 0, none⟩) s.dur.length k0) (.slice (some ad) s.pen.length k1) m vr from by rw [HF.out, HC2.out]; exact HN.out)
            have HON2 := Aside0.mk (show Only okw wc ((wc.setCell ⟨b, p.toNat, none⟩ (.string torn)).drew) from (((Only.refl okw wc).setCell (p := ⟨b, p.toNat, none⟩) (.inl hokb) (.string torn)).drew))
            have hWs := HI.out.on.size
            have HL := Aside0.mk (show (((wc.setCell ⟨b, p.toNat, none⟩ (.string torn)).drew).setCell ⟨w.heap.size + 1, 0, none⟩ (.int .i64 ((k : Int) + 1))).heap[wE.heap.size + 1]? = W.heap[wE.heap.size + 1]? from (Below.heap_setCell _ _ _ _ (by have := HLT2.out; simp; omega)).trans ((Below.heap_setCell _ _ _ _ (by have := HLT2.out; simp; omega)).trans (hHB.out.block _ (blk_lt HR.out))))
            have HDD := Aside0.mk (show (((wc.setCell ⟨b, p.toNat, none⟩ (.string torn)).drew).setCell ⟨w.heap.size + 1, 0, none⟩ (.int .i64 ((k : Int) + 1))).heap[wE.heap.size]? = W.heap[wE.heap.size]? from (Below.heap_setCell _ _ _ _ (by have := HLT2.out; simp; omega)).trans ((Below.heap_setCell _ _ _ _ (by have := HLT2.out; simp; omega)).trans (hHB.out.block _ (blk_lt HDF.out))))
            have HOKB := Aside0.mk hokb
            clear hokb
            refine wpIn_region_round (fun V => V.cell? ⟨w.heap.size, 0, none⟩ = some (.pointer (some ⟨g, 0, none⟩)) ∧ V.cell? ⟨g, 0, none⟩ = some (.slice (some ⟨b, 0, none⟩) s.dur.length k0) ∧ V.cell? ⟨b6, 0, none⟩ = some (.int .i64 p) ∧ V.cell? ⟨b6, 1, none⟩ = some (.string x)) hfm (by rintro ⟨_, _, h⟩; exact h) (by kernel_rfl) ?_
            refine wpAnyH_take (i := 0) (v := (.pointer (some ⟨g, 0, none⟩))) rfl (by kernel_rfl) (by kernel_rfl) (by kernel_rfl) (fun _ _ _ h => h) (Or.inl ⟨by rfl, ?_⟩) ⟨cd, c0, e60, e61⟩ ?_
            · rintro V ⟨s1, s2, s3, s4⟩
              go_simp
            refine wpAnyH_take (i := 1) (v := (.pointer (some ⟨g, 0, none⟩))) rfl (by kernel_rfl) (by kernel_rfl) (by kernel_rfl) (fun _ _ _ h => h) (Or.inl ⟨by rfl, ?_⟩) ⟨cd, c0, e60, e61⟩ ?_
            · rintro V ⟨s1, s2, s3, s4⟩
              go_simp
            refine wpAnyH_take (i := 2) (v := (.pointer (some ⟨g, 0, none⟩))) rfl (by kernel_rfl) (by kernel_rfl) (by kernel_rfl) (fun _ _ _ h => h) (Or.inl ⟨by rfl, ?_⟩) ⟨cd, c0, e60, e61⟩ ?_
            · rintro V ⟨s1, s2, s3, s4⟩
              go_simp
            refine wpAnyH_take (i := 3) (v := (.slice (some ⟨b, 0, none⟩) s.dur.length k0)) rfl (by kernel_rfl) (by kernel_rfl) (by kernel_rfl) (fun _ _ _ h => h) (Or.inl ⟨by rfl, ?_⟩) ⟨cd, c0, e60, e61⟩ ?_
            · rintro V ⟨s1, s2, s3, s4⟩
              go_simp
            refine wpAnyH_take (i := 4) (v := (.pointer (some ⟨b6, 0, none⟩))) rfl (by kernel_rfl) (by kernel_rfl) (by kernel_rfl) (fun _ _ _ h => h) (Or.inl ⟨by rfl, ?_⟩) ⟨cd, c0, e60, e61⟩ ?_
            · rintro V ⟨s1, s2, s3, s4⟩
              go_simp
            refine wpAnyH_take (i := 5) (v := (.int .i64 p)) rfl (by kernel_rfl) (by kernel_rfl) (by kernel_rfl) (fun _ _ _ h => h) (Or.inl ⟨by rfl, ?_⟩) ⟨cd, c0, e60, e61⟩ ?_
            · rintro V ⟨s1, s2, s3, s4⟩
              go_simp
            refine wpAnyH_take (i := 6) (v := (.pointer (some ⟨b, p.toNat, none⟩))) rfl (by kernel_rfl) (by kernel_rfl) (by kernel_rfl) (fun _ _ _ h => h) (Or.inl ⟨by rfl, ?_⟩) ⟨cd, c0, e60, e61⟩ ?_
            · rintro V ⟨s1, s2, s3, s4⟩
              go_simp
            refine wpAnyH_all (rs := [7]) (by kernel_rfl) (by simp) ?_
            intro i hi
            obtain rfl := List.mem_singleton.1 hi
            refine wpOp_step rfl (fun K hK => ?_)
            go_simp
            refine hK _ _ ⟨⟨?_, ?_, ?_, ?_⟩, wpAnyH_done (by kernel_rfl) ?_ _⟩
            · exact HCD
            · exact HC0
            · exact HE60
            · exact HE61
            clear cd c0 e60 e61 f0 f1 ci fi
            gi_wp2
            exact ⟨by have hh := CrashIn.step (W3 := ((wc.setCell ⟨b, p.toNat, none⟩ (.string torn)).drew)) HI2.out HLT.out HLT2.out hlt HDK.out HON2.out; rwa [show ((k + 1 : Nat) : Int) = (k : Int) + 1 from by omega] at hh, HL.out, HDD.out⟩
          · have HC2 := Aside0.mk hch
            have hb1' : (ch == 1) = false := by simp [h1]
            have hb2' : (ch == 2) = false := by simp [h2]
            have HDK := Aside0.mk (show IsDiskAt wc g okw { s with dur := crashAt (choiceOf cs) 0 s.dur (s.pen.take (k + 1)) } (.slice A0 s.dur.length k0) (.slice (some ad) s.pen.length k1) m vr from by
              rw [HF.out, HC2.out]
              unfold stepC
              rw [if_neg h1, if_neg h2]
              exact HI2.out.dk)
            have hWs := HI.out.on.size
            have HL := Aside0.mk (show (wc.setCell ⟨w.heap.size + 1, 0, none⟩ (.int .i64 ((k : Int) + 1))).heap[wE.heap.size + 1]? = W.heap[wE.heap.size + 1]? from (Below.heap_setCell _ _ _ _ (by have := HLT2.out; simp; omega)).trans (hHB.out.block _ (blk_lt HR.out)))
            have HDD := Aside0.mk (show (wc.setCell ⟨w.heap.size + 1, 0, none⟩ (.int .i64 ((k : Int) + 1))).heap[wE.heap.size]? = W.heap[wE.heap.size]? from (Below.heap_setCell _ _ _ _ (by have := HLT2.out; simp; omega)).trans (hHB.out.block _ (blk_lt HDF.out)))
            clear hch
            gi_wp2
            exact ⟨by have hh := CrashIn.step (W3 := wc) HI2.out HLT.out HLT2.out hlt HDK.out (Only.refl _ _); rwa [show ((k + 1 : Nat) : Int) = (k : Int) + 1 from by omega] at hh, HL.out, HDD.out⟩
  case stop =>
    rintro c W ⟨rfl, k, hk, hI⟩ hdf
    have HI := Aside0.mk hI
    have cd := hI.cd
    have HDF := Aside0.mk hdf
    have HK := Aside0.mk hk
    clear hI hdf hk
    gi_wp2_with fail
    refine ⟨trivial, ?_⟩
    refine (callsIn_wide.2 (forget_calls g okw _ W ⟨_, _, _, _, HI.out.dk⟩)).mono ?_
    rintro e W2 ⟨rfl, hi2, ho2⟩
    have hs2 := ho2.size
    have hon := HI.out.on
    have hsE := HB.out.size
    have hdf2 := (ho2.block _ (blk_lt HDF.out) (fun h => by have := HLT.out _ h; have := HLT2.out; omega)).trans HDF.out
    have hI3 := hi2.stay (w' := W2.putObj wE.heap.size (.deferred none)) (ok' := fun b => ok b ∨ w.heap.size ≤ b) (fun b hb _ => World.putObj_heap_other (by have := HLT.out _ hb; have := HLT2.out; omega)) (fun b hb _ => by rw [HOW.out] at hb; exact .inl hb.1)
    have hfin : ({ s with dur := crashAt (choiceOf cs) 0 s.dur (s.pen.take k), pen := [] } : DS) = crashD s cs := by rw [HK.out, List.take_length]; rfl
    rw [hfin] at hI3
    have hO : Only ok w (W2.putObj wE.heap.size (.deferred none)) := by
      have h1 : Only ok w wE := (((Only.refl ok w).alloc _).alloc _).trans (Only.of_below HB.out (fun _ => False)) (fun _ h => h.elim)
      have h2 : Only ok w W := h1.trans hon (fun b hb => by
        rcases hb with hb | hb | hb
        · rw [HOW.out] at hb; exact .inl hb.1
        · right; omega
        · right; have := h1.size; omega)
      exact (h2.trans ho2 (fun b hb => by rw [HOW.out] at hb; exact .inl hb.1)).putObj (.inr h1.size) _
    gi_wp2
    refine ⟨by simp, .inl ⟨_, _, rfl, run_takeDeferred hdf2, ?_⟩⟩
    exact ⟨_, results_none rfl _ _ _, rfl, hI3, hO⟩
end Go.Proofs.Ytccomlafacdcjaa.Dk
