/-
  slices.Clone at strings and at pending writes; the disk's Clone.
-/
import Derived.Test.YtccomlafacdcjaaDn
import Derived.Test.YtccomlafacdcjaaDr
import Derived.Lib.SliceRun
import Derived.Deep.Cut
import Derived.Deep.DeepCutAuto
import Derived.Deep.RegionHeld3
namespace Go.Proofs.Ytccomlafacdcjaa.Dk
open Go.RowKit Go.Proofs.YtccomlafacdcjaaW.PrintWords Go.Proofs.YtccomlafacdcjaaW.PrintMore
set_option linter.unusedVariables false

theorem C_none {α : Type} {d : Kd α} {w : World} {n : Nat} {xs : List α} (h : Kd.C d w none n xs) : xs = [] := by
  cases xs with
  | nil => rfl
  | cons x l =>
    have hn : (x :: l).length = n := h.1
    obtain ⟨ad, c, e, _⟩ := Kd.C_get h x 0 (by omega) (by simp at hn; omega)
    cases e

set_option maxRecDepth 100000 in
theorem CloneS_calls (A : Option Addr) (c : Nat) (xs : List ByteArray) (w : World) (h : Kd.C Kd.string w A xs.length xs) (hl : xs.length ≤ 1000000000) :
    Calls Try.prog 38 #[.slice A xs.length c] w fun e w' => ∃ v, e = .returned v ∧ Kd.R Kd.string 9 w' w.heap.size (fun _ => True) v xs ∧ Below w.heap.size w w' := by
  cases A with
  | none =>
    obtain rfl := C_none h
    have heq := Lib.run_eql_slice_nil w 29 9 none 0 c 0 0 Try.underlying29
    go_enter Try.func38, Try.ntmps38
    go_wp2
    go_ret
    exact ⟨_, rfl, Kd.R_nil _ _ _ _ _, Below.refl _ _⟩
  | some ad =>
    have heq := Lib.run_eql_slice_nil w 29 9 (some ad) xs.length c 0 0 Try.underlying29
    have HC := Aside0.mk h
    clear h
    go_enter Try.func38, Try.ntmps38
    go_wp2_with (first | ((with_reducible refine gate_dst (N := 5) rfl ?_); refine Kd.R_lit Kd.string _ 9 ?hg (N := 5) ?hd (xs := ([] : List ByteArray)) (inner := []) (ok := fun _ => True) (okp := fun _ => True) ?hr ?hp (fun _ hk => hk) trivial (Below.refl _ _) (Nat.le_refl _) (by simp) ?_; (case hd => rfl); (case hg => rfl); (case hr => first | (go_simp; done) | (go_simp; rfl)); (case hp => exact (Reps.none _ _)); intro v1 w1 hR hb hgr hn; have HR1 := Aside0.mk hR; have HB1 := Aside0.mk hb; clear hR hb hgr hn) | ((with_reducible refine gate_builtin (b := .append) (xs := #[.tmp 5, .tmp 6]) rfl ?_); at_builtin; refine Kd.R_append_rows Kd.string (w0 := w) w.heap.size rfl (.tmp 5) (.tmp 6) 29 9 (.string ⟨#[]⟩) 16 rfl Try.underlying29 info9 rfl (by decide) (by omega) v1 [] xs _ _ _ (fun _ => True) (fun _ => False) rfl rfl ?aO ?aR (fun _ _ h => h) (fun _ h => h.elim) ?aF ?aB ?aS ?aL ?_; (case aR => exact Kd.C_below HC.out HB1.out); (case aB => exact HB1.out); (case aF => exact (fun _ _ => trivial)); (case aO => exact HR1.out); (case aS => exact HB1.out.size); (case aL => simp; omega); intro v2 w2 hR2 hb2 hgr2 hat2; have HR2 := Aside0.mk hR2; have HB2 := Aside0.mk hb2; clear hR2 hb2 hgr2 hat2))
    go_ret
    exact ⟨_, rfl, HR2.out, HB2.out⟩

set_option maxRecDepth 100000 in
theorem CloneP_calls (A : Option Addr) (c : Nat) (xs : List (Int × ByteArray)) (w : World) (h : Kd.C kpen w A xs.length xs) (hl : xs.length ≤ 1000000000) :
    Calls Try.prog 39 #[.slice A xs.length c] w fun e w' => ∃ v, e = .returned v ∧ Kd.R kpen 79 w' w.heap.size (fun _ => True) v xs ∧ Below w.heap.size w w' := by
  cases A with
  | none =>
    obtain rfl := C_none h
    have heq := Lib.run_eql_slice_nil w 71 79 none 0 c 0 0 Try.underlying71
    go_enter Try.func39, Try.ntmps39
    go_wp2
    go_ret
    exact ⟨_, rfl, Kd.R_nil _ _ _ _ _, Below.refl _ _⟩
  | some ad =>
    have heq := Lib.run_eql_slice_nil w 71 79 (some ad) xs.length c 0 0 Try.underlying71
    have HC := Aside0.mk h
    clear h
    go_enter Try.func39, Try.ntmps39
    go_wp2_with (first | ((with_reducible refine gate_dst (N := 5) rfl ?_); refine Kd.R_lit kpen _ 79 ?hg (N := 5) ?hd (xs := ([] : List (Int × ByteArray))) (inner := []) (ok := fun _ => True) (okp := fun _ => True) ?hr ?hp (fun _ hk => hk) trivial (Below.refl _ _) (Nat.le_refl _) (by simp) ?_; (case hd => rfl); (case hg => rfl); (case hr => first | (go_simp; done) | (go_simp; rfl)); (case hp => exact (Reps.none _ _)); intro v1 w1 hR hb hgr hn; have HR1 := Aside0.mk hR; have HB1 := Aside0.mk hb; clear hR hb hgr hn) | ((with_reducible refine gate_builtin (b := .append) (xs := #[.tmp 5, .tmp 6]) rfl ?_); at_builtin; refine Kd.R_append_rows kpen (w0 := w) w.heap.size rfl (.tmp 5) (.tmp 6) 71 79 (.agg #[.int .i64 0, .string ⟨#[]⟩]) 24 rfl Try.underlying71 info79 rfl (by decide) (by omega) v1 [] xs _ _ _ (fun _ => True) (fun _ => False) rfl rfl ?aO ?aR (fun _ _ h => h) (fun _ h => h.elim) ?aF ?aB ?aS ?aL ?_; (case aR => exact Kd.C_below HC.out HB1.out); (case aB => exact HB1.out); (case aF => exact (fun _ _ => trivial)); (case aO => exact HR1.out); (case aS => exact HB1.out.size); (case aL => simp; omega); intro v2 w2 hR2 hb2 hgr2 hat2; have HR2 := Aside0.mk hR2; have HB2 := Aside0.mk hb2; clear hR2 hb2 hgr2 hat2))
    go_ret
    exact ⟨_, rfl, HR2.out, HB2.out⟩


/-- A disk that is being cloned: the map is not filled yet. -/
structure HalfD (w0 w : World) (g : Nat) (s : DS) (v0 v1 : Value) (m : Nat) (f : Int → Option Int) : Prop where
  blk : w.heap[g]? = some (.cells (dcells v0 v1 m false (.slice none 0 0)) 73 (0, 0))
  leg : w0.heap.size ≤ g
  lem : w0.heap.size ≤ m
  map : MapAt w m f
  dur : Kd.R Kd.string 9 w 0 (fun k => w0.heap.size ≤ k) v0 s.dur
  pen : Kd.R kpen 79 w 0 (fun k => w0.heap.size ≤ k) v1 s.pen
  bel : Below w0.heap.size w0 w

section
variable {w0 w : World} {g m : Nat} {s : DS} {v0 v1 : Value} {f f' : Int → Option Int}
theorem MapAt.as (h : MapAt w m f) (hf : ∀ p, f p = f' p) : MapAt w m f' := by
  obtain ⟨es, cl, h1, h2, h3⟩ := h
  exact ⟨es, cl, h1, h2, fun p => (h3 p).trans (hf p)⟩
theorem HalfD.stay {w1 : World} (h : HalfD w0 w g s v0 v1 m f) (hb : ∀ k, w0.heap.size ≤ k → (∃ c e z, w.heap[k]? = some (.cells c e z)) ∨ k = m → w1.heap[k]? = w.heap[k]?) (hB : Below w0.heap.size w0 w1) : HalfD w0 w1 g s v0 v1 m f := by
  refine ⟨(hb g h.leg (.inl ⟨_, _, _, h.blk⟩)).trans h.blk, h.leg, h.lem, h.map.stay (hb m h.lem (.inr rfl)), ?_, ?_, hB⟩
  · exact Kd.R_mono (Kd.R_move (Kd.R_bound h.dur) (fun k hk => hb k hk.1 (by obtain ⟨_, _, _, q, _, c, hc⟩ := hk; exact .inl ⟨_, _, _, hc⟩))) (fun k hk => hk.1)
  · exact Kd.R_mono (Kd.R_move (Kd.R_bound h.pen) (fun k hk => hb k hk.1 (by obtain ⟨_, _, _, q, _, c, hc⟩ := hk; exact .inl ⟨_, _, _, hc⟩))) (fun k hk => hk.1)
theorem HalfD.alloc (h : HalfD w0 w g s v0 v1 m f) (o : Obj) : HalfD w0 (w.alloc o) g s v0 v1 m f := by
  refine h.stay (fun k _ hk => Below.heap_alloc w o k ?_) (below_alloc h.bel o)
  rcases hk with ⟨_, _, _, hc⟩ | rfl
  · exact blk_lt hc
  · exact h.map.lt
theorem HalfD.drewN (h : HalfD w0 w g s v0 v1 m f) (n : Nat) : HalfD w0 (w.drewN n) g s v0 v1 m f := h.stay (fun k _ hk => rfl) (pw_below_drewN h.bel n)
/-- The iterator's own step. -/
theorem HalfD.iter {it m0 : Nat} {cl cl' : Nat} {seen : Array Nat} (h : HalfD w0 w g s v0 v1 m f) (hit : w.heap[it]? = some (.mapIter (some m0) cl seen cl')) (o : Obj) (hle : w0.heap.size ≤ it) : HalfD w0 (w.putObj it o) g s v0 v1 m f := by
  refine h.stay (fun k _ hk => World.putObj_heap_other ?_) ?_
  · rintro rfl
    rcases hk with ⟨_, _, _, hc⟩ | rfl
    · rw [hit] at hc; cases hc
    · obtain ⟨es, c, hm, _⟩ := h.map
      rw [hit] at hm; cases hm
  · exact h.bel.trans ⟨rfl, rfl, rfl, by simp, fun k hk => World.putObj_heap_other (by omega)⟩
theorem HalfD.mapTurn {o : Obj} (h : HalfD w0 w g s v0 v1 m f) (hm : MapAt (w.putObj m o) m f') {f'' : Int → Option Int} (hf : ∀ p, f'' p = f' p) : HalfD w0 (w.putObj m o) g s v0 v1 m f'' := by
  have hne : ∀ {k : Nat} {c e z}, w.heap[k]? = some (.cells c e z) → k ≠ m := fun hc e => h.map.notCells _ _ _ (e ▸ hc)
  refine ⟨(World.putObj_heap_other (hne h.blk)).trans h.blk, h.leg, h.lem, hm.as (fun p => (hf p).symm), ?_, ?_, h.bel.trans ⟨rfl, rfl, rfl, by simp, fun k hk => World.putObj_heap_other (by have := h.lem; omega)⟩⟩
  · exact Kd.R_mono (Kd.R_move (Kd.R_bound h.dur) (fun k hk => by obtain ⟨_, _, _, q, _, c, hc⟩ := hk; exact World.putObj_heap_other (hne hc))) (fun k hk => hk.1)
  · exact Kd.R_mono (Kd.R_move (Kd.R_bound h.pen) (fun k hk => by obtain ⟨_, _, _, q, _, c, hc⟩ := hk; exact World.putObj_heap_other (hne hc))) (fun k hk => hk.1)
end

theorem Kd.R_mine' {α : Type} {d : Kd α} {e : Nat} {ok : Nat → Prop} {v : Value} {xs : List α} {w W w1 : World} (h : d.R e w1 W.heap.size ok v xs) (hle : w.heap.size ≤ W.heap.size) : d.R e w1 0 (fun k => w.heap.size ≤ k) v xs :=
  Kd.R_lower (Kd.R_mono (Kd.R_bound h) (fun k hk => Nat.le_trans hle hk.2.1)) (Nat.zero_le _)

set_option maxHeartbeats 1000000 in
set_option maxRecDepth 100000 in
theorem Clone_calls (g : Nat) (ok : Nat → Prop) (s : DS) (w : World) (h : IsDisk w g ok s) (hlen : s.pen.length < 1000000) :
    Calls Try.prog 23 #[.pointer (some ⟨g, 0, none⟩)] w fun e w' => ∃ g', e = .returned (.pointer (some ⟨g', 0, none⟩)) ∧ IsDisk w' g' (fun k => w.heap.size ≤ k) { dur := s.dur, pen := s.pen, rc := false, log := [] } ∧ Below w.heap.size w w' := by
  obtain ⟨vd, vp, m, vr, h⟩ := h
  obtain ⟨A0, k0, rfl, hc0, hC0⟩ := Kd.R_reads h.dur
  obtain ⟨A1, k1, rfl, hc1, hC1⟩ := Kd.R_reads h.pen
  have c0 := h.c0
  have c1 := h.c1
  have hlim := h.lim
  have HC0 := Aside0.mk (fun W (hb : Below w.heap.size w W) => Kd.C_below hC0 hb)
  have HC1 := Aside0.mk (fun W (hb : Below w.heap.size w W) => Kd.C_below hC1 hb)
  have HK : ∀ W, Below w.heap.size w W → W.cell? ⟨g, 0, none⟩ = some (.slice A0 s.dur.length k0) ∧ W.cell? ⟨g, 1, none⟩ = some (.slice A1 s.pen.length k1) := fun W hb => ⟨(hb.cell (p := ⟨g, 0, none⟩) (blk_lt h.blk)).trans h.c0, (hb.cell (p := ⟨g, 1, none⟩) (blk_lt h.blk)).trans h.c1⟩
  have HD := Aside0.mk h
  have hmm := @run_makeMap Try.prog
  have hu73 := Try.underlying73
  have hg := blk_lt h.blk
  have HW := Aside0.mk (Below.refl w.heap.size w)
  clear h hC0 hC1
  go_enter Try.func23, Try.ntmps23
  go_upto_region 1 with fail
  go_cut [3] (fun s3 wx => ∃ (g' : Nat) (v0 v1 : Value) (m' : Nat), s3 = .pointer (some ⟨g', 0, none⟩) ∧ HalfD w wx g' s v0 v1 m' (fun _ => none))
  case first =>
    go_region_held3 (fun w' => w'.cell? ⟨g, 0, none⟩ = some (.slice A0 s.dur.length k0) ∧ w'.cell? ⟨g, 1, none⟩ = some (.slice A1 s.pen.length k1)) (exact HK _ (by repeat (first | (with_reducible exact HB2.out) | (with_reducible exact HB1.out) | (with_reducible exact HW.out) | apply below_alloc | apply below_drew1)))
      (first
        | (go_at_call 38; refine (CloneS_calls A0 k0 s.dur _ ?s1 (by omega)).mono ?_; (case s1 => exact HC0.out _ (by repeat (first | (with_reducible exact HB2.out) | (with_reducible exact HB1.out) | (with_reducible exact HW.out) | apply below_alloc | apply below_drew1))); rintro e w1 ⟨v1, rfl, hR1, hB1⟩; obtain ⟨B0, q0, rfl⟩ := Kd.R_slice hR1; have HX1 := Aside0.mk hB1; have HB1 := Aside0.mk (below_step (w := w) (by repeat (first | (with_reducible exact HB2.out) | (with_reducible exact HB1.out) | (with_reducible exact HW.out) | apply below_alloc | apply below_drew1)) hB1); have HR1 := Aside0.mk (Kd.R_mine' (w := w) hR1 (Below.size (show Below w.heap.size w _ from (by repeat (first | (with_reducible exact HB2.out) | (with_reducible exact HB1.out) | (with_reducible exact HW.out) | apply below_alloc | apply below_drew1))))); clear hR1 hB1)
        | (go_at_call 39; refine (CloneP_calls A1 k1 s.pen _ ?s1 (by omega)).mono ?_; (case s1 => exact HC1.out _ (by repeat (first | (with_reducible exact HB2.out) | (with_reducible exact HB1.out) | (with_reducible exact HW.out) | apply below_alloc | apply below_drew1))); rintro e w2 ⟨v2, rfl, hR2, hB2⟩; obtain ⟨B1, q1, rfl⟩ := Kd.R_slice hR2; have HX2 := Aside0.mk hB2; have HB2 := Aside0.mk (below_step (w := w) (by repeat (first | (with_reducible exact HB2.out) | (with_reducible exact HB1.out) | (with_reducible exact HW.out) | apply below_alloc | apply below_drew1)) hB2); have HR2 := Aside0.mk (Kd.R_mine' (w := w) hR2 (Below.size (show Below w.heap.size w _ from (by repeat (first | (with_reducible exact HB2.out) | (with_reducible exact HB1.out) | (with_reducible exact HW.out) | apply below_alloc | apply below_drew1))))); have HR1' := Aside0.mk (Kd.R_below (w1 := w2) HR1.out (below_step (w := w1) (by repeat (first | (with_reducible exact Below.refl _ _) | apply below_alloc | apply below_drew1)) hB2)); clear HR1; have HR1 := HR1'; clear HR1'; clear hR2 hB2))
    all_goals
      go_wp2_with fail
      go_meet
    · exact ⟨_, _, _, _, rfl, by rw [← World.size_alloc w2 (.map #[] 0)]; exact heap_new _ _, Nat.le_succ_of_le HB2.out.size, HB2.out.size, (MapAt.empty w2).stay (Below.heap_alloc _ _ _ (by simp)), Kd.R_alloc (Kd.R_alloc HR1.out _) _, Kd.R_alloc (Kd.R_alloc HR2.out _) _, by repeat (first | (with_reducible exact HB2.out) | apply below_alloc)⟩
    · have hlt := HX2.out.size
      rw [World.size_alloc] at hlt
      exact ⟨_, _, _, _, rfl, heap_new _ _, HB2.out.size, HB1.out.size, ((MapAt.empty w1).stay (HX2.out.block _ (by simp))).stay (Below.heap_alloc _ _ _ (by omega)), Kd.R_alloc HR1.out _, Kd.R_alloc HR2.out _, by repeat (first | (with_reducible exact HB2.out) | apply below_alloc)⟩
    · have hlt := HX1.out.size
      have hlt2 := HX2.out.size
      have hlt3 : w.heap.size < w1.heap.size := by simp at hlt; omega
      exact ⟨_, _, _, _, rfl, heap_new _ _, HB2.out.size, Nat.le_refl _, (((MapAt.empty w).stay (w' := w1) (HX1.out.block w.heap.size (by simp))).stay (HX2.out.block _ hlt3)).stay (Below.heap_alloc _ _ _ (by omega)), Kd.R_alloc HR1.out _, Kd.R_alloc HR2.out _, by repeat (first | (with_reducible exact HB2.out) | apply below_alloc)⟩
  case rest =>
    obtain ⟨g', v0, v1, m', rfl, hH⟩ := hcut
    have hB := hH.bel
    have hgs := hB.size
    have c2 : wc.cell? ⟨g, 2, none⟩ = some (.map (some m)) := (hB.cell (p := ⟨g, 2, none⟩) hg).trans HD.out.c2
    obtain ⟨es, cl, hmb, hok, hf⟩ := HD.out.map
    have hmlt := blk_lt hmb
    have HMW := Aside0.mk (fun W (hb : Below w.heap.size w W) => (hb.block m hmlt).trans hmb)
    have hrange : (Instr.range 70 (.map (some m))).run Try.prog wc = .ok (.pointer (some ⟨wc.heap.size, 0, none⟩)) (wc.alloc (.mapIter (some m) cl #[] cl)) := run_range_ii _ _ _ _ (HMW.out wc hB)
    have HOK := Aside0.mk hok
    have HF := Aside0.mk hf
    have HH := Aside0.mk hH
    clear hH hok hf hmb c0 c1
    go_wp2
    go_loopg [] (unseen es #[]).length (fun q wr => ∃ seen : Array Nat, (unseen es seen).length = q ∧ Aside0 (wr.heap[wc.heap.size]? = some (.mapIter (some m) cl seen cl)) ∧ Aside0 (HalfD w wr g' s v0 v1 m' (look (seenOf es seen))) ∧ wc.heap.size < wr.heap.size)
    case atStart => exact ⟨#[], rfl, ⟨heap_new _ _⟩, ⟨by rw [seenOf_none]; exact HH.out.alloc _⟩, by simp⟩
    case round =>
      obtain ⟨seen, hq, HI, HR, hsz⟩ := hrel
      obtain ⟨hn1, hn2⟩ := run_next_ii wr wc.heap.size m cl es seen 0 HI.out (HMW.out wr HR.out.bel) HOK.out
      by_cases hu : unseen es seen = []
      · have hn := hn1 hu
        have HN := Aside0.mk (seenOf_all hu)
        clear hn1 hn2 hu hrange hq
        go_wp2
        go_ret
        have hh := HR.out
        rw [HN.out] at hh
        exact ⟨g', rfl, ⟨v0, v1, m', .slice none 0 0, hh.blk, hh.leg, hh.lem, hh.map.as HF.out, hh.dur, hh.pen, Kd.R_nil _ _ _ _ _, HD.out.inb, hlim⟩, hh.bel⟩
      · obtain ⟨x, n, hx, hn⟩ := hn2 hu
        clear hn1 hn2 hu hrange
        have hxe := (List.mem_filter.1 hx).1
        have h1 := (HR.out.drewN n).iter (it := wc.heap.size) HI.out (.mapIter (some m) cl (seen.push x.2.2) cl) hgs
        have hW1 : ((wr.drewN n).putObj wc.heap.size (.mapIter (some m) cl (seen.push x.2.2) cl)).heap[wc.heap.size]? = some (.mapIter (some m) cl (seen.push x.2.2) cl) := World.putObj_heap_same hsz
        have he := run_entry_ii _ wc.heap.size m cl es seen x hxe hW1 (HMW.out _ h1.bel) HOK.out
        obtain ⟨o, hup, hm2⟩ := run_mapUpdate_ii _ m' _ x.1 x.2.1 h1.map
        have c3 : ((wr.drewN n).putObj wc.heap.size (.mapIter (some m) cl (seen.push x.2.2) cl)).cell? ⟨g', 2, none⟩ = some (.map (some m')) := blk_cell h1.blk 2
        have hlook := look_seenOf HOK.out seen hxe
        have h2 := Aside0.mk (h1.mapTurn hm2 (fun q => hlook q))
        have hW2 := Aside0.mk (show ((((wr.drewN n).putObj wc.heap.size (.mapIter (some m) cl (seen.push x.2.2) cl)).putObj m' o).heap[wc.heap.size]?) = _ from (World.putObj_heap_other (fun e => by obtain ⟨es', c', hm', _⟩ := h1.map; rw [← e, hW1] at hm'; cases hm')).trans hW1)
        have hlt := unseen_push hx
        have hsz2 : wc.heap.size < (((wr.drewN n).putObj wc.heap.size (.mapIter (some m) cl (seen.push x.2.2) cl)).putObj m' o).heap.size := by simp; exact hsz
        have HQ := Aside0.mk hq
        clear h1 hW1 hlook hm2 hq
        go_wp2
        go_roundg (unseen es (seen.push x.2.2)).length
        case measure => have := HQ.out; omega
        case rel => exact ⟨seen.push x.2.2, rfl, hW2, h2, hsz2⟩
end Go.Proofs.Ytccomlafacdcjaa.Dk
