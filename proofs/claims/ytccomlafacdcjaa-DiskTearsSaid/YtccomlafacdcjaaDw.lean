/-
  The disk's writes: record, Write, Record, each by a contract.
-/
import Derived.Test.YtccomlafacdcjaaDk
namespace Go.Proofs.Ytccomlafacdcjaa.Dk
open Go.RowKit Go.Proofs.YtccomlafacdcjaaW.PrintWords Go.Proofs.YtccomlafacdcjaaW.PrintMore
set_option linter.unusedVariables false

def noted (s : DS) (x : Int × ByteArray × Bool) : DS := if s.rc = true then { s with log := s.log ++ [x] } else s

set_option maxRecDepth 100000 in
theorem record_any (g : Nat) (ok : Nat → Prop) (s : DS) (p : Int) (x : ByteArray) (b : Bool) (w : World) (h : IsDisk w g ok s) (hlen : s.log.length < 1000000) :
    Calls Try.prog 42 #[.pointer (some ⟨g, 0, none⟩), .agg #[.int .i64 p, .string x, .bool b]] w fun e w' => e = .returned (.tuple #[]) ∧ IsDisk w' g (fun k => ok k ∨ w.heap.size ≤ k) (noted s (p, x, b)) ∧ Only ok w w' := by
  by_cases hr : s.rc = true
  · rw [noted, if_pos hr]
    exact record_calls g ok s p x b w h hlen hr
  · rw [noted, if_neg hr]
    have hD := h
    obtain ⟨vd, vp, m, vr, h⟩ := h
    have c3 := h.c3
    rw [show s.rc = false by simpa using hr] at c3
    have hg := blk_lt h.blk
    clear h
    go_enter Try.func42, Try.ntmps42
    go_wp2
    go_end0
    exact ⟨rfl, (hD.mono (fun k hk _ => .inl hk)).below ((Below.refl _ _).alloc (Nat.le_refl _) _), (Only.refl _ _).alloc _⟩

section
variable {w w1 : World} {g : Nat} {ok : Nat → Prop} {s : DS} {vd vp vr v1 : Value} {m : Nat}
/-- A write's row in the pending writes' place, the map turned. -/
theorem IsDiskAt.new_pen (h : IsDiskAt w g ok s vd vp m vr) {o : Obj} {p : Int} {x : ByteArray} (hm : MapAt (w.drew.putObj m o) m (fun q => if q = p then some (s.pen.length : Int) else lastIdx s.pen q))
    (ho : Only (fun k => some k = vp.ownBlock) (w.drew.putObj m o) w1) (hR : Kd.R kpen 79 w1 0 (fun k => ok k ∨ w.heap.size ≤ k) v1 (s.pen ++ [(p, x)])) (hp : hasB s.dur.length p = true) :
    IsDisk (w1.setCell ⟨g, 1, none⟩ v1) g (fun k => ok k ∨ w.heap.size ≤ k) { s with pen := s.pen ++ [(p, x)] } ∧ Only ok w (w1.setCell ⟨g, 1, none⟩ v1) := by
  have hmg := h.m_ne
  have hW : ∀ k, k ≠ m → (w.drew.putObj m o).heap[k]? = w.heap[k]? := fun k hk => World.putObj_heap_other hk
  have hsz : (w.drew.putObj m o).heap.size = w.heap.size := World.putObj_size
  have hg0 : (w.drew.putObj m o).heap[g]? = some (.cells (dcells vd vp m s.rc vr) 73 (0, 0)) := (hW g (Ne.symm hmg)).trans h.blk
  have hg1 : w1.heap[g]? = some (.cells (dcells vd vp m s.rc vr) 73 (0, 0)) := (ho.block g (blk_lt hg0) (fun e => Kd.R_ne h.pen h.blk (by decide) e)).trans hg0
  have hmv : some m ≠ vp.ownBlock := fun e => by
    obtain ⟨c, hc⟩ := Kd.R_typed h.pen m e.symm
    exact h.map.notCells _ _ _ hc
  have hm1 : MapAt w1 m (lastIdx (s.pen ++ [(p, x)])) := by
    obtain ⟨es, cl, h1, h2, h3⟩ := hm.stay (ho.block m hm.lt hmv)
    refine ⟨es, cl, h1, h2, fun q => (h3 q).trans ?_⟩
    show _ = lastAt _ 0 q
    rw [lastAt_snoc, Nat.zero_add]
    rfl
  have far : ∀ {α : Type} {d : Kd α} {e : Nat} {v : Value} {xs : List α}, Kd.R d e w 0 ok v xs → (∀ q, q ∈ e :: d.E → q ≠ 79) → (∀ q, q ∈ e :: d.E → q ≠ 73) → Kd.R d e (w1.setCell ⟨g, 1, none⟩ v1) 0 (fun k => ok k ∨ w.heap.size ≤ k) v xs := fun hr h1 h2 => by
    have a1 := Kd.R_nomap (Kd.R_apart' hr (Kd.R_typed h.pen) h1) h.map.notCells
    have a2 := Kd.R_step (w1 := w1) a1 (fun k hk hlt => (ho.block k (by omega) hk.1.2).trans (hW k hk.2))
    exact Kd.R_mono (Kd.R_set (Kd.R_mono a2 (fun k hk => hk.1.1)) hg1 h2 1 v1) (fun k hk => .inl hk)
  refine ⟨⟨vd, v1, m, vr, blk_set hg1 1 v1, .inl h.okg, .inl h.okm, hm1.stay (Below.heap_setCell _ _ _ _ hmg), far h.dur (by simp [Kd.string, Kd.scalar]) (by simp [Kd.string, Kd.scalar]), Kd.R_set hR hg1 (by simp [Kd.string, Kd.scalar, Kd.pair, Kd.int]) 1 v1, far h.log (by simp [Kd.string, Kd.scalar, Kd.pair, Kd.int, Kd.bool]) (by simp [Kd.string, Kd.scalar, Kd.pair, Kd.int, Kd.bool]), ?_, h.lim⟩, ?_⟩
  · intro y hy
    rcases List.mem_append.1 hy with hy | hy
    · exact h.inb y hy
    · simp at hy
      subst hy
      simpa [hasB] using hp
  · refine Only.setCell ?_ (p := ⟨g, 1, none⟩) (.inl h.okg) _
    refine (((Only.refl ok w).drew.putObj (.inl h.okm) o)).trans ho (fun k hk => .inl (h.pen.1 k hk.symm))
end

/-- What a write makes of a disk. -/
def writeD (s : DS) (p : Int) (x : ByteArray) : DS × Int :=
  if hasB s.dur.length p = false then (s, 2) else if x.size ≠ 512 then (s, 1) else (noted { s with pen := s.pen ++ [(p, x)] } (p, x, false), 0)

set_option maxRecDepth 100000 in
theorem Write_no (g : Nat) (ok : Nat → Prop) (s : DS) (p : Int) (x : ByteArray) (w : World) (h : IsDisk w g ok s) (hp : hasB s.dur.length p = false) :
    Calls Try.prog 27 #[.pointer (some ⟨g, 0, none⟩), .int .i64 p, .string x] w fun e w' => e = .returned (.int .i64 2) ∧ w = w' := by
  go_enter Try.func27, Try.ntmps27
  go_wp2_with (go_at_call 37; refine (has_calls g ok s p _ h).mono ?_; rintro e w' ⟨rfl, rfl⟩)
  go_ret
  exact ⟨rfl, rfl⟩
set_option maxRecDepth 100000 in
theorem Write_arg (g : Nat) (ok : Nat → Prop) (s : DS) (p : Int) (x : ByteArray) (w : World) (h : IsDisk w g ok s) (hp : hasB s.dur.length p = true) (hx : x.size ≠ 512) :
    Calls Try.prog 27 #[.pointer (some ⟨g, 0, none⟩), .int .i64 p, .string x] w fun e w' => e = .returned (.int .i64 1) ∧ w = w' := by
  have hx1 : ((x.size : Int) != 512) = true := by simp; omega
  have hx2 : ((x.size : Int) == 512) = false := by simp; omega
  go_enter Try.func27, Try.ntmps27
  go_wp2_with (go_at_call 37; refine (has_calls g ok s p _ h).mono ?_; rintro e w' ⟨rfl, rfl⟩)
  go_ret
  exact ⟨rfl, rfl⟩

set_option maxHeartbeats 1000000 in
set_option maxRecDepth 100000 in
theorem Write_yes (g : Nat) (ok : Nat → Prop) (s : DS) (p : Int) (x : ByteArray) (w : World) (h : IsDisk w g ok s) (hp : hasB s.dur.length p = true) (hx : x.size = 512) (hlen : s.log.length < 1000000) (hlen2 : s.pen.length < 1000000) :
    Calls Try.prog 27 #[.pointer (some ⟨g, 0, none⟩), .int .i64 p, .string x] w fun e w' => e = .returned (.int .i64 0) ∧ IsDisk w' g (fun k => ok k ∨ w.heap.size ≤ k) (noted { s with pen := s.pen ++ [(p, x)] } (p, x, false)) ∧ Only ok w w' := by
  have hx1 : ((x.size : Int) != 512) = false := by simp [hx]
  have hx2 : ((x.size : Int) == 512) = true := by simp [hx]
  have HX := Aside0.mk hx
  clear hx
  have HD := Aside0.mk h
  obtain ⟨vd, vp, m, vr, h⟩ := h
  obtain ⟨A, c, rfl, hc, hC⟩ := Kd.R_reads h.pen
  have c1 := h.c1
  have c2 := h.c2
  have HD1 := Aside0.mk h
  clear h hC
  go_enter Try.func27, Try.ntmps27
  go_wp2_with (go_at_call 37; refine (has_calls g ok s p _ HD.out).mono ?_; rintro e w' ⟨rfl, rfl⟩)
  obtain ⟨o, hrun, hm2⟩ := run_mapUpdate_ii w.drew m _ p s.pen.length (show MapAt w.drew m (lastIdx s.pen) from HD1.out.map)
  go_region
  clear c1 c2 hrun
  have hsz : (w.drew.putObj m o).heap.size = w.heap.size := World.putObj_size
  have HM := Aside0.mk hm2
  clear hm2
  have HO := Aside0.mk (show Kd.R kpen 79 (w.drew.putObj m o) 0 (fun k => ok k ∨ w.heap.size ≤ k) (.slice A s.pen.length c) s.pen from
    Kd.R_mono (Kd.R_step (Kd.R_nomap HD1.out.pen HD1.out.map.notCells) (fun k hk _ => World.putObj_heap_other hk.2)) (fun k hk => .inl hk.1))
  have hgw : (w.drew.putObj m o).heap[g]? = some (.cells (dcells vd (.slice A s.pen.length c) m s.rc vr) 73 (0, 0)) := (World.putObj_heap_other (Ne.symm HD1.out.m_ne)).trans HD1.out.blk
  have c1 : (w.drew.putObj m o).cell? ⟨g, 1, none⟩ = some (.slice A s.pen.length c) := blk_cell hgw 1
  have HG := Aside0.mk hgw
  have HSZ := Aside0.mk hsz
  clear hgw hsz
  obtain ⟨W, hW⟩ : ∃ W, w.drew.putObj m o = W := ⟨_, rfl⟩
  have HW := Aside0.mk hW
  rw [hW] at HO HG c1 HSZ ⊢
  clear hW
  have HK : ∀ w1, World.grownBy W w1 (Value.slice A s.pen.length c).ownBlock → w1.cell? ⟨g, 1, none⟩ = some (.slice A s.pen.length c) ∧ w1.frozen? ⟨g, 1, none⟩ = false := fun w1 hgr => by
    have h2 := (hgr.block g (blk_lt HG.out) (Kd.R_ne HO.out HG.out (by decide))).trans HG.out
    exact ⟨blk_cell h2 1, blk_frozen h2 1⟩
  go_wp2_with ((with_reducible refine gate_builtin (b := .append) (xs := #[.tmp 30, .tmp 34]) rfl ?_); at_builtin; refine Kd.R_append kpen (w0 := _) 0 rfl (.tmp 30) (.tmp 34) 71 79 (.agg #[.int .i64 0, .string ⟨#[]⟩]) 24 rfl Try.underlying71 info79 rfl (by decide) (by omega) (.slice A s.pen.length c) s.pen (p, x) [.int .i64 p, .string x] (fun k => ok k ∨ w.heap.size ≤ k) (fun _ => False) rfl rfl ?aP (fun _ hk => hk.elim) ?aF HO.out (Below.refl _ _) (Nat.zero_le _) ?aL ?_; (case aP => exact ⟨[.int .i64 p], [.string x], rfl, rfl, rfl⟩); (case aF => exact (fun k hk => .inr (by have := HSZ.out; omega))); (case aL => omega); intro v1 w1 hR _ hgr hat; obtain ⟨A1, n1, rfl⟩ := Kd.R_slice hR; have HR1 := Aside0.mk hR; have HG1 := Aside0.mk hgr; clear hR hgr hat; have e4 := (HK w1 HG1.out).1; have e5 := (HK w1 HG1.out).2)
  have HN := HD1.out.new_pen (o := o) HM.out (by rw [HW.out]; exact (Only.refl (fun k => some k = (Value.slice A s.pen.length c).ownBlock) W).grown HG1.out (fun k hk => .inl hk.symm)) HR1.out hp
  rw [List.length_append] at HN
  refine (record_any g _ _ p x false _ HN.1 hlen).mono ?_
  rintro e w' ⟨rfl, hi, ho⟩
  have hs := HN.2.size
  have hon := HN.2.trans ho (fun k hk => hk)
  have hin := hi.mono (ok' := fun k => ok k ∨ w.heap.size ≤ k) (fun k hk _ => hk.elim id (fun h3 => .inr (Nat.le_trans hs h3)))
  clear HN hi ho
  go_wp2
  go_ret
  exact ⟨rfl, hin, hon⟩

theorem Write_calls (g : Nat) (ok : Nat → Prop) (s : DS) (p : Int) (x : ByteArray) (w : World) (h : IsDisk w g ok s) (hlen : s.log.length < 1000000) (hlen2 : s.pen.length < 1000000) :
    Calls Try.prog 27 #[.pointer (some ⟨g, 0, none⟩), .int .i64 p, .string x] w fun e w' => e = .returned (.int .i64 (writeD s p x).2) ∧ IsDisk w' g (fun k => ok k ∨ w.heap.size ≤ k) (writeD s p x).1 ∧ Only ok w w' := by
  unfold writeD
  by_cases hp : hasB s.dur.length p = true
  · by_cases hx : x.size = 512
    · have e1 : ¬ (hasB s.dur.length p = false) := by simp [hp]
      rw [if_neg e1, if_neg (by simp [hx])]
      exact Write_yes g ok s p x w h hp hx hlen hlen2
    · have e1 : ¬ (hasB s.dur.length p = false) := by simp [hp]
      rw [if_neg e1, if_pos hx]
      refine (Write_arg g ok s p x w h hp hx).mono ?_
      rintro e w' ⟨rfl, rfl⟩
      exact ⟨rfl, h.mono (fun k hk _ => .inl hk), Only.refl _ _⟩
  · have hp' : hasB s.dur.length p = false := by simpa using hp
    rw [if_pos hp']
    refine (Write_no g ok s p x w h hp').mono ?_
    rintro e w' ⟨rfl, rfl⟩
    exact ⟨rfl, h.mono (fun k hk _ => .inl hk), Only.refl _ _⟩

set_option maxRecDepth 100000 in
/-- What was recorded is handed over: the log's row is no more the disk's. -/
theorem Record_calls (g : Nat) (ok : Nat → Prop) (s : DS) (b : Bool) (w : World) (h : IsDisk w g ok s) :
    Calls Try.prog 26 #[.pointer (some ⟨g, 0, none⟩), .bool b] w fun e w' => ∃ v, e = .returned v ∧ Kd.R kop 38 w' 0 ok v s.log ∧ IsDisk w' g (fun k => ok k ∧ some k ≠ v.ownBlock) { s with rc := b, log := [] } ∧ Only ok w w' := by
  obtain ⟨vd, vp, m, vr, h⟩ := h
  have c3 := h.c3
  have c4 := h.c4
  have f3 := blk_frozen h.blk 3
  have f4 := blk_frozen h.blk 4
  have HD := Aside0.mk h
  clear h
  go_enter Try.func26, Try.ntmps26
  go_wp2
  go_ret
  have h := HD.out
  have b1 := blk_set (blk_set h.blk 3 (.bool b)) 4 (.slice none 0 0)
  have far : ∀ {α : Type} {d : Kd α} {e : Nat} {v : Value} {xs : List α} {ok' : Nat → Prop}, Kd.R d e w 0 ok' v xs → (∀ q, q ∈ e :: d.E → q ≠ 73) → Kd.R d e ((w.setCell ⟨g, 3, none⟩ (.bool b)).setCell ⟨g, 4, none⟩ (.slice none 0 0)) 0 ok' v xs := fun hr h2 =>
    Kd.R_set (Kd.R_set hr h.blk h2 3 _) (blk_set h.blk 3 (.bool b)) h2 4 _
  refine ⟨vr, rfl, far h.log (by simp [Kd.string, Kd.scalar, Kd.pair, Kd.int, Kd.bool]), ⟨vd, vp, m, .slice none 0 0, b1, ⟨h.okg, Kd.R_ne h.log h.blk (by decide)⟩, ⟨h.okm, ?_⟩, (h.map.stay (Below.heap_setCell _ _ _ _ h.m_ne)).stay (Below.heap_setCell _ _ _ _ h.m_ne), far (Kd.R_apart' h.dur (Kd.R_typed h.log) (by simp [Kd.string, Kd.scalar])) (by simp [Kd.string, Kd.scalar]), far (Kd.R_apart' h.pen (Kd.R_typed h.log) (by simp [Kd.string, Kd.scalar, Kd.pair, Kd.int])) (by simp [Kd.string, Kd.scalar, Kd.pair, Kd.int]), Kd.R_nil _ _ _ _ _, h.inb, h.lim⟩, ?_⟩
  · intro e
    obtain ⟨c, hc⟩ := Kd.R_typed h.log m e.symm
    exact h.map.notCells _ _ _ hc
  · exact ((Only.refl ok w).setCell (p := ⟨g, 3, none⟩) (.inl h.okg) _).setCell (p := ⟨g, 4, none⟩) (.inl h.okg) _

end Go.Proofs.Ytccomlafacdcjaa.Dk
