/-
  The disk's own functions, each by a contract over the state that a disk in memory stands for.
-/
import Derived.Test.YtccomlafacdcjaaDm
import Derived.Outline
import Derived.Deep.QuietTactic
import Derived.BigQuiet
import Derived.Deep.RegionLaw
import Derived.Deep.RegionWith
import Derived.Deep.RegionHeld3
import Derived.StillTailTactics
import Derived.WalkLawsBesides
import Derived.WalkSpells
namespace Go.Proofs.Ytccomlafacdcjaa.Dk
open Go.RowKit Go.Proofs.YtccomlafacdcjaaW.PrintWords Go.Proofs.YtccomlafacdcjaaW.PrintMore
set_option linter.unusedVariables false

abbrev nb : ByteArray := ⟨#[]⟩
/-- What a disk stands for. -/
structure DS where
  dur : List ByteArray
  pen : List (Int × ByteArray)
  rc : Bool
  log : List (Int × ByteArray × Bool)

/-- The place of the last write to a page. -/
def lastAt : List (Int × ByteArray) → Nat → Int → Option Int
  | [], _, _ => none
  | x :: l, i, q => match lastAt l (i + 1) q with
    | some j => some j
    | none => if q = x.1 then some (i : Int) else none
theorem lastAt_snoc (x : Int × ByteArray) (q : Int) : ∀ (l : List (Int × ByteArray)) (i : Nat), lastAt (l ++ [x]) i q = if q = x.1 then some ((i + l.length : Nat) : Int) else lastAt l i q
  | [], i => by simp [lastAt]
  | y :: l, i => by
    simp only [List.cons_append, lastAt, lastAt_snoc x q l (i + 1)]
    by_cases h : q = x.1
    · simp [h]; omega
    · simp [h]
theorem lastAt_some (q j : Int) : ∀ (l : List (Int × ByteArray)) (i : Nat), lastAt l i q = some j → ∃ k : Nat, j = (i + k : Nat) ∧ ∃ h : k < l.length, (l[k]).1 = q
  | [], i, h => by simp [lastAt] at h
  | y :: l, i, h => by
    simp only [lastAt] at h
    cases h1 : lastAt l (i + 1) q with
    | some j' =>
      rw [h1] at h
      simp at h
      subst h
      obtain ⟨k, hk, hl, he⟩ := lastAt_some q j' l (i + 1) h1
      exact ⟨k + 1, by omega, by simp; omega, by simpa using he⟩
    | none =>
      rw [h1] at h
      simp at h
      exact ⟨0, by simp [h.2], by simp, by simp [h.1]⟩
def lastIdx (l : List (Int × ByteArray)) (q : Int) : Option Int := lastAt l 0 q

abbrev kpen : Kd (Int × ByteArray) := Kd.pair (Kd.int .i64) Kd.string
abbrev kop : Kd (Int × ByteArray × Bool) := Kd.pair (Kd.int .i64) (Kd.pair Kd.string Kd.bool)

/-- cells of a disk -/
def dcells (vd vp : Value) (m : Nat) (r : Bool) (vr : Value) : Array Value := #[vd, vp, .map (some m), .bool r, vr]

structure IsDiskAt (w : World) (g : Nat) (ok : Nat → Prop) (s : DS) (vd vp : Value) (m : Nat) (vr : Value) : Prop where
  blk : w.heap[g]? = some (.cells (dcells vd vp m s.rc vr) 73 (0, 0))
  okg : ok g
  okm : ok m
  map : MapAt w m (lastIdx s.pen)
  dur : Kd.R Kd.string 9 w 0 ok vd s.dur
  pen : Kd.R kpen 79 w 0 ok vp s.pen
  log : Kd.R kop 38 w 0 ok vr s.log
  inb : ∀ x ∈ s.pen, 0 ≤ x.1 ∧ x.1 < s.dur.length
  lim : s.dur.length ≤ 4096

def IsDisk (w : World) (g : Nat) (ok : Nat → Prop) (s : DS) : Prop := ∃ vd vp m vr, IsDiskAt w g ok s vd vp m vr

theorem IsDisk.stay {w w' : World} {g : Nat} {ok ok' : Nat → Prop} {s : DS} (h : IsDisk w g ok s) (hb : ∀ k, ok k → k < w.heap.size → w'.heap[k]? = w.heap[k]?) (hk : ∀ k, ok k → k < w.heap.size → ok' k) : IsDisk w' g ok' s := by
  obtain ⟨vd, vp, m, vr, h⟩ := h
  refine ⟨vd, vp, m, vr, (hb g h.okg (blk_lt h.blk)).trans h.blk, hk g h.okg (blk_lt h.blk), hk m h.okm h.map.lt, h.map.stay (hb m h.okm h.map.lt), ?_, ?_, ?_, h.inb, h.lim⟩
  · exact Kd.R_mono (Kd.R_move (Kd.R_bound h.dur) (fun k hk => hb k hk.1 hk.2.2.1)) (fun k h2 => hk k h2.1 h2.2.2.1)
  · exact Kd.R_mono (Kd.R_move (Kd.R_bound h.pen) (fun k hk => hb k hk.1 hk.2.2.1)) (fun k h2 => hk k h2.1 h2.2.2.1)
  · exact Kd.R_mono (Kd.R_move (Kd.R_bound h.log) (fun k hk => hb k hk.1 hk.2.2.1)) (fun k h2 => hk k h2.1 h2.2.2.1)
theorem IsDisk.mono {w : World} {g : Nat} {ok ok' : Nat → Prop} {s : DS} (h : IsDisk w g ok s) (hk : ∀ k, ok k → k < w.heap.size → ok' k) : IsDisk w g ok' s := h.stay (fun _ _ _ => rfl) hk
theorem IsDisk.only {w w' : World} {g : Nat} {ok S : Nat → Prop} {s : DS} (h : IsDisk w g ok s) (ho : Only S w w') (hS : ∀ k, ok k → k < w.heap.size → ¬ S k) : IsDisk w' g ok s := h.stay (fun k h1 h2 => ho.block k h2 (hS k h1 h2)) (fun _ h _ => h)
theorem IsDisk.below {w w' : World} {g : Nat} {ok : Nat → Prop} {s : DS} (h : IsDisk w g ok s) (ho : Below w.heap.size w w') : IsDisk w' g ok s := h.stay (fun k h1 h2 => ho.block k h2) (fun _ h _ => h)
theorem IsDisk.lt {w : World} {g : Nat} {ok : Nat → Prop} {s : DS} (h : IsDisk w g ok s) : g < w.heap.size := by
  obtain ⟨vd, vp, m, vr, h⟩ := h
  exact blk_lt h.blk
theorem IsDisk.okg {w : World} {g : Nat} {ok : Nat → Prop} {s : DS} (h : IsDisk w g ok s) : ok g := by
  obtain ⟨vd, vp, m, vr, h⟩ := h
  exact h.okg
theorem IsDisk.lim {w : World} {g : Nat} {ok : Nat → Prop} {s : DS} (h : IsDisk w g ok s) : s.dur.length ≤ 4096 := by
  obtain ⟨vd, vp, m, vr, h⟩ := h
  exact h.lim

theorem pen_at {w : World} {A : Option Addr} {n : Nat} {xs : List (Int × ByteArray)} (h : Kd.C kpen w A n xs) (i : Int) (h0 : 0 ≤ i) (h1 : i < n) : ∃ ad, A = some ad ∧ w.cell? (ad.add (i.toNat * 2)) = some (.int .i64 (xs.getD i.toNat (0, nb)).1) ∧ w.cell? ⟨(ad.add (i.toNat * 2)).block, (ad.add (i.toNat * 2)).off + 1, none⟩ = some (.string (xs.getD i.toNat (0, nb)).2) := by
  obtain ⟨ad, c, e, _, hK, hc0⟩ := Kd.C_get h (0, nb) i h0 h1
  have hc : ∀ j u, c[j]? = some u → w.cell? (ad.add (i.toNat * 2 + j)) = some u := hc0
  obtain ⟨u0, u1, rfl, h2, h3⟩ := hK
  obtain rfl : u0 = [.int .i64 (xs.getD i.toNat (0, nb)).1] := h2
  obtain rfl : u1 = [.string (xs.getD i.toNat (0, nb)).2] := h3
  exact ⟨ad, e, hc 0 _ rfl, by rw [← add_field _ _ 1 (by omega)]; exact hc 1 _ rfl⟩
theorem str_at {w : World} {A : Option Addr} {n : Nat} {xs : List ByteArray} (h : Kd.C Kd.string w A n xs) (i : Int) (h0 : 0 ≤ i) (h1 : i < n) : ∃ ad, A = some ad ∧ w.cell? (ad.add i.toNat) = some (.string (xs.getD i.toNat nb)) := by
  obtain ⟨ad, c, e, _, hK, hc0⟩ := Kd.C_get h nb i h0 h1
  obtain rfl : c = [.string (xs.getD i.toNat nb)] := hK
  have hc := hc0 0 _ rfl
  exact ⟨ad, e, by simpa [Kd.string, Kd.scalar] using hc⟩

/-! the cells of a disk -/
section
variable {w : World} {g : Nat} {ok : Nat → Prop} {s : DS} {vd vp vr : Value} {m : Nat}
theorem IsDiskAt.c0 (h : IsDiskAt w g ok s vd vp m vr) : w.cell? ⟨g, 0, none⟩ = some vd := blk_cell h.blk 0
theorem IsDiskAt.c1 (h : IsDiskAt w g ok s vd vp m vr) : w.cell? ⟨g, 1, none⟩ = some vp := blk_cell h.blk 1
theorem IsDiskAt.c2 (h : IsDiskAt w g ok s vd vp m vr) : w.cell? ⟨g, 2, none⟩ = some (.map (some m)) := blk_cell h.blk 2
theorem IsDiskAt.c3 (h : IsDiskAt w g ok s vd vp m vr) : w.cell? ⟨g, 3, none⟩ = some (.bool s.rc) := blk_cell h.blk 3
theorem IsDiskAt.c4 (h : IsDiskAt w g ok s vd vp m vr) : w.cell? ⟨g, 4, none⟩ = some vr := blk_cell h.blk 4
end

/-- The rows inside are none of a block that is no cells. -/
theorem Kd.R_nomap {α : Type} {d : Kd α} {e base : Nat} {ok : Nat → Prop} {v : Value} {xs : List α} {w : World} (h : d.R e w base ok v xs) {m : Nat} (hm : ∀ c e z, w.heap[m]? ≠ some (.cells c e z)) : d.R e w base (fun k => ok k ∧ k ≠ m) v xs :=
  Kd.R_mono (Kd.R_bound h) (fun k hk => ⟨hk.1, by
    obtain ⟨_, _, _, q, hq, cells', hc⟩ := hk
    rintro rfl
    exact hm _ _ _ hc⟩)
theorem MapAt.notCells {w : World} {m : Nat} {f : Int → Option Int} (h : MapAt w m f) : ∀ c e z, w.heap[m]? ≠ some (.cells c e z) := by
  obtain ⟨es, cl, hm, _⟩ := h
  intro c e z hh
  rw [hm] at hh
  cases hh

theorem Pages_calls (g : Nat) (ok : Nat → Prop) (s : DS) (w : World) (h : IsDisk w g ok s) :
    Calls Try.prog 22 #[.pointer (some ⟨g, 0, none⟩)] w fun e w' => e = .returned (.int .i64 s.dur.length) ∧ w = w' := by
  obtain ⟨vd, vp, m, vr, h⟩ := h
  have c0 := h.c0
  obtain ⟨A, c, rfl, hl, hC⟩ := Kd.R_reads h.dur
  clear h hC
  go_enter Try.func22, Try.ntmps22
  go_wp2
  go_ret
  exact ⟨rfl, rfl⟩

theorem Pending_calls (g : Nat) (ok : Nat → Prop) (s : DS) (w : World) (h : IsDisk w g ok s) :
    Calls Try.prog 16 #[.pointer (some ⟨g, 0, none⟩)] w fun e w' => e = .returned (.int .i64 s.pen.length) ∧ w = w' := by
  obtain ⟨vd, vp, m, vr, h⟩ := h
  have c1 := h.c1
  obtain ⟨A, c, rfl, hl, hC⟩ := Kd.R_reads h.pen
  clear h hC
  go_enter Try.func16, Try.ntmps16
  go_wp2
  go_ret
  exact ⟨rfl, rfl⟩

def hasB (n : Nat) (p : Int) : Bool := decide (0 ≤ p ∧ p < n)

theorem has_calls (g : Nat) (ok : Nat → Prop) (s : DS) (p : Int) (w : World) (h : IsDisk w g ok s) :
    Calls Try.prog 37 #[.pointer (some ⟨g, 0, none⟩), .int .i64 p] w fun e w' => e = .returned (.bool (hasB s.dur.length p)) ∧ w = w' := by
  obtain ⟨vd, vp, m, vr, h⟩ := h
  have c0 := h.c0
  obtain ⟨A, c, rfl, hl, hC⟩ := Kd.R_reads h.dur
  clear h hC
  go_enter Try.func37, Try.ntmps37
  go_wp2
  · have h0 : 0 ≤ p := by assumption
    go_ret
    exact ⟨by simp [hasB, h0], rfl⟩
  · have h0 : p < 0 := by assumption
    go_ret
    exact ⟨by simp [hasB, show ¬ 0 ≤ p by omega], rfl⟩

/-- What is read of a page, and the error. -/
def readD (s : DS) (p : Int) : ByteArray × Int :=
  if hasB s.dur.length p then
    match lastIdx s.pen p with
    | some i => ((s.pen.getD i.toNat (0, nb)).2, 0)
    | none => if (s.dur.getD p.toNat nb).toList = [33] then (nb, 21) else (s.dur.getD p.toNat nb, 0)
  else (nb, 2)

set_option maxRecDepth 100000 in
theorem Read_no (g : Nat) (ok : Nat → Prop) (s : DS) (p : Int) (w : World) (h : IsDisk w g ok s) (hp : hasB s.dur.length p = false) :
    Calls Try.prog 20 #[.pointer (some ⟨g, 0, none⟩), .int .i64 p] w fun e w' => e = .returned (.tuple #[.string ⟨#[]⟩, .int .i64 2]) ∧ w = w' := by
  go_enter Try.func20, Try.ntmps20
  go_wp2_with (go_at_call 37; refine (has_calls g ok s p _ h).mono ?_; rintro e w' ⟨rfl, rfl⟩)
  go_ret2
  exact ⟨rfl, rfl⟩

set_option maxRecDepth 100000 in
theorem Read_some (g : Nat) (ok : Nat → Prop) (s : DS) (p i : Int) (w : World) (h : IsDisk w g ok s) (hp : hasB s.dur.length p = true) (hi : lastIdx s.pen p = some i) :
    Calls Try.prog 20 #[.pointer (some ⟨g, 0, none⟩), .int .i64 p] w fun e w' => e = .returned (.tuple #[.string (s.pen.getD i.toNat (0, nb)).2, .int .i64 0]) ∧ w = w' := by
  have hD := h
  obtain ⟨vd, vp, m, vr, h⟩ := h
  have c2 := h.c2
  have hl := run_lookup_ii w m _ p h.map
  rw [hi] at hl
  simp only [Option.getD_some, Option.isSome_some] at hl
  have c1 := h.c1
  obtain ⟨A, c, rfl, hc, hC⟩ := Kd.R_reads h.pen
  obtain ⟨k, rfl, hk, he⟩ := lastAt_some p i s.pen 0 hi
  simp only [Nat.zero_add, Int.toNat_natCast] at hl ⊢
  obtain ⟨ad, rfl, d0, d1⟩ := pen_at hC k (by omega) (by omega)
  clear hi he h hC
  simp only [Int.toNat_natCast] at d0 d1
  have hk' : (k : Int) < s.pen.length := by omega
  generalize (s.pen.getD k (0, nb)).2 = x at d1 ⊢
  generalize (s.pen.getD k (0, nb)).1 = y at d0
  go_enter Try.func20, Try.ntmps20
  go_wp2_with (go_at_call 37; refine (has_calls g ok s p _ hD).mono ?_; rintro e w' ⟨rfl, rfl⟩)
  go_ret2
  exact ⟨rfl, rfl⟩

set_option maxRecDepth 100000 in
theorem Read_none (g : Nat) (ok : Nat → Prop) (s : DS) (p : Int) (w : World) (h : IsDisk w g ok s) (hp : hasB s.dur.length p = true) (hi : lastIdx s.pen p = none) :
    Calls Try.prog 20 #[.pointer (some ⟨g, 0, none⟩), .int .i64 p] w fun e w' => e = .returned (.tuple #[.string (if (s.dur.getD p.toNat nb).toList = [33] then nb else s.dur.getD p.toNat nb), .int .i64 (if (s.dur.getD p.toNat nb).toList = [33] then 21 else 0)]) ∧ w = w' := by
  have hD := h
  obtain ⟨vd, vp, m, vr, h⟩ := h
  have c2 := h.c2
  have hl := run_lookup_ii w m _ p h.map
  rw [hi] at hl
  simp only [Option.getD_none, Option.isSome_none] at hl
  have c0 := h.c0
  have hb : 0 ≤ p ∧ p < s.dur.length := by simpa [hasB] using hp
  obtain ⟨A, c, rfl, hc, hC⟩ := Kd.R_reads h.dur
  obtain ⟨ad, rfl, d0⟩ := str_at hC p hb.1 hb.2
  obtain ⟨hb0, hb1⟩ := hb
  clear hi h hC
  generalize s.dur.getD p.toNat nb = x at d0 ⊢
  by_cases hx : x.toList = [33]
  · have hx1 := eq_true hx
    simp only [hx1, if_true]
    have hx2 : (x.toList == [33]) = true := by simpa using hx
    go_enter Try.func20, Try.ntmps20
    go_wp2_with (go_at_call 37; refine (has_calls g ok s p _ hD).mono ?_; rintro e w' ⟨rfl, rfl⟩)
    go_ret2
    exact ⟨rfl, rfl⟩
  · have hx1 := eq_false hx
    simp only [hx1, if_false]
    have hx2 : (x.toList == [33]) = false := by simpa using hx
    go_enter Try.func20, Try.ntmps20
    go_wp2_with (go_at_call 37; refine (has_calls g ok s p _ hD).mono ?_; rintro e w' ⟨rfl, rfl⟩)
    go_ret2
    exact ⟨rfl, rfl⟩

theorem Read_calls (g : Nat) (ok : Nat → Prop) (s : DS) (p : Int) (w : World) (h : IsDisk w g ok s) :
    Calls Try.prog 20 #[.pointer (some ⟨g, 0, none⟩), .int .i64 p] w fun e w' => e = .returned (.tuple #[.string (readD s p).1, .int .i64 (readD s p).2]) ∧ w = w' := by
  by_cases hp : hasB s.dur.length p = true
  · cases hi : lastIdx s.pen p with
    | some i =>
      have e : readD s p = ((s.pen.getD i.toNat (0, nb)).2, 0) := by rw [readD, if_pos hp, hi]
      rw [e]
      exact Read_some g ok s p i w h hp hi
    | none =>
      have e : readD s p = if (s.dur.getD p.toNat nb).toList = [33] then (nb, 21) else (s.dur.getD p.toNat nb, 0) := by rw [readD, if_pos hp, hi]
      refine (Read_none g ok s p w h hp hi).mono fun e' w' hh => ?_
      rw [e]
      split at hh <;> simp_all
  · have hp' : hasB s.dur.length p = false := by simpa using hp
    have e : readD s p = (nb, 2) := by rw [readD, hp']; rfl
    rw [e]
    exact Read_no g ok s p w h hp'


set_option maxRecDepth 100000 in
theorem forget_calls (g : Nat) (ok : Nat → Prop) (s : DS) (w : World) (h : IsDisk w g ok s) :
    Calls Try.prog 41 #[.pointer (some ⟨g, 0, none⟩)] w fun e w' => e = .returned (.tuple #[]) ∧ IsDisk w' g ok { s with pen := [] } ∧ Only ok w w' := by
  obtain ⟨vd, vp, m, vr, h⟩ := h
  have c1 := h.c1
  have c2 := h.c2
  have f1 := blk_frozen h.blk 1
  have hne : m ≠ g := fun e => by
    have h1 := h.blk
    obtain ⟨es, cl, h2, _⟩ := h.map
    rw [e, h1] at h2
    cases h2
  have hm1 : MapAt (w.setCell ⟨g, 1, none⟩ (.slice none 0 0)) m (lastIdx s.pen) := h.map.stay (Below.heap_setCell _ _ _ _ hne)
  obtain ⟨o, hrun, hm2⟩ := run_clear_ii _ m _ hm1
  have hfin : IsDisk ((w.setCell ⟨g, 1, none⟩ (.slice none 0 0)).putObj m o) g ok { s with pen := [] } := by
    have b1 := blk_set h.blk 1 (.slice none 0 0)
    have b2 : ((w.setCell ⟨g, 1, none⟩ (.slice none 0 0)).putObj m o).heap[g]? = some (.cells (dcells vd (.slice none 0 0) m s.rc vr) 73 (0, 0)) := (World.putObj_heap_other (Ne.symm hne)).trans b1
    have far : ∀ {α : Type} {d : Kd α} {e : Nat} {v : Value} {xs : List α}, Kd.R d e w 0 ok v xs → (∀ q, q ∈ e :: d.E → q ≠ 73) → Kd.R d e ((w.setCell ⟨g, 1, none⟩ (.slice none 0 0)).putObj m o) 0 ok v xs := fun hr ht =>
      Kd.R_mono (Kd.R_step (Kd.R_nomap (Kd.R_set hr h.blk ht 1 (.slice none 0 0)) hm1.notCells) (fun k hk _ => World.putObj_heap_other hk.2)) (fun _ hk => hk.1)
    exact ⟨vd, .slice none 0 0, m, vr, b2, h.okg, h.okm, hm2, far h.dur (by simp [Kd.string, Kd.scalar]), Kd.R_nil _ _ _ _ _, far h.log (by simp [Kd.string, Kd.scalar, Kd.pair, Kd.int, Kd.bool]), by simp, h.lim⟩
  have hon : Only ok w ((w.setCell ⟨g, 1, none⟩ (.slice none 0 0)).putObj m o) := ((Only.refl ok w).setCell (p := ⟨g, 1, none⟩) (.inl h.okg) _).putObj (.inl h.okm) _
  clear h hm1 hm2
  go_enter Try.func41, Try.ntmps41
  go_wp2
  go_end0
  exact ⟨rfl, hfin, hon⟩

section
variable {w w1 : World} {g : Nat} {ok : Nat → Prop} {s : DS} {vd vp vr v1 : Value} {m : Nat}
theorem IsDiskAt.m_ne (h : IsDiskAt w g ok s vd vp m vr) : m ≠ g := fun e => by
  have h1 := h.blk
  rw [← e] at h1
  exact h.map.notCells _ _ _ h1
/-- A new row in the log's place. -/
theorem IsDiskAt.new_log (h : IsDiskAt w g ok s vd vp m vr) (ho : Only (fun k => some k = vr.ownBlock) w w1) {l : List (Int × ByteArray × Bool)} (hR : Kd.R kop 38 w1 0 (fun k => ok k ∨ w.heap.size ≤ k) v1 l) :
    IsDisk (w1.setCell ⟨g, 4, none⟩ v1) g (fun k => ok k ∨ w.heap.size ≤ k) { s with log := l } ∧ Only ok w (w1.setCell ⟨g, 4, none⟩ v1) := by
  have hg1 : w1.heap[g]? = some (.cells (dcells vd vp m s.rc vr) 73 (0, 0)) := (ho.block g (blk_lt h.blk) (fun e => Kd.R_ne h.log h.blk (by decide) e)).trans h.blk
  have hm1 : MapAt w1 m (lastIdx s.pen) := h.map.stay (ho.block m h.map.lt (fun e => by
    obtain ⟨c, hc⟩ := Kd.R_typed h.log m e.symm
    exact h.map.notCells _ _ _ hc))
  have far : ∀ {α : Type} {d : Kd α} {e : Nat} {v : Value} {xs : List α}, Kd.R d e w 0 ok v xs → (∀ q, q ∈ e :: d.E → q ≠ 38) → (∀ q, q ∈ e :: d.E → q ≠ 73) → Kd.R d e (w1.setCell ⟨g, 4, none⟩ v1) 0 (fun k => ok k ∨ w.heap.size ≤ k) v xs := fun hr h1 h2 => by
    have a1 := Kd.R_apart' hr (Kd.R_typed h.log) h1
    have a2 := Kd.R_step (w1 := w1) a1 (fun k hk hlt => ho.block k hlt hk.2)
    exact Kd.R_mono (Kd.R_set (Kd.R_mono a2 (fun k hk => hk.1)) hg1 h2 4 v1) (fun k hk => .inl hk)
  refine ⟨⟨vd, vp, m, v1, blk_set hg1 4 v1, .inl h.okg, .inl h.okm, hm1.stay (Below.heap_setCell _ _ _ _ h.m_ne), far h.dur (by simp [Kd.string, Kd.scalar]) (by simp [Kd.string, Kd.scalar]), far h.pen (by simp [Kd.string, Kd.scalar, Kd.pair, Kd.int]) (by simp [Kd.string, Kd.scalar, Kd.pair, Kd.int]), Kd.R_set hR hg1 (by simp [Kd.string, Kd.scalar, Kd.pair, Kd.int, Kd.bool]) 4 v1, h.inb, h.lim⟩, ?_⟩
  exact (ho.mono (fun k hk => .inl (h.log.1 k hk.symm))).setCell (p := ⟨g, 4, none⟩) (.inl h.okg) _
end

theorem info38 : (Try.prog.info? 38).map (fun i => (i.zero, i.size, i.bytes)) = some (some (.agg #[.int .i64 0, .string ⟨#[]⟩, .bool false]), 3, 32) := by kernel_rfl
theorem info79 : (Try.prog.info? 79).map (fun i => (i.zero, i.size, i.bytes)) = some (some (.agg #[.int .i64 0, .string ⟨#[]⟩]), 2, 24) := by kernel_rfl
theorem info9 : (Try.prog.info? 9).map (fun i => (i.zero, i.size, i.bytes)) = some (some (.string ⟨#[]⟩), 1, 16) := by kernel_rfl

set_option maxRecDepth 100000 in
theorem record_calls (g : Nat) (ok : Nat → Prop) (s : DS) (p : Int) (x : ByteArray) (b : Bool) (w : World) (h : IsDisk w g ok s) (hlen : s.log.length < 1000000) (hr : s.rc = true) :
    Calls Try.prog 42 #[.pointer (some ⟨g, 0, none⟩), .agg #[.int .i64 p, .string x, .bool b]] w fun e w' => e = .returned (.tuple #[]) ∧ IsDisk w' g (fun k => ok k ∨ w.heap.size ≤ k) { s with log := s.log ++ [(p, x, b)] } ∧ Only ok w w' := by
  obtain ⟨vd, vp, m, vr, h⟩ := h
  have c3 := h.c3
  have c4 := h.c4
  rw [hr] at c3
  have f4 := blk_frozen h.blk 4
  have hg := blk_lt h.blk
  have HO := Aside0.mk (show Kd.R kop 38 ((w.alloc (.cells #[.int .i64 p, .string x, .bool b] 38)).drew) 0 (fun k => ok k ∨ w.heap.size ≤ k) vr s.log from
    Kd.R_mono (Kd.R_below h.log ((Below.refl _ _).alloc (Nat.le_refl _) _).drew) (fun k hk => .inl hk))
  have hty := h.log
  have HK : ∀ w1, World.grownBy ((w.alloc (.cells #[.int .i64 p, .string x, .bool b] 38)).drew) w1 vr.ownBlock → w1.cell? ⟨g, 4, none⟩ = some vr ∧ w1.frozen? ⟨g, 4, none⟩ = false := fun w1 hgr => by
    have hb : w1.heap[g]? = w.heap[g]? := (hgr.block g (by simp; omega) (Kd.R_ne h.log h.blk (by decide))).trans (Below.heap_alloc _ _ _ hg)
    have h2 := hb.trans h.blk
    exact ⟨blk_cell h2 4, blk_frozen h2 4⟩
  have hD := h
  clear h hty
  go_enter Try.func42, Try.ntmps42
  go_wp2
  go_region_law ((refine Kd.R_append_step kop (w0 := _) 0 rfl (.tmp 12) (.tmp 14) 55 38 (.agg #[.int .i64 0, .string ⟨#[]⟩, .bool false]) 32 rfl Try.underlying55 info38 rfl (by decide) (by omega) vr s.log (p, x, b) [.int .i64 p, .string x, .bool b] (fun k => ok k ∨ w.heap.size ≤ k) (fun _ => False) (by simp [Act.eval]) (by simp [Act.eval]) ⟨[.int .i64 p], [.string x, .bool b], rfl, rfl, [.string x], [.bool b], rfl, rfl, rfl⟩ (fun _ hk => hk.elim) (fun k hk => .inr (by simp at hk; omega)) HO.out (Below.refl _ _) (Nat.zero_le _) (by omega) ?_); (intro v1 w1 hR _ hgr hat; obtain ⟨A1, n1, rfl⟩ := Kd.R_slice hR; have HR1 := Aside0.mk hR; have HG1 := Aside0.mk hgr; clear hR hgr hat; have e4 := (HK w1 HG1.out).1; have e5 := (HK w1 HG1.out).2))
  all_goals
    go_end0
    obtain ⟨ha, hb⟩ := hD.new_log (((Only.refl (fun k => some k = vr.ownBlock) w).alloc _).drew.grown HG1.out (fun k hk => .inl hk.symm)) HR1.out
    rw [List.length_append] at ha hb
    exact ⟨rfl, ha, hb⟩
end Go.Proofs.Ytccomlafacdcjaa.Dk
