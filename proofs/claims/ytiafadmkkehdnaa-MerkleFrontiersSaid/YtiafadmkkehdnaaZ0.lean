/-
  Things apart; sha256's words, constants.
-/
import Derived.Test.YtiafadmkkehdnaaProg
import Derived.Test.YtiafadmkkehdnaaWKept
import Derived.Test.YtiafadmkkehdnaaWMore
import Derived.WalkKit
import Derived.KernelRfl
import Derived.Outline
import Derived.Deep.QuietTactic
import Derived.BigQuiet
import Derived.Deep.RegionLaw
import Derived.Deep.RegionWith
import Derived.Deep.RegionHeld3
import Derived.Deep.DeepCutAuto
import Derived.StillTailTactics
import Derived.WalkLawsBesides
import Derived.WalkSpells
import Derived.Laws.Rows
import Derived.Laws.Tables
import Derived.Laws.MakeOwn
import Derived.Laws.BitsLemmas
import Derived.IntWalk
import Derived.Great.Walk
namespace Go.Proofs.Ytiafadmkkehdnaa.Sh
open Go.RowKit Go.Proofs.YtiafadmkkehdnaaW.PrintWords Go.Proofs.YtiafadmkkehdnaaW.PrintMore
set_option linter.unusedVariables false

/-! ### what a call keeps: the streams, and every block but those of S and new ones -/
structure Only (S : Nat → Prop) (w w' : World) : Prop where
  os : w'.os = w.os
  tape : w'.tape = w.tape
  output : w'.output = w.output
  size : w.heap.size ≤ w'.heap.size
  block : ∀ k, k < w.heap.size → ¬ S k → w'.heap[k]? = w.heap[k]?

theorem Only.refl (S : Nat → Prop) (w : World) : Only S w w := ⟨rfl, rfl, rfl, Nat.le_refl _, fun _ _ _ => rfl⟩
theorem Only.trans {S : Nat → Prop} {a b c : World} (h : Only S a b) {S2 : Nat → Prop} (k : Only S2 b c) (hs : ∀ x, S2 x → S x ∨ a.heap.size ≤ x) : Only S a c :=
  ⟨k.os.trans h.os, k.tape.trans h.tape, k.output.trans h.output, Nat.le_trans h.size k.size, fun i hi hn => (k.block i (Nat.lt_of_lt_of_le hi h.size) (fun h2 => (hs i h2).elim hn (fun h3 => by omega))).trans (h.block i hi hn)⟩
theorem Only.mono {S S2 : Nat → Prop} {a b : World} (h : Only S a b) (hs : ∀ x, S x → S2 x ∨ a.heap.size ≤ x) : Only S2 a b :=
  (Only.refl S2 a).trans h hs
theorem Only.of_below {w w' : World} (h : Below w.heap.size w w') (S : Nat → Prop) : Only S w w' := ⟨h.os, h.tape, h.output, h.size, fun k hk _ => h.block k hk⟩
theorem Only.below {S : Nat → Prop} {w w' : World} (h : Only S w w') {B : Nat} (hB : B ≤ w.heap.size) (hs : ∀ x, S x → B ≤ x) : Below B w w' :=
  ⟨h.os, h.tape, h.output, h.size, fun k hk => h.block k (by omega) (fun h2 => by have := hs k h2; omega)⟩
theorem Only.kept {S : Nat → Prop} {w w' : World} (h : Only S w w') : Kept w w' S := ⟨h.size, h.block⟩
theorem Only.setCell {S : Nat → Prop} {w w' : World} (h : Only S w w') {p : Addr} (hp : S p.block ∨ w.heap.size ≤ p.block) (u : Value) : Only S w (w'.setCell p u) :=
  h.trans (S2 := fun k => k = p.block) ⟨rfl, rfl, rfl, by simp [World.setCell], fun i _ hn => Below.heap_setCell w' p u i hn⟩ (fun k hk => by rw [hk]; exact hp)
theorem Only.alloc {S : Nat → Prop} {w w' : World} (h : Only S w w') (o : Obj) : Only S w (w'.alloc o) :=
  h.trans (Only.of_below ((Below.refl _ _).alloc (Nat.le_refl _) o) (fun _ => False)) (fun _ hk => hk.elim)
theorem Only.drewN {S : Nat → Prop} {w w' : World} (h : Only S w w') (n : Nat) : Only S w (w'.drewN n) := ⟨h.os, h.tape, h.output, h.size, h.block⟩
theorem Only.drew {S : Nat → Prop} {w w' : World} (h : Only S w w') : Only S w w'.drew := ⟨h.os, h.tape, h.output, h.size, h.block⟩
theorem Only.grown {S : Nat → Prop} {w w1 w' : World} (h : Only S w w1) {row : Option Nat} (hg : w1.grownBy w' row) (hr : ∀ k, row = some k → S k ∨ w.heap.size ≤ k) : Only S w w' :=
  h.trans (S2 := fun k => row = some k) ⟨hg.os, hg.tape, hg.output, hg.size, fun i hi hn => hg.block i hi (fun he => hn he.symm)⟩ hr

theorem heap_new (w : World) (o : Obj) : (w.alloc o).heap[w.heap.size]? = some o := by
  show (w.heap.push _)[w.heap.size]? = _
  simp


structure Th where
  P : World → (Nat → Prop) → Prop
  stay : ∀ {w w' : World} {ok ok' : Nat → Prop}, P w ok → (∀ k, ok k → k < w.heap.size → w'.heap[k]? = w.heap[k]?) → (∀ k, ok k → k < w.heap.size → ok' k) → P w' ok'

def rowT {α : Type} (d : Kd α) (e : Nat) (v : Value) (xs : List α) : Th := ⟨fun w ok => Kd.R d e w 0 ok v xs, fun h h1 h2 =>
  Kd.R_mono (Kd.R_move (Kd.R_bound h) (fun k hk => h1 k hk.1 hk.2.2.1)) (fun k hk => h2 k hk.1 hk.2.2.1)⟩

/-- All the things stand apart, in blocks that were not there in w0; what was there is as it was. -/
def Sep (w0 w : World) : List Th → (Nat → Prop) → Prop
  | [], _ => Below w0.heap.size w0 w
  | t :: ts, used => ∃ ok, t.P w ok ∧ (∀ k, ok k → w0.heap.size ≤ k ∧ k < w.heap.size ∧ ¬ used k) ∧ Sep w0 w ts (fun k => used k ∨ ok k)

theorem Sep.base {w0 w : World} : ∀ {ts : List Th} {u : Nat → Prop}, Sep w0 w ts u → Below w0.heap.size w0 w
  | [], _, h => h
  | t :: ts, u, ⟨ok, _, _, h⟩ => Sep.base h
theorem Sep.weak {w0 w : World} : ∀ {ts : List Th} {u u' : Nat → Prop}, Sep w0 w ts u → (∀ k, k < w.heap.size → u' k → u k) → Sep w0 w ts u'
  | [], _, _, h, _ => h
  | t :: ts, u, u', ⟨ok, h1, h2, h3⟩, hu => ⟨ok, h1, fun k hk => ⟨(h2 k hk).1, (h2 k hk).2.1, fun h => (h2 k hk).2.2 (hu k (h2 k hk).2.1 h)⟩, Sep.weak h3 (fun k hl h => h.elim (fun h => .inl (hu k hl h)) .inr)⟩
/-- A call that turned only blocks of 'used' (which are not the things') and new ones. -/
theorem Sep.only {w0 w w1 : World} : ∀ {ts : List Th} {u : Nat → Prop}, Sep w0 w ts u → ∀ {S : Nat → Prop}, Only S w w1 → (∀ k, S k → u k ∧ w0.heap.size ≤ k) → Sep w0 w1 ts (fun k => u k ∨ w.heap.size ≤ k)
  | [], u, h, S, ho, hS => h.trans (ho.below h.size (fun k hk => (hS k hk).2))
  | t :: ts, u, ⟨ok, h1, h2, h3⟩, S, ho, hS =>
    ⟨ok, t.stay h1 (fun k hk hl => ho.block k hl (fun hs => (h2 k hk).2.2 (hS k hs).1)) (fun _ h _ => h), fun k hk => ⟨(h2 k hk).1, Nat.lt_of_lt_of_le (h2 k hk).2.1 ho.size, fun h => h.elim (h2 k hk).2.2 (fun h => by have := (h2 k hk).2.1; omega)⟩,
      Sep.weak (Sep.only h3 ho (fun k hk => ⟨.inl (hS k hk).1, (hS k hk).2⟩)) (fun k _ h => by
        rcases h with (h | h) | h
        · exact .inl (.inl h)
        · exact .inr h
        · exact .inl (.inr h))⟩

/-- The first thing is worked on. -/
theorem Sep.focus {w0 w : World} {t : Th} {ts : List Th} {u : Nat → Prop} (h : Sep w0 w (t :: ts) u) : ∃ ok, t.P w ok ∧ (∀ k, ok k → w0.heap.size ≤ k ∧ k < w.heap.size) ∧ ∀ (w1 : World) (t1 : Th), Only ok w w1 → t1.P w1 (fun k => ok k ∨ w.heap.size ≤ k) → Sep w0 w1 (t1 :: ts) (fun k => u k ∧ k < w.heap.size) := by
  obtain ⟨ok, h1, h2, h3⟩ := h
  refine ⟨ok, h1, fun k hk => ⟨(h2 k hk).1, (h2 k hk).2.1⟩, fun w1 t1 ho ht => ⟨fun k => (ok k ∨ w.heap.size ≤ k) ∧ k < w1.heap.size, t1.stay ht (fun _ _ _ => rfl) (fun k hk hl => ⟨hk, hl⟩), ?_, ?_⟩⟩
  · intro k hk
    have hb := h3.base.size
    rcases hk with ⟨hk | hk, hl⟩
    · exact ⟨(h2 k hk).1, hl, fun h => (h2 k hk).2.2 h.1⟩
    · exact ⟨by omega, hl, fun h => by have := h.2; omega⟩
  · refine (h3.only ho (fun k hk => ⟨.inr hk, (h2 k hk).1⟩)).weak (fun k _ h => ?_)
    rcases h with h | h
    · exact .inl (.inl h.1)
    · rcases h.1 with h | h
      · exact .inl (.inr h)
      · exact .inr h

abbrev SepT (w0 w : World) (ts : List Th) : Prop := Sep w0 w ts (fun _ => False)
theorem SepT.focus {w0 w : World} {t : Th} {ts : List Th} (h : SepT w0 w (t :: ts)) : ∃ ok, t.P w ok ∧ (∀ k, ok k → w0.heap.size ≤ k ∧ k < w.heap.size) ∧ ∀ (w1 : World) (t1 : Th), Only ok w w1 → t1.P w1 (fun k => ok k ∨ w.heap.size ≤ k) → SepT w0 w1 (t1 :: ts) := by
  obtain ⟨ok, h1, h2, h3⟩ := Sep.focus h
  exact ⟨ok, h1, h2, fun w1 t1 ho ht => (h3 w1 t1 ho ht).weak (fun k _ h => h.elim)⟩
theorem SepT.below {w0 w w1 : World} {ts : List Th} (h : SepT w0 w ts) (hb : Below w.heap.size w w1) : SepT w0 w1 ts :=
  (Sep.only h (Only.of_below hb (fun _ => False)) (fun _ h => h.elim)).weak (fun k _ h => h.elim)
theorem SepT.drop {w0 w : World} {t : Th} {ts : List Th} (h : SepT w0 w (t :: ts)) : SepT w0 w ts := by
  obtain ⟨ok, _, _, h3⟩ := h
  exact h3.weak (fun k _ h => h.elim)
theorem SepT.add {w0 w w1 : World} {ts : List Th} (h : SepT w0 w ts) (hb : Below w.heap.size w w1) (t : Th) (ht : t.P w1 (fun k => w.heap.size ≤ k)) : SepT w0 w1 (t :: ts) :=
  ⟨fun k => w.heap.size ≤ k ∧ k < w1.heap.size, t.stay ht (fun _ _ _ => rfl) (fun k hk hl => ⟨hk, hl⟩), fun k hk => ⟨Nat.le_trans (Sep.base h).size hk.1, hk.2, fun h => h⟩,
    (Sep.only h (Only.of_below hb (fun _ => False)) (fun _ h => h.elim)).weak (fun k _ h => .inr (h.elim False.elim (fun h => h.1)))⟩
theorem SepT.swap {w0 w : World} {a b : Th} {ts : List Th} (h : SepT w0 w (a :: b :: ts)) : SepT w0 w (b :: a :: ts) := by
  obtain ⟨oa, h1, h2, ob, h3, h4, h5⟩ := h
  exact ⟨ob, h3, fun k hk => ⟨(h4 k hk).1, (h4 k hk).2.1, fun h => h⟩, oa, h1, fun k hk => ⟨(h2 k hk).1, (h2 k hk).2.1, fun h => (h4 k (h.elim False.elim id)).2.2 (.inr hk)⟩, h5.weak (fun k _ h => by
    rcases h with (h | h) | h
    · exact .inl (.inl h)
    · exact .inr h
    · exact .inl (.inr h))⟩
theorem SepT.under {w0 w : World} {t : Th} {ts ts' : List Th} (h : SepT w0 w (t :: ts)) (hm : ∀ u : Nat → Prop, Sep w0 w ts u → Sep w0 w ts' u) : SepT w0 w (t :: ts') := by
  obtain ⟨oa, h1, h2, h3⟩ := h
  exact ⟨oa, h1, h2, hm _ h3⟩
theorem Sep.swap {w0 w : World} {a b : Th} {ts : List Th} {u : Nat → Prop} (h : Sep w0 w (a :: b :: ts) u) : Sep w0 w (b :: a :: ts) u := by
  obtain ⟨oa, h1, h2, ob, h3, h4, h5⟩ := h
  exact ⟨ob, h3, fun k hk => ⟨(h4 k hk).1, (h4 k hk).2.1, fun h => (h4 k hk).2.2 (.inl h)⟩, oa, h1, fun k hk => ⟨(h2 k hk).1, (h2 k hk).2.1, fun h => h.elim (h2 k hk).2.2 (fun h => (h4 k h).2.2 (.inr hk))⟩, h5.weak (fun k _ h => by
    rcases h with (h | h) | h
    · exact .inl (.inl h)
    · exact .inr h
    · exact .inl (.inr h))⟩
/-- The third to the front. -/
theorem SepT.third {w0 w : World} {a b c : Th} {ts : List Th} (h : SepT w0 w (a :: b :: c :: ts)) : SepT w0 w (c :: a :: b :: ts) := (h.under (fun _ h => h.swap)).swap
theorem SepT.start (w : World) : SepT w w [] := Below.refl _ _
/-- A row as it is read, however the front thing is worked on. -/
theorem SepT.row {w0 w : World} {α : Type} {d : Kd α} {e : Nat} {v : Value} {xs : List α} {ts : List Th} (h : SepT w0 w (rowT d e v xs :: ts)) : ∃ A c, v = .slice A xs.length c ∧ xs.length ≤ c ∧ Kd.C d w A xs.length xs := by
  obtain ⟨ok, h1, _, _⟩ := h
  exact Kd.R_reads h1
theorem SepT.get {w0 w : World} {t : Th} : ∀ {ts : List Th} {u : Nat → Prop}, Sep w0 w ts u → t ∈ ts → ∃ ok, t.P w ok ∧ ∀ k, ok k → w0.heap.size ≤ k
  | [], _, _, hm => by simp at hm
  | a :: ts, u, ⟨ok, h1, h2, h3⟩, hm => by
    rcases List.mem_cons.1 hm with rfl | hm
    · exact ⟨ok, h1, fun k hk => (h2 k hk).1⟩
    · exact SepT.get h3 hm
theorem m0 {a : Th} {l : List Th} : a ∈ a :: l := by simp
theorem m1 {a b : Th} {l : List Th} : a ∈ b :: a :: l := by simp
theorem m2 {a b c : Th} {l : List Th} : a ∈ b :: c :: a :: l := by simp
theorem m3' {a b c d : Th} {l : List Th} : a ∈ b :: c :: d :: a :: l := by simp
theorem m4 {a b c d e : Th} {l : List Th} : a ∈ b :: c :: d :: e :: a :: l := by simp
theorem row_new {α : Type} {d : Kd α} {e b : Nat} {v : Value} {xs : List α} {w : World} {ok : Nat → Prop} (h : Kd.R d e w b ok v xs) : (rowT d e v xs).P w (fun k => b ≤ k) :=
  Kd.R_lower (Kd.R_mono (Kd.R_bound h) (fun k hk => hk.2.1)) (Nat.zero_le _)
theorem SepT.addRow {w0 w w1 : World} {ts : List Th} (h : SepT w0 w ts) (hb : Below w.heap.size w w1) {α : Type} {d : Kd α} {e : Nat} {v : Value} {xs : List α} {ok : Nat → Prop} (hR : Kd.R d e w1 w.heap.size ok v xs) : SepT w0 w1 (rowT d e v xs :: ts) := h.add hb _ (row_new hR)

section
variable {w0 w : World} {ts : List Th}
/-- The front thing is worked on; the others can be read all the while. -/
theorem SepT.focus2 {t : Th} (h : SepT w0 w (t :: ts)) : ∃ ok, t.P w ok ∧ (∀ (W : World), Only ok w W → ∀ t' ∈ ts, ∃ ok', t'.P W ok') ∧ ∀ (w1 : World) (t1 : Th), Only ok w w1 → t1.P w1 (fun k => ok k ∨ w.heap.size ≤ k) → SepT w0 w1 (t1 :: ts) := by
  have hb := Sep.base h
  obtain ⟨ok, h1, h2, h3⟩ := h
  refine ⟨ok, h1, fun W hW t' ht' => ?_, fun w1 t1 ho ht => ?_⟩
  · obtain ⟨ok', hp, _⟩ := SepT.get (h3.only hW (fun k hk => ⟨.inr hk, (h2 k hk).1⟩)) ht'
    exact ⟨ok', hp⟩
  · refine ⟨fun k => (ok k ∨ w.heap.size ≤ k) ∧ k < w1.heap.size, t1.stay ht (fun _ _ _ => rfl) (fun k hk hl => ⟨hk, hl⟩), ?_, ?_⟩
    · intro k hk
      have hb := hb.size
      rcases hk with ⟨hk | hk, hl⟩
      · exact ⟨(h2 k hk).1, hl, fun h => h⟩
      · exact ⟨by omega, hl, fun h => h⟩
    · refine (h3.only ho (fun k hk => ⟨.inr hk, (h2 k hk).1⟩)).weak (fun k _ h => ?_)
      rcases h with h | h
      · exact h.elim
      · rcases h.1 with h | h
        · exact .inl (.inr h)
        · exact .inr h
end
/-- A literal's row, just built. -/
theorem SepT.lit {w0 w : World} {ts : List Th} (h : SepT w0 w ts) {α : Type} {enc : α → Value} {h1 : ∀ x, (enc x).oneCell' = true} (e : Nat) (xs : List α) (hx : xs.length ≤ 1000000000) :
    SepT w0 (w.alloc (.cells (xs.map enc).toArray e)) (rowT (Kd.scalar enc h1) e (.slice (some ⟨w.heap.size, 0, none⟩) xs.length xs.length) xs :: ts) := by
  refine h.addRow ((Below.refl _ w).alloc (Nat.le_refl _) _) (ok := fun k => True) (Kd.R_of_own ⟨by simp [encs], .inr ⟨w.heap.size, xs.length, _, rfl, Nat.le_refl _, heap_new w _, Nat.le_refl _, ?_, ?_, ?_⟩⟩ (fun _ _ => trivial))
  · have : (1000000000 : Nat) ≤ maxLen := by decide
    omega
  · simp
  · simp [encs, List.take_of_length_le]
theorem SepT.alloc {w0 w : World} {ts : List Th} (h : SepT w0 w ts) (o : Obj) : SepT w0 (w.alloc o) ts := h.below ((Below.refl _ w).alloc (Nat.le_refl _) o)

section
variable {w0 w : World} {ts : List Th}
/-- A block of the call's own. -/
def boxT (b : Nat) (cs : Array Value) (t : Nat) : Th :=
  ⟨fun w ok => w.heap[b]? = some (.cells cs t (0, 0)) ∧ ok b, fun h h1 h2 => ⟨(h1 b h.2 (blk_lt h.1)).trans h.1, h2 b h.2 (blk_lt h.1)⟩⟩
theorem SepT.allocBox (h : SepT w0 w ts) (cs : Array Value) (t : Nat) : SepT w0 (w.alloc (.cells cs t)) (boxT w.heap.size cs t :: ts) :=
  h.add ((Below.refl _ w).alloc (Nat.le_refl _) _) (boxT w.heap.size cs t) ⟨heap_new w _, Nat.le_refl _⟩
theorem SepT.setBox {b t : Nat} {cs : Array Value} (h : SepT w0 w (boxT b cs t :: ts)) (j : Nat) (v : Value) : SepT w0 (w.setCell ⟨b, j, none⟩ v) (boxT b (cs.setIfInBounds j v) t :: ts) := by
  obtain ⟨ok, h1, _, hk⟩ := h.focus
  exact hk _ (boxT b (cs.setIfInBounds j v) t) ((Only.refl ok w).setCell (p := ⟨b, j, none⟩) (.inl h1.2) v) ⟨blk_set h1.1 j v, .inl h1.2⟩
theorem SepT.box (h : SepT w0 w ts) {b t : Nat} {cs : Array Value} (hm : boxT b cs t ∈ ts) : w.heap[b]? = some (.cells cs t (0, 0)) ∧ w0.heap.size ≤ b := by
  obtain ⟨ok, h1, h0⟩ := SepT.get h hm
  exact ⟨h1.1, h0 b h1.2⟩
theorem SepT.drew (h : SepT w0 w ts) : SepT w0 w.drew ts := h.below (below_drew (Below.refl _ _))
theorem SepT.drewN (h : SepT w0 w ts) (n : Nat) : SepT w0 (w.drewN n) ts := h.below (pw_below_drewN (Below.refl _ _) n)
theorem Sep.perm {ts ts' : List Th} (hp : ts.Perm ts') : ∀ {u : Nat → Prop}, Sep w0 w ts u → Sep w0 w ts' u := by
  induction hp with
  | nil => exact fun h => h
  | cons t _ ih =>
    intro u h
    obtain ⟨ok, h1, h2, h3⟩ := h
    exact ⟨ok, h1, h2, ih h3⟩
  | swap a b l => exact fun h => Sep.swap h
  | trans _ _ ih1 ih2 => exact fun h => ih2 (ih1 h)
theorem SepT.perm {ts ts' : List Th} (h : SepT w0 w ts) (hp : ts.Perm ts') : SepT w0 w ts' := Sep.perm hp h
theorem SepT.fourth {a b c d : Th} (h : SepT w0 w (a :: b :: c :: d :: ts)) : SepT w0 w (d :: a :: b :: c :: ts) := h.perm (List.perm_middle (l₁ := [a, b, c]))
theorem SepT.fifth {a b c d e : Th} (h : SepT w0 w (a :: b :: c :: d :: e :: ts)) : SepT w0 w (e :: a :: b :: c :: d :: ts) := h.perm (List.perm_middle (l₁ := [a, b, c, d]))
theorem SepT.sixth {a b c d e f : Th} (h : SepT w0 w (a :: b :: c :: d :: e :: f :: ts)) : SepT w0 w (f :: a :: b :: c :: d :: e :: ts) := h.perm (List.perm_middle (l₁ := [a, b, c, d, e]))
theorem SepT.seventh {a b c d e f g : Th} (h : SepT w0 w (a :: b :: c :: d :: e :: f :: g :: ts)) : SepT w0 w (g :: a :: b :: c :: d :: e :: f :: ts) := h.perm (List.perm_middle (l₁ := [a, b, c, d, e, f]))
end
/-- append onto a row of one's own. -/
theorem SepT.appends {P : Program} {ops : Array Oper} {rest : List Oper} {o : Oper} {a : Act} {Q : Exit → Act → World → Prop} {α : Type} (d : Kd α) {w0 W : World} {ts : List Th} (hgd : o.guard = none) (s x : Operand) (t e : TypeId) (z : Value) (bytes : Nat)
    (ho : o.op = .call { callee := .builtin .append, args := #[s, x], argTypes := #[t, t] })
    (ht : P.underlying t = some (.slice e)) (hinfo : (P.info? e).map (fun i => (i.zero, i.size, i.bytes)) = some (some z, d.sz, bytes)) (hz : z.cells.size = d.sz) (hs0 : 0 < d.sz) (hb0 : 0 < bytes)
    (v : Value) (xs : List α) (p : α) (cs : List Value) (hs : a.eval s = v) (hx : a.eval x = .slice (some ⟨W.heap.size, 0, none⟩) 1 1) (hp : d.M W 0 (fun _ => False) p cs)
    (S : SepT w0 W (rowT d e v xs :: ts)) (hl : (xs.length + 1) * bytes ≤ 140737488355328)
    (h : ∀ A c w1, SepT w0 w1 (rowT d e (.slice A (xs ++ [p]).length c) (xs ++ [p]) :: ts) → wpList P ops Q rest (a.put o.dst (.slice A (xs ++ [p]).length c)) w1) :
    wpList P ops Q (o :: rest) a (W.alloc (.cells cs.toArray e)) := by
  obtain ⟨ok, hR, h0, hk⟩ := S.focus
  have hR' : Kd.R d e W 0 ok v xs := hR
  refine Kd.R_append d (w0 := W) 0 hgd s x t e z bytes ho ht hinfo hz hs0 hb0 v xs p cs (fun k => ok k ∨ W.heap.size ≤ k) (fun _ => False) hs hx hp (fun _ hk => hk.elim) (fun k hk => .inr hk) (Kd.R_mono hR' (fun k hk => .inl hk)) (Below.refl _ _) (Nat.zero_le _) hl ?_
  intro v1 w1 h1 _ hg _
  obtain ⟨A, c, rfl⟩ := Kd.R_slice h1
  exact h A c w1 (hk w1 (rowT d e _ (xs ++ [p])) ((Only.refl ok W).grown hg (fun k hk => .inl (hR'.1 k hk))) h1)
theorem m5 {a b c d e f : Th} {l : List Th} : a ∈ b :: c :: d :: e :: f :: a :: l := by simp
theorem m6 {a b c d e f g : Th} {l : List Th} : a ∈ b :: c :: d :: e :: f :: g :: a :: l := by simp
theorem m7 {a b c d e f g h : Th} {l : List Th} : a ∈ b :: c :: d :: e :: f :: g :: h :: a :: l := by simp
/-- A whole row of cells stored. -/
theorem setRow_other (w : World) (g : Nat) (cs : Array Value) (k : Nat) (h : k ≠ g) : (w.setRow g cs).heap[k]? = w.heap[k]? := by
  unfold World.setRow
  simp [Array.getElem?_modify, Ne.symm h]
theorem Only.setRow {S : Nat → Prop} {w w' : World} (h : Only S w w') {b : Nat} (hp : S b ∨ w.heap.size ≤ b) (cs : Array Value) : Only S w (w'.setRow b cs) :=
  h.trans (S2 := fun k => k = b) ⟨rfl, rfl, rfl, by simp, fun i _ hn => setRow_other w' b cs i hn⟩ (fun k hk => by rw [hk]; exact hp)
theorem SepT.setRow {w0 w : World} {ts : List Th} {b t : Nat} {cs : Array Value} (h : SepT w0 w (boxT b cs t :: ts)) (cs' : Array Value) : SepT w0 (w.setRow b cs') (boxT b cs' t :: ts) := by
  obtain ⟨ok, h1, _, hk⟩ := h.focus
  exact hk _ (boxT b cs' t) ((Only.refl ok w).setRow (.inl h1.2) cs') ⟨setRow_heap w b cs cs' t (0, 0) h1.1, .inl h1.2⟩
end Go.Proofs.Ytiafadmkkehdnaa.Sh
namespace Go.Proofs.Ytiafadmkkehdnaa.Sh
open Go.RowKit Go.Proofs.YtiafadmkkehdnaaW.PrintWords Go.Proofs.YtiafadmkkehdnaaW.PrintMore
set_option linter.unusedVariables false

/-- x rotated to the right by n bits. -/
def rotr (x n : Int) : Int := bits .or .u32 (IntKind.u32.wrap (x * 2 ^ (32 - n).toNat)) (x / 2 ^ n.toNat)
theorem wrap_u64_neg (n : Int) (h1 : 1 ≤ n) (h2 : n ≤ 31) : IntKind.u64.wrap (-n) = 18446744073709551616 - n := by
  simp [IntKind.wrap, IntKind.bits, IntKind.signed]; omega
theorem mask31 (n : Int) (h1 : 1 ≤ n) (h2 : n ≤ 31) : bits .and .u64 (IntKind.u64.wrap (-n)) 31 = 32 - n := by
  rw [wrap_u64_neg n h1 h2]
  have h := bits_mask .u64 64 (by decide) (fun m h0 h1 => by simp [IntKind.wrap, IntKind.bits, IntKind.signed]; omega) 5 (by omega) (18446744073709551616 - n) (by omega) (by omega)
  have e : ((2 : Int) ^ 5 - 1) = 31 := by decide
  have e2 : ((2 : Int) ^ 5) = 32 := by decide
  rw [e, e2] at h
  rw [h]
  omega
set_option maxRecDepth 100000 in
theorem rot_calls (x n : Int) (h1 : 1 ≤ n) (h2 : n ≤ 31) (w : World) :
    Calls Try.prog 96 #[.int .u32 x, .int .i64 (-n)] w fun e w' => e = .returned (.int .u32 (rotr x n)) ∧ w = w' := by
  obtain ⟨m, hm⟩ : ∃ m, m = 32 - n := ⟨_, rfl⟩
  have hs : bits .and .u64 (IntKind.u64.wrap (-n)) 31 = m := by rw [mask31 n h1 h2, hm]
  have hm1 : 1 ≤ m := by omega
  have hm2 : m ≤ 31 := by omega
  have hr : Aside0 (32 - m = n ∧ 32 - n = m) := ⟨by omega, by omega⟩
  clear hm h1 h2
  go_enter Try.func96, Try.ntmps96
  go_wp2
  go_ret
  refine ⟨?_, rfl⟩
  unfold rotr
  rw [← hr.out.1]
  have : 32 - (32 - m) = m := by omega
  rw [this]
  rfl
theorem rot_calls' (x n : Int) (h1 : 1 ≤ n) (h2 : n ≤ 31) (w : World) :
    Calls Try.prog 96 #[.int .u32 x, .int .i64 (-n)] w fun e w' => e = .returned (.int .u32 (rotr x n)) ∧ w' = w := (rot_calls x n h1 h2 w).mono (fun _ _ h => ⟨h.1, h.2.symm⟩)
def mix3 (x a b c : Int) : Int := bits .xor .u32 (bits .xor .u32 (rotr x a) (rotr x b)) (rotr x c)
def mixs (x a b c : Int) : Int := bits .xor .u32 (bits .xor .u32 (rotr x a) (rotr x b)) (x / 2 ^ c.toNat)
set_option maxRecDepth 100000 in
theorem mix3_calls (x a b c : Int) (a1 : 1 ≤ a) (a2 : a ≤ 31) (b1 : 1 ≤ b) (b2 : b ≤ 31) (c1 : 1 ≤ c) (c2 : c ≤ 31) (w : World) :
    Calls Try.prog 95 #[.int .u32 x, .int .i64 a, .int .i64 b, .int .i64 c] w fun e w' => e = .returned (.int .u32 (mix3 x a b c)) ∧ w = w' := by
  go_enter Try.func95, Try.ntmps95
  go_wp2_with (first | (go_at_call 96; ((with_reducible refine (rot_calls x a a1 a2 _).mono ?_); rintro e w' ⟨rfl, rfl⟩)) | (go_at_call 96; ((with_reducible refine (rot_calls x b b1 b2 _).mono ?_); rintro e w' ⟨rfl, rfl⟩)) | (go_at_call 96; ((with_reducible refine (rot_calls x c c1 c2 _).mono ?_); rintro e w' ⟨rfl, rfl⟩)))
  go_ret
  exact ⟨rfl, rfl⟩
set_option maxRecDepth 100000 in
theorem mixs_calls (x a b c : Int) (a1 : 1 ≤ a) (a2 : a ≤ 31) (b1 : 1 ≤ b) (b2 : b ≤ 31) (c1 : 1 ≤ c) (c2 : c ≤ 31) (w : World) :
    Calls Try.prog 110 #[.int .u32 x, .int .i64 a, .int .i64 b, .int .i64 c] w fun e w' => e = .returned (.int .u32 (mixs x a b c)) ∧ ∃ n, w.drewN n = w' := by
  go_enter Try.func110, Try.ntmps110
  go_wp2
  go_quiet ((go_at_call 96; first | (with_reducible exact Calls.quiet_of_same (rot_calls' x a a1 a2 _)) | (with_reducible exact Calls.quiet_of_same (rot_calls' x b b1 b2 _))))
  go_wp2
  go_ret
  exact ⟨rfl, _, rfl⟩
end Go.Proofs.Ytiafadmkkehdnaa.Sh
namespace Go.Proofs.Ytiafadmkkehdnaa.Sh
open Go.RowKit Go.Great Go.Proofs.YtiafadmkkehdnaaW.PrintWords Go.Proofs.YtiafadmkkehdnaaW.PrintMore
set_option linter.unusedVariables false

/-- The constants of the steps. -/
def ks : List Int := [1116352408, 1899447441, 3049323471, 3921009573, 961987163, 1508970993, 2453635748, 2870763221, 3624381080, 310598401, 607225278, 1426881987, 1925078388, 2162078206, 2614888103, 3248222580, 3835390401, 4022224774, 264347078, 604807628, 770255983, 1249150122, 1555081692, 1996064986, 2554220882, 2821834349, 2952996808, 3210313671, 3336571891, 3584528711, 113926993, 338241895, 666307205, 773529912, 1294757372, 1396182291, 1695183700, 1986661051, 2177026350, 2456956037, 2730485921, 2820302411, 3259730800, 3345764771, 3516065817, 3600352804, 4094571909, 275423344, 430227734, 506948616, 659060556, 883997877, 958139571, 1322822218, 1537002063, 1747873779, 1955562222, 2024104815, 2227730452, 2361852424, 2428436474, 2756734187, 3204031479, 3329325298]
/-- A row of words. -/
def wordsA (l : List Int) : Array Value := (l.map (Value.int .u32)).toArray
theorem info106 : (Try.prog.info? 106).map (·.size) = some 64 := by kernel_rfl
theorem info92 : (Try.prog.info? 92).map (·.size) = some 8 := by kernel_rfl
def wordsZ : Array Value := wordsA (List.replicate 64 0)
theorem new64 (t : TypeId) (ht : t = 106) (ρ : Operand → Value) (o : Oper) (ho : o.op = .alloc t) (w : World) : (execOp ρ o).run Try.prog w = .ok (.value (.pointer (some ⟨w.heap.size, 0, none⟩))) (w.alloc (.cells wordsZ 106)) := by
  subst ht
  obtain ⟨d, op, ty, pos, af, gd⟩ := o
  simp only at ho
  subst ho
  kernel_rfl
set_option maxRecDepth 100000 in
theorem constants_calls (w : World) :
    Calls Try.prog 98 #[] w fun e w' => e = .returned (.agg (wordsA ks)) ∧ Below w.heap.size w w' := by
  have S := Aside0.mk ((SepT.start w).allocBox wordsZ 106)
  go_enter Try.func98, Try.ntmps98
  apply wp_seq_k; intro K0 hK0
  apply wp_region_lit
  refine wpList_allocTo rfl (some 0) rfl _ _ (new64 106 rfl _ _ rfl _) ?_
  apply wpList_nil
  refine hK0 _ _ ?_
  clear hK0 K0
  apply wp_seq_k; intro K0 hK0
  apply wp_region_lit
  refine wpList_build rfl _ _ rfl (by kernel_rfl) ?_
  have hx := (SepT.box S.out m0).1
  refine wpList_store_row rfl _ _ _ rfl w.heap.size (wordsA ks) rfl (by kernel_rfl) 106 _ hx info106 (by kernel_rfl) (by kernel_rfl) ?_
  apply wpList_nil
  refine hK0 _ _ ?_
  have S1 := Aside0.mk (S.out.setRow (wordsA ks))
  clear hK0 K0
  go_wp2
  have hy := (SepT.box S1.out m0).1
  refine bodyPost_ret (results_cell_row rfl _ _ w.heap.size 106 (wordsA ks) (0, 0) _ rfl hy Try.underlying106 rfl info106) rfl ?_
  exact ⟨rfl, Sep.base S1.out⟩
end Go.Proofs.Ytiafadmkkehdnaa.Sh
