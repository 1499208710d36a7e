/-
  Things apart: each stands in blocks of its own; a call that works on one leaves the others.
-/
import Derived.Test.YtccomlafacdcjaaDi
namespace Go.Proofs.Ytccomlafacdcjaa.Dk
open Go.RowKit Go.Proofs.YtccomlafacdcjaaW.PrintWords Go.Proofs.YtccomlafacdcjaaW.PrintMore
set_option linter.unusedVariables false

structure Th where
  P : World → (Nat → Prop) → Prop
  stay : ∀ {w w' : World} {ok ok' : Nat → Prop}, P w ok → (∀ k, ok k → k < w.heap.size → w'.heap[k]? = w.heap[k]?) → (∀ k, ok k → k < w.heap.size → ok' k) → P w' ok'

def diskT (g : Nat) (s : DS) : Th := ⟨fun w ok => IsDisk w g ok s, fun h h1 h2 => h.stay h1 h2⟩
def rowT {α : Type} (d : Kd α) (e : Nat) (v : Value) (xs : List α) : Th := ⟨fun w ok => Kd.R d e w 0 ok v xs, fun h h1 h2 =>
  Kd.R_mono (Kd.R_move (Kd.R_bound h) (fun k hk => h1 k hk.1 hk.2.2.1)) (fun k hk => h2 k hk.1 hk.2.2.1)⟩

/-- All the things stand apart, in blocks that were not there in w0; what was there is as it was. -/
def Sep (w0 w : World) : List Th → (Nat → Prop) → Prop
  | [], _ => Below w0.heap.size w0 w
  | t :: ts, used => ∃ ok, t.P w ok ∧ (∀ k, ok k → w0.heap.size ≤ k ∧ k < w.heap.size ∧ ¬ used k) ∧ Sep w0 w ts (fun k => used k ∨ ok k)

theorem Sep.base {w0 w : World} : ∀ {ts : List Th} {u : Nat → Prop}, Sep w0 w ts u → Below w0.heap.size w0 w
  | [], _, h => h
  | t :: ts, u, ⟨ok, _, _, h⟩ => Sep.base h
theorem Sep.weak {w0 w : World} : ∀ {ts : List Th} {u u' : Nat → Prop}, Sep w0 w ts u → (∀ k, k < w.heap.size → u' k → u k) → Sep w0 w ts u'
  | [], _, _, h, _ => h
  | t :: ts, u, u', ⟨ok, h1, h2, h3⟩, hu => ⟨ok, h1, fun k hk => ⟨(h2 k hk).1, (h2 k hk).2.1, fun h => (h2 k hk).2.2 (hu k (h2 k hk).2.1 h)⟩, Sep.weak h3 (fun k hl h => h.elim (fun h => .inl (hu k hl h)) .inr)⟩
/-- A call that turned only blocks of 'used' (which are not the things') and new ones. -/
theorem Sep.only {w0 w w1 : World} : ∀ {ts : List Th} {u : Nat → Prop}, Sep w0 w ts u → ∀ {S : Nat → Prop}, Only S w w1 → (∀ k, S k → u k ∧ w0.heap.size ≤ k) → Sep w0 w1 ts (fun k => u k ∨ w.heap.size ≤ k)
  | [], u, h, S, ho, hS => h.trans (ho.below h.size (fun k hk => (hS k hk).2))
  | t :: ts, u, ⟨ok, h1, h2, h3⟩, S, ho, hS =>
    ⟨ok, t.stay h1 (fun k hk hl => ho.block k hl (fun hs => (h2 k hk).2.2 (hS k hs).1)) (fun _ h _ => h), fun k hk => ⟨(h2 k hk).1, Nat.lt_of_lt_of_le (h2 k hk).2.1 ho.size, fun h => h.elim (h2 k hk).2.2 (fun h => by have := (h2 k hk).2.1; omega)⟩,
      Sep.weak (Sep.only h3 ho (fun k hk => ⟨.inl (hS k hk).1, (hS k hk).2⟩)) (fun k _ h => by
        rcases h with (h | h) | h
        · exact .inl (.inl h)
        · exact .inr h
        · exact .inl (.inr h))⟩

/-- The first thing is worked on. -/
theorem Sep.focus {w0 w : World} {t : Th} {ts : List Th} {u : Nat → Prop} (h : Sep w0 w (t :: ts) u) : ∃ ok, t.P w ok ∧ (∀ k, ok k → w0.heap.size ≤ k ∧ k < w.heap.size) ∧ ∀ (w1 : World) (t1 : Th), Only ok w w1 → t1.P w1 (fun k => ok k ∨ w.heap.size ≤ k) → Sep w0 w1 (t1 :: ts) (fun k => u k ∧ k < w.heap.size) := by
  obtain ⟨ok, h1, h2, h3⟩ := h
  refine ⟨ok, h1, fun k hk => ⟨(h2 k hk).1, (h2 k hk).2.1⟩, fun w1 t1 ho ht => ⟨fun k => (ok k ∨ w.heap.size ≤ k) ∧ k < w1.heap.size, t1.stay ht (fun _ _ _ => rfl) (fun k hk hl => ⟨hk, hl⟩), ?_, ?_⟩⟩
  · intro k hk
    have hb := h3.base.size
    rcases hk with ⟨hk | hk, hl⟩
    · exact ⟨(h2 k hk).1, hl, fun h => (h2 k hk).2.2 h.1⟩
    · exact ⟨by omega, hl, fun h => by have := h.2; omega⟩
  · refine (h3.only ho (fun k hk => ⟨.inr hk, (h2 k hk).1⟩)).weak (fun k _ h => ?_)
    rcases h with h | h
    · exact .inl (.inl h.1)
    · rcases h.1 with h | h
      · exact .inl (.inr h)
      · exact .inr h

abbrev SepT (w0 w : World) (ts : List Th) : Prop := Sep w0 w ts (fun _ => False)
theorem SepT.focus {w0 w : World} {t : Th} {ts : List Th} (h : SepT w0 w (t :: ts)) : ∃ ok, t.P w ok ∧ (∀ k, ok k → w0.heap.size ≤ k ∧ k < w.heap.size) ∧ ∀ (w1 : World) (t1 : Th), Only ok w w1 → t1.P w1 (fun k => ok k ∨ w.heap.size ≤ k) → SepT w0 w1 (t1 :: ts) := by
  obtain ⟨ok, h1, h2, h3⟩ := Sep.focus h
  exact ⟨ok, h1, h2, fun w1 t1 ho ht => (h3 w1 t1 ho ht).weak (fun k _ h => h.elim)⟩
theorem SepT.below {w0 w w1 : World} {ts : List Th} (h : SepT w0 w ts) (hb : Below w.heap.size w w1) : SepT w0 w1 ts :=
  (Sep.only h (Only.of_below hb (fun _ => False)) (fun _ h => h.elim)).weak (fun k _ h => h.elim)
theorem SepT.drop {w0 w : World} {t : Th} {ts : List Th} (h : SepT w0 w (t :: ts)) : SepT w0 w ts := by
  obtain ⟨ok, _, _, h3⟩ := h
  exact h3.weak (fun k _ h => h.elim)
theorem SepT.add {w0 w w1 : World} {ts : List Th} (h : SepT w0 w ts) (hb : Below w.heap.size w w1) (t : Th) (ht : t.P w1 (fun k => w.heap.size ≤ k)) : SepT w0 w1 (t :: ts) :=
  ⟨fun k => w.heap.size ≤ k ∧ k < w1.heap.size, t.stay ht (fun _ _ _ => rfl) (fun k hk hl => ⟨hk, hl⟩), fun k hk => ⟨Nat.le_trans (Sep.base h).size hk.1, hk.2, fun h => h⟩,
    (Sep.only h (Only.of_below hb (fun _ => False)) (fun _ h => h.elim)).weak (fun k _ h => .inr (h.elim False.elim (fun h => h.1)))⟩
theorem SepT.swap {w0 w : World} {a b : Th} {ts : List Th} (h : SepT w0 w (a :: b :: ts)) : SepT w0 w (b :: a :: ts) := by
  obtain ⟨oa, h1, h2, ob, h3, h4, h5⟩ := h
  exact ⟨ob, h3, fun k hk => ⟨(h4 k hk).1, (h4 k hk).2.1, fun h => h⟩, oa, h1, fun k hk => ⟨(h2 k hk).1, (h2 k hk).2.1, fun h => (h4 k (h.elim False.elim id)).2.2 (.inr hk)⟩, h5.weak (fun k _ h => by
    rcases h with (h | h) | h
    · exact .inl (.inl h)
    · exact .inr h
    · exact .inl (.inr h))⟩
theorem SepT.under {w0 w : World} {t : Th} {ts ts' : List Th} (h : SepT w0 w (t :: ts)) (hm : ∀ u : Nat → Prop, Sep w0 w ts u → Sep w0 w ts' u) : SepT w0 w (t :: ts') := by
  obtain ⟨oa, h1, h2, h3⟩ := h
  exact ⟨oa, h1, h2, hm _ h3⟩
theorem Sep.swap {w0 w : World} {a b : Th} {ts : List Th} {u : Nat → Prop} (h : Sep w0 w (a :: b :: ts) u) : Sep w0 w (b :: a :: ts) u := by
  obtain ⟨oa, h1, h2, ob, h3, h4, h5⟩ := h
  exact ⟨ob, h3, fun k hk => ⟨(h4 k hk).1, (h4 k hk).2.1, fun h => (h4 k hk).2.2 (.inl h)⟩, oa, h1, fun k hk => ⟨(h2 k hk).1, (h2 k hk).2.1, fun h => h.elim (h2 k hk).2.2 (fun h => (h4 k h).2.2 (.inr hk))⟩, h5.weak (fun k _ h => by
    rcases h with (h | h) | h
    · exact .inl (.inl h)
    · exact .inr h
    · exact .inl (.inr h))⟩
/-- The third to the front. -/
theorem SepT.third {w0 w : World} {a b c : Th} {ts : List Th} (h : SepT w0 w (a :: b :: c :: ts)) : SepT w0 w (c :: a :: b :: ts) := (h.under (fun _ h => h.swap)).swap
theorem SepT.start (w : World) : SepT w w [] := Below.refl _ _
/-- A row as it is read, however the front thing is worked on. -/
theorem SepT.row {w0 w : World} {α : Type} {d : Kd α} {e : Nat} {v : Value} {xs : List α} {ts : List Th} (h : SepT w0 w (rowT d e v xs :: ts)) : ∃ A c, v = .slice A xs.length c ∧ xs.length ≤ c ∧ Kd.C d w A xs.length xs := by
  obtain ⟨ok, h1, _, _⟩ := h
  exact Kd.R_reads h1
end Go.Proofs.Ytccomlafacdcjaa.Dk
