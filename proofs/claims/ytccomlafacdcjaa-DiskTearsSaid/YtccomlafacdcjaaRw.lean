/-
  The rows' arguments, opened: slices of numbers, of operations, of calls.
-/
import Derived.Test.YtccomlafacdcjaaRef0
import Derived.Deep.Slices
import Derived.Deep.Strs
import Derived.WalkKit
import Derived.ProofKit
import Derived.OpenShut
import Derived.ShutString
import Derived.ChangeOld
import Derived.Below
import Derived.SizedLaws
namespace Go.Proofs.Ytccomlafacdcjaa.Dk
open Go.RowKit Go.Proofs.YtccomlafacdcjaaW.PrintWords Go.Deep Go.ChangeShapes Go.WideShapes
open Go.Proofs.Ytccomlafacdcjaa.Ref
set_option linter.unusedVariables false
section
variable {H : Type} {enc : TypeId × Value → H} {w : World} {base : Nat} {spare : Nat → Bool} {held : Bool}

/-- A slice whose elements are of a kind, as it is read. -/
theorem slice_CQ {α : Type} (d : Kd α) (Q : α → Prop) {t e : TypeId} {fuel : Nat} {cs : List Value} {x : DataW H × List MemPlace} (ht : Try.prog.underlying t = some (.slice e)) (hc : Try.prog.cellsOf e = d.sz)
    (hel : ∀ n cs x, DataW.trod enc Try.prog w base spare held n e cs = some x → ∃ p : α, d.K w p cs ∧ Q p) (h : DataW.trod enc Try.prog w base spare held fuel t cs = some x) :
    ∃ (A : Option Addr) (c : Nat) (xs : List α), cs = [.slice A xs.length c] ∧ xs.length ≤ c ∧ d.C w A xs.length xs ∧ ∀ p ∈ xs, Q p := by
  rcases open_slice ht h with ⟨rfl, _⟩ | ⟨a, len, cap, m, n, D, Pl, rfl, hb, hl, hm, hmm, rfl, hx⟩
  · exact ⟨none, 0, [], rfl, Nat.le_refl _, Kd.C_nil d w, by simp⟩
  · have hlm : len ≤ m := by rw [hmm]; split <;> omega
    have hp : ∀ i, i < len → ∃ p : α, ∃ cs', w.cells? base (a.add (i * Try.prog.cellsOf e)) (Try.prog.cellsOf e) = some cs' ∧ d.K w p cs' ∧ Q p := fun i hi => by
      obtain ⟨cs', h1, h2⟩ := hx i (by omega)
      obtain ⟨p, hk⟩ := hel _ _ _ h2
      exact ⟨p, cs', h1, hk⟩
    have hp2 : ∃ xs : List α, xs.length = len ∧ ∀ i p, xs[i]? = some p → ∃ cs', w.cells? base (a.add (i * Try.prog.cellsOf e)) (Try.prog.cellsOf e) = some cs' ∧ d.K w p cs' ∧ Q p := by
      clear hx hm hl hmm hlm h
      induction len with
      | zero => exact ⟨[], rfl, by simp⟩
      | succ len ih =>
        obtain ⟨xs, h1, h2⟩ := ih (fun i hi => hp i (by omega))
        obtain ⟨q, hq⟩ := hp len (by omega)
        refine ⟨xs ++ [q], by simp [h1], fun i p hi => ?_⟩
        rcases Nat.lt_or_ge i xs.length with h | h
        · rw [List.getElem?_append_left h] at hi
          exact h2 i p hi
        · rw [List.getElem?_append_right h] at hi
          have e : i = xs.length := by
            rcases Nat.lt_or_ge (i - xs.length) 1 with h3 | h3
            · omega
            · rw [List.getElem?_eq_none (by simpa using h3)] at hi
              cases hi
          subst e
          simp at hi
          subst hi
          rw [h1]
          exact hq
    obtain ⟨xs, hlen, hxs⟩ := hp2
    subst hlen
    refine ⟨some a, cap, xs, rfl, hl, ⟨rfl, ?_, fun _ => ⟨a, rfl, fun j p hj => ?_⟩⟩, fun p hp => ?_⟩
    · have : maxLen ≤ 9223372036854775807 := by decide
      omega
    · obtain ⟨cs', h1, h2, _⟩ := hxs j p hj
      rw [hc] at h1
      obtain ⟨_, h3, h4⟩ := World.cells?_some h1
      refine ⟨cs', h3, h2, fun i u hu => ?_⟩
      have hi : i < d.sz := by
        rw [← h3]
        exact (List.getElem?_eq_some_iff.1 hu).1
      have := h4 i hi
      rw [hu] at this
      rw [← this]
      rw [Deep.add_add]
    · obtain ⟨i, hi, rfl⟩ := List.getElem_of_mem hp
      obtain ⟨_, _, _, hq⟩ := hxs i xs[i] (List.getElem?_eq_getElem hi)
      exact hq
theorem slice_C {α : Type} (d : Kd α) {t e : TypeId} {fuel : Nat} {cs : List Value} {x : DataW H × List MemPlace} (ht : Try.prog.underlying t = some (.slice e)) (hc : Try.prog.cellsOf e = d.sz)
    (hel : ∀ n cs x, DataW.trod enc Try.prog w base spare held n e cs = some x → ∃ p : α, d.K w p cs) (h : DataW.trod enc Try.prog w base spare held fuel t cs = some x) :
    ∃ (A : Option Addr) (c : Nat) (xs : List α), cs = [.slice A xs.length c] ∧ xs.length ≤ c ∧ d.C w A xs.length xs := by
  obtain ⟨A, c, xs, h1, h2, h3, _⟩ := slice_CQ d (fun _ => True) ht hc (fun n cs x h => by obtain ⟨p, hp⟩ := hel n cs x h; exact ⟨p, hp, trivial⟩) h
  exact ⟨A, c, xs, h1, h2, h3⟩
theorem el_int {k : IntKind} {t n : Nat} {cs : List Value} {x : DataW H × List MemPlace} (ht : Try.prog.underlying t = some (.int k)) (h : DataW.trod enc Try.prog w base spare held n t cs = some x) : ∃ p : Int, (Kd.int k).K w p cs := by
  obtain ⟨p, rfl, _⟩ := DataW.trod_int ht h
  exact ⟨p, rfl⟩
theorem three {cs : List Value} (h : cs.length = 3) : ∃ c0 c1 c2, cs = [c0, c1, c2] := by
  match cs, h with
  | [c0, c1, c2], _ => exact ⟨c0, c1, c2, rfl⟩
set_option maxRecDepth 100000 in
theorem el_38 {n : Nat} {cs : List Value} {x : DataW H × List MemPlace} (h : DataW.trod enc Try.prog w base spare held n 38 cs = some x) : ∃ p : S38, k38.K w p cs := by
  obtain ⟨y0, y1, y2, m, _, hl, h0, h1, h2⟩ := trod_struct3 Try.underlying38 h
  have hs38 : Try.prog.cellsOf 38 = 3 := by kernel_rfl
  have hl3 : cs.length = 3 := hl.trans hs38
  obtain ⟨c0, c1, c2, rfl⟩ : ∃ c0 c1 c2, cs = [c0, c1, c2] := three hl3
  clear hl hl3
  · skip
    obtain ⟨p, e0, _⟩ := DataW.trod_int Try.underlying3 h0
    obtain ⟨s, e1, _⟩ := DataW.trod_string Try.underlying9 h1
    obtain ⟨b, e2, _⟩ := DataW.trod_bool Try.underlying4 h2
    have q0 : [c0] = [.int .i64 p] := e0
    have q1 : [c1] = [.string s] := e1
    have q2 : [c2] = [.bool b] := e2
    injection q0 with q0 _
    injection q1 with q1 _
    injection q2 with q2 _
    subst q0 q1 q2
    exact ⟨⟨p, s, b⟩, k38_mk w ⟨p, s, b⟩⟩
theorem five {cs : List Value} (h : cs.length = 5) : ∃ c0 c1 c2 c3 c4, cs = [c0, c1, c2, c3, c4] := by
  match cs, h with
  | [c0, c1, c2, c3, c4], _ => exact ⟨c0, c1, c2, c3, c4, rfl⟩
set_option maxRecDepth 100000 in
theorem el_41 {n : Nat} {cs : List Value} {x : DataW H × List MemPlace} (h : DataW.trod enc Try.prog w base spare held n 41 cs = some x) : ∃ p : S41, k41.K w p cs ∧ 0 ≤ p.f0 := by
  obtain ⟨y0, y1, y2, m, _, hl, h0, h1, h2⟩ := trod_struct3 Try.underlying41 h
  have hs41 : Try.prog.cellsOf 41 = 5 := by kernel_rfl
  have hs38 : Try.prog.cellsOf 38 = 3 := by kernel_rfl
  have hl3 : cs.length = 5 := hl.trans hs41
  obtain ⟨c0, c1, c2, c3, c4, rfl⟩ := five hl3
  clear hl hl3
  obtain ⟨k, e0, _, hwf⟩ := DataW.trod_int Try.underlying5 h0
  have hk0 : 0 ≤ k := by
    simp only [Lit.wf, Bool.and_eq_true, decide_eq_true_eq] at hwf
    have e1 : IntKind.min .u8 = 0 := by decide
    rw [e1] at hwf
    exact hwf.1
  obtain ⟨o, ho⟩ := el_38 (w := w) h1
  have h39 : Try.prog.cellsOf 3 = (Kd.int .i64).sz := by kernel_rfl
  obtain ⟨A, c, xs, e2, hc, hC⟩ := slice_C (Kd.int .i64) Try.underlying39 h39 (fun n cs x h => el_int Try.underlying3 h) h2
  have q1 := k38_open ho
  have q0 : [c0] = [.int .u8 k] := e0
  have q2 : [c4] = [.slice A xs.length c] := e2
  have q3 : [c1, c2, c3] = [.int .i64 o.f0, .string o.f1, .bool o.f2] := q1
  injection q0 with q0 _
  injection q2 with q2 _
  injection q3 with q3 q4
  injection q4 with q4 q5
  injection q5 with q5 _
  subst q0 q2 q3 q4 q5
  exact ⟨⟨k, o, xs⟩, k41_mk w ⟨k, o, xs⟩ hc hC, hk0⟩

variable {t fuel : Nat} {cs : List Value} {x : DataW H × List MemPlace}
theorem open_acts (h : DataW.trod enc Try.prog w base spare held fuel 22 cs = some x) : ∃ (A : Option Addr) (c : Nat) (xs : List S41), cs = [.slice A xs.length c] ∧ xs.length ≤ c ∧ Kd.C k41 w A xs.length xs :=
  slice_C k41 Try.underlying22 (by kernel_rfl) (fun _ _ _ h => by obtain ⟨p, hp, _⟩ := el_41 h; exact ⟨p, hp⟩) h
theorem open_actsQ (h : DataW.trod enc Try.prog w base spare held fuel 22 cs = some x) : ∃ (A : Option Addr) (c : Nat) (xs : List S41), cs = [.slice A xs.length c] ∧ xs.length ≤ c ∧ Kd.C k41 w A xs.length xs ∧ ∀ a ∈ xs, 0 ≤ a.f0 :=
  slice_CQ k41 (fun a => 0 ≤ a.f0) Try.underlying22 (by kernel_rfl) (fun _ _ _ h => el_41 h) h
theorem open_ops (h : DataW.trod enc Try.prog w base spare held fuel 55 cs = some x) : ∃ (A : Option Addr) (c : Nat) (xs : List S38), cs = [.slice A xs.length c] ∧ xs.length ≤ c ∧ Kd.C k38 w A xs.length xs :=
  slice_C k38 Try.underlying55 (by kernel_rfl) (fun _ _ _ h => el_38 h) h
theorem open_choices (h : DataW.trod enc Try.prog w base spare held fuel 39 cs = some x) : ∃ (A : Option Addr) (c : Nat) (xs : List Int), cs = [.slice A xs.length c] ∧ xs.length ≤ c ∧ Kd.C (Kd.int .i64) w A xs.length xs :=
  slice_C (Kd.int .i64) Try.underlying39 (by kernel_rfl) (fun _ _ _ h => el_int Try.underlying3 h) h
end
theorem wf_u8 {n : Int} (h : (Lit.int .u8 n).wf = true) : 0 ≤ n ∧ n < 256 := by
  simp only [Lit.wf, Bool.and_eq_true, decide_eq_true_eq] at h
  have e1 : IntKind.min .u8 = 0 := by decide
  have e2 : IntKind.max .u8 = 255 := by decide
  rw [e1, e2] at h
  exact ⟨h.1, by omega⟩
end Go.Proofs.Ytccomlafacdcjaa.Dk
