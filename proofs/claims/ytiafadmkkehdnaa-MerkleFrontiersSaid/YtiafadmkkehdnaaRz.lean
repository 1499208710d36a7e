/-
  The rows' arguments, opened: slices of strings.
-/
import Derived.Test.YtiafadmkkehdnaaZ0
import Derived.Deep.Slices
import Derived.Deep.Strs
import Derived.WalkKit
import Derived.ProofKit
import Derived.OpenShut
import Derived.ShutString
import Derived.ChangeOld
import Derived.Below
import Derived.SizedLaws
namespace Go.Proofs.Ytiafadmkkehdnaa.Sh
open Go.RowKit Go.Proofs.YtiafadmkkehdnaaW.PrintWords Go.Deep Go.ChangeShapes Go.WideShapes
set_option linter.unusedVariables false
section
variable {H : Type} {enc : TypeId × Value → H} {w : World} {base : Nat} {spare : Nat → Bool} {held : Bool}

/-- A slice whose elements are of a kind, as it is read. -/
theorem slice_CQ {α : Type} (d : Kd α) (Q : α → Prop) {t e : TypeId} {fuel : Nat} {cs : List Value} {x : DataW H × List MemPlace} (ht : Try.prog.underlying t = some (.slice e)) (hc : Try.prog.cellsOf e = d.sz)
    (hel : ∀ n cs x, DataW.trod enc Try.prog w base spare held n e cs = some x → ∃ p : α, d.K w p cs ∧ Q p) (h : DataW.trod enc Try.prog w base spare held fuel t cs = some x) :
    ∃ (A : Option Addr) (c : Nat) (xs : List α), cs = [.slice A xs.length c] ∧ xs.length ≤ c ∧ d.C w A xs.length xs ∧ ∀ p ∈ xs, Q p := by
  rcases open_slice ht h with ⟨rfl, _⟩ | ⟨a, len, cap, m, n, D, Pl, rfl, hb, hl, hm, hmm, rfl, hx⟩
  · exact ⟨none, 0, [], rfl, Nat.le_refl _, Kd.C_nil d w, by simp⟩
  · have hlm : len ≤ m := by rw [hmm]; split <;> omega
    have hp : ∀ i, i < len → ∃ p : α, ∃ cs', w.cells? base (a.add (i * Try.prog.cellsOf e)) (Try.prog.cellsOf e) = some cs' ∧ d.K w p cs' ∧ Q p := fun i hi => by
      obtain ⟨cs', h1, h2⟩ := hx i (by omega)
      obtain ⟨p, hk⟩ := hel _ _ _ h2
      exact ⟨p, cs', h1, hk⟩
    have hp2 : ∃ xs : List α, xs.length = len ∧ ∀ i p, xs[i]? = some p → ∃ cs', w.cells? base (a.add (i * Try.prog.cellsOf e)) (Try.prog.cellsOf e) = some cs' ∧ d.K w p cs' ∧ Q p := by
      clear hx hm hl hmm hlm h
      induction len with
      | zero => exact ⟨[], rfl, by simp⟩
      | succ len ih =>
        obtain ⟨xs, h1, h2⟩ := ih (fun i hi => hp i (by omega))
        obtain ⟨q, hq⟩ := hp len (by omega)
        refine ⟨xs ++ [q], by simp [h1], fun i p hi => ?_⟩
        rcases Nat.lt_or_ge i xs.length with h | h
        · rw [List.getElem?_append_left h] at hi
          exact h2 i p hi
        · rw [List.getElem?_append_right h] at hi
          have e : i = xs.length := by
            rcases Nat.lt_or_ge (i - xs.length) 1 with h3 | h3
            · omega
            · rw [List.getElem?_eq_none (by simpa using h3)] at hi
              cases hi
          subst e
          simp at hi
          subst hi
          rw [h1]
          exact hq
    obtain ⟨xs, hlen, hxs⟩ := hp2
    subst hlen
    refine ⟨some a, cap, xs, rfl, hl, ⟨rfl, ?_, fun _ => ⟨a, rfl, fun j p hj => ?_⟩⟩, fun p hp => ?_⟩
    · have : maxLen ≤ 9223372036854775807 := by decide
      omega
    · obtain ⟨cs', h1, h2, _⟩ := hxs j p hj
      rw [hc] at h1
      obtain ⟨_, h3, h4⟩ := World.cells?_some h1
      refine ⟨cs', h3, h2, fun i u hu => ?_⟩
      have hi : i < d.sz := by
        rw [← h3]
        exact (List.getElem?_eq_some_iff.1 hu).1
      have := h4 i hi
      rw [hu] at this
      rw [← this]
      rw [Deep.add_add]
    · obtain ⟨i, hi, rfl⟩ := List.getElem_of_mem hp
      obtain ⟨_, _, _, hq⟩ := hxs i xs[i] (List.getElem?_eq_getElem hi)
      exact hq
theorem slice_C {α : Type} (d : Kd α) {t e : TypeId} {fuel : Nat} {cs : List Value} {x : DataW H × List MemPlace} (ht : Try.prog.underlying t = some (.slice e)) (hc : Try.prog.cellsOf e = d.sz)
    (hel : ∀ n cs x, DataW.trod enc Try.prog w base spare held n e cs = some x → ∃ p : α, d.K w p cs) (h : DataW.trod enc Try.prog w base spare held fuel t cs = some x) :
    ∃ (A : Option Addr) (c : Nat) (xs : List α), cs = [.slice A xs.length c] ∧ xs.length ≤ c ∧ d.C w A xs.length xs := by
  obtain ⟨A, c, xs, h1, h2, h3, _⟩ := slice_CQ d (fun _ => True) ht hc (fun n cs x h => by obtain ⟨p, hp⟩ := hel n cs x h; exact ⟨p, hp, trivial⟩) h
  exact ⟨A, c, xs, h1, h2, h3⟩
theorem open_strs {fuel : Nat} {cs : List Value} {x : DataW H × List MemPlace} (h : DataW.trod enc Try.prog w base spare held fuel 22 cs = some x) : ∃ (A : Option Addr) (c : Nat) (xs : List ByteArray), cs = [.slice A xs.length c] ∧ xs.length ≤ c ∧ Kd.C Kd.string w A xs.length xs :=
  slice_C Kd.string Try.underlying22 (by kernel_rfl) (fun n cs x h => by obtain ⟨s, e, _⟩ := DataW.trod_string Try.underlying9 h; exact ⟨s, e⟩) h
end
theorem wf_u8 {n : Int} (h : (Lit.int .u8 n).wf = true) : 0 ≤ n ∧ n < 256 := by
  simp only [Lit.wf, Bool.and_eq_true, decide_eq_true_eq] at h
  have e1 : IntKind.min .u8 = 0 := by decide
  have e2 : IntKind.max .u8 = 255 := by decide
  rw [e1, e2] at h
  exact ⟨h.1, by omega⟩
end Go.Proofs.Ytiafadmkkehdnaa.Sh
namespace Go.Proofs.Ytiafadmkkehdnaa.Sh
open Go.RowKit Go.Proofs.YtiafadmkkehdnaaW.PrintWords Go.Deep Go.ChangeShapes Go.WideShapes
set_option linter.unusedVariables false
/-- What is read of a list of strings. -/
def StrsD {H : Type} (d : DataW H) (xs : List ByteArray) : Prop := (d = .nil ∧ xs = []) ∨ ∃ spare, d = .slice (xs.map fun s => .lit (.string s.data.toList)) spare
section
variable {H : Type} {enc : TypeId × Value → H} {w : World} {base : Nat} {spare : Nat → Bool} {held : Bool}
theorem open_strsD {fuel : Nat} {cs : List Value} {x : DataW H × List MemPlace} (h : DataW.trod enc Try.prog w base spare held fuel 22 cs = some x) :
    ∃ (A : Option Addr) (c : Nat) (xs : List ByteArray), cs = [.slice A xs.length c] ∧ xs.length ≤ c ∧ Kd.C Kd.string w A xs.length xs ∧ StrsD x.1 xs := by
  have hc : Try.prog.cellsOf 9 = 1 := by kernel_rfl
  rcases open_slice Try.underlying22 h with ⟨rfl, rfl⟩ | ⟨a, len, cap, m, n, D, Pl, rfl, hb, hl, hm, hmm, rfl, hx⟩
  · exact ⟨none, 0, [], rfl, Nat.le_refl _, Kd.C_nil Kd.string w, .inl ⟨rfl, rfl⟩⟩
  · have hlm : len ≤ m := by rw [hmm]; split <;> omega
    obtain ⟨V, hV⟩ := choose_lt (α := ByteArray) (n := len) (p := fun i s => w.cell? (a.add i) = some (.string s) ∧ D i = .lit (.string s.data.toList)) (fun i hi => by
      obtain ⟨cs', h1, h2⟩ := hx i (by omega)
      rw [hc, Nat.mul_one] at h1
      obtain ⟨s, e, e2⟩ := DataW.trod_string Try.underlying9 h2
      subst e
      refine ⟨s, cell_of_cells?_one h1, ?_⟩
      have := congrArg Prod.fst e2.1
      exact this)
    refine ⟨some a, cap, (List.range len).map V, by simp, by simpa using hl, ⟨rfl, ?_, fun _ => ⟨a, rfl, fun j p hj => ?_⟩⟩, .inr ⟨(List.range (m - len)).map fun j => D (len + j), ?_⟩⟩
    · rw [List.length_map, List.length_range]
      have : maxLen ≤ 9223372036854775807 := by decide
      omega
    · have hjl : j < len := by
        have := (List.getElem?_eq_some_iff.1 hj).1
        simpa using this
      rw [List.getElem?_map, List.getElem?_range hjl] at hj
      simp at hj
      subst hj
      refine ⟨[.string (V j)], rfl, rfl, fun i u hu => ?_⟩
      have hi : i = 0 := by
        have := (List.getElem?_eq_some_iff.1 hu).1
        simpa using this
      subst hi
      simp at hu
      subst hu
      rw [show j * Kd.string.sz + 0 = j from by show j * 1 + 0 = j; omega]
      exact (hV j hjl).1
    · have e : (List.range len).map D = ((List.range len).map V).map fun s => DataW.lit (.string s.data.toList) := by
        rw [List.map_map]
        apply List.map_congr_left
        intro i hi
        exact (hV i (List.mem_range.1 hi)).2
      exact congrArg (fun z => DataW.slice z ((List.range (m - len)).map fun j => D (len + j))) e
end
theorem weightsAll_mem {H : Type} {e : TypeId} : ∀ {l : List (DataW H)} {d : DataW H}, d ∈ l → ∀ n ∈ d.weights Try.prog e, n ∈ DataW.weightsAll Try.prog e l
  | x :: l, d, h, n, hn => by
    rw [DataW.weightsAll]
    rcases List.mem_cons.1 h with rfl | h
    · exact List.mem_append.2 (.inl hn)
    · exact List.mem_append.2 (.inr (weightsAll_mem h n hn))
theorem strs_sized {H : Type} {ts : List TypeId} {ds : List (DataW H)} (h : (DataW.weightsEach Try.prog ts ds).all (· ≤ reachBytes) = true) {j : Nat} {d : DataW H} {xs : List ByteArray} (ht : ts[j]? = some 22) (hd : ds[j]? = some d) (hs : StrsD d xs) :
    ∀ s ∈ xs, s.size ≤ 140737488351232 := by
  intro s hm
  rcases hs with ⟨_, rfl⟩ | ⟨spare, rfl⟩
  · cases hm
  · have hw : s.data.toList.length ∈ (DataW.slice (H := H) (xs.map fun s => .lit (.string s.data.toList)) spare).weights Try.prog 22 := by
      rw [DataW.weights, Try.underlying22]
      refine List.mem_cons.2 (.inr (List.mem_append.2 (.inl ?_)))
      refine weightsAll_mem (d := .lit (.string s.data.toList)) (List.mem_map.2 ⟨s, hm, rfl⟩) _ ?_
      simp [DataW.weights]
    have := List.all_eq_true.1 h _ (DataW.weights_mem_each ht hd _ hw)
    have h2 : s.data.toList.length ≤ reachBytes := by simpa using this
    rw [Array.length_toList] at h2
    exact h2
end Go.Proofs.Ytiafadmkkehdnaa.Sh
