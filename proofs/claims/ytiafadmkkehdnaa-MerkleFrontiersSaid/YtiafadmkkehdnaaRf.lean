/-
  The row's argument, opened: a frontier (an int and a slice of strings).
-/
import Derived.Test.YtiafadmkkehdnaaRz
namespace Go.Proofs.Ytiafadmkkehdnaa.Sh
open Go.RowKit Go.Proofs.YtiafadmkkehdnaaW.PrintWords Go.Deep Go.ChangeShapes Go.WideShapes
set_option linter.unusedVariables false
theorem two_cells {cs : List Value} (h : cs.length = 2) : ∃ c0 c1, cs = [c0, c1] := by
  match cs, h with
  | [c0, c1], _ => exact ⟨c0, c1, rfl⟩
section
variable {H : Type} {enc : TypeId × Value → H} {w : World} {base : Nat} {spare : Nat → Bool} {held : Bool}
set_option maxRecDepth 100000 in
theorem open_front {fuel : Nat} {cs : List Value} {x : DataW H × List MemPlace} (h : DataW.trod enc Try.prog w base spare held fuel 26 cs = some x) :
    ∃ (n : Int) (A : Option Addr) (c : Nat) (xs : List ByteArray), cs = [.int .i64 n, .slice A xs.length c] ∧ xs.length ≤ c ∧ Kd.C Kd.string w A xs.length xs ∧ ∃ d0 d1 : DataW H, x.1 = .agg [d0, d1] ∧ StrsD d1 xs := by
  obtain ⟨y0, y1, m, rfl, hl, h0, h1⟩ := trod_struct2 Try.underlying26 h
  have hs : Try.prog.cellsOf 26 = 2 := by kernel_rfl
  obtain ⟨c0, c1, rfl⟩ := two_cells (hl.trans hs)
  clear hl
  obtain ⟨n, e0, _⟩ := DataW.trod_int Try.underlying3 h0
  obtain ⟨A, c, xs, e1, hc, hC, hd⟩ := open_strsD h1
  have q0 : [c0] = [.int .i64 n] := e0
  have q1 : [c1] = [.slice A xs.length c] := e1
  injection q0 with q0 _
  injection q1 with q1 _
  subst q0 q1
  exact ⟨n, A, c, xs, rfl, hc, hC, y0.1, y1.1, rfl, hd⟩
end
theorem front_sized {H : Type} {ts : List TypeId} {ds : List (DataW H)} (h : (DataW.weightsEach Try.prog ts ds).all (· ≤ reachBytes) = true) {j : Nat} {d0 d1 : DataW H} {xs : List ByteArray} (ht : ts[j]? = some 26) (hd : ds[j]? = some (.agg [d0, d1])) (hs : StrsD d1 xs) :
    ∀ s ∈ xs, s.size ≤ 140737488351232 := by
  intro s hm
  rcases hs with ⟨_, rfl⟩ | ⟨spare, rfl⟩
  · cases hm
  · have hw0 : s.data.toList.length ∈ (DataW.slice (H := H) (xs.map fun s => .lit (.string s.data.toList)) spare).weights Try.prog 22 := by
      rw [DataW.weights, Try.underlying22]
      refine List.mem_cons.2 (.inr (List.mem_append.2 (.inl ?_)))
      refine weightsAll_mem (d := .lit (.string s.data.toList)) (List.mem_map.2 ⟨s, hm, rfl⟩) _ ?_
      simp [DataW.weights]
    have hw : s.data.toList.length ∈ (DataW.agg (H := H) [d0, .slice (xs.map fun s => .lit (.string s.data.toList)) spare]).weights Try.prog 26 := by
      rw [DataW.weights, Try.underlying26]
      show _ ∈ DataW.weightsEach Try.prog [3, 22] _
      rw [DataW.weightsEach, DataW.weightsEach]
      exact List.mem_append.2 (.inr (List.mem_append.2 (.inl hw0)))
    have := List.all_eq_true.1 h _ (DataW.weights_mem_each ht hd _ hw)
    have h2 : s.data.toList.length ≤ reachBytes := by simpa using this
    rw [Array.length_toList] at h2
    exact h2
end Go.Proofs.Ytiafadmkkehdnaa.Sh
