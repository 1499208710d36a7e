/-
  What the bound of the second form gives: a string's size, a list's length and sizes. No law is proved here.
-/
import Derived.Test.YtiafadmkkehdnaaRows
import Derived.Test.YtiafadmkkehdnaaRv
import Derived.Test.YtiafadmkkehdnaaSo
import Derived.ChangeArms
namespace Go.Proofs.Ytiafadmkkehdnaa.Sh
open Go.RowKit Go.Proofs.YtiafadmkkehdnaaW.PrintWords Go.Deep Go.ChangeShapes Go.WideShapes
set_option linter.unusedVariables false
theorem bulk_bound {H : Type} {l : List (DataW H)} (hk : Rows.uptoSmall H l = true) : Rows.uptoBulkAll l ≤ 1048576 := of_decide_eq_true hk
theorem str_bulk {H : Type} (a : ByteArray) : a.size ≤ Rows.uptoBulk (DataW.lit (H := H) (.string a.data.toList)) := by
  simp only [Rows.uptoBulk, Array.length_toList]
  show a.data.size ≤ _
  omega
theorem strs_bulk' {H : Type} : ∀ (xs : List ByteArray), xs.length + tot xs ≤ Rows.uptoBulkAll (xs.map fun s => DataW.lit (H := H) (.string s.data.toList))
  | [] => by simp [tot]
  | x :: xs => by
    have h := strs_bulk' (H := H) xs
    simp only [List.map_cons, Rows.uptoBulkAll, Rows.uptoBulk, Array.length_toList, tot, List.length_cons]
    have : x.size = x.data.size := rfl
    omega
theorem strs_bulk {H : Type} {d : DataW H} {xs : List ByteArray} (h : StrsD d xs) : xs.length + tot xs ≤ Rows.uptoBulk d := by
  rcases h with ⟨_, rfl⟩ | ⟨spare, rfl⟩
  · simp [tot]
  · have := strs_bulk' (H := H) xs
    simp only [Rows.uptoBulk]
    omega
theorem open_boolsD {H : Type} {enc : TypeId × Value → H} {w : World} {base : Nat} {spare : Nat → Bool} {held : Bool} {fuel : Nat} {cs : List Value} {x : DataW H × List MemPlace} (h : DataW.trod enc Try.prog w base spare held fuel 64 cs = some x) :
    ∃ (A : Option Addr) (c : Nat) (xs : List Bool), cs = [.slice A xs.length c] ∧ xs.length ≤ c ∧ Kd.C Kd.bool w A xs.length xs ∧ True := by
  obtain ⟨A, c, xs, h1, h2, h3⟩ := slice_C Kd.bool Try.underlying64 (by kernel_rfl) (fun n cs x h => by obtain ⟨b, e, _⟩ := DataW.trod_bool Try.underlying4 h; exact ⟨b, e⟩) h
  exact ⟨A, c, xs, h1, h2, h3, trivial⟩
end Go.Proofs.Ytiafadmkkehdnaa.Sh
