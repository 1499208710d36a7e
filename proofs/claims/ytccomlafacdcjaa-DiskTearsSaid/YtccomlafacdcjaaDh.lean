/-
  slices.Equal as a decision, and the laws' example: awake.
-/
import Derived.Test.YtccomlafacdcjaaDg
import Derived.Test.YtccomlafacdcjaaRef1
namespace Go.Proofs.Ytccomlafacdcjaa.Dk
open Go.RowKit Go.Proofs.YtccomlafacdcjaaW.PrintWords Go.Proofs.YtccomlafacdcjaaW.PrintMore
open Go.Proofs.Ytccomlafacdcjaa.Ref
set_option linter.unusedVariables false

theorem bytes_eq {a b : ByteArray} : a.toList = b.toList ↔ a = b := by
  constructor
  · intro h
    rw [ByteArray.toList_eq, ByteArray.toList_eq] at h
    exact ByteArray.ext (Array.toList_inj.1 h)
  · rintro rfl; rfl

theorem equal_l0 (a b : List ByteArray) (hl : a.length = b.length) (hb : a.length < 1000000000) : ∀ n i, i + n = a.length → slices_Equal_string_string.l0 (n + 1) a b (a.length : Int) (i : Int) = some (decide (a.drop i = b.drop i))
  | 0, i, h => by
    have e1 : a.drop i = [] := List.drop_eq_nil_of_le (by omega)
    have e2 : b.drop i = [] := List.drop_eq_nil_of_le (by omega)
    have e3 : ¬ (i : Int) < a.length := by omega
    simp [slices_Equal_string_string.l0, e1, e2, e3]
  | n + 1, i, h => by
    have h1 : (i : Int) < a.length := by omega
    have h2 : (i : Int) < b.length := by omega
    have h3 : (0 : Int) ≤ i := by omega
    have ha : i < a.length := by omega
    have hb' : i < b.length := by omega
    have hw : wrap64 ((i : Int) + 1) = ((i + 1 : Nat) : Int) := by unfold wrap64; omega
    have ih := equal_l0 a b hl hb n (i + 1) (by omega)
    rw [slices_Equal_string_string.l0, if_pos h1, if_pos h3, if_pos h1, if_pos h2, hw, ih]
    have da : a.drop i = a[i] :: a.drop (i + 1) := List.drop_eq_getElem_cons ha
    have db : b.drop i = b[i] :: b.drop (i + 1) := List.drop_eq_getElem_cons hb'
    have ra : rdOf ByteArray.empty a i = a[i] := by simp [rdOf, ha]
    have rb : rdOf ByteArray.empty b i = b[i] := by simp [rdOf, hb']
    rw [da, db, ra, rb]
    by_cases he : a[i] = b[i]
    · rw [if_pos (by rw [he])]
      simp only [List.cons.injEq, he, true_and]
    · have : a[i].toList ≠ b[i].toList := fun h => he (bytes_eq.mp h)
      rw [if_neg this]
      simp only [List.cons.injEq, he, false_and, decide_false]

theorem Equal_calls (A0 : Option Addr) (c0 : Nat) (l0 : List ByteArray) (A1 : Option Addr) (c1 : Nat) (l1 : List ByteArray) (w : World) (hr0 : Kd.C Kd.string w A0 l0.length l0) (hc0 : l0.length ≤ c0) (hr1 : Kd.C Kd.string w A1 l1.length l1) (hc1 : l1.length ≤ c1) (hb : l0.length < 1000000000) :
    Calls Try.prog 17 #[.slice A0 l0.length c0, .slice A1 l1.length c1] w fun e w' => e = .returned (.bool (decide (l0 = l1))) ∧ Below w.heap.size w w' := by
  refine (slices_Equal_string_string.calls (l0.length + 1) A0 c0 l0 A1 c1 l1 (decide (l0 = l1)) w hr0 hc0 hr1 hc1 ?_).mono (fun e w' h => ⟨h.1, h.2.below⟩)
  unfold slices_Equal_string_string.f
  by_cases hl : l0.length = l1.length
  · rw [if_pos (by omega), show (0 : Int) = ((0 : Nat) : Int) from rfl, equal_l0 l0 l1 hl hb l0.length 0 (by omega)]
    simp
  · rw [if_neg (by omega)]
    have : l0 ≠ l1 := fun h => hl (by rw [h])
    simp [this]

theorem C_new {α : Type} {enc : α → Value} (d : α) {h1 : ∀ x, (enc x).oneCell' = true} (w : World) (t : TypeId) (xs : List α) (hx : xs.length < 1000000000) : Kd.C (Kd.scalar enc h1) (w.alloc (.cells (xs.map enc).toArray t)) (some ⟨w.heap.size, 0, none⟩) xs.length xs := by
  refine Kd.C_of_reads (d := d) ⟨rfl, by omega, fun _ => ⟨_, rfl, fun j hj => ?_⟩⟩
  have h := blk_cell (heap_new w (.cells (xs.map enc).toArray t)) j
  rw [show (⟨w.heap.size, 0, none⟩ : Addr).add j = ⟨w.heap.size, j, none⟩ from by simp [Addr.add]; intro h; exact h.symm]
  refine h.trans ?_
  simp [hj]

/-! ### the example: the disk's states, one after another -/
def aw0 : DS := newD 3
def aw1 : DS := { aw0 with rc := true, log := [] }
def aw2 : DS := (writeD aw1 0 (pageOf 97)).1
def aw3 : DS := (writeD aw2 1 (pageOf 98)).1
def aw4 : DS := (writeD aw3 0 (pageOf 99)).1
def aw5 : DS := { aw4 with rc := false, log := [] }
def aw6 : DS := crashD aw5 [1, 2]
def aw7 : DS := syncD { dur := aw4.dur, pen := aw4.pen, rc := false, log := [] }

theorem repeatL_length (l : List UInt8) : ∀ n, (Lib.repeatL l n).length = n * l.length := fun n => Lib.repeatL_length l n
theorem pageOf_size (b : UInt8) : (pageOf b).size = 512 := by
  show (Lib.repeatL [b] 512).toArray.size = 512
  rw [List.size_toArray, Lib.repeatL_length]
  rfl
theorem writeD_ok (s : DS) (p : Int) (x : ByteArray) (hp : 0 ≤ p ∧ p < s.dur.length) (hx : x.size = 512) : writeD s p x = (noted { s with pen := s.pen ++ [(p, x)] } (p, x, false), 0) := by
  unfold writeD
  have h1 : hasB s.dur.length p = true := by simp [hasB, hp]
  simp [h1, hx]

end Go.Proofs.Ytccomlafacdcjaa.Dk
