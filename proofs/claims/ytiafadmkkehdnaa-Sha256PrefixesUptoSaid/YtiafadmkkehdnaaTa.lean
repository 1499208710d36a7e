/-
  The reference's padded: a row that bears a conversion's mark is appended onto.
-/
import Derived.Test.YtiafadmkkehdnaaSl
import Derived.Test.YtiafadmkkehdnaaRef1
import Derived.ArgAppend
import Derived.Laws.IdiomCopy
namespace Go.Proofs.Ytiafadmkkehdnaa.Sh
open Go.RowKit Go.Great Go.Proofs.YtiafadmkkehdnaaW.PrintWords Go.Proofs.YtiafadmkkehdnaaW.PrintMore Go.Proofs.Ytiafadmkkehdnaa.Ref
set_option linter.unusedVariables false

/-- A row of bytes that can be written on, whatever its mark. -/
structure RowB (w : World) (g c : Nat) (xs : List Int) : Prop where
  lt : g < w.heap.size
  cells : ∀ j, j < xs.length → w.cell? ⟨g, j, none⟩ = some (.int .u8 (xs.getD j 0))
  free : ∀ j, j < c → (w.cell? ⟨g, j, none⟩).isSome = true ∧ w.frozen? ⟨g, j, none⟩ = false
  le : xs.length ≤ c
theorem RowB.kept {w w' : World} {g c : Nat} {xs : List Int} (h : RowB w g c xs) (hs : w.heap.size ≤ w'.heap.size) (hk : w'.heap[g]? = w.heap[g]?) : RowB w' g c xs :=
  ⟨by have := h.lt; omega, fun j hj => (World.cell?_of_block (a := ⟨g, j, none⟩) hk).trans (h.cells j hj), fun j hj => ⟨by rw [World.cell?_of_block (a := ⟨g, j, none⟩) hk]; exact (h.free j hj).1, (World.frozen?_of_block (a := ⟨g, j, none⟩) hk).trans (h.free j hj).2⟩, h.le⟩
theorem RowB.below {w w' : World} {g c : Nat} {xs : List Int} (h : RowB w g c xs) (hb : Below w.heap.size w w') : RowB w' g c xs :=
  h.kept hb.size (hb.block g h.lt)
theorem RowB.of_own {w : World} {base : Nat} {v : Value} {n : Nat} {xs : List Int} (h : w.ownsRow base 5 1 v n (encs (Value.int .u8) xs)) (hn : 0 < n) : ∃ g c, v = .slice (some ⟨g, 0, none⟩) n c ∧ base ≤ g ∧ RowB w g c xs := by
  obtain ⟨hl, h2⟩ := h
  have hl2 : xs.length = n := by simpa [encs] using hl
  rcases h2 with ⟨_, h0⟩ | ⟨g, cap, cur, he, hb, hh, hnc, hcm, hcs, ht⟩
  · omega
  · refine ⟨g, cap, he, hb, blk_lt hh, fun j hj => ?_, fun j hj => ⟨?_, blk_frozen hh j⟩, by omega⟩
    · rw [blk_cell hh j]
      have h3 : (cur.toList.take (n * 1))[j]? = (encs (Value.int .u8) xs)[j]? := by rw [ht]
      rw [List.getElem?_take, if_pos (by omega)] at h3
      rw [← Array.getElem?_toList, h3]
      simp [encs, hj, List.getD]
    · rw [blk_cell hh j]
      simp [hcs, hj]
theorem RowB.app {w : World} {g c : Nat} {xs : List Int} (h : RowB w g c xs) (hr : xs.length + 1 ≤ c) (y : Int) : RowB (w.setCell ⟨g, xs.length, none⟩ (.int .u8 y)) g c (xs ++ [y]) := by
  have hu := (h.free xs.length (by omega)).1
  obtain ⟨u, hu⟩ := Option.isSome_iff_exists.1 hu
  refine ⟨by simp only [World.size_setCell]; exact h.lt, fun j hj => ?_, fun j hj => ⟨?_, ?_⟩, by simp; omega⟩
  · by_cases e : j = xs.length
    · subst e
      rw [World.cell?_setCell_same _ _ _ hu]
      simp [List.getD]
    · rw [World.cell?_setCell_other _ _ _ _ (by intro h; simp only [Addr.mk.injEq] at h; omega)]
      have hj2 : j < xs.length := by simp at hj; omega
      rw [h.cells j hj2]
      simp [List.getD, List.getElem?_append_left hj2]
  · by_cases e : j = xs.length
    · subst e
      rw [World.cell?_setCell_same _ _ _ hu]
      rfl
    · rw [World.cell?_setCell_other _ _ _ _ (by intro h; simp only [Addr.mk.injEq] at h; omega)]
      exact (h.free j hj).1
  · rw [World.frozen?_setCell]
    exact (h.free j hj).2
/-- One byte more. -/
theorem appB {ops : Array Oper} {rest : List Oper} {o : Oper} {a : Act} {Q : Exit → Act → World → Prop} {w0 W : World} {base : Nat} (hgd : o.guard = none) (s x : Operand)
    (ho : o.op = .call { callee := .builtin .append, args := #[s, x], argTypes := #[49, 49] })
    (g c : Nat) (xs : List Int) (y : Int) (hs : a.eval s = .slice (some ⟨g, 0, none⟩) xs.length c) (hx : a.eval x = .slice (some ⟨W.heap.size, 0, none⟩) 1 1)
    (HR : RowB W g c xs) (HB : Below base w0 W) (hg : base ≤ g) (hl : xs.length ≤ 1000000000)
    (h : ∀ g' c' w1, RowB w1 g' c' (xs ++ [y]) → Below base w0 w1 → base ≤ g' → wpList Try.prog ops Q rest (a.put o.dst (.slice (some ⟨g', 0, none⟩) (xs ++ [y]).length c')) w1) :
    wpList Try.prog ops Q (o :: rest) a (W.alloc (.cells #[.int .u8 y] 5)) := by
  obtain ⟨i, hi, hij⟩ := Option.map_eq_some_iff.1 info5
  simp only [Prod.mk.injEq] at hij
  have hbs : base ≤ W.heap.size := by have := HR.lt; omega
  have HB1 : Below base w0 (W.alloc (.cells #[.int .u8 y] 5)) := HB.alloc hbs _
  have HR1 : RowB (W.alloc (.cells #[.int .u8 y] 5)) g c xs := HR.below ((Below.refl _ W).alloc (Nat.le_refl _) _)
  have hnew := heap_new W (.cells #[.int .u8 y] 5)
  have hm : (1000000000 : Nat) + 1 ≤ maxLen := by decide
  refine wpList_append_arg (P := Try.prog) _ hgd s x 49 ho 5 i (.int .u8 0) 1 1 Try.underlying49 hi hij.1 hij.2.1 hij.2.2 rfl Nat.one_pos g 0 xs.length c (encs (Value.int .u8) xs) hs (by simp [encs]) (fun j u hj => ?_) ⟨W.heap.size, 0, none⟩ 1 1 [.int .u8 y] hx rfl (fun j u hj => ?_) (by simp [Value.oneCell']) (fun hr j hj => ?_) (by omega) (by omega) (fun hr => ?_) (fun hr v' w' ho' hgr => ?_)
  · rw [Nat.zero_add]
    have hj2 : j < xs.length := by
      have := (List.getElem?_eq_some_iff.1 hj).1
      simpa [encs] using this
    rw [HR1.cells j hj2, ← hj]
    simp [encs, hj2, List.getD]
  · have hj2 : j = 0 := by
      have := (List.getElem?_eq_some_iff.1 hj).1
      simpa using this
    subst hj2
    rw [add_plain, blk_cell hnew 0, ← hj]
    rfl
  · have hj0 : j = 0 := by simpa using hj
    subst hj0
    have := HR1.free xs.length (by omega)
    simpa using this
  · have e : (W.alloc (.cells #[.int .u8 y] 5)).setCells g (0 + xs.length * 1) [.int .u8 y] = (W.alloc (.cells #[.int .u8 y] 5)).setCell ⟨g, xs.length, none⟩ (.int .u8 y) := by
      rw [Nat.zero_add, Nat.mul_one]
      rfl
    rw [e]
    have := h g c _ (HR1.app hr y) (HB1.setCell (p := ⟨g, xs.length, none⟩) hg _) hg
    rw [List.length_append] at this
    exact this
  · have ho2 : w'.ownsRow (W.alloc (.cells #[.int .u8 y] 5)).heap.size 5 1 v' (xs.length + 1) (encs (Value.int .u8) (xs ++ [y])) := by
      simpa [encs] using ho'
    obtain ⟨g', c', rfl, hb', HR'⟩ := RowB.of_own ho2 (by omega)
    have hsz : W.heap.size ≤ (W.alloc (.cells #[.int .u8 y] 5)).heap.size := by simp
    have := h g' c' w' HR' (HB1.grown hgr (by omega) (fun k hk => by cases hk)) (by omega)
    rw [List.length_append] at this
    exact this
end Go.Proofs.Ytiafadmkkehdnaa.Sh
