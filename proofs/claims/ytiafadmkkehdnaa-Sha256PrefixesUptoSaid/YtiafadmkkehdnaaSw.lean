/-
  strings.Builder's WriteByte and WriteString at a builder of the call's own, among other things that stay: copyCheck, WriteByte, WriteString, String.
-/
import Derived.Test.YtiafadmkkehdnaaTd
import Derived.Lib.Builder
import Derived.Lib.AppendStr
import Derived.Laws.Externs
namespace Go.Proofs.Ytiafadmkkehdnaa.Sh
open Go.RowKit Go.Great Go.Proofs.YtiafadmkkehdnaaW.PrintWords Go.Proofs.YtiafadmkkehdnaaW.PrintMore
set_option linter.unusedVariables false
theorem size58 : (Try.prog.info? 58).map (·.size) = some 2 := by kernel_rfl
theorem lies58 : liesAt Try.prog Try.prog.depth 58 (2 / Try.prog.cellsOf 58) 0 58 1 = true := by kernel_rfl
theorem info5b : (Try.prog.info? 5).map (fun i => (i.zero, i.size, i.bytes)) = some (some (.int .u8 0), 1, 1) := by kernel_rfl
set_option maxHeartbeats 1000000 in
set_option maxRecDepth 100000 in
theorem copyCheck_used (b : Nat) (w : World) (h0 : w.cell? ⟨b, 0, none⟩ = some (.pointer (some ⟨b, 0, none⟩))) :
    Calls Try.prog 77 #[.pointer (some ⟨b, 0, none⟩)] w fun e w' => e = .returned (.tuple #[]) ∧ w' = w := by
  obtain ⟨j, hj, _⟩ := Option.map_eq_some_iff.1 size58
  go_enter Try.func77, Try.ntmps77
  go_wp2
  rw [Lib.run_neq_ptr_same w _ Try.underlying56 hj]
  go_wp2
  go_end0
  exact ⟨rfl, rfl⟩
set_option maxHeartbeats 1000000 in
set_option maxRecDepth 100000 in
theorem copyCheck_fresh (b : Nat) (w : World) (h0 : w.cell? ⟨b, 0, none⟩ = some (.pointer none)) (hsh : w.shape? b = some (58, 2)) (hfz : w.frozen? ⟨b, 0, none⟩ = false) :
    Calls Try.prog 77 #[.pointer (some ⟨b, 0, none⟩)] w fun e w' => e = .returned (.tuple #[]) ∧ w' = w.setCell ⟨b, 0, none⟩ (.pointer (some ⟨b, 0, none⟩)) := by
  obtain ⟨j, hj, hjs⟩ := Option.map_eq_some_iff.1 size58
  go_enter Try.func77, Try.ntmps77
  go_wp2
  rw [Lib.run_to_unsafe w ⟨b, 0, none⟩ Try.underlying56 Try.underlying112 hj (by rw [hjs]; decide) hsh (Nat.zero_lt_succ 1)]
  simp only [Result.andThen]
  rw [Oper.upon_value]
  go_wp2
  rw [run_callFunc_extern Try.func102 (by kernel_rfl) (by kernel_rfl) (by kernel_rfl) (e := Extern.AbiNoEscape.same) (by kernel_rfl)]
  rw [Lib.run_noEscape]
  simp only [Result.andThen]
  rw [Oper.upon_value]
  go_wp2
  rw [Lib.run_from_unsafe w ⟨b, 0, none⟩ Try.underlying112 Try.underlying56 hj hsh lies58]
  simp only [Result.andThen]
  rw [Oper.upon_value]
  go_wp2
  go_end0
  exact ⟨rfl, rfl⟩
/-- The builder in block b, which was there in W0, holds T; its buffer is new since W0; all else of W0 is as it was. -/
def BW (W0 : World) (b : Nat) (T : ByteArray) (w : World) : Prop :=
  Only (fun k => k = b) W0 w ∧ b < W0.heap.size ∧ ∃ p v, (p = .pointer none ∨ p = .pointer (some ⟨b, 0, none⟩)) ∧ w.heap[b]? = some (.cells #[p, v] 58 (0, 0)) ∧ w.ownsRow W0.heap.size 5 1 v T.size (Lib.strCells T)
theorem BW.ne {W0 w : World} {b n : Nat} {v : Value} {xs : List Value} (h : w.ownsRow W0.heap.size 5 1 v n xs) (hb : b < W0.heap.size) : v.ownBlock ≠ some b := by
  intro e
  have := (h.lt b e).1
  omega
theorem check_B {W0 w : World} {b : Nat} {T : ByteArray} (h : BW W0 b T w) :
    Calls Try.prog 77 #[.pointer (some ⟨b, 0, none⟩)] w fun e w' => e = .returned (.tuple #[]) ∧ (Only (fun k => k = b) W0 w' ∧ b < W0.heap.size ∧ ∃ v, w'.heap[b]? = some (.cells #[.pointer (some ⟨b, 0, none⟩), v] 58 (0, 0)) ∧ w'.ownsRow W0.heap.size 5 1 v T.size (Lib.strCells T)) := by
  obtain ⟨ho, hb, p, v, hp, hv, hown⟩ := h
  rcases hp with rfl | rfl
  · refine (copyCheck_fresh b w (by rw [Lib.cell_of_heap hv]; rfl) (by simp [World.shape?, hv]) (Lib.frozen_of_heap hv 0)).mono ?_
    rintro e w1 ⟨rfl, rfl⟩
    refine ⟨rfl, ho.setCell (p := ⟨b, 0, none⟩) (.inl rfl) _, hb, v, ?_, ?_⟩
    · simp [World.setCell, Array.getElem?_modify, hv]
    · exact hown.kept (row := some b) ⟨rfl, rfl, rfl, by simp [World.setCell], fun k _ hk => Below.heap_setCell _ _ _ _ (fun e => hk (by simp [e]))⟩ (Or.inr (BW.ne hown hb))
  · refine (copyCheck_used b w (by rw [Lib.cell_of_heap hv]; rfl)).mono ?_
    rintro e w1 ⟨rfl, rfl⟩
    exact ⟨rfl, ho, hb, v, hv, hown⟩
/-- The buffer's new row laid into the builder. -/
theorem BW.put {W0 w1 w2 : World} {b : Nat} {T' : ByteArray} {v v' : Value} {row : Option Nat} (ho : Only (fun k => k = b) W0 w1) (hb : b < W0.heap.size) (hv : w1.heap[b]? = some (.cells #[.pointer (some ⟨b, 0, none⟩), v] 58 (0, 0))) (hgrow : w1.grownBy w2 row) (hrow : ∀ k, row = some k → W0.heap.size ≤ k) (hown' : w2.ownsRow W0.heap.size 5 1 v' T'.size (Lib.strCells T')) :
    BW W0 b T' (w2.setCell ⟨b, 1, none⟩ v') := by
  have hs := ho.size
  have hb2 : w2.heap[b]? = some (.cells #[.pointer (some ⟨b, 0, none⟩), v] 58 (0, 0)) := by
    rw [hgrow.block b (by omega) (fun e => by have := hrow b e.symm; omega)]
    exact hv
  refine ⟨(ho.grown hgrow (fun k hk => .inr (hrow k hk))).setCell (p := ⟨b, 1, none⟩) (.inl rfl) _, hb, _, v', .inr rfl, ?_, ?_⟩
  · simp [World.setCell, Array.getElem?_modify, hb2]
  · exact hown'.kept (row := some b) ⟨rfl, rfl, rfl, by simp [World.setCell], fun k _ hk => Below.heap_setCell _ _ _ _ (fun e => hk (by simp [e]))⟩ (Or.inr (BW.ne hown' hb))
theorem strCells_append (a s : ByteArray) : Lib.strCells (a ++ s) = Lib.strCells a ++ Lib.strCells s := by
  simp [Lib.strCells, ByteArray.data_append]
theorem strCells_num (c : Int) (h0 : 0 ≤ c) (h1 : c ≤ 255) : Lib.strCells (strOfNums [c]) = [.int .u8 c] := by
  have e : strOfNums [c] = ⟨#[UInt8.ofNat c.toNat]⟩ := rfl
  rw [e]
  simp only [Lib.strCells, List.map_cons, List.map_nil]
  have : ((UInt8.ofNat c.toNat).toNat : Int) = c := by
    rw [UInt8.toNat_ofNat']
    omega
  rw [this]
set_option maxHeartbeats 2000000 in
set_option maxRecDepth 100000 in
theorem WriteByte_B {W0 w : World} {b : Nat} {T : ByteArray} (h : BW W0 b T w) (c : Int) (h0 : 0 ≤ c) (h1 : c ≤ 255) (hlen : T.size + 1 ≤ 140737488355328) :
    Calls Try.prog 41 #[.pointer (some ⟨b, 0, none⟩), .int .u8 c] w fun e w' => e = .returned .nilIface ∧ BW W0 b (T ++ strOfNums [c]) w' := by
  obtain ⟨i0, hi, hz⟩ := Option.map_eq_some_iff.1 info5b
  simp only [Prod.mk.injEq] at hz
  obtain ⟨hz0, hz1, hz2⟩ := hz
  have H := Aside0.mk h
  clear h
  go_enter Try.func41, Try.ntmps41
  go_wp2_with (go_at_call 77; have hc := check_B H.out; go_fit hc; clear hc)
  rintro e w1 ⟨rfl, ho, hb, v, hbk, hown⟩
  have c1 : w1.cell? ⟨b, 1, none⟩ = some v := by rw [Lib.cell_of_heap hbk]; rfl
  go_wp2_with (at_builtin; refine wpList_append_own _ rfl _ _ 49 rfl W0.heap.size 5 i0 (.int .u8 0) 1 1 Try.underlying49 hi hz0 hz1 hz2 rfl (by decide) _ _ _ rfl (hown.alloc _) ⟨w1.heap.size, 0, none⟩ 1 1 [.int .u8 c] rfl rfl ?c1 ?c2 ?c3 ?c4 ?c5 ?_)
  case c1 =>
    intro j u hj
    match j, hj with
    | 0, hj => simp at hj; subst hj; simp [Addr.add]
  case c2 => intro u hu; simp at hu; subst hu; rfl
  case c3 => unfold maxLen; omega
  case c4 => omega
  case c5 => have := ho.size; simp; omega
  intro v' w2 hown' hgrow _
  have hown2 : w2.ownsRow W0.heap.size 5 1 v' (T ++ strOfNums [c]).size (Lib.strCells (T ++ strOfNums [c])) := by
    rw [strCells_append, strCells_num c h0 h1, ByteArray.size_append]
    exact hown'
  have hlt := blk_lt hbk
  have hput := Aside0.mk (BW.put (ho.alloc _) hb (by rw [Lib.alloc_old w1 _ b hlt]; exact hbk) hgrow (fun k hk => (hown.lt k hk).1) hown2)
  have hb2 : w2.heap[b]? = some (.cells #[.pointer (some ⟨b, 0, none⟩), v] 58 (0, 0)) := by
    rw [hgrow.block b (by simp; omega) (fun e => BW.ne hown hb e.symm), Lib.alloc_old w1 _ b hlt]
    exact hbk
  have f1 : w2.frozen? ⟨b, 1, none⟩ = false := Lib.frozen_of_heap hb2 1
  have d1 : w2.cell? ⟨b, 1, none⟩ = some v := by rw [Lib.cell_of_heap hb2]; rfl
  obtain ⟨ao, n', cap, rfl⟩ : ∃ ao n' cap, v' = .slice ao n' cap := by
    rcases hown'.2 with ⟨hv, _⟩ | ⟨g, cap, cur, hv, _⟩
    · exact ⟨_, _, _, hv⟩
    · exact ⟨_, _, _, hv⟩
  clear hown hown' hown2 hgrow hb2 hbk ho hb c1
  go_wp2
  go_ret
  exact ⟨rfl, hput.out⟩
set_option maxHeartbeats 2000000 in
set_option maxRecDepth 100000 in
theorem WriteString_B {W0 w : World} {b : Nat} {T : ByteArray} (h : BW W0 b T w) (s : ByteArray) (hlen : T.size + s.size ≤ 140737488351232) :
    Calls Try.prog 42 #[.pointer (some ⟨b, 0, none⟩), .string s] w fun e w' => e = .returned (.tuple #[.int .i64 s.size, .nilIface]) ∧ BW W0 b (T ++ s) w' := by
  obtain ⟨i0, hi, hz⟩ := Option.map_eq_some_iff.1 info5b
  simp only [Prod.mk.injEq] at hz
  obtain ⟨hz0, hz1, hz2⟩ := hz
  have H := Aside0.mk h
  clear h
  go_enter Try.func42, Try.ntmps42
  go_wp2_with (go_at_call 77; have hc := check_B H.out; go_fit hc; clear hc)
  rintro e w1 ⟨rfl, ho, hb, v, hbk, hown⟩
  have c1 : w1.cell? ⟨b, 1, none⟩ = some v := by rw [Lib.cell_of_heap hbk]; rfl
  go_wp2_with (at_builtin; refine Lib.wpList_append_own_string _ rfl _ _ 49 9 rfl W0.heap.size 5 i0 Try.underlying49 Try.underlying9 hi hz0 hz1 hz2 _ _ _ rfl hown s rfl ?c3 ?c4 ?c5 ?_)
  case c3 => unfold maxLen; omega
  case c4 => omega
  case c5 => have := ho.size; omega
  intro v' w2 hown' hgrow _
  have hown2 : w2.ownsRow W0.heap.size 5 1 v' (T ++ s).size (Lib.strCells (T ++ s)) := by
    rw [strCells_append, ByteArray.size_append]
    exact hown'
  have hlt := blk_lt hbk
  have hput := Aside0.mk (BW.put ho hb hbk hgrow (fun k hk => (hown.lt k hk).1) hown2)
  have hb2 : w2.heap[b]? = some (.cells #[.pointer (some ⟨b, 0, none⟩), v] 58 (0, 0)) := by
    rw [hgrow.block b hlt (fun e => BW.ne hown hb e.symm)]
    exact hbk
  have f1 : w2.frozen? ⟨b, 1, none⟩ = false := Lib.frozen_of_heap hb2 1
  have d1 : w2.cell? ⟨b, 1, none⟩ = some v := by rw [Lib.cell_of_heap hb2]; rfl
  obtain ⟨ao, n', cap, rfl⟩ : ∃ ao n' cap, v' = .slice ao n' cap := by
    rcases hown'.2 with ⟨hv, _⟩ | ⟨g, cap, cur, hv, _⟩
    · exact ⟨_, _, _, hv⟩
    · exact ⟨_, _, _, hv⟩
  clear hown hown' hown2 hgrow hb2 hbk ho hb c1
  go_wp2
  go_ret2
  exact ⟨rfl, hput.out⟩
theorem String_B {W0 w w0 : World} {b : Nat} {T : ByteArray} (h : BW W0 b T w) (h0 : w0.heap.size ≤ b) (hs : SepT w0 W0 []) :
    Calls Try.prog 43 #[.pointer (some ⟨b, 0, none⟩)] w fun e w' => e = .returned (.string T) ∧ SepT w0 w' [] := by
  obtain ⟨ho, hb, p, v, hp, hv, hown⟩ := h
  have hsz := ho.size
  have hown2 : w.ownsRow w0.heap.size 5 1 v (Lib.strCells T).length (Lib.strCells T) := by
    rw [Lib.strCells_length]
    refine ⟨hown.1, ?_⟩
    rcases hown.2 with h | ⟨g, cap, cur, hv, hg, r⟩
    · exact .inl h
    · exact .inr ⟨g, cap, cur, hv, by omega, r⟩
  have hB : Lib.IsBuilder 58 5 w0.heap.size b (Lib.byteCells T.data.toList) w := by
    rcases hp with rfl | rfl
    · exact .inl ⟨h0, v, hv, hown2, BW.ne hown hb⟩
    · exact .inr ⟨h0, v, hv, hown2, BW.ne hown hb⟩
  refine (Try.Builder_String_any w0.heap.size b T.data.toList w hB (by omega)).mono ?_
  rintro e w' ⟨rfl, hbl⟩
  have hs2 : Below w0.heap.size w0 W0 := Sep.base hs
  exact ⟨by simp, (hs2.trans (ho.below hs2.size (fun x hx => by omega))).trans hbl⟩
end Go.Proofs.Ytiafadmkkehdnaa.Sh
