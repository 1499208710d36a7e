/-
  The words of this seat's disk proofs on a map from int to int in memory: look-up, store, clear, range; what a call keeps ('Only').
-/
import Derived.Test.YtccomlafacdcjaaProg
import Derived.Test.YtccomlafacdcjaaWKept
import Derived.Test.YtccomlafacdcjaaWMore
import Derived.MapKept
import Derived.RangeFuncRecord
import Derived.WalkKit
import Derived.KernelRfl
namespace Go.Proofs.Ytccomlafacdcjaa.Dk
open Go.RowKit Go.Proofs.YtccomlafacdcjaaW.PrintWords
set_option linter.unusedVariables false

/-! ### what a call keeps: the streams, and every block but those of S and new ones -/
structure Only (S : Nat → Prop) (w w' : World) : Prop where
  os : w'.os = w.os
  tape : w'.tape = w.tape
  output : w'.output = w.output
  size : w.heap.size ≤ w'.heap.size
  block : ∀ k, k < w.heap.size → ¬ S k → w'.heap[k]? = w.heap[k]?

theorem Only.refl (S : Nat → Prop) (w : World) : Only S w w := ⟨rfl, rfl, rfl, Nat.le_refl _, fun _ _ _ => rfl⟩
theorem Only.trans {S : Nat → Prop} {a b c : World} (h : Only S a b) {S2 : Nat → Prop} (k : Only S2 b c) (hs : ∀ x, S2 x → S x ∨ a.heap.size ≤ x) : Only S a c :=
  ⟨k.os.trans h.os, k.tape.trans h.tape, k.output.trans h.output, Nat.le_trans h.size k.size, fun i hi hn => (k.block i (Nat.lt_of_lt_of_le hi h.size) (fun h2 => (hs i h2).elim hn (fun h3 => by omega))).trans (h.block i hi hn)⟩
theorem Only.mono {S S2 : Nat → Prop} {a b : World} (h : Only S a b) (hs : ∀ x, S x → S2 x ∨ a.heap.size ≤ x) : Only S2 a b :=
  (Only.refl S2 a).trans h hs
theorem Only.of_below {w w' : World} (h : Below w.heap.size w w') (S : Nat → Prop) : Only S w w' := ⟨h.os, h.tape, h.output, h.size, fun k hk _ => h.block k hk⟩
theorem Only.below {S : Nat → Prop} {w w' : World} (h : Only S w w') {B : Nat} (hB : B ≤ w.heap.size) (hs : ∀ x, S x → B ≤ x) : Below B w w' :=
  ⟨h.os, h.tape, h.output, h.size, fun k hk => h.block k (by omega) (fun h2 => by have := hs k h2; omega)⟩
theorem Only.kept {S : Nat → Prop} {w w' : World} (h : Only S w w') : Kept w w' S := ⟨h.size, h.block⟩
theorem Only.setCell {S : Nat → Prop} {w w' : World} (h : Only S w w') {p : Addr} (hp : S p.block ∨ w.heap.size ≤ p.block) (u : Value) : Only S w (w'.setCell p u) :=
  h.trans (S2 := fun k => k = p.block) ⟨rfl, rfl, rfl, by simp [World.setCell], fun i _ hn => Below.heap_setCell w' p u i hn⟩ (fun k hk => by rw [hk]; exact hp)
theorem Only.alloc {S : Nat → Prop} {w w' : World} (h : Only S w w') (o : Obj) : Only S w (w'.alloc o) :=
  h.trans (Only.of_below ((Below.refl _ _).alloc (Nat.le_refl _) o) (fun _ => False)) (fun _ hk => hk.elim)
theorem Only.drewN {S : Nat → Prop} {w w' : World} (h : Only S w w') (n : Nat) : Only S w (w'.drewN n) := ⟨h.os, h.tape, h.output, h.size, h.block⟩
theorem Only.drew {S : Nat → Prop} {w w' : World} (h : Only S w w') : Only S w w'.drew := ⟨h.os, h.tape, h.output, h.size, h.block⟩
theorem Only.grown {S : Nat → Prop} {w w1 w' : World} (h : Only S w w1) {row : Option Nat} (hg : w1.grownBy w' row) (hr : ∀ k, row = some k → S k ∨ w.heap.size ≤ k) : Only S w w' :=
  h.trans (S2 := fun k => row = some k) ⟨hg.os, hg.tape, hg.output, hg.size, fun i hi hn => hg.block i hi (fun he => hn he.symm)⟩ hr
theorem Only.putObj {S : Nat → Prop} {w w' : World} (h : Only S w w') {b : Nat} (hp : S b ∨ w.heap.size ≤ b) (o : Obj) : Only S w (w'.putObj b o) :=
  h.trans (S2 := fun k => k = b) ⟨rfl, rfl, rfl, by simp, fun i _ hn => World.putObj_heap_other hn⟩ (fun k hk => by rw [hk]; exact hp)

/-! ### a map from int to int -/
def ent (x : Int × Int × Nat) : MapEntry := { key := .int .i64 x.1, val := .int .i64 x.2.1, born := x.2.2 }
def look : List (Int × Int × Nat) → Int → Option Int
  | [], _ => none
  | x :: l, p => if p = x.1 then some x.2.1 else look l p
/-- Keys once, stamps once, stamps below the clock. -/
def MapOk (es : List (Int × Int × Nat)) (cl : Nat) : Prop := (∀ x ∈ es, x.2.2 < cl) ∧ es.Pairwise (fun a b => a.1 ≠ b.1) ∧ es.Pairwise (fun a b => a.2.2 ≠ b.2.2)
def MapAt (w : World) (m : Nat) (f : Int → Option Int) : Prop := ∃ es cl, w.heap[m]? = some (.map (es.map ent).toArray cl) ∧ MapOk es cl ∧ ∀ p, look es p = f p

theorem findNow_ent (p : Int) (j : IntKind) : ∀ (l : List (Int × Int × Nat)) (i : Nat), Instr.findNow (.int j) (.int .i64 p) (l.map ent) i =
    some ((l.findIdx? (fun x => p == x.1)).map fun k => (i + k, .int .i64 ((look l p).getD 0)))
  | [], i => rfl
  | x :: l, i => by
    simp only [List.map_cons, Instr.findNow, ent, Instr.sameNow, if_true, look, List.findIdx?_cons]
    by_cases h : p = x.1
    · simp [h]
    · have : (p == x.1) = false := by simpa using h
      simp only [this, if_neg h]
      rw [findNow_ent p j l (i + 1)]
      simp only [Bool.false_eq_true, if_false, Option.map_map]
      congr 2
      funext k
      simp; omega
theorem look_isSome (l : List (Int × Int × Nat)) (p : Int) : (look l p).isSome = (l.findIdx? (fun x => p == x.1)).isSome := by
  induction l with
  | nil => rfl
  | cons x l ih =>
    simp only [look, List.findIdx?_cons]
    by_cases h : p = x.1
    · simp [h]
    · have h2 : (p == x.1) = false := by simpa using h
      simp [h, h2, ih]

theorem run_lookup_ii (w : World) (m : Nat) (f : Int → Option Int) (p : Int) (hm : MapAt w m f) :
    (Instr.lookup 70 (.map (some m)) (.int .i64 p) true).run Try.prog w = .ok (.tuple #[.int .i64 ((f p).getD 0), .bool (f p).isSome]) w := by
  obtain ⟨es, cl, hm, _, hf⟩ := hm
  have hk : Try.prog.underlying 3 = some (.int .i64) := Try.underlying3
  have ht : Try.prog.underlying 70 = some (.map 3 3) := Try.underlying70
  have hz : (zeroValue 3).run Try.prog w = .ok (.int .i64 0) w := by kernel_rfl
  simp only [Instr.lookup, Sem.run_bind, run_underlying ht, Result.andThen, MapKept.run_getObj_map hm, Sem.run_pure, MapKept.run_checkKey hk (show MapKept.IsKey (.int .i64) (.int .i64 p) from rfl), MapKept.run_findKey hk (findNow_ent p .i64 es 0)]
  rw [← hf p, look_isSome]
  cases h : es.findIdx? (fun x => p == x.1) with
  | none =>
    have : look es p = none := by
      have := look_isSome es p; rw [h] at this; simpa using this
    simp [hz, this, Result.andThen]
  | some k => simp


theorem MapAt.lt {w : World} {m : Nat} {f : Int → Option Int} (h : MapAt w m f) : m < w.heap.size := by
  obtain ⟨es, cl, hm, _⟩ := h
  exact blk_lt hm
theorem MapAt.stay {w w' : World} {m : Nat} {f : Int → Option Int} (h : MapAt w m f) (hb : w'.heap[m]? = w.heap[m]?) : MapAt w' m f := by
  obtain ⟨es, cl, hm, h⟩ := h
  exact ⟨es, cl, hb.trans hm, h⟩

theorem look_append (l : List (Int × Int × Nat)) (x : Int × Int × Nat) (q : Int) (h : look l x.1 = none) : look (l ++ [x]) q = if q = x.1 then some x.2.1 else look l q := by
  induction l with
  | nil => rfl
  | cons y l ih =>
    simp only [look, List.cons_append] at h ⊢
    by_cases h1 : x.1 = y.1
    · simp [h1] at h
    · rw [if_neg h1] at h
      rw [ih h]
      by_cases h2 : q = x.1
      · have : q ≠ y.1 := fun e => h1 (h2 ▸ e)
        simp [h2, h1]
      · simp [h2]
theorem look_none (l : List (Int × Int × Nat)) (p : Int) : look l p = none ↔ ∀ x ∈ l, x.1 ≠ p := by
  induction l with
  | nil => simp [look]
  | cons y l ih =>
    simp only [look, List.mem_cons, forall_eq_or_imp]
    by_cases h : p = y.1
    · simp [h]
    · rw [if_neg h, ih]
      exact ⟨fun hh => ⟨fun e => h e.symm, hh⟩, fun hh => hh.2⟩
/-- The value of a key turns. -/
def turn (p v : Int) (l : List (Int × Int × Nat)) : List (Int × Int × Nat) := l.map fun x => if x.1 = p then (x.1, v, x.2.2) else x
theorem look_turn (p v : Int) (l : List (Int × Int × Nat)) (q : Int) : look (turn p v l) q = if q = p then (look l q).map (fun _ => v) else look l q := by
  induction l with
  | nil => simp [look, turn]
  | cons y l ih =>
    simp only [turn, List.map_cons, look] at ih ⊢
    by_cases h : y.1 = p
    · rw [if_pos h]
      simp only []
      by_cases h2 : q = y.1
      · simp [h2, h]
      · rw [if_neg h2, if_neg h2, ih]
    · rw [if_neg h]
      by_cases h2 : q = y.1
      · have : q ≠ p := fun e => h (h2 ▸ e)
        simp only [if_pos h2, if_neg this]
      · rw [if_neg h2, if_neg h2, ih]
theorem turn_ok {es : List (Int × Int × Nat)} {cl : Nat} (p v : Int) (h : MapOk es cl) : MapOk (turn p v es) cl := by
  obtain ⟨h1, h2, h3⟩ := h
  refine ⟨fun x hx => ?_, ?_, ?_⟩
  · obtain ⟨y, hy, rfl⟩ := List.mem_map.1 hx
    split
    · exact h1 y hy
    · exact h1 y hy
  · unfold turn
    rw [List.pairwise_map]
    exact h2.imp fun {a b} hab => by
      (repeat' split) <;> exact hab
  · unfold turn
    rw [List.pairwise_map]
    exact h3.imp fun {a b} hab => by
      (repeat' split) <;> exact hab
theorem modify_turn : ∀ (es : List (Int × Int × Nat)) (p v : Int) (k : Nat), es.Pairwise (fun a b => a.1 ≠ b.1) → es.findIdx? (fun x => p == x.1) = some k →
    (es.map ent).modify k (fun e => { e with key := .int .i64 p, val := .int .i64 v }) = (turn p v es).map ent
  | [], p, v, k, _, h => by simp at h
  | y :: l, p, v, k, hp, h => by
    rw [List.pairwise_cons] at hp
    simp only [List.findIdx?_cons] at h
    by_cases h1 : p = y.1
    · simp [h1] at h
      subst h
      simp only [List.map_cons, List.modify_zero_cons, turn, if_pos h1.symm]
      congr 1
      · simp [ent, h1]
      · rw [List.map_congr_left (g := ent)]
        · simp only [List.map_map]
          refine (List.map_congr_left fun x hx => ?_).symm
          have : x.1 ≠ p := fun e => hp.1 x hx (h1 ▸ e.symm)
          simp [this]
        · intro x _; rfl
    · have h2 : (p == y.1) = false := by simpa using h1
      simp only [h2] at h
      cases hf : l.findIdx? (fun x => p == x.1) with
      | none => simp [hf] at h
      | some j =>
        simp [hf] at h
        subst h
        have ih := modify_turn l p v j hp.2 hf
        have h3 : ¬ y.1 = p := fun e => h1 e.symm
        simp only [List.map_cons, List.modify_succ_cons, ih, turn, if_neg h3]

theorem run_mapUpdate_ii (w : World) (m : Nat) (f : Int → Option Int) (p v : Int) (hm : MapAt w m f) :
    ∃ o, (Instr.mapUpdate 70 (.map (some m)) (.int .i64 p) (.int .i64 v)).run Try.prog w = .ok () (w.putObj m o) ∧ MapAt (w.putObj m o) m (fun q => if q = p then some v else f q) := by
  obtain ⟨es, cl, hm, hok, hf⟩ := hm
  have hk : Try.prog.underlying 3 = some (.int .i64) := Try.underlying3
  have ht : Try.prog.underlying 70 = some (.map 3 3) := Try.underlying70
  have hlt := blk_lt hm
  have hI : MapKept.IsKey (.int .i64) (.int .i64 p) := rfl
  cases h : es.findIdx? (fun x => p == x.1) with
  | none =>
    have hn : look es p = none := by
      have := look_isSome es p; rw [h] at this; simpa using this
    have hn' := (look_none es p).1 hn
    refine ⟨.map ((es ++ [(p, v, cl)]).map ent).toArray (cl + 1), ?_, es ++ [(p, v, cl)], cl + 1, World.putObj_heap_same hlt, ⟨?_, ?_, ?_⟩, fun q => ?_⟩
    · simp [Instr.mapUpdate, run_underlying ht, Result.andThen, MapKept.run_getObj_map hm, MapKept.run_checkKey hk hI, MapKept.run_findKey hk (findNow_ent p .i64 es 0), h, MapKept.run_setObj_map _ hm, World.putObj, ent]
    · intro x hx
      rcases List.mem_append.1 hx with hx | hx
      · have := hok.1 x hx; omega
      · simp at hx; subst hx; simp
    · rw [List.pairwise_append]
      refine ⟨hok.2.1, by simp, fun a ha b hb => ?_⟩
      simp at hb; subst hb; exact hn' a ha
    · rw [List.pairwise_append]
      refine ⟨hok.2.2, by simp, fun a ha b hb => ?_⟩
      simp at hb; subst hb; have := hok.1 a ha; simp; omega
    · rw [look_append _ _ _ hn, hf]
  | some k =>
    have hs : (look es p).isSome = true := by rw [look_isSome, h]; rfl
    obtain ⟨hkl, hkp, _⟩ := List.findIdx?_eq_some_iff_getElem.1 h
    have hkp' : p = (es[k]).1 := by simpa using hkp
    refine ⟨.map ((turn p v es).map ent).toArray cl, ?_, turn p v es, cl, World.putObj_heap_same hlt, turn_ok p v hok, fun q => ?_⟩
    · have hmod := modify_turn es p v k hok.2.1 h
      have hkey : ((((es.map ent).toArray)[k]?).map (·.key)).getD (.int .i64 p) = .int .i64 p := by
        simp [hkl, ent, hkp']
      have hi : (some k).map (fun k => (0 + k, Value.int .i64 ((look es p).getD 0))) = some (k, Value.int .i64 ((look es p).getD 0)) := by simp
      simp only [Instr.mapUpdate, Sem.run_bind, run_underlying ht, Result.andThen, MapKept.run_getObj_map hm, MapKept.run_checkKey hk hI, MapKept.run_findKey hk (findNow_ent p .i64 es 0), h, hi, hkey, MapKept.run_keyThatStays hI, MapKept.run_setObj_map _ hm]
      simp only [World.putObj, List.modify_toArray, hmod]
    · show look (turn p v es) q = if q = p then some v else f q
      rw [look_turn]
      by_cases hq : q = p
      · subst hq
        rw [if_pos rfl, if_pos rfl]
        cases hl : look es q with
        | none => rw [hl] at hs; cases hs
        | some _ => rfl
      · rw [if_neg hq, if_neg hq, hf]

theorem run_clear_ii (w : World) (m : Nat) (f : Int → Option Int) (hm : MapAt w m f) :
    ∃ o, (Builtin.clear_ #[70] 0 #[.map (some m)]).run Try.prog w = .ok (.tuple #[]) (w.putObj m o) ∧ MapAt (w.putObj m o) m (fun _ => none) := by
  obtain ⟨es, cl, hm, hok, hf⟩ := hm
  have ht : Try.prog.underlying 70 = some (.map 3 3) := Try.underlying70
  refine ⟨.map #[] cl, ?_, [], cl, World.putObj_heap_same (blk_lt hm), ⟨by simp, by simp, by simp⟩, fun q => rfl⟩
  simp [Builtin.clear_, run_underlying ht, Result.andThen, MapKept.run_getObj_map hm, MapKept.run_setObj_map _ hm, World.putObj]
end Go.Proofs.Ytccomlafacdcjaa.Dk
