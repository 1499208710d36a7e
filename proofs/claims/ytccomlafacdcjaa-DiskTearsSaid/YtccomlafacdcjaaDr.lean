/-
  A range over a map from int to int, step by step.
-/
import Derived.Test.YtccomlafacdcjaaDm
namespace Go.Proofs.Ytccomlafacdcjaa.Dk
open Go.RowKit Go.Proofs.YtccomlafacdcjaaW.PrintWords
set_option linter.unusedVariables false

def unseen (es : List (Int × Int × Nat)) (seen : Array Nat) : List (Int × Int × Nat) := es.filter fun x => !seen.contains x.2.2

theorem run_next_ii (w : World) (it m cl : Nat) (es : List (Int × Int × Nat)) (seen : Array Nat) (T : TypeId) (hit : w.heap[it]? = some (.mapIter (some m) cl seen cl)) (hm : w.heap[m]? = some (.map (es.map ent).toArray cl)) (hok : MapOk es cl) :
    (unseen es seen = [] → (Instr.next (.pointer (some ⟨it, 0, none⟩)) false T).run Try.prog w = .ok (.tuple #[.bool false]) w) ∧
    (unseen es seen ≠ [] → ∃ x n, x ∈ unseen es seen ∧ (Instr.next (.pointer (some ⟨it, 0, none⟩)) false T).run Try.prog w = .ok (.tuple #[.bool true, .int .i64 x.1, .int .i64 x.2.1]) ((w.drewN n).putObj it (.mapIter (some m) cl (seen.push x.2.2) cl))) := by
  have hget : (getObj it).run Try.prog w = .ok (.mapIter (some m) cl seen cl) w := by simp [getObj, Sem.run, hit]
  have hgm := MapKept.run_getObj_map (P := Try.prog) hm
  have hall : (!seen.isEmpty && !(es.map ent).toArray.isEmpty && (es.map ent).toArray.all (·.born ≥ cl)) = false := by
    cases es with
    | nil => simp
    | cons y l =>
      have := hok.1 y List.mem_cons_self
      have h2 : ((((y :: l).map ent).toArray.all (·.born ≥ cl)) : Bool) = false := by
        simp [ent]; omega
      rw [h2]; simp
  have hleft : ((es.map ent).toArray.filter fun e => !seen.contains e.born) = ((unseen es seen).map ent).toArray := by
    rw [List.filter_toArray, List.filter_map]
    rfl
  have hold : ((((unseen es seen).map ent).toArray).filter (·.born < cl)) = ((unseen es seen).map ent).toArray := by
    rw [List.filter_toArray, List.filter_eq_self.2]
    intro a ha
    obtain ⟨x, hx, rfl⟩ := List.mem_map.1 ha
    have := hok.1 x (List.mem_filter.1 hx).1
    simp [ent, this]
  have hnew : ((((unseen es seen).map ent).toArray).filter (·.born ≥ cl)) = #[] := by
    rw [List.filter_toArray, List.filter_eq_nil_iff.2]
    intro a ha
    obtain ⟨x, hx, rfl⟩ := List.mem_map.1 ha
    have := hok.1 x (List.mem_filter.1 hx).1
    simp [ent, this]
  have hset : ∀ (n : Nat) (o : Obj), (setObj it o).run Try.prog (w.drewN n) = .ok () ((w.drewN n).putObj it o) := fun n o => by
    simp [setObj, Sem.run, hit, World.putObj, World.drewN]
  constructor
  · intro he
    simp only [Instr.next, Sem.run_bind, hget, Result.andThen, hgm, hall, hleft, he]
    simp [choose, Sem.run, Question.forced]
  · intro hne
    have hpos : 0 < (unseen es seen).length := List.length_pos_iff.2 hne
    have key : ∀ j, (hj : j < (unseen es seen).length) → (((if (((unseen es seen).map ent).toArray).isEmpty = true then #[none] else #[]) ++ ((((unseen es seen).map ent).toArray ++ #[]).map some))[j]?) = some (some (ent ((unseen es seen)[j]))) := by
      intro j hj
      have : (((unseen es seen).map ent).toArray).isEmpty = false := by
        cases h : unseen es seen with
        | nil => exact absurd h hne
        | cons _ _ => rfl
      simp [this, hj]
    have hsz : (((if (((unseen es seen).map ent).toArray).isEmpty = true then #[none] else #[]) ++ ((((unseen es seen).map ent).toArray ++ #[]).map some)) : Array (Option MapEntry)).size = (unseen es seen).length := by
      have : (((unseen es seen).map ent).toArray).isEmpty = false := by
        cases h : unseen es seen with
        | nil => exact absurd h hne
        | cons _ _ => rfl
      simp [this]
    by_cases h1 : (unseen es seen).length ≤ 1
    · refine ⟨(unseen es seen)[0], 0, List.getElem_mem hpos, ?_⟩
      have hc : (choose (.mapNext (unseen es seen).length)).run Try.prog w = .ok 0 w := by simp [choose, Sem.run, Question.forced, h1]
      have hs0 := hset 0
      rw [show w.drewN 0 = w from rfl] at hs0 ⊢
      simp only [Instr.next, Sem.run_bind, hget, Result.andThen, hgm, hall, hleft, hold, hnew, Bool.false_eq_true, if_false, hsz, hc, key 0 hpos, hs0, Sem.run_pure, ent]
    · refine ⟨(unseen es seen)[(w.tape w.drawn (.mapNext (unseen es seen).length)) % (unseen es seen).length]'(Nat.mod_lt _ hpos), 1, List.getElem_mem _, ?_⟩
      have hc : (choose (.mapNext (unseen es seen).length)).run Try.prog w = .ok ((w.tape w.drawn (.mapNext (unseen es seen).length)) % (unseen es seen).length) (w.drewN 1) := by
        simp [choose, Sem.run, Question.forced, h1, Question.cut, World.drewN]
      have hs0 := hset 1
      simp only [Instr.next, Sem.run_bind, hget, Result.andThen, hgm, hall, hleft, hold, hnew, Bool.false_eq_true, if_false, hsz, hc, key _ (Nat.mod_lt _ hpos), hs0, Sem.run_pure, ent]

theorem run_range_ii (w : World) (m cl : Nat) (es : Array MapEntry) (hm : w.heap[m]? = some (.map es cl)) :
    (Instr.range 70 (.map (some m))).run Try.prog w = .ok (.pointer (some ⟨w.heap.size, 0, none⟩)) (w.alloc (.mapIter (some m) cl #[] cl)) := by
  have ht : Try.prog.underlying 70 = some (.map 3 3) := Try.underlying70
  simp only [Instr.range, Sem.run_bind, run_underlying ht, Result.andThen, MapKept.run_getObj_map hm, Sem.run_pure]
  rfl

theorem run_entry_ii (w : World) (it m cl : Nat) (es : List (Int × Int × Nat)) (seen : Array Nat) (x : Int × Int × Nat) (hx : x ∈ es) (hit : w.heap[it]? = some (.mapIter (some m) cl (seen.push x.2.2) cl)) (hm : w.heap[m]? = some (.map (es.map ent).toArray cl)) (hok : MapOk es cl) :
    (Instr.entry (.pointer (some ⟨it, 0, none⟩))).run Try.prog w = .ok (.tuple #[.int .i64 x.1, .int .i64 x.2.1]) w := by
  have hget : (getObj it).run Try.prog w = .ok (.mapIter (some m) cl (seen.push x.2.2) cl) w := by simp [getObj, Sem.run, hit]
  have hgm := MapKept.run_getObj_map (P := Try.prog) hm
  have hf : (es.map ent).find? (fun e => e.born == x.2.2) = some (ent x) := by
    have h3 := hok.2.2
    clear hm hgm hit hget hok
    induction es with
    | nil => cases hx
    | cons y l ih =>
      rw [List.pairwise_cons] at h3
      rcases List.mem_cons.1 hx with rfl | hx
      · simp [ent]
      · have : y.2.2 ≠ x.2.2 := h3.1 x hx
        simp only [List.map_cons, List.find?_cons]
        have h2 : ((ent y).born == x.2.2) = false := by simpa [ent] using this
        rw [h2]
        exact ih hx h3.2
  simp only [Instr.entry, Sem.run_bind, hget, Result.andThen, Array.back?_push, hgm, bne_self_eq_false, Bool.false_eq_true, if_false, List.find?_toArray, hf, Sem.run_pure, ent]

/-! what has been seen, as a map -/
theorem look_some : ∀ (l : List (Int × Int × Nat)), l.Pairwise (fun a b => a.1 ≠ b.1) → ∀ (p v : Int), look l p = some v ↔ ∃ x ∈ l, x.1 = p ∧ x.2.1 = v
  | [], _, p, v => by simp [look]
  | y :: l, h, p, v => by
    rw [List.pairwise_cons] at h
    have ih := look_some l h.2 p v
    simp only [look, List.mem_cons]
    by_cases hp : p = y.1
    · rw [if_pos hp]
      constructor
      · intro he
        injection he with he
        exact ⟨y, .inl rfl, hp.symm, he⟩
      · rintro ⟨x, rfl | hx, h1, h2⟩
        · rw [h2]
        · exact absurd (hp.symm.trans h1.symm) (h.1 x hx)
    · rw [if_neg hp, ih]
      constructor
      · rintro ⟨x, hx, h1⟩; exact ⟨x, .inr hx, h1⟩
      · rintro ⟨x, rfl | hx, h1, h2⟩
        · exact absurd h1.symm hp
        · exact ⟨x, hx, h1, h2⟩
def seenOf (es : List (Int × Int × Nat)) (seen : Array Nat) : List (Int × Int × Nat) := es.filter fun x => seen.contains x.2.2
theorem look_seenOf {es : List (Int × Int × Nat)} {cl : Nat} (hok : MapOk es cl) (seen : Array Nat) {x : Int × Int × Nat} (hx : x ∈ es) (p : Int) : look (seenOf es (seen.push x.2.2)) p = if p = x.1 then some x.2.1 else look (seenOf es seen) p := by
  have h1 := look_some (seenOf es (seen.push x.2.2)) (hok.2.1.filter _) p
  have h2 := look_some (seenOf es seen) (hok.2.1.filter _) p
  have inj : ∀ y ∈ es, y.1 = x.1 → y = x := fun y hy he => by
    have hp := hok.2.1
    clear h1 h2 hok
    induction es with
    | nil => cases hx
    | cons z l ih =>
      rw [List.pairwise_cons] at hp
      rcases List.mem_cons.1 hx with h5 | h5 <;> rcases List.mem_cons.1 hy with h6 | h6
      · exact h6.trans h5.symm
      · exact absurd (h5 ▸ he.symm) (hp.1 y h6)
      · exact absurd (h6 ▸ he) (hp.1 x h5)
      · exact ih h5 h6 hp.2
  have injb : ∀ y ∈ es, y.2.2 = x.2.2 → y = x := fun y hy he => by
    have hp := hok.2.2
    clear h1 h2 hok inj
    induction es with
    | nil => cases hx
    | cons z l ih =>
      rw [List.pairwise_cons] at hp
      rcases List.mem_cons.1 hx with h5 | h5 <;> rcases List.mem_cons.1 hy with h6 | h6
      · exact h6.trans h5.symm
      · exact absurd (h5 ▸ he.symm) (hp.1 y h6)
      · exact absurd (h6 ▸ he) (hp.1 x h5)
      · exact ih h5 h6 hp.2
  apply Option.ext
  intro v
  rw [h1]
  by_cases hp : p = x.1
  · rw [if_pos hp]
    constructor
    · rintro ⟨y, hy, e1, e2⟩
      have := inj y (List.mem_filter.1 hy).1 (e1.trans hp)
      rw [← e2, this]
    · intro e
      injection e with e
      exact ⟨x, List.mem_filter.2 ⟨hx, by simp⟩, hp.symm, e⟩
  · rw [if_neg hp, h2]
    constructor
    · rintro ⟨y, hy, e1, e2⟩
      obtain ⟨h3, h4⟩ := List.mem_filter.1 hy
      refine ⟨y, List.mem_filter.2 ⟨h3, ?_⟩, e1, e2⟩
      simp only [Array.contains_iff_mem, Array.mem_push] at h4 ⊢
      rcases h4 with h4 | h4
      · exact h4
      · exact absurd (e1.symm.trans (by rw [injb y h3 h4])) hp
    · rintro ⟨y, hy, e1, e2⟩
      obtain ⟨h3, h4⟩ := List.mem_filter.1 hy
      refine ⟨y, List.mem_filter.2 ⟨h3, ?_⟩, e1, e2⟩
      simp only [Array.contains_iff_mem, Array.mem_push] at h4 ⊢
      exact .inl h4
theorem seenOf_none (es : List (Int × Int × Nat)) : seenOf es #[] = [] := by simp [seenOf]
theorem seenOf_all {es : List (Int × Int × Nat)} {seen : Array Nat} (h : unseen es seen = []) : seenOf es seen = es := by
  unfold seenOf
  rw [List.filter_eq_self]
  intro a ha
  have := (List.filter_eq_nil_iff.1 h) a ha
  simpa using this
theorem unseen_push {es : List (Int × Int × Nat)} {seen : Array Nat} {x : Int × Int × Nat} (hx : x ∈ unseen es seen) : (unseen es (seen.push x.2.2)).length < (unseen es seen).length := by
  have e : unseen es (seen.push x.2.2) = (unseen es seen).filter fun y => !(y.2.2 == x.2.2) := by
    unfold unseen
    rw [List.filter_filter]
    congr 1
    funext y
    simp only [Array.contains_push]
    cases seen.contains y.2.2 <;> cases h : (y.2.2 == x.2.2) <;> simp_all
  rw [e]
  exact List.length_filter_lt_length_iff_exists.2 ⟨x, hx, by simp⟩
end Go.Proofs.Ytccomlafacdcjaa.Dk
