/-
  Plain laws: what the reference computes, in the words of the disk's own contracts.
-/
import Derived.Test.YtccomlafacdcjaaDt
import Derived.Test.YtccomlafacdcjaaRef4
namespace Go.Proofs.Ytccomlafacdcjaa.Dk
open Go.RowKit Go.Proofs.YtccomlafacdcjaaW.PrintWords Go.Proofs.YtccomlafacdcjaaW.PrintMore
open Go.Proofs.Ytccomlafacdcjaa.Ref
set_option linter.unusedVariables false

def to81 (x : Int × ByteArray) : S81 := ⟨x.1, x.2⟩
def pen81 (l : List (Int × ByteArray)) : List S81 := l.map to81
theorem pen81_length (l : List (Int × ByteArray)) : (pen81 l).length = l.length := by simp [pen81]
theorem pen81_get (l : List (Int × ByteArray)) (i : Nat) (h : i < l.length) : rd_T81 (pen81 l) (i : Int) = to81 l[i] := by
  simp [rd_T81, pen81, h]

theorem choice_f (cs : List Int) (hc : cs.length < 1000000000) (i : Nat) : modcertref50_choice.f cs i = some (choiceOf cs i) := by
  unfold modcertref50_choice.f choiceOf some1
  by_cases h : cs = []
  · subst h
    rw [if_pos (by simp), if_pos rfl]
    have e : rd [0] (((i % [(0 : Int)].length : Nat)) : Int) = 0 := by simp [rd, Nat.mod_one]
    rw [e]
    decide +kernel
  · have hl : 0 < cs.length := List.length_pos_iff.2 h
    have e : Int.tmod (i : Int) (cs.length : Int) = ((i % cs.length : Nat) : Int) := rfl
    have hm := Nat.mod_lt i hl
    rw [if_neg (by omega), if_neg h, e, if_pos (by omega), if_pos (by omega)]
    rfl

theorem crash_l0 (cs : List Int) (hc : cs.length < 1000000000) (d0 : List ByteArray) (l : List (Int × ByteArray)) (hl : l.length < 1000000000) : ∀ (n i : Nat) (d : List ByteArray), i + n = l.length → (∀ x ∈ l, 0 ≤ x.1 ∧ x.1 < d.length) →
    modcertref50_Crash.l0 (n + 1) cs (i : Int) d0 (pen81 l) d = some (crashAt (choiceOf cs) i d (l.drop i), [])
  | 0, i, d, h, hb => by
    have e1 : l.drop i = [] := List.drop_eq_nil_of_le (by omega)
    have e3 : ¬ (i : Int) < (pen81 l).length := by rw [pen81_length]; omega
    simp [modcertref50_Crash.l0, e1, e3, crashAt]
  | n + 1, i, d, h, hb => by
    have hi : i < l.length := by omega
    have h1 : (i : Int) < (pen81 l).length := by rw [pen81_length]; omega
    have h3 : (0 : Int) ≤ i := by omega
    have hw : wrap64 ((i : Int) + 1) = ((i + 1 : Nat) : Int) := by unfold wrap64; omega
    have dl : l.drop i = l[i] :: l.drop (i + 1) := List.drop_eq_getElem_cons hi
    have hx : 0 ≤ (to81 l[i]).f0 ∧ (to81 l[i]).f0 < d.length := hb l[i] (List.getElem_mem hi)
    have ih := fun d' (hd : d'.length = d.length) => crash_l0 cs hc d0 l hl n (i + 1) d' (by omega) (fun x hx => by rw [hd]; exact hb x hx)
    rw [modcertref50_Crash.l0, if_pos h1, choice_f cs hc i, Option.bind_some, pen81_get l i hi, hw, dl]
    rw [crashAt]
    unfold stepC
    by_cases c1 : choiceOf cs i = 1
    · rw [if_pos c1, if_pos h3, if_pos hx.1, if_pos hx.2, ih _ (by simp), if_pos c1]
      rfl
    · rw [if_neg c1]
      by_cases c2 : choiceOf cs i = 2
      · rw [if_pos c2, if_pos h3, if_pos hx.1, if_pos hx.2, ih _ (by simp), if_neg c1, if_pos c2]
        rfl
      · rw [if_neg c2, ih _ rfl, if_neg c1, if_neg c2]

theorem crash_f (cs : List Int) (hc : cs.length < 1000000000) (d : List ByteArray) (hd : d.length ≤ 4096) (l : List (Int × ByteArray)) (hl : l.length < 1000000000) (hb : ∀ x ∈ l, 0 ≤ x.1 ∧ x.1 < d.length) :
    modcertref50_Crash.f (l.length + 1) d (pen81 l) cs = some (crashAt (choiceOf cs) 0 d l, []) := by
  unfold modcertref50_Crash.f
  rw [Option.bind_some, if_pos (by simp; omega), List.nil_append, show (0 : Int) = ((0 : Nat) : Int) from rfl, crash_l0 cs hc d l hl l.length 0 d (by omega) hb, List.drop_zero]

theorem choice_one (i : Nat) : choiceOf [1] i = 1 := by
  have e : i % (some1 [1]).length = 0 := by simp [some1, Nat.mod_one]
  unfold choiceOf
  rw [e]
  decide +kernel
theorem crash_one (l : List (Int × ByteArray)) : ∀ (i : Nat) (d : List ByteArray), crashAt (choiceOf [1]) i d l = flush d l := by
  induction l with
  | nil => intro i d; rfl
  | cons x l ih =>
    intro i d
    rw [crashAt, ih, choice_one]
    rfl
theorem sync_f (d : List ByteArray) (hd : d.length ≤ 4096) (l : List (Int × ByteArray)) (hl : l.length < 1000000000) (hb : ∀ x ∈ l, 0 ≤ x.1 ∧ x.1 < d.length) :
    modcertref50_Sync.f (l.length + 1) d (pen81 l) = some (flush d l, []) := by
  unfold modcertref50_Sync.f
  rw [crash_f [1] (by simp) d hd l hl hb, Option.bind_some, crash_one]

theorem write_f (s : DS) (hd : s.dur.length ≤ 4096) (hl : s.pen.length < 1000000000) (p : Int) (x : ByteArray) :
    modcertref50_Write.f 1 s.dur (pen81 s.pen) p x = some (s.dur, pen81 (writeD s p x).1.pen, (writeD s p x).2) := by
  have key : ∀ b, b = decide (¬ (0 ≤ p ∧ p < s.dur.length)) → modcertref50_Write.j0 1 p x b s.dur (pen81 s.pen) = some (s.dur, pen81 (writeD s p x).1.pen, (writeD s p x).2) := by
    rintro b rfl
    rw [modcertref50_Write.j0]
    by_cases h : 0 ≤ p ∧ p < s.dur.length
    · have hB : hasB s.dur.length p = true := by simp [hasB, h]
      rw [if_neg (by simpa using h)]
      by_cases hx : x.size = 512
      · have e : writeD s p x = (noted { s with pen := s.pen ++ [(p, x)] } (p, x, false), 0) := by simp [writeD, hB, hx]
        rw [e, if_pos (by omega), Option.bind_some, if_pos (by rw [pen81_length]; simp; omega), Option.bind_some, Option.bind_some, if_pos (by simp [pen81_length]; omega)]
        show _ = some (s.dur, pen81 (noted _ _).pen, 0)
        rw [noted_pen]
        simp [pen81, to81]
      · have e : writeD s p x = (s, 1) := by simp [writeD, hB, hx]
        rw [e, if_neg (by omega)]
    · have hB : hasB s.dur.length p = false := by simpa [hasB] using h
      have e : writeD s p x = (s, 2) := by simp [writeD, hB]
      rw [e, if_pos (by simp; omega)]
  unfold modcertref50_Write.f
  by_cases h : p < 0
  · rw [if_pos h]
    exact key true (by simp; omega)
  · rw [if_neg h]
    exact key _ (by simp; omega)

/-- Read, by what stands at the page. -/
theorem read_l0 (d : List ByteArray) (p : Int) (l : List (Int × ByteArray)) (hl : l.length < 1000000000) : ∀ (n i : Nat) (x : ByteArray), i + n = l.length →
    modcertref50_Read.l0 (n + 1) p x (i : Int) d (pen81 l) = (let y := (l.drop i).foldl (fun y z => if z.1 = p then z.2 else y) x; if y.toList = ([33] : List UInt8) then some ((⟨#[]⟩ : ByteArray), 21) else some (y, 0))
  | 0, i, x, h => by
    have e1 : l.drop i = [] := List.drop_eq_nil_of_le (by omega)
    have e3 : ¬ (i : Int) < (pen81 l).length := by rw [pen81_length]; omega
    rw [modcertref50_Read.l0, if_neg e3, e1]
    rfl
  | n + 1, i, x, h => by
    have hi : i < l.length := by omega
    have h1 : (i : Int) < (pen81 l).length := by rw [pen81_length]; omega
    have h3 : (0 : Int) ≤ i := by omega
    have hw : wrap64 ((i : Int) + 1) = ((i + 1 : Nat) : Int) := by unfold wrap64; omega
    have dl : l.drop i = l[i] :: l.drop (i + 1) := List.drop_eq_getElem_cons hi
    rw [modcertref50_Read.l0, if_pos h1, if_pos h3, pen81_get l i hi, hw, dl]
    have e0 : (to81 l[i]).f0 = l[i].1 := rfl
    by_cases c : (to81 l[i]).f0 = p
    · rw [if_pos c, read_l0 d p l hl n (i + 1) _ (by omega)]
      rw [e0] at c
      simp only [List.foldl_cons, if_pos c]
      rfl
    · rw [if_neg c, read_l0 d p l hl n (i + 1) _ (by omega)]
      rw [e0] at c
      simp only [List.foldl_cons, if_neg c]

theorem fold_last (p : Nat) (d : List ByteArray) (hp : p < d.length) (l : List (Int × ByteArray)) : (∀ x ∈ l, 0 ≤ x.1 ∧ x.1 < d.length) → l.foldl (fun y z => if z.1 = (p : Int) then z.2 else y) (d.getD p nb) = (flush d l).getD p nb := by
  induction l using snoc_ind with
  | h0 => intro _; rfl
  | h1 l x ih =>
    intro hb
    have hx := hb x (by simp)
    rw [List.foldl_append, ih (fun y hy => hb y (List.mem_append_left _ hy)), flush_snoc]
    simp only [List.foldl_cons, List.foldl_nil]
    by_cases e : x.1 = (p : Int)
    · rw [if_pos e]
      have e2 : x.1.toNat = p := by omega
      simp [e2, flush_length, hp]
    · rw [if_neg e]
      have e2 : x.1.toNat ≠ p := by omega
      simp [List.getD, List.getElem?_set_ne e2]

/-- What is read of a page: by what a sync would write. -/
def readF (d : List ByteArray) (l : List (Int × ByteArray)) (p : Int) : ByteArray × Int :=
  if hasB d.length p = true then (if ((flush d l).getD p.toNat nb).toList = [33] then (nb, 21) else ((flush d l).getD p.toNat nb, 0)) else (nb, 2)
def Full (l : List (Int × ByteArray)) : Prop := ∀ x ∈ l, x.2.size = 512
theorem full_not (x : ByteArray) (h : x.size = 512) : x.toList ≠ [33] := by
  intro e
  have e2 : x.toList.length = 1 := by rw [e]; rfl
  rw [ByteArray.toList_eq, Array.length_toList] at e2
  have : x.data.size = 512 := h
  omega
theorem readD_eq (s : DS) (hb : ∀ x ∈ s.pen, 0 ≤ x.1 ∧ x.1 < s.dur.length) (hf : Full s.pen) (p : Int) : readD s p = readF s.dur s.pen p := by
  unfold readD readF
  by_cases h : hasB s.dur.length p = true
  · rw [if_pos h, if_pos h]
    have hp : 0 ≤ p ∧ p < s.dur.length := by simpa [hasB] using h
    obtain ⟨q, rfl⟩ := Int.eq_ofNat_of_zero_le hp.1
    have hq : q < s.dur.length := by have := hp.2; omega
    rw [Int.toNat_natCast, flush_get s.dur q hq s.pen hb]
    cases hl : lastIdx s.pen q with
    | none => rfl
    | some j =>
      obtain ⟨k, rfl, hk, _⟩ := lastAt_some q j s.pen 0 hl
      have hm : (s.pen.getD k (0, nb)) ∈ s.pen := by simp [List.getD, hk]
      have hn := full_not _ (hf _ hm)
      simp only [Nat.zero_add, Int.toNat_natCast]
      rw [if_neg hn]
  · rw [if_neg h, if_neg h]

theorem read_f (d : List ByteArray) (hd : d.length ≤ 4096) (l : List (Int × ByteArray)) (hl : l.length < 1000000000) (hb : ∀ x ∈ l, 0 ≤ x.1 ∧ x.1 < d.length) (p : Int) :
    modcertref50_Read.f (l.length + 2) d (pen81 l) p = some (readF d l p) := by
  have key : ∀ b, b = decide (¬ (0 ≤ p ∧ p < d.length)) → modcertref50_Read.j0 (l.length + 2) p b d (pen81 l) = some (readF d l p) := by
    rintro b rfl
    rw [modcertref50_Read.j0]
    unfold readF
    by_cases h : 0 ≤ p ∧ p < d.length
    · have hB : hasB d.length p = true := by simp [hasB, h]
      rw [if_neg (by simpa using h), if_pos h.1, if_pos h.2, if_pos hB]
      obtain ⟨q, rfl⟩ := Int.eq_ofNat_of_zero_le h.1
      have hq : q < d.length := by have := h.2; omega
      rw [show (0 : Int) = ((0 : Nat) : Int) from rfl, read_l0 d q l hl l.length 0 _ (by omega), List.drop_zero]
      have e : rdOf ByteArray.empty d (q : Int) = d.getD q nb := rfl
      simp only [Int.toNat_natCast]
      rw [e, fold_last q d hq l hb]
      split <;> rfl
    · have hB : ¬ hasB d.length p = true := by simpa [hasB] using h
      rw [if_pos (by simp; omega), if_neg hB]
  unfold modcertref50_Read.f
  by_cases h : p < 0
  · rw [if_pos h]
    exact key true (by simp; omega)
  · rw [if_neg h]
    exact key _ (by simp; omega)

theorem image_l0 (d : List ByteArray) (hd : d.length ≤ 4096) (l : List (Int × ByteArray)) (hl : l.length < 1000000000) (hb : ∀ x ∈ l, 0 ≤ x.1 ∧ x.1 < d.length) : ∀ (n i : Nat) (out : List ByteArray), i + n = d.length → out = (flush d l).take i →
    modcertref50_Image.l0 (l.length + 2 + n + 1) out (i : Int) d (pen81 l) = some (flush d l)
  | 0, i, out, h, ho => by
    have e3 : ¬ (i : Int) < d.length := by omega
    rw [modcertref50_Image.l0, if_neg e3, ho, List.take_of_length_le (by rw [flush_length]; omega)]
  | n + 1, i, out, h, ho => by
    have hi : i < d.length := by omega
    have hif : i < (flush d l).length := by rw [flush_length]; exact hi
    have h1 : (i : Int) < d.length := by omega
    have hw : wrap64 ((i : Int) + 1) = ((i + 1 : Nat) : Int) := by unfold wrap64; omega
    have hr := read_f d hd l hl hb i
    have hr2 : modcertref50_Read.f (l.length + 2 + n + 1) d (pen81 l) i = some (readF d l i) := by
      have up : ∀ m, modcertref50_Read.f (l.length + 2 + m) d (pen81 l) i = some (readF d l i) := by
        intro m
        induction m with
        | zero => exact hr
        | succ m ih => exact modcertref50_Read.mono _ _ _ _ _ ih
      exact up (n + 1)
    have hol : out.length < 8796093022208 := by rw [ho, List.length_take]; omega
    have ht : (flush d l).take (i + 1) = (flush d l).take i ++ [(flush d l)[i]] := by rw [List.take_succ_eq_append_getElem hif]
    have hg : (flush d l).getD i nb = (flush d l)[i] := by simp [List.getD, hif]
    rw [show l.length + 2 + (n + 1) + 1 = (l.length + 2 + n + 1) + 1 from by omega, modcertref50_Image.l0, if_pos h1, hr2, Option.bind_some, hw]
    have ih := fun out' ho' => image_l0 d hd l hl hb n (i + 1) out' (by omega) ho'
    unfold readF
    have hB : hasB d.length (i : Int) = true := by simp [hasB, hi]
    rw [if_pos hB, Int.toNat_natCast, hg]
    by_cases c : ((flush d l)[i]).toList = [33]
    · rw [if_pos c]
      have e : (flush d l)[i] = (⟨#[33]⟩ : ByteArray) := bytes_eq.mp (by rw [c, ByteArray.toList_eq])
      rw [if_neg (by decide), if_pos hol, ih _ (by rw [ht, ho, e])]
    · rw [if_neg c, if_pos rfl, if_pos hol, ih _ (by rw [ht, ho])]
theorem image_f (d : List ByteArray) (hd : d.length ≤ 4096) (l : List (Int × ByteArray)) (hl : l.length < 1000000000) (hb : ∀ x ∈ l, 0 ≤ x.1 ∧ x.1 < d.length) :
    modcertref50_Image.f (l.length + 2 + d.length + 1) d (pen81 l) = some (flush d l) := by
  unfold modcertref50_Image.f
  exact image_l0 d hd l hl hb d.length 0 [] (by omega) (by simp)

theorem new_f (n : Nat) (h1 : 1 ≤ n) (h2 : n ≤ 4096) : modcertref50_New.f n = some (List.replicate n nb, [], 0) := by
  unfold modcertref50_New.f
  rw [if_neg (by omega), if_neg (by omega), if_pos (by omega), if_pos (by omega), Int.toNat_natCast]
theorem new_f_no (n : Int) (h : n < 1 ∨ 4096 < n) : modcertref50_New.f n = some ([], [], 2) := by
  unfold modcertref50_New.f
  by_cases h1 : n < 1
  · rw [if_pos h1]
  · rw [if_neg h1, if_pos (by omega)]

/-- Few: the calls are few and small. -/
def fewB (l : List S41) : Bool := l.all (fun a => decide (a.f1.f1.size ≤ 600 ∧ a.f2.length ≤ 20)) && decide (l.length ≤ 40)
theorem few_l0 (l : List S41) (hl : l.length ≤ 9223372036854775807) : ∀ (n i : Nat), i + n = l.length → modcertref50_Few.l0 (n + 1) l (i : Int) = some ((l.drop i).all (fun a => decide (a.f1.f1.size ≤ 600 ∧ a.f2.length ≤ 20)) && decide (l.length ≤ 40))
  | 0, i, h => by
    have e1 : l.drop i = [] := List.drop_eq_nil_of_le (by omega)
    have e3 : ¬ (i : Int) < l.length := by omega
    rw [modcertref50_Few.l0, if_neg e3, e1]
    simp
    omega
  | n + 1, i, h => by
    have hi : i < l.length := by omega
    have h1 : (i : Int) < l.length := by omega
    have h3 : (0 : Int) ≤ i := by omega
    have hw : wrap64 ((i : Int) + 1) = ((i + 1 : Nat) : Int) := by unfold wrap64; omega
    have dl : l.drop i = l[i] :: l.drop (i + 1) := List.drop_eq_getElem_cons hi
    have hr : rd_T41 l (i : Int) = l[i] := by simp [rd_T41, hi]
    rw [modcertref50_Few.l0, if_pos h1, if_pos h3, hr, hw, dl, few_l0 l hl n (i + 1) (by omega), List.all_cons]
    by_cases a : l[i].f1.f1.size ≤ 600
    · rw [if_neg (by omega)]
      by_cases b : l[i].f2.length ≤ 20
      · rw [if_neg (by omega)]
        simp [a, b]
      · rw [if_pos (by omega)]
        simp [b]
    · rw [if_pos (by omega)]
      simp [a]
theorem few_f (l : List S41) (hl : l.length ≤ 9223372036854775807) : modcertref50_Few.f (l.length + 1) l = some (fewB l) := by
  unfold modcertref50_Few.f
  rw [show (0 : Int) = ((0 : Nat) : Int) from rfl, few_l0 l hl l.length 0 (by omega)]
  rfl
end Go.Proofs.Ytccomlafacdcjaa.Dk
