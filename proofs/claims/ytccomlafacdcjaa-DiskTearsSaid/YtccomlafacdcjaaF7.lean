/-
  DiskTears, walked.
-/
import Derived.Test.YtccomlafacdcjaaF5
namespace Go.Proofs.Ytccomlafacdcjaa.Dk
open Go.RowKit Go.Proofs.YtccomlafacdcjaaW.PrintWords Go.Proofs.YtccomlafacdcjaaW.PrintMore
open Go.Proofs.Ytccomlafacdcjaa.Ref
set_option linter.unusedVariables false

/-! the pages' contents that are allowed -/
structure RowV where
  A : Option Addr
  c : Nat
  xs : List ByteArray
def RowV.nil : RowV := ⟨none, 0, []⟩
def RowV.val (r : RowV) : Value := .slice r.A r.xs.length r.c
def RowV.th (r : RowV) : Th := rowT Kd.string 9 r.val r.xs
def outer (rows : List RowV) : Array Value := (rows.map RowV.val).toArray
theorem perm_pick {α : Type} (d : α) : ∀ (l : List α) (i : Nat), i < l.length → l.Perm (l.getD i d :: l.eraseIdx i)
  | [], i, h => by simp at h
  | x :: l, 0, _ => List.Perm.refl _
  | x :: l, i + 1, h => ((perm_pick d l i (by simpa using h)).cons x).trans (List.Perm.swap _ _ _)
theorem perm_set {α : Type} (a : α) : ∀ (l : List α) (i : Nat), i < l.length → (l.set i a).Perm (a :: l.eraseIdx i)
  | [], i, h => by simp at h
  | x :: l, 0, _ => List.Perm.refl _
  | x :: l, i + 1, h => ((perm_set a l i (by simpa using h)).cons x).trans (List.Perm.swap _ _ _)
section
variable {w0 w : World} {ts : List Th} {rows : List RowV} {i : Nat}
/-- One row to the front. -/
theorem SepT.rowOut (h : SepT w0 w (ts ++ rows.map RowV.th)) (hi : i < rows.length) : SepT w0 w ((rows.getD i RowV.nil).th :: (ts ++ (rows.eraseIdx i).map RowV.th)) :=
  h.perm ((((perm_pick RowV.nil rows i hi).map RowV.th).append_left ts).trans List.perm_middle)
theorem SepT.rowIn {r : RowV} (h : SepT w0 w (r.th :: (ts ++ (rows.eraseIdx i).map RowV.th))) (hi : i < rows.length) : SepT w0 w (ts ++ (rows.set i r).map RowV.th) :=
  h.perm (List.perm_middle.symm.trans (((perm_set r rows i hi).map RowV.th).symm.append_left ts))
theorem outer_set (r : RowV) : outer (rows.set i r) = (outer rows).setIfInBounds i r.val := by
  unfold outer
  rw [List.map_set]
  simp
theorem outer_get (hi : i < rows.length) : (outer rows)[i]? = some (rows.getD i RowV.nil).val := by
  unfold outer
  simp [hi, List.getD]
end
/-- What the law has gathered, and the disk. -/
structure Tear (n k : Nat) (s : DS) (rows : List RowV) : Prop where
  len : rows.length = n
  dur : s.dur = List.replicate n nb
  has : ∀ i, i < n → nb ∈ (rows.getD i RowV.nil).xs ∧ torn ∈ (rows.getD i RowV.nil).xs ∧ 2 ≤ (rows.getD i RowV.nil).xs.length ∧ (rows.getD i RowV.nil).xs.length ≤ 2 + k
  pen : ∀ x ∈ s.pen, 0 ≤ x.1 ∧ x.1 < n ∧ x.2.size = 512 ∧ x.2 ∈ (rows.getD x.1.toNat RowV.nil).xs ∧ 2 < (rows.getD x.1.toNat RowV.nil).xs.length
theorem Tear.keep {n k : Nat} {s : DS} {rows : List RowV} (h : Tear n k s rows) : Tear n (k + 1) s rows :=
  ⟨h.len, h.dur, fun i hi => ⟨(h.has i hi).1, (h.has i hi).2.1, (h.has i hi).2.2.1, by have := (h.has i hi).2.2.2; omega⟩, h.pen⟩
theorem getD_set {rows : List RowV} {i j : Nat} {r : RowV} (hi : i < rows.length) : (rows.set i r).getD j RowV.nil = if i = j then r else rows.getD j RowV.nil := by
  simp only [List.getD, List.getElem?_set]
  by_cases e : i = j
  · rw [if_pos e, if_pos e, if_pos hi]; rfl
  · rw [if_neg e, if_neg e]
theorem Tear.write {n k : Nat} {s s' : DS} {rows : List RowV} (h : Tear n k s rows) (p : Nat) (x : ByteArray) (hp : p < n) (hx : x.size = 512) (hd : s'.dur = s.dur) (hs : s'.pen = s.pen ++ [((p : Int), x)]) (A : Option Addr) (c : Nat) :
    Tear n (k + 1) s' (rows.set p ⟨A, c, (rows.getD p RowV.nil).xs ++ [x]⟩) := by
  have hpl : p < rows.length := by rw [h.len]; exact hp
  refine ⟨by rw [List.length_set]; exact h.len, by rw [hd]; exact h.dur, fun i hi => ?_, fun y hy => ?_⟩
  · rw [getD_set hpl]
    have hh := h.has i hi
    split
    · rename_i e
      subst e
      exact ⟨List.mem_append_left _ hh.1, List.mem_append_left _ hh.2.1, by simp only [List.length_append, List.length_singleton]; omega, by simp only [List.length_append, List.length_singleton]; omega⟩
    · exact ⟨hh.1, hh.2.1, hh.2.2.1, by omega⟩
  · rw [getD_set hpl]
    rw [hs] at hy
    rcases List.mem_append.1 hy with hy | hy
    · have hh := h.pen y hy
      split
      · rename_i e
        rw [← e] at hh
        exact ⟨hh.1, hh.2.1, hh.2.2.1, List.mem_append_left _ hh.2.2.2.1, by simp only [List.length_append, List.length_singleton]; omega⟩
      · exact hh
    · simp at hy
      subst hy
      have hh := h.has p hp
      simp only [Int.toNat_natCast, if_true]
      exact ⟨by omega, by omega, hx, by simp, by simp only [List.length_append, List.length_singleton]; omega⟩
/-- A page behind a crash. -/
theorem crash_page (f : Nat → Int) (q : Nat) : ∀ (l : List (Int × ByteArray)) (i : Nat) (d : List ByteArray), (crashAt f i d l).getD q nb = d.getD q nb ∨ ∃ x ∈ l, x.1.toNat = q ∧ ((crashAt f i d l).getD q nb = x.2 ∨ (crashAt f i d l).getD q nb = torn)
  | [], i, d => .inl rfl
  | x :: l, i, d => by
    rw [crashAt]
    rcases crash_page f q l (i + 1) (stepC (f i) d x) with h | ⟨y, hy, h1, h2⟩
    · rw [h]
      by_cases e : x.1.toNat = q
      · by_cases hq : q < d.length
        · unfold stepC
          split
          · exact .inr ⟨x, by simp, e, .inl (by simp [List.getD, e, hq])⟩
          · split
            · exact .inr ⟨x, by simp, e, .inr (by simp [List.getD, e, hq])⟩
            · exact .inl rfl
        · refine .inl ?_
          unfold stepC
          split
          · rw [List.set_eq_of_length_le (by omega)]
          · split
            · rw [List.set_eq_of_length_le (by omega)]
            · rfl
      · refine .inl ?_
        unfold stepC
        split
        · simp [List.getD, List.getElem?_set_ne e]
        · split
          · simp [List.getD, List.getElem?_set_ne e]
          · rfl
    · exact .inr ⟨y, List.mem_cons_of_mem _ hy, h1, h2⟩
theorem torn_ne (x : ByteArray) (h : x.size = 512) : x ≠ torn := by
  rintro rfl
  exact absurd h (by decide +kernel)
theorem nb_ne : nb ≠ torn := by decide +kernel
theorem Tear.page {n k : Nat} {s : DS} {rows : List RowV} (h : Tear n k s rows) (cs : List Int) (q : Nat) (hq : q < n) :
    (crashD s cs).dur.getD q nb ∈ (rows.getD q RowV.nil).xs ∧ ((crashD s cs).dur.getD q nb = torn → 2 < (rows.getD q RowV.nil).xs.length) := by
  have hh := h.has q hq
  have e0 : s.dur.getD q nb = nb := by rw [h.dur]; simp [List.getD, hq]
  show (crashAt (choiceOf cs) 0 s.dur s.pen).getD q nb ∈ _ ∧ _
  rcases crash_page (choiceOf cs) q s.pen 0 s.dur with h1 | ⟨x, hx, h1, h2⟩
  · have e : (crashD s cs).dur.getD q nb = nb := h1.trans e0
    rw [h1, e0, e]
    exact ⟨hh.1, fun he => absurd he nb_ne⟩
  · have hp := h.pen x hx
    rw [h1] at hp
    rcases h2 with h2 | h2
    · rw [h2]
      refine ⟨hp.2.2.2.1, fun he => ?_⟩
      exact hp.2.2.2.2
    · rw [h2]
      exact ⟨hh.2.1, fun _ => hp.2.2.2.2⟩

theorem index_l0 (a : List ByteArray) (x : ByteArray) (hb : a.length < 1000000000) : ∀ n i, i + n = a.length → x ∈ a.drop i → ∃ r : Int, 0 ≤ r ∧ slices_Index_string_string.l0 (n + 1) a x (a.length : Int) (i : Int) = some r
  | 0, i, h, hx => by
    rw [List.drop_eq_nil_of_le (by omega)] at hx
    simp at hx
  | n + 1, i, h, hx => by
    have hi : i < a.length := by omega
    have hw : wrap64 ((i : Int) + 1) = ((i + 1 : Nat) : Int) := by unfold wrap64; omega
    rw [slices_Index_string_string.l0, if_pos (by omega), if_pos (by omega), if_pos (by omega), hw]
    have e : rdOf ByteArray.empty a (i : Int) = a[i] := by simp [rdOf, List.getD, hi]
    rw [e]
    rw [List.drop_eq_getElem_cons hi] at hx
    rcases List.mem_cons.1 hx with hx | hx
    · rw [if_pos (by rw [hx])]
      exact ⟨i, by omega, rfl⟩
    · split
      · exact ⟨i, by omega, rfl⟩
      · exact index_l0 a x hb n (i + 1) (by omega) hx
theorem contains_f (a : List ByteArray) (x : ByteArray) (hb : a.length < 1000000000) (hx : x ∈ a) : slices_Contains_string_string.f (a.length + 1) a x = some true := by
  obtain ⟨r, h0, h1⟩ := index_l0 a x hb a.length 0 (by omega) (by simpa using hx)
  unfold slices_Contains_string_string.f slices_Index_string_string.f
  rw [show (0 : Int) = ((0 : Nat) : Int) from rfl, h1, Option.bind_some]
  simp [h0]
theorem Contains_S {w0 w : World} {ts : List Th} (h : SepT w0 w ts) (r : RowV) (hm : r.th ∈ ts) (hb : r.xs.length < 1000000000) (x : ByteArray) (hx : x ∈ r.xs) :
    Calls Try.prog 29 #[.slice r.A r.xs.length r.c, .string x] w fun e w' => e = .returned (.bool true) ∧ SepT w0 w' ts := by
  obtain ⟨ok, hr, _⟩ := SepT.get h hm
  have hr' : Kd.R Kd.string 9 w 0 ok (.slice r.A r.xs.length r.c) r.xs := hr
  obtain ⟨_, a1, a2⟩ := Kd.R_reads' hr'
  refine (slices_Contains_string_string.calls (r.xs.length + 1) r.A r.c r.xs x true w a2 a1 (contains_f r.xs x hb hx)).mono ?_
  rintro e w1 ⟨rfl, hd⟩
  exact ⟨rfl, h.below hd.below⟩
theorem info29 : (Try.prog.info? 29).map (fun i => (i.zero, i.size, i.bytes)) = some (some (.slice none 0 0), 1, 24) := by kernel_rfl
theorem make_rows (N : Nat) (hN : N ≤ 4096) : ∀ w : World, (Instr.makeSlice 61 (.int .i64 N) (.int .i64 N)).run Try.prog w = .ok (.slice (some ⟨w.heap.size, 0, none⟩) N N) (w.alloc (.cells (outer (List.replicate N RowV.nil)) 29)) := fun w => by
  obtain ⟨i0, hi, hzz⟩ := Option.map_eq_some_iff.1 info29
  simp only [Prod.mk.injEq] at hzz
  obtain ⟨hz0, hz1, hz2⟩ := hzz
  rw [run_make (P := Try.prog) w 61 29 i0 (.slice none 0 0) Try.underlying61 hi hz0 .i64 .i64 N N (by omega) (by omega) (by rw [hz2]; omega) (by omega)]
  simp only [Int.toNat_natCast, hz1]
  have e : madeCells (Value.slice none 0 0).cells (N * 1) = outer (List.replicate N RowV.nil) := by
    apply Array.ext
    · simp [madeCells, outer]
    · intro i h1 h2
      simp [madeCells, outer, Value.cells, RowV.val, RowV.nil, Nat.mod_one]
  rw [e]
theorem SepT.nils {w0 w : World} {ts : List Th} (h : SepT w0 w ts) : ∀ n, SepT w0 w (ts ++ (List.replicate n RowV.nil).map RowV.th)
  | 0 => by simpa using h
  | n + 1 => (((SepT.nils h n).addRow (Below.refl _ _) (Kd.R_nil Kd.string 9 _ _ (fun _ => True)) : SepT w0 w (RowV.nil.th :: (ts ++ (List.replicate n RowV.nil).map RowV.th)))).perm List.perm_middle.symm
/-- append onto a row of one's own, in a region that draws. -/
theorem SepT.appends_step {P : Program} {ops : Array Oper} {o : Oper} {a : Act} {Q : Exit → Act → World → Prop} {Kc : Act → World → Prop} {α : Type} (d : Kd α) {w0 W : World} {ts : List Th} (hw : Region.wanted o (yielded ops a.tmps) = true) (s x : Operand) (t e : TypeId) (z : Value) (bytes : Nat)
    (ho : o.op = .call { callee := .builtin .append, args := #[s, x], argTypes := #[t, t] })
    (ht : P.underlying t = some (.slice e)) (hinfo : (P.info? e).map (fun i => (i.zero, i.size, i.bytes)) = some (some z, d.sz, bytes)) (hz : z.cells.size = d.sz) (hs0 : 0 < d.sz) (hb0 : 0 < bytes)
    (v : Value) (xs : List α) (p : α) (cs : List Value) (hs : a.eval s = v) (hx : a.eval x = .slice (some ⟨W.heap.size, 0, none⟩) 1 1) (hp : d.M W 0 (fun _ => False) p cs)
    (S : SepT w0 W (rowT d e v xs :: ts)) (hl : (xs.length + 1) * bytes ≤ 140737488355328)
    (h : ∀ A c w1, SepT w0 w1 (rowT d e (.slice A (xs ++ [p]).length c) (xs ++ [p]) :: ts) → Kc (a.put o.dst (.slice A (xs ++ [p]).length c)) w1) :
    if Region.wanted o (yielded ops a.tmps) = true then Oper.wp P o a (W.alloc (.cells cs.toArray e)) Kc Q else Kc (a.put o.dst undef) (W.alloc (.cells cs.toArray e)) := by
  obtain ⟨ok, hR, h0, hk⟩ := S.focus
  have hR' : Kd.R d e W 0 ok v xs := hR
  refine Kd.R_append_step d (w0 := W) 0 hw s x t e z bytes ho ht hinfo hz hs0 hb0 v xs p cs (fun k => ok k ∨ W.heap.size ≤ k) (fun _ => False) hs hx hp (fun _ hk => hk.elim) (fun k hk => .inr hk) (Kd.R_mono hR' (fun k hk => .inl hk)) (Below.refl _ _) (Nat.zero_le _) hl ?_
  intro v1 w1 h1 _ hg _
  obtain ⟨A, c, rfl⟩ := Kd.R_slice h1
  exact h A c w1 (hk w1 (rowT d e _ (xs ++ [p])) ((Only.refl ok W).grown hg (fun k hk => .inl (hR'.1 k hk))) h1)
theorem m5 {a b c d e f : Th} {l : List Th} : a ∈ b :: c :: d :: e :: f :: a :: l := by simp
theorem doD_zero (s : DS) (a : S41) (h : Int.tmod a.f0 3 = 0) : doD s a = (writeD s a.f1.f0 a.f1.f1).1 := by
  unfold doD; rw [if_neg (by omega), if_neg (by omega)]
theorem writeD_skip (s : DS) (p : Int) (x : ByteArray) (h : p < 0 ∨ (s.dur.length : Int) ≤ p ∨ x.size ≠ 512) : (writeD s p x).1 = s := by
  unfold writeD
  by_cases h1 : hasB s.dur.length p = false
  · rw [if_pos h1]
  · have h1' : 0 ≤ p ∧ p < s.dur.length := by simpa [hasB] using h1
    rw [if_neg h1, if_pos (by omega)]
/-- The things of the law. -/
abbrev tears (b : Nat) (bm b8 g : Nat) (v0 v1 : Value) (s : DS) (rows : List RowV) : List Th := boxT bm (outer rows) 29 :: boxT b8 #[v0, v1] 32 :: refT b v0 v1 s.dur s.pen :: diskT g s :: rows.map RowV.th
theorem tear_fill {w0 wr : World} {t0 : Th} {ts : List Th} {rows : List RowV} {bm k : Nat} (S : SepT w0 wr (t0 :: boxT bm (outer rows) 29 :: (ts ++ rows.map RowV.th))) (hk : k < rows.length) (xs : List ByteArray) (hx : xs.length ≤ 1000000000) :
    SepT w0 ((wr.setCell ⟨bm, k, none⟩ (.slice (some ⟨wr.heap.size, 0, none⟩) xs.length xs.length)).alloc (.cells (xs.map Value.string).toArray 9)) (t0 :: boxT bm (outer (rows.set k ⟨some ⟨wr.heap.size, 0, none⟩, xs.length, xs⟩)) 29 :: (ts ++ (rows.set k ⟨some ⟨wr.heap.size, 0, none⟩, xs.length, xs⟩).map RowV.th)) := by
  have h1 := (SepT.rowOut (ts := t0 :: boxT bm (outer rows) 29 :: ts) S hk).drop
  have h2 : SepT w0 wr (boxT bm (outer rows) 29 :: t0 :: (ts ++ (rows.eraseIdx k).map RowV.th)) := SepT.swap h1
  have h3 := (h2.setBox k (.slice (some ⟨wr.heap.size, 0, none⟩) xs.length xs.length)).swap
  have h4 := h3.lit (enc := Value.string) (h1 := fun _ => rfl) 9 xs hx
  have hs : (wr.setCell ⟨bm, k, none⟩ (.slice (some ⟨wr.heap.size, 0, none⟩) xs.length xs.length)).heap.size = wr.heap.size := by simp
  rw [hs] at h4
  have h5 := SepT.rowIn (r := ⟨some ⟨wr.heap.size, 0, none⟩, xs.length, xs⟩) (ts := t0 :: boxT bm ((outer rows).setIfInBounds k (.slice (some ⟨wr.heap.size, 0, none⟩) xs.length xs.length)) 29 :: ts) h4 hk
  rw [outer_set]
  exact h5
theorem tear_put {w0 w6 : World} {a b c d : Th} {rows : List RowV} {bm q i n : Nat} {An : Option Addr} {cn : Nat} {xs : List ByteArray} (S : SepT w0 w6 (rowT Kd.string 9 (.slice An n cn) xs :: ([a, b, c, d, boxT bm (outer rows) 29] ++ (rows.eraseIdx q).map RowV.th))) (hi : i = q) (hn : n = xs.length) (hq : q < rows.length) :
    SepT w0 (w6.setCell ⟨bm, i, none⟩ (.slice An n cn)) (boxT bm (outer (rows.set q ⟨An, cn, xs⟩)) 29 :: a :: b :: c :: (rows.set q ⟨An, cn, xs⟩).map RowV.th) := by
  subst hi hn
  have h1 : SepT w0 w6 (rowT Kd.string 9 (.slice An xs.length cn) xs :: a :: b :: c :: d :: boxT bm (outer rows) 29 :: (rows.eraseIdx i).map RowV.th) := S
  have h2 := (h1.sixth.setBox i (.slice An xs.length cn)).sixth.drop.swap
  have h3 := SepT.rowIn (r := ⟨An, cn, xs⟩) (ts := [boxT bm ((outer rows).setIfInBounds i (.slice An xs.length cn)) 29, a, b, c]) h2 hq
  rw [outer_set]
  exact h3
attribute [local irreducible] Sep diskT rowT refT boxT
set_option maxHeartbeats 4000000 in
set_option maxRecDepth 100000 in
theorem DiskTears_few (w : World) (p : Nat) (hp : p < 256) (A : Option Addr) (c : Nat) (l : List S41) (hC : Kd.C k41 w A l.length l) (hl : l.length ≤ c) (hf : fewB l = true) (hpos : ∀ a ∈ l, 0 ≤ a.f0)
    (A2 : Option Addr) (c2 : Nat) (cs : List Int) (hC2 : Kd.C (Kd.int .i64) w A2 cs.length cs) (hl2 : cs.length ≤ c2) (hcs : (cs.length : Int) ≤ 20) :
    Calls Try.prog 7 #[.int .u8 p, .slice A l.length c, .slice A2 cs.length c2] w fun e w' => e = .returned (.bool true) ∧ Below w.heap.size w w' := by
  have S := Aside0.mk (SepT.start w)
  have HC := Aside0.mk hC
  have HC2 := Aside0.mk hC2
  have HP := Aside0.mk hpos
  clear hC hC2 hpos
  have HF := Aside0.mk hf
  have hlen := few_len hf
  have hm := Kd.C_max HC.out
  have hcs2 : cs.length < 1000000 := by omega
  obtain ⟨N, hN⟩ : ∃ N, pagesOf p = N := ⟨_, rfl⟩
  have hN2 : N ≤ 4096 := by rw [← hN]; exact (pagesOf_range p).2
  obtain ⟨s0, hs0⟩ : ∃ s0, newD N = s0 := ⟨_, rfl⟩
  have HS0 := Aside0.mk (show newD (pagesOf p) = s0 by rw [hN]; exact hs0)
  have HS1 := Aside0.mk (show List.replicate (pagesOf p) nb = s0.dur ∧ ([] : List (Int × ByteArray)) = s0.pen by rw [← hs0, hN]; exact ⟨rfl, rfl⟩)
  have HS2 := Aside0.mk (show syncD s0 = s0 by rw [← hs0]; rfl)
  have HS3 := Aside0.mk (show flush s0.dur s0.pen = s0.dur ∧ s0.dur = List.replicate N nb by rw [← hs0]; exact ⟨rfl, rfl⟩)
  have HG := Aside0.mk (show Good s0 N 0 by rw [← hs0]; exact Good.start N)
  have q1 : s0.log.length < 1000000 := by have := HG.out.log; omega
  have q2 : s0.pen.length < 1000000 := by have := HG.out.pen; omega
  have hsl : s0.dur.length = N := HG.out.dur
  have q3 : s0.dur.length ≤ 4096 := by omega
  have HQ : Aside0 (∀ x ∈ s0.pen, 0 ≤ x.1 ∧ x.1 < s0.dur.length) := ⟨by rw [← hs0]; simp [newD]⟩
  have HSL := Aside0.mk hsl
  clear hs0 hN hsl
  have hmk := make_rows N hN2
  go_enter Try.func7, Try.ntmps7
  go_wp2_with (first
    | (go_at_call 10; have hc := awake_S S.out; go_fit hc; clear hc; rintro e w1 ⟨rfl, hs⟩; clear S; have S := Aside0.mk hs; clear hs)
    | (go_at_call 11; have hc := Few_S S.out A c l HC.out hl hm; rw [HF.out] at hc; (with_reducible refine hc.mono ?_); clear hc; rintro e w1 ⟨rfl, hs⟩; clear S; have S := Aside0.mk hs; clear hs)
    | (go_at_call 14; have hc := start_S S.out p hp; rw [HS0.out] at hc; go_fit hc; clear hc; rintro e w1 ⟨g, A0, n0, c0, A1, n1, c1, rfl, hs⟩; rw [HS1.out.1, HS1.out.2] at hs; have S1 := Aside0.mk (hs.allocBox #[.slice A0 n0 c0, .slice A1 n1 c1] 32).third; clear S; have S := S1; clear S1 hs)
    | (go_at_call 25; have hc := Sync_S (s := s0) S.out q1 q2; rw [HS2.out] at hc; go_fit hc; clear hc; rintro e w2 ⟨rfl, hs⟩; clear S; have S := Aside0.mk hs; clear hs; have x6 := (SepT.box S.out m1).1; have y0 : w2.cell? ⟨w1.heap.size, 0, none⟩ = some (.slice A0 n0 c0) := (blk_cell x6 0).trans rfl; have y1 : w2.cell? ⟨w1.heap.size, 1, none⟩ = some (.slice A1 n1 c1) := (blk_cell x6 1).trans rfl; clear x6)
    | (go_at_call 28; have hc := refSync_S S.out m2 q3 q2 HQ.out; rw [HS3.out.1, HS1.out.2] at hc; go_fit hc; clear hc; rintro e w3 ⟨B0, k0, j0, B1, k1, j1, rfl, hs⟩; clear S; have S := Aside0.mk hs.third; clear hs; have x6 := (SepT.box S.out m0).1; clear y0 y1; have y0 : w3.cell? ⟨w1.heap.size, 0, none⟩ = some (.slice A0 n0 c0) := (blk_cell x6 0).trans rfl; have y1 : w3.cell? ⟨w1.heap.size, 1, none⟩ = some (.slice A1 n1 c1) := (blk_cell x6 1).trans rfl; have e0 := blk_frozen x6 0; have e1 := blk_frozen x6 1; have S1 := Aside0.mk ((S.out.setBox 0 (.slice B0 k0 j0)).setBox 1 (.slice B1 k1 j1)); clear S; have S := S1; clear S1 x6)
    | (go_at_call 22; have hc := Pages_S S.out (g := g) (s := s0) m2; rw [HSL.out] at hc; (with_reducible refine hc.mono ?_); clear hc; rintro e w' ⟨rfl, rfl⟩; have S1 := Aside0.mk (S.out.allocBox (outer (List.replicate N RowV.nil)) 29); clear S; have S := S1; clear S1)
    | (go_at_call 18; have hc := Image_S S.out (g := g) (s := s0) m3'; rw [HS3.out.1] at hc; (with_reducible refine hc.mono ?_); clear hc; rintro e w5 ⟨Ai, ci, rfl, hs⟩; clear S; have S := Aside0.mk hs; clear hs))
  generalize hbm : (World.setCell (World.setCell _ _ _) _ _).heap.size = bm at S
  have hbm2 : w3.heap.size = bm := by rw [← hbm]; simp
  rw [hbm2]
  clear hbm hbm2
  generalize w1.heap.size = b8 at S ⊢
  have hRI := SepT.get S.out m0
  have S1 := Aside0.mk (show SepT w w5 (rowT Kd.string 9 (.slice Ai s0.dur.length ci) s0.dur :: boxT bm (outer (List.replicate N RowV.nil)) 29 :: boxT b8 #[.slice B0 k0 j0, .slice B1 k1 j1] 32 :: refT w.heap.size (.slice B0 k0 j0) (.slice B1 k1 j1) s0.dur s0.pen :: diskT g s0 :: _) from S.out)
  clear S hRI y0 y1 e0 e1 hmk
  have S2 := Aside0.mk (SepT.drop (SepT.sixth S1.out))
  clear S1
  have S := Aside0.mk (S2.out.nils N)
  clear S2
  have hsl : s0.dur.length = N := HSL.out
  have hslen : decide ((0 : Nat) ≤ s0.dur.length) = true := by simp
  clear hsl hslen
  go_loopw [46] (fun v46 wr => ∃ (k : Nat) (rows : List RowV), k ≤ N ∧ v46 = .int .i64 k ∧ Aside0 (rows.length = N ∧ ∀ i, i < k → (rows.getD i RowV.nil).xs = [nb, torn]) ∧ Aside0 (SepT w wr ([rowT Kd.string 9 (.slice Ai s0.dur.length ci) s0.dur, boxT bm (outer rows) 29, boxT b8 #[.slice B0 k0 j0, .slice B1 k1 j1] 32, refT w.heap.size (.slice B0 k0 j0) (.slice B1 k1 j1) s0.dur s0.pen, diskT g s0] ++ rows.map RowV.th))) (fun v46 _ => N - (intOf v46).toNat)
  case atStart => exact ⟨0, List.replicate N RowV.nil, Nat.zero_le _, rfl, ⟨by simp, fun i hi => absurd hi (by omega)⟩, S⟩
  case round =>
    clear S
    obtain ⟨k, rows, hk, rfl, HR, S⟩ := hrel
    by_cases hlt : k < N
    · obtain ⟨okI, hRI, _⟩ := SepT.get S.out m0
      have hRI' : Kd.R Kd.string 9 wr 0 okI (.slice Ai s0.dur.length ci) s0.dur := by unfold rowT at hRI; exact hRI
      obtain ⟨_, a1, a2⟩ := Kd.R_reads' hRI'
      obtain ⟨ad, hAd, d0⟩ := str_at a2 k (by omega) (by have := HSL.out; omega)
      subst hAd
      rw [Int.toNat_natCast, show s0.dur.getD k nb = nb by rw [HS3.out.2]; simp [List.getD, hlt]] at d0
      have hkr : k < rows.length := by rw [HR.out.1]; exact hlt
      have xm := (SepT.box S.out m1).1
      have e0 := blk_frozen xm k
      have y0 : wr.cell? ⟨bm, k, none⟩ = some (rows.getD k RowV.nil).val := (blk_cell xm k).trans (outer_get hkr)
      have hbm := blk_lt xm
      clear hRI hRI' a1 a2 xm
      have hlt1 : (k : Int) < s0.dur.length := by have := HSL.out; omega
      have hlt2 : (k : Int) < N := by omega
      have hlt3 : k < s0.dur.length := by omega
      have S1 := Aside0.mk (tear_fill (ts := [boxT b8 #[.slice B0 k0 j0, .slice B1 k1 j1] 32, refT w.heap.size (.slice B0 k0 j0) (.slice B1 k1 j1) s0.dur s0.pen, diskT g s0]) S.out hkr [nb, torn] (by simp))
      have HR2 : Aside0 ((rows.set k ⟨some ⟨wr.heap.size, 0, none⟩, 2, [nb, torn]⟩).length = N ∧ ∀ i, i < k + 1 → ((rows.set k ⟨some ⟨wr.heap.size, 0, none⟩, 2, [nb, torn]⟩).getD i RowV.nil).xs = [nb, torn]) := ⟨by rw [List.length_set]; exact HR.out.1, fun i hi => by
        rw [getD_set hkr]
        split
        · rfl
        · exact HR.out.2 i (by omega)⟩
      clear S
      go_wp2
      go_roundw
      case rel => exact ⟨k + 1, _, by omega, by go_num, HR2, S1⟩
      case measure => simp [intOf]; omega
    · obtain rfl : k = N := by omega
      have HT : Aside0 (Tear k 0 s0 rows) := ⟨HR.out.1, HS3.out.2, fun i hi => by rw [HR.out.2 i hi]; simp, fun x hx => by rw [← HS1.out.2] at hx; simp at hx⟩
      have S1 := Aside0.mk (SepT.drop S.out)
      clear S HR
      have S := Aside0.mk (show SepT w wr (tears w.heap.size bm b8 g (.slice B0 k0 j0) (.slice B1 k1 j1) s0 rows) from S1.out)
      clear S1 hlt hk
      have hge : decide (k < s0.dur.length) = false := decide_eq_false (by have := HSL.out; omega)
      go_wp2
      clear hge
      generalize k = N at *
      go_loopw [59] (fun v59 wr => ∃ (k : Nat) (s : DS) (rows : List RowV) (B0 : Option Addr) (k0 j0 : Nat) (B1 : Option Addr) (k1 j1 : Nat), k ≤ l.length ∧ v59 = .int .i64 k ∧ Good s N k ∧ Aside0 (Tear N k s rows) ∧ Aside0 (SepT w wr (tears w.heap.size bm b8 g (.slice B0 k0 j0) (.slice B1 k1 j1) s rows))) (fun v59 _ => l.length - (intOf v59).toNat)
      case atStart => exact ⟨0, s0, rows, B0, k0, j0, B1, k1, j1, Nat.zero_le _, rfl, HG.out, HT, S⟩
      case round =>
        clear S HT HG q1 q2 q3
        obtain ⟨k, s, rows, B0, k0, j0, B1, k1, j1, hk, rfl, hG, HT, S⟩ := hrel
        by_cases hlt : k < l.length
        · have hlt2 : (k : Int) < l.length := by omega
          have hcs4 := few_choices HF.out hlt
          obtain ⟨ad, A4, c4, hAd, d0, d1, d2, d3, d4, hl4, hC4⟩ := at_T41 HC.out k (by omega) (by omega)
          subst hAd
          have hB := (Sep.base S.out)
          have HC4 := Aside0.mk hC4
          have hpen : s.pen.length < 1000000 := by have := hG.pen; omega
          have hlog : s.log.length < 1000000 := by have := hG.log; omega
          have hsd : s.dur.length = N := hG.dur
          have HSD := Aside0.mk hsd
          clear hsd
          generalize rd_T41 l k = a at d0 d1 d2 d3 d4 hl4 HC4 hcs4
          have hG2 := hG.do a
          replace d0 := pw_cell_below hB d0
          replace d1 := pw_cell_below hB d1
          replace d2 := pw_cell_below hB d2
          replace d3 := pw_cell_below hB d3
          replace d4 := pw_cell_below hB d4
          simp only [Int.toNat_natCast] at d0 d1 d2 d3 d4
          have x12 := (SepT.box S.out m1).1
          have y0 : wr.cell? ⟨b8, 0, none⟩ = some (.slice B0 k0 j0) := (blk_cell x12 0).trans rfl
          have y1 : wr.cell? ⟨b8, 1, none⟩ = some (.slice B1 k1 j1) := (blk_cell x12 1).trans rfl
          have hb12 := blk_lt x12
          clear x12 hC4 hB
          by_cases hm0 : Int.tmod a.f0 3 = 0
          · have hm0b : (Int.tmod a.f0 3 != 0) = false := by simp [hm0]
            have HD := Aside0.mk (doD_zero s a hm0)
            clear hm0
            have S1 := Aside0.mk (SepT.fifth (SepT.fifth (S.out.allocBox #[.int .u8 a.f0, .int .i64 a.f1.f0, .string a.f1.f1, .bool a.f1.f2, .slice A4 a.f2.length c4] 41)))
            clear S
            have S := S1
            clear S1
            go_upto_region 24 with (first
              | (go_at_call 15; have hc := do_S S.out a A4 c4 HC4.out hl4 hcs4 hpen hlog; go_fit hc; clear hc; rintro e w2 ⟨B2, k2, j2, B3, k3, j3, rfl, hs⟩; clear S; have S := Aside0.mk hs; clear hs; have x12 := (SepT.box S.out m4).1; have z0 : w2.cell? ⟨b8, 0, none⟩ = some (.slice B0 k0 j0) := (blk_cell x12 0).trans rfl; have z1 : w2.cell? ⟨b8, 1, none⟩ = some (.slice B1 k1 j1) := (blk_cell x12 1).trans rfl; have e0 := blk_frozen x12 0; have e1 := blk_frozen x12 1; have hlt12 := blk_lt x12; clear x12))
            have S1 := Aside0.mk (((S.out.fifth.setBox 0 (.slice B2 k2 j2)).setBox 1 (.slice B3 k3 j3)).alloc (.cells #[.slice B2 k2 j2, .slice B3 k3 j3] 32))
            clear S
            have S := Aside0.mk (show SepT w _ (boxT b8 #[.slice B2 k2 j2, .slice B3 k3 j3] 32 :: _) from S1.out)
            clear S1 y0 y1 z0 z1 e0 e1 d0 d1 d2 d3 d4 hlt12 hb12
            generalize (World.setCell (World.setCell _ _ _) _ _).alloc _ = W2 at S ⊢
            generalize w2.heap.size = b14
            have t1 : W2.cell? ⟨wr.heap.size, 1, none⟩ = some (.int .i64 a.f1.f0) := (blk_cell (SepT.box S.out m3').1 1).trans rfl
            have t2 : W2.cell? ⟨wr.heap.size, 2, none⟩ = some (.string a.f1.f1) := (blk_cell (SepT.box S.out m3').1 2).trans rfl
            by_cases h1 : a.f1.f0 < 0
            · have hw : Aside0 (doD s a = s) := ⟨HD.out.trans (writeD_skip s _ _ (by rw [HSD.out]; omega))⟩
              have S1 := Aside0.mk (SepT.fourth (SepT.drop (SepT.fourth S.out)))
              clear S
              go_wp2
              have HW2 : Aside0 (SepT w W2 (tears w.heap.size bm b8 g (.slice B2 k2 j2) (.slice B3 k3 j3) s rows) ∧ Good s N (k + 1)) := ⟨by
                have h1 := S1.out
                have h2 := hG2
                rw [hw.out] at h1 h2
                exact ⟨h1, h2⟩⟩
              clear S1
              go_roundw
              case rel => exact ⟨k + 1, s, rows, B2, k2, j2, B3, k3, j3, by omega, by go_num, HW2.out.2, ⟨HT.out.keep⟩, ⟨HW2.out.1⟩⟩
              case measure => simp [intOf]; omega
            · replace h1 : 0 ≤ a.f1.f0 := by omega
              by_cases h2 : (N : Int) ≤ a.f1.f0
              · have hw : Aside0 (doD s a = s) := ⟨HD.out.trans (writeD_skip s _ _ (by rw [HSD.out]; omega))⟩
                have S1 := Aside0.mk (SepT.fourth (SepT.drop (SepT.fourth S.out)))
                clear S
                go_wp2
                have HW2 : Aside0 (SepT w W2 (tears w.heap.size bm b8 g (.slice B2 k2 j2) (.slice B3 k3 j3) s rows) ∧ Good s N (k + 1)) := ⟨by
                  have h1 := S1.out
                  have h2 := hG2
                  rw [hw.out] at h1 h2
                  exact ⟨h1, h2⟩⟩
                clear S1
                go_roundw
                case rel => exact ⟨k + 1, s, rows, B2, k2, j2, B3, k3, j3, by omega, by go_num, HW2.out.2, ⟨HT.out.keep⟩, ⟨HW2.out.1⟩⟩
                case measure => simp [intOf]; omega
              · replace h2 : a.f1.f0 < (N : Int) := by omega
                by_cases h3 : a.f1.f1.size ≠ 512
                · have sb : ((a.f1.f1.size : Int) == 512) = false := by simp; omega
                  have hw : Aside0 (doD s a = s) := ⟨HD.out.trans (writeD_skip s _ _ (by rw [HSD.out]; omega))⟩
                  have S1 := Aside0.mk (SepT.fourth (SepT.drop (SepT.fourth S.out)))
                  clear S
                  go_wp2
                  have HW2 : Aside0 (SepT w W2 (tears w.heap.size bm b8 g (.slice B2 k2 j2) (.slice B3 k3 j3) s rows) ∧ Good s N (k + 1)) := ⟨by
                    have h1 := S1.out
                    have h2 := hG2
                    rw [hw.out] at h1 h2
                    exact ⟨h1, h2⟩⟩
                  clear S1
                  go_roundw
                  case rel => exact ⟨k + 1, s, rows, B2, k2, j2, B3, k3, j3, by omega, by go_num, HW2.out.2, ⟨HT.out.keep⟩, ⟨HW2.out.1⟩⟩
                  case measure => simp [intOf]; omega
                · replace h3 : a.f1.f1.size = 512 := by omega
                  have sb : ((a.f1.f1.size : Int) == 512) = true := by rw [h3]; rfl
                  obtain ⟨q, hq⟩ : ∃ q, a.f1.f0.toNat = q := ⟨_, rfl⟩
                  have hqi : (q : Int) = a.f1.f0 := by omega
                  have hqN : q < N := by omega
                  have hqr : q < rows.length := by rw [HT.out.len]; exact hqN
                  obtain ⟨r, hr⟩ : ∃ r, rows.getD q RowV.nil = r := ⟨_, rfl⟩
                  have HW : Aside0 (writeD s a.f1.f0 a.f1.f1 = (noted { s with pen := s.pen ++ [(a.f1.f0, a.f1.f1)] } (a.f1.f0, a.f1.f1, false), 0)) := ⟨writeD_ok s _ _ (by rw [HSD.out]; omega) h3⟩
                  have HDP : Aside0 ((doD s a).pen = s.pen ++ [((q : Int), a.f1.f1)]) := ⟨by rw [HD.out, HW.out, noted_pen, hqi]⟩
                  have HDD : Aside0 ((doD s a).dur = s.dur) := ⟨by rw [HD.out, writeD_dur]⟩
                  have HH := Aside0.mk (HT.out.has q hqN).2.2.2
                  rw [hr] at HH
                  have HX := Aside0.mk h3
                  have xm := (SepT.box S.out m4).1
                  have u0 : W2.cell? ⟨bm, a.f1.f0.toNat, none⟩ = some r.val := (blk_cell xm _).trans (by rw [hq, outer_get hqr, hr])
                  have HOG : Aside0 ((outer rows)[a.f1.f0.toNat]? = some r.val) := ⟨by rw [hq, outer_get hqr, hr]⟩
                  have hbl := blk_lt xm
                  have hbl13 := blk_lt (SepT.box S.out m3').1
                  have HQ := Aside0.mk hq
                  have HRr := Aside0.mk hr
                  have S1 := Aside0.mk (SepT.rowOut (ts := [boxT b8 #[.slice B2 k2 j2, .slice B3 k3 j3] 32, refT w.heap.size (.slice B2 k2 j2) (.slice B3 k3 j3) (doD s a).dur (doD s a).pen, diskT g (doD s a), boxT wr.heap.size #[.int .u8 a.f0, .int .i64 a.f1.f0, .string a.f1.f1, .bool a.f1.f2, .slice A4 a.f2.length c4] 41, boxT bm (outer rows) 29]) S.out hqr).drew
                  rw [hr] at S1
                  have S2 := Aside0.mk (show SepT w W2.drew (rowT Kd.string 9 r.val r.xs :: _) from S1.out)
                  clear xm hq hqi h3 hr S S1 
                  go_wp2
                  go_region_law ((refine SepT.appends_step Kd.string rfl (.tmp 100) (.tmp 104) 29 9 (.string ⟨#[]⟩) 16 rfl Try.underlying29 info9 rfl (by decide) (by omega) r.val r.xs a.f1.f1 [.string a.f1.f1] (by simp [Act.eval]) (by simp [Act.eval]) rfl S2.out (by have := HH.out; omega) ?_); (intro An cn w6 ho; have S4 := Aside0.mk ho; clear ho; have xm := (SepT.box S4.out m5).1; have u1 : w6.cell? ⟨bm, a.f1.f0.toNat, none⟩ = some r.val := (blk_cell xm _).trans HOG.out; have u2 := blk_frozen xm a.f1.f0.toNat; clear xm))
                  all_goals
                    have hs := S4.out
                    rw [List.length_append, List.length_singleton] at hs
                    have S5 := Aside0.mk (tear_put (n := r.xs.length + 1) hs HQ.out (by simp) hqr)
                    have HT2 := Aside0.mk (HT.out.write (s' := doD s a) q a.f1.f1 hqN HX.out HDD.out HDP.out An cn)
                    rw [HRr.out] at HT2
                    clear S4 hs u1 u2
                    go_wp2
                    go_roundw
                    case rel => exact ⟨k + 1, doD s a, _, B2, k2, j2, B3, k3, j3, by omega, by go_num, hG2, HT2, S5⟩
                    case measure => simp [intOf]; omega
          · have hm0b : (Int.tmod a.f0 3 != 0) = true := by simp [hm0]
            have S1 := Aside0.mk (SepT.drop (S.out.allocBox #[.int .u8 a.f0, .int .i64 a.f1.f0, .string a.f1.f1, .bool a.f1.f2, .slice A4 a.f2.length c4] 41))
            clear S hm0
            go_wp2
            go_roundw
            case rel => exact ⟨k + 1, s, rows, B0, k0, j0, B1, k1, j1, by omega, by go_num, ⟨hG.dur, by have := hG.pen; omega, by have := hG.log; omega, hG.full⟩, ⟨HT.out.keep⟩, S1⟩
            case measure => simp [intOf]; omega
        · obtain rfl : k = l.length := by omega
          have hpen : s.pen.length < 1000000 := by have := hG.pen; omega
          obtain ⟨sc, hsc⟩ : ∃ sc, crashD s cs = sc := ⟨_, rfl⟩
          have HPG := Aside0.mk (show ∀ q, q < N → sc.dur.getD q nb ∈ (rows.getD q RowV.nil).xs ∧ (sc.dur.getD q nb = torn → 2 < (rows.getD q RowV.nil).xs.length) by rw [← hsc]; exact fun q hq => HT.out.page cs q hq)
          have HSC := Aside0.mk hsc
          have HFS : Aside0 (flush sc.dur sc.pen = sc.dur) := ⟨by rw [← hsc]; rfl⟩
          have hcl : Aside0 (sc.dur.length = N) := ⟨by rw [← hsc]; show (crashAt _ _ _ _).length = N; rw [crashAt_length]; exact hG.dur⟩
          have S1 := Aside0.mk S.out.fourth
          clear S hsc
          have S := S1
          clear S1
          go_wp2_with (first
            | (go_at_call 24; have hc := Crash_S (s := s) (g := g) S.out A2 c2 cs HC2.out hl2 hcs2 hpen; rw [HSC.out] at hc; (with_reducible refine hc.mono ?_); clear hc; rintro e w4 ⟨rfl, hs⟩; clear S; have S := Aside0.mk hs; clear hs)
            | (go_at_call 18; have hc := Image_S S.out (g := g) (s := sc) m0; rw [HFS.out] at hc; (with_reducible refine hc.mono ?_); clear hc; rintro e wi ⟨Aj, cj, rfl, hs⟩; clear S; have S := Aside0.mk hs; clear hs))
          go_loopw [114] (fun v114 wr => ∃ k : Nat, k ≤ N ∧ v114 = .int .i64 k ∧ Aside0 (SepT w wr ([rowT Kd.string 9 (.slice Aj sc.dur.length cj) sc.dur, diskT g sc, boxT bm (outer rows) 29, boxT b8 #[.slice B0 k0 j0, .slice B1 k1 j1] 32, refT w.heap.size (.slice B0 k0 j0) (.slice B1 k1 j1) s.dur s.pen] ++ rows.map RowV.th))) (fun v114 _ => N - (intOf v114).toNat)
          case atStart => exact ⟨0, Nat.zero_le _, rfl, S⟩
          case round =>
            clear S
            obtain ⟨k, hk, rfl, S⟩ := hrel
            by_cases hlt : k < N
            · obtain ⟨okI, hRI, _⟩ := SepT.get S.out m0
              have hRI' : Kd.R Kd.string 9 wr 0 okI (.slice Aj sc.dur.length cj) sc.dur := by unfold rowT at hRI; exact hRI
              obtain ⟨_, a1, a2⟩ := Kd.R_reads' hRI'
              obtain ⟨ad, hAd, d0⟩ := str_at a2 k (by omega) (by have := hcl.out; omega)
              subst hAd
              rw [Int.toNat_natCast] at d0
              have hkr : k < rows.length := by rw [HT.out.len]; exact hlt
              have xm := (SepT.box S.out m2).1
              obtain ⟨r, hr⟩ : ∃ r, rows.getD k RowV.nil = r := ⟨_, rfl⟩
              have HOG : Aside0 ((outer rows)[k]? = some (.slice r.A r.xs.length r.c)) := ⟨by rw [outer_get hkr, hr]; rfl⟩
              have y0 : wr.cell? ⟨bm, k, none⟩ = some (.slice r.A r.xs.length r.c) := (blk_cell xm k).trans HOG.out
              have hbm := blk_lt xm
              have hlt1 : (k : Int) < sc.dur.length := by have := hcl.out; omega
              have hlt2 : (k : Int) < N := by omega
              have hlt3 : k < sc.dur.length := by omega
              have hpg := HPG.out k hlt
              have hrl := (HT.out.has k hlt).2.2.2
              rw [hr] at hpg hrl
              obtain ⟨x, hx⟩ : ∃ x, sc.dur.getD k nb = x := ⟨_, rfl⟩
              rw [hx] at hpg d0
              have hxl : r.xs.length < 1000000000 := by omega
              have hmem : r.th ∈ ([rowT Kd.string 9 (.slice (some ad) sc.dur.length cj) sc.dur, diskT g sc, boxT bm (outer rows) 29, boxT b8 #[.slice B0 k0 j0, .slice B1 k1 j1] 32, refT w.heap.size (.slice B0 k0 j0) (.slice B1 k1 j1) s.dur s.pen] ++ rows.map RowV.th) := List.mem_append_right _ (List.mem_map_of_mem (by rw [← hr]; simp [List.getD, hkr]))
              have HM := Aside0.mk (And.intro hmem hpg.1)
              clear hRI hRI' a1 a2 xm hr hx hmem
              by_cases hxt : x = torn
              · have hx2 : (x.toList == [33]) = true := by rw [hxt]; decide +kernel
                have hl2b : ((r.xs.length : Int) == 2) = false := by have := hpg.2 hxt; simp; omega
                clear hpg hxt hrl
                go_wp2_with (go_at_call 29; have hc := Contains_S S.out r HM.out.1 hxl x HM.out.2; go_fit hc; clear hc; rintro e wk ⟨rfl, hs⟩; clear S; have S := Aside0.mk hs; clear hs; have xm := (SepT.box S.out m2).1; have y1 : wk.cell? ⟨bm, k, none⟩ = some (.slice r.A r.xs.length r.c) := (blk_cell xm k).trans HOG.out; clear xm)
                go_roundw
                case rel => exact ⟨k + 1, by omega, by go_num, S⟩
                case measure => simp [intOf]; omega
              · have hx2 : (x.toList == [33]) = false := by
                  cases h : (x.toList == [33]) with
                  | false => rfl
                  | true => exact absurd (bytes_eq.mp (by rw [eq_of_beq h, ByteArray.toList_eq])) hxt
                clear hpg hxt hrl
                go_wp2_with (go_at_call 29; have hc := Contains_S S.out r HM.out.1 hxl x HM.out.2; go_fit hc; clear hc; rintro e wk ⟨rfl, hs⟩; clear S; have S := Aside0.mk hs; clear hs; have xm := (SepT.box S.out m2).1; have y1 : wk.cell? ⟨bm, k, none⟩ = some (.slice r.A r.xs.length r.c) := (blk_cell xm k).trans HOG.out; clear xm)
                go_roundw
                case rel => exact ⟨k + 1, by omega, by go_num, S⟩
                case measure => simp [intOf]; omega
            · have hge : decide (k < sc.dur.length) = false := decide_eq_false (by have := hcl.out; omega)
              clear hlt
              go_wp2
              go_ret
              exact ⟨rfl, Sep.base S.out⟩

set_option maxHeartbeats 2000000 in
set_option maxRecDepth 100000 in
theorem DiskTears_law (w : World) (p : Nat) (hp : p < 256) (A : Option Addr) (c : Nat) (l : List S41) (hC : Kd.C k41 w A l.length l) (hl : l.length ≤ c) (hpos : ∀ a ∈ l, 0 ≤ a.f0)
    (A2 : Option Addr) (c2 : Nat) (cs : List Int) (hC2 : Kd.C (Kd.int .i64) w A2 cs.length cs) (hl2 : cs.length ≤ c2) :
    Calls Try.prog 7 #[.int .u8 p, .slice A l.length c, .slice A2 cs.length c2] w fun e w' => e = .returned (.bool true) ∧ Below w.heap.size w w' := by
  have S := Aside0.mk (SepT.start w)
  have HC := Aside0.mk hC
  have hm := Kd.C_max hC
  by_cases hf : fewB l = true
  · by_cases hcs : (cs.length : Int) ≤ 20
    · exact DiskTears_few w p hp A c l hC hl hf hpos A2 c2 cs hC2 hl2 hcs
    · have hcs2 : (20 : Int) < cs.length := by omega
      clear hC hC2 hcs hpos
      have HF := Aside0.mk hf
      go_enter Try.func7, Try.ntmps7
      go_wp2_with (first
        | (go_at_call 10; have hc := awake_S S.out; go_fit hc; clear hc; rintro e w1 ⟨rfl, hs⟩; clear S; have S := Aside0.mk hs; clear hs)
        | (go_at_call 11; have hc := Few_S S.out A c l HC.out hl hm; rw [HF.out] at hc; (with_reducible refine hc.mono ?_); clear hc; rintro e w1 ⟨rfl, hs⟩; clear S; have S := Aside0.mk hs; clear hs))
      go_ret
      exact ⟨rfl, Sep.base S.out⟩
  · have HF := Aside0.mk (show fewB l = false by simpa using hf)
    clear hC hC2 hpos
    go_enter Try.func7, Try.ntmps7
    go_wp2_with (first
      | (go_at_call 10; have hc := awake_S S.out; go_fit hc; clear hc; rintro e w1 ⟨rfl, hs⟩; clear S; have S := Aside0.mk hs; clear hs)
      | (go_at_call 11; have hc := Few_S S.out A c l HC.out hl hm; rw [HF.out] at hc; (with_reducible refine hc.mono ?_); clear hc; rintro e w1 ⟨rfl, hs⟩; clear S; have S := Aside0.mk hs; clear hs))
    go_ret
    exact ⟨rfl, Sep.base S.out⟩
end Go.Proofs.Ytccomlafacdcjaa.Dk
