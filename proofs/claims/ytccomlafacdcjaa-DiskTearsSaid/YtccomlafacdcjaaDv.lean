/-
  The reference's calls on things apart.
-/
import Derived.Test.YtccomlafacdcjaaDj
import Derived.Test.YtccomlafacdcjaaDu
namespace Go.Proofs.Ytccomlafacdcjaa.Dk
open Go.RowKit Go.Proofs.YtccomlafacdcjaaW.PrintWords Go.Proofs.YtccomlafacdcjaaW.PrintMore
open Go.Proofs.Ytccomlafacdcjaa.Ref
set_option linter.unusedVariables false

/-- A reference disk in memory: two rows. -/
def refT (b : Nat) (v0 v1 : Value) (d : List ByteArray) (l : List (Int × ByteArray)) : Th :=
  ⟨fun w ok => Kd.R Kd.string 9 w b ok v0 d ∧ Kd.R k81 81 w b ok v1 (pen81 l), fun h h1 h2 =>
    ⟨Kd.R_mono (Kd.R_move (Kd.R_bound h.1) (fun k hk => h1 k hk.1 hk.2.2.1)) (fun k hk => h2 k hk.1 hk.2.2.1),
     Kd.R_mono (Kd.R_move (Kd.R_bound h.2) (fun k hk => h1 k hk.1 hk.2.2.1)) (fun k hk => h2 k hk.1 hk.2.2.1)⟩⟩

variable {w0 w : World} {ts : List Th} {v0 v1 : Value} {d : List ByteArray} {l : List (Int × ByteArray)}
theorem ref_new {w1 : World} {ok : Nat → Prop} {b B : Nat} (hB : b ≤ B) (h1 : Kd.R Kd.string 9 w1 B ok v0 d) (h2 : Kd.R k81 81 w1 B ok v1 (pen81 l)) : (refT b v0 v1 d l).P w1 (fun k => B ≤ k) :=
  ⟨Kd.R_lower (Kd.R_mono (Kd.R_bound h1) (fun k hk => hk.2.1)) hB, Kd.R_lower (Kd.R_mono (Kd.R_bound h2) (fun k hk => hk.2.1)) hB⟩
theorem SepT.addRef {w1 : World} (h : SepT w0 w ts) (hb : Below w.heap.size w w1) {ok : Nat → Prop} (h1 : Kd.R Kd.string 9 w1 w.heap.size ok v0 d) (h2 : Kd.R k81 81 w1 w.heap.size ok v1 (pen81 l)) : SepT w0 w1 (refT w0.heap.size v0 v1 d l :: ts) :=
  h.add hb _ (ref_new (Sep.base h).size h1 h2)
/-- A reference as it is read. -/
theorem SepT.ref (h : SepT w0 w ts) (hm : refT w0.heap.size v0 v1 d l ∈ ts) : ∃ A0 c0 A1 c1, v0 = .slice A0 d.length c0 ∧ v1 = .slice A1 (pen81 l).length c1 ∧ d.length ≤ c0 ∧ (pen81 l).length ≤ c1 ∧ Kd.C Kd.string w A0 d.length d ∧ Kd.C k81 w A1 (pen81 l).length (pen81 l) := by
  obtain ⟨ok, ⟨h1, h2⟩, _⟩ := SepT.get h hm
  obtain ⟨A0, c0, e0, l0, C0⟩ := Kd.R_reads h1
  obtain ⟨A1, c1, e1, l1, C1⟩ := Kd.R_reads h2
  exact ⟨A0, c0, A1, c1, e0, e1, l0, l1, C0, C1⟩

/-- Both rows are slices. -/
theorem SepT.refForm (h : SepT w0 w ts) (hm : refT w0.heap.size v0 v1 d l ∈ ts) : ∃ A0 n0 c0 A1 n1 c1, v0 = .slice A0 n0 c0 ∧ v1 = .slice A1 n1 c1 := by
  obtain ⟨A0, c0, A1, c1, e0, e1, _⟩ := SepT.ref h hm
  exact ⟨A0, _, c0, A1, _, c1, e0, e1⟩
theorem SepT.refLen {A0 A1 : Option Addr} {n0 c0 n1 c1 : Nat} (h : SepT w0 w ts) (hm : refT w0.heap.size (.slice A0 n0 c0) (.slice A1 n1 c1) d l ∈ ts) : n0 = d.length ∧ n1 = l.length := by
  obtain ⟨A0, c0, A1, c1, e0, e1, _⟩ := SepT.ref h hm
  injection e0 with _ e0 _
  injection e1 with _ e1 _
  rw [pen81_length] at e1
  exact ⟨e0, e1⟩

theorem refNew_S (h : SepT w0 w ts) (n : Nat) (h1 : 1 ≤ n) (h2 : n ≤ 4096) :
    Calls Try.prog 13 #[.int .i64 n] w fun e w' => ∃ A0 n0 c0 A1 n1 c1, e = .returned (.tuple #[.agg #[.slice A0 n0 c0, .slice A1 n1 c1], .int .i64 0]) ∧ SepT w0 w' (refT w0.heap.size (.slice A0 n0 c0) (.slice A1 n1 c1) (List.replicate n nb) [] :: ts) := by
  refine (modcertref50_New.calls n _ _ _ w (new_f n h1 h2)).mono ?_
  rintro e w1 ⟨v0, v1, rfl, hR0, hR1, hb⟩
  have h' := h.addRef (l := []) hb hR0 hR1
  obtain ⟨A0, n0, c0, A1, n1, c1, rfl, rfl⟩ := SepT.refForm h' m0
  exact ⟨A0, n0, c0, A1, n1, c1, rfl, h'⟩
theorem refNew_no (n : Int) (hn : n < 1 ∨ 4096 < n) (w : World) :
    Calls Try.prog 13 #[.int .i64 n] w fun e w' => ∃ v0 v1, e = .returned (.tuple #[.agg #[v0, v1], .int .i64 2]) ∧ Below w.heap.size w w' := by
  refine (modcertref50_New.calls n _ _ _ w (new_f_no n hn)).mono ?_
  rintro e w1 ⟨v0, v1, rfl, hR0, hR1, hb⟩
  exact ⟨v0, v1, rfl, hb⟩
theorem refCrash_S (h : SepT w0 w ts) (hm : refT w0.heap.size v0 v1 d l ∈ ts) (A : Option Addr) (c : Nat) (cs : List Int) (hC : Kd.C (Kd.int .i64) w0 A cs.length cs) (hl : cs.length ≤ c) (hc : cs.length < 1000000) (hd : d.length ≤ 4096) (hlen : l.length < 1000000) (hb : ∀ x ∈ l, 0 ≤ x.1 ∧ x.1 < d.length) :
    Calls Try.prog 35 #[.agg #[v0, v1], .slice A cs.length c] w fun e w' => ∃ A0 n0 c0 A1 n1 c1, e = .returned (.agg #[.slice A0 n0 c0, .slice A1 n1 c1]) ∧ SepT w0 w' (refT w0.heap.size (.slice A0 n0 c0) (.slice A1 n1 c1) (crashAt (choiceOf cs) 0 d l) [] :: ts) := by
  obtain ⟨A0, c0, A1, c1, rfl, rfl, l0, l1, C0, C1⟩ := SepT.ref h hm
  refine (modcertref50_Crash.calls _ A0 c0 d A1 c1 (pen81 l) A c cs _ _ w C0 l0 C1 l1 (Kd.C_below hC (Sep.base h)) hl (crash_f cs (by omega) d hd l (by omega) hb)).mono ?_
  rintro e w1 ⟨v0, v1, rfl, hR0, hR1, hb⟩
  have h' := h.addRef (l := []) hb hR0 hR1
  obtain ⟨A0, n0, c0, A1, n1, c1, rfl, rfl⟩ := SepT.refForm h' m0
  exact ⟨A0, n0, c0, A1, n1, c1, rfl, h'⟩
theorem refSync_S (h : SepT w0 w ts) (hm : refT w0.heap.size v0 v1 d l ∈ ts) (hd : d.length ≤ 4096) (hlen : l.length < 1000000) (hb : ∀ x ∈ l, 0 ≤ x.1 ∧ x.1 < d.length) :
    Calls Try.prog 28 #[.agg #[v0, v1]] w fun e w' => ∃ A0 n0 c0 A1 n1 c1, e = .returned (.agg #[.slice A0 n0 c0, .slice A1 n1 c1]) ∧ SepT w0 w' (refT w0.heap.size (.slice A0 n0 c0) (.slice A1 n1 c1) (flush d l) [] :: ts) := by
  obtain ⟨A0, c0, A1, c1, rfl, rfl, l0, l1, C0, C1⟩ := SepT.ref h hm
  refine (modcertref50_Sync.calls _ A0 c0 d A1 c1 (pen81 l) _ _ w C0 l0 C1 l1 (sync_f d hd l (by omega) hb)).mono ?_
  rintro e w1 ⟨v0, v1, rfl, hR0, hR1, hb⟩
  have h' := h.addRef (l := []) hb hR0 hR1
  obtain ⟨A0, n0, c0, A1, n1, c1, rfl, rfl⟩ := SepT.refForm h' m0
  exact ⟨A0, n0, c0, A1, n1, c1, rfl, h'⟩
theorem refRead_S (h : SepT w0 w ts) (hm : refT w0.heap.size v0 v1 d l ∈ ts) (p : Int) (hd : d.length ≤ 4096) (hlen : l.length < 1000000) (hb : ∀ x ∈ l, 0 ≤ x.1 ∧ x.1 < d.length) :
    Calls Try.prog 21 #[.agg #[v0, v1], .int .i64 p] w fun e w' => e = .returned (.tuple #[.string (readF d l p).1, .int .i64 (readF d l p).2]) ∧ SepT w0 w' ts := by
  obtain ⟨A0, c0, A1, c1, rfl, rfl, l0, l1, C0, C1⟩ := SepT.ref h hm
  refine (modcertref50_Read.calls _ A0 c0 d A1 c1 (pen81 l) p _ _ w C0 l0 C1 l1 (read_f d hd l (by omega) hb p)).mono ?_
  rintro e w1 ⟨rfl, hb⟩
  exact ⟨rfl, h.below hb⟩
theorem refImage_S (h : SepT w0 w ts) (hm : refT w0.heap.size v0 v1 d l ∈ ts) (hd : d.length ≤ 4096) (hlen : l.length < 1000000) (hb : ∀ x ∈ l, 0 ≤ x.1 ∧ x.1 < d.length) :
    Calls Try.prog 19 #[.agg #[v0, v1]] w fun e w' => ∃ A c, e = .returned (.slice A (flush d l).length c) ∧ SepT w0 w' (rowT Kd.string 9 (.slice A (flush d l).length c) (flush d l) :: ts) := by
  obtain ⟨A0, c0, A1, c1, rfl, rfl, l0, l1, C0, C1⟩ := SepT.ref h hm
  refine (modcertref50_Image.calls _ A0 c0 d A1 c1 (pen81 l) _ w C0 l0 C1 l1 (image_f d hd l (by omega) hb)).mono ?_
  rintro e w1 ⟨v, rfl, hR, hb⟩
  obtain ⟨A, c, rfl, _⟩ := Kd.R_reads hR
  exact ⟨A, c, rfl, h.addRow hb hR⟩
theorem refWrite_S (s : DS) (h : SepT w0 w (refT w0.heap.size v0 v1 s.dur s.pen :: ts)) (p : Int) (x : ByteArray) (hd : s.dur.length ≤ 4096) (hlen : s.pen.length < 1000000) :
    Calls Try.prog 36 #[.agg #[v0, v1], .int .i64 p, .string x] w fun e w' => ∃ A0 n0 c0 A1 n1 c1, e = .returned (.tuple #[.agg #[.slice A0 n0 c0, .slice A1 n1 c1], .int .i64 (writeD s p x).2]) ∧ SepT w0 w' (refT w0.heap.size (.slice A0 n0 c0) (.slice A1 n1 c1) s.dur (writeD s p x).1.pen :: ts) := by
  have hbase := Sep.base h
  obtain ⟨ok, ⟨h1, h2⟩, _, hk⟩ := h.focus
  refine (modcertref50_Write.calls 1 ok v0 s.dur ok v1 (pen81 s.pen) p x _ _ _ w0 w hbase h1 h2 (write_f s hd (by omega) p x)).mono ?_
  rintro e w1 ⟨u0, u1, rfl, hR0, hR1, hb, hK⟩
  have h' := hk w1 (refT w0.heap.size u0 u1 s.dur (writeD s p x).1.pen) ⟨hb.os.trans hbase.os.symm, hb.tape.trans hbase.tape.symm, hb.output.trans hbase.output.symm, hK.1, fun k hk hn => hK.2 k hk (fun h => hn (h.elim id id))⟩ ⟨Kd.R_mono hR0 (fun k hk => hk.elim (fun h => .inl (h.elim id id)) .inr), Kd.R_mono hR1 (fun k hk => hk.elim (fun h => .inl (h.elim id id)) .inr)⟩
  obtain ⟨A0, n0, c0, A1, n1, c1, rfl, rfl⟩ := SepT.refForm h' m0
  exact ⟨A0, n0, c0, A1, n1, c1, rfl, h'⟩
theorem Few_S (h : SepT w0 w ts) (A : Option Addr) (c : Nat) (xs : List S41) (hC : Kd.C k41 w0 A xs.length xs) (hl : xs.length ≤ c) (hx : xs.length ≤ 9223372036854775807) :
    Calls Try.prog 11 #[.slice A xs.length c] w fun e w' => e = .returned (.bool (fewB xs)) ∧ SepT w0 w' ts := by
  refine (modcertref50_Few.calls _ A c xs _ w (Kd.C_below hC (Sep.base h)) hl (few_f xs hx)).mono ?_
  rintro e w1 ⟨rfl, hb⟩
  exact ⟨rfl, h.below hb.below⟩
/-- A block of the call's own. -/
def boxT (b : Nat) (cs : Array Value) (t : Nat) : Th :=
  ⟨fun w ok => w.heap[b]? = some (.cells cs t (0, 0)) ∧ ok b, fun h h1 h2 => ⟨(h1 b h.2 (blk_lt h.1)).trans h.1, h2 b h.2 (blk_lt h.1)⟩⟩
theorem SepT.allocBox (h : SepT w0 w ts) (cs : Array Value) (t : Nat) : SepT w0 (w.alloc (.cells cs t)) (boxT w.heap.size cs t :: ts) :=
  h.add ((Below.refl _ w).alloc (Nat.le_refl _) _) (boxT w.heap.size cs t) ⟨heap_new w _, Nat.le_refl _⟩
theorem SepT.setBox {b t : Nat} {cs : Array Value} (h : SepT w0 w (boxT b cs t :: ts)) (j : Nat) (v : Value) : SepT w0 (w.setCell ⟨b, j, none⟩ v) (boxT b (cs.setIfInBounds j v) t :: ts) := by
  obtain ⟨ok, h1, _, hk⟩ := h.focus
  exact hk _ (boxT b (cs.setIfInBounds j v) t) ((Only.refl ok w).setCell (p := ⟨b, j, none⟩) (.inl h1.2) v) ⟨blk_set h1.1 j v, .inl h1.2⟩
theorem SepT.box (h : SepT w0 w ts) {b t : Nat} {cs : Array Value} (hm : boxT b cs t ∈ ts) : w.heap[b]? = some (.cells cs t (0, 0)) ∧ w0.heap.size ≤ b := by
  obtain ⟨ok, h1, h0⟩ := SepT.get h hm
  exact ⟨h1.1, h0 b h1.2⟩
theorem SepT.drew (h : SepT w0 w ts) : SepT w0 w.drew ts := h.below (below_drew (Below.refl _ _))
theorem SepT.drewN (h : SepT w0 w ts) (n : Nat) : SepT w0 (w.drewN n) ts := h.below (pw_below_drewN (Below.refl _ _) n)
theorem Sep.perm {ts ts' : List Th} (hp : ts.Perm ts') : ∀ {u : Nat → Prop}, Sep w0 w ts u → Sep w0 w ts' u := by
  induction hp with
  | nil => exact fun h => h
  | cons t _ ih =>
    intro u h
    obtain ⟨ok, h1, h2, h3⟩ := h
    exact ⟨ok, h1, h2, ih h3⟩
  | swap a b l => exact fun h => Sep.swap h
  | trans _ _ ih1 ih2 => exact fun h => ih2 (ih1 h)
theorem SepT.perm {ts ts' : List Th} (h : SepT w0 w ts) (hp : ts.Perm ts') : SepT w0 w ts' := Sep.perm hp h
theorem SepT.fourth {a b c d : Th} (h : SepT w0 w (a :: b :: c :: d :: ts)) : SepT w0 w (d :: a :: b :: c :: ts) := h.perm (List.perm_middle (l₁ := [a, b, c]))
theorem SepT.fifth {a b c d e : Th} (h : SepT w0 w (a :: b :: c :: d :: e :: ts)) : SepT w0 w (e :: a :: b :: c :: d :: ts) := h.perm (List.perm_middle (l₁ := [a, b, c, d]))
theorem SepT.sixth {a b c d e f : Th} (h : SepT w0 w (a :: b :: c :: d :: e :: f :: ts)) : SepT w0 w (f :: a :: b :: c :: d :: e :: ts) := h.perm (List.perm_middle (l₁ := [a, b, c, d, e]))
theorem SepT.seventh {a b c d e f g : Th} (h : SepT w0 w (a :: b :: c :: d :: e :: f :: g :: ts)) : SepT w0 w (g :: a :: b :: c :: d :: e :: f :: ts) := h.perm (List.perm_middle (l₁ := [a, b, c, d, e, f]))
end Go.Proofs.Ytccomlafacdcjaa.Dk
