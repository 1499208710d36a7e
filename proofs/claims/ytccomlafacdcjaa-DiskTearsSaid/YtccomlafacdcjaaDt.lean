/-
  The disk's calls on things apart.
-/
import Derived.Test.YtccomlafacdcjaaDp
namespace Go.Proofs.Ytccomlafacdcjaa.Dk
open Go.RowKit Go.Proofs.YtccomlafacdcjaaW.PrintWords Go.Proofs.YtccomlafacdcjaaW.PrintMore
set_option linter.unusedVariables false

theorem SepT.get {w0 w : World} {t : Th} : ∀ {ts : List Th} {u : Nat → Prop}, Sep w0 w ts u → t ∈ ts → ∃ ok, t.P w ok ∧ ∀ k, ok k → w0.heap.size ≤ k
  | [], _, _, hm => by simp at hm
  | a :: ts, u, ⟨ok, h1, h2, h3⟩, hm => by
    rcases List.mem_cons.1 hm with rfl | hm
    · exact ⟨ok, h1, fun k hk => (h2 k hk).1⟩
    · exact SepT.get h3 hm
theorem m0 {a : Th} {l : List Th} : a ∈ a :: l := by simp
theorem m1 {a b : Th} {l : List Th} : a ∈ b :: a :: l := by simp
theorem m2 {a b c : Th} {l : List Th} : a ∈ b :: c :: a :: l := by simp
theorem m3' {a b c d : Th} {l : List Th} : a ∈ b :: c :: d :: a :: l := by simp
theorem m4 {a b c d e : Th} {l : List Th} : a ∈ b :: c :: d :: e :: a :: l := by simp
theorem row_new {α : Type} {d : Kd α} {e b : Nat} {v : Value} {xs : List α} {w : World} {ok : Nat → Prop} (h : Kd.R d e w b ok v xs) : (rowT d e v xs).P w (fun k => b ≤ k) :=
  Kd.R_lower (Kd.R_mono (Kd.R_bound h) (fun k hk => hk.2.1)) (Nat.zero_le _)
theorem SepT.addRow {w0 w w1 : World} {ts : List Th} (h : SepT w0 w ts) (hb : Below w.heap.size w w1) {α : Type} {d : Kd α} {e : Nat} {v : Value} {xs : List α} {ok : Nat → Prop} (hR : Kd.R d e w1 w.heap.size ok v xs) : SepT w0 w1 (rowT d e v xs :: ts) := h.add hb _ (row_new hR)

variable {w0 w : World} {ts : List Th} {g : Nat} {s : DS}

theorem New_S (h : SepT w0 w ts) (n : Nat) (h1 : 1 ≤ n) (h2 : n ≤ 4096) :
    Calls Try.prog 12 #[.int .i64 n] w fun e w' => ∃ g, e = .returned (.tuple #[.pointer (some ⟨g, 0, none⟩), .int .i64 0]) ∧ SepT w0 w' (diskT g (newD n) :: ts) := by
  refine (New_yes n w h1 h2).mono ?_
  rintro e w1 ⟨g, rfl, hd, hb⟩
  exact ⟨g, rfl, h.add hb (diskT g (newD n)) hd⟩
theorem Pages_S (h : SepT w0 w ts) (hm : diskT g s ∈ ts) :
    Calls Try.prog 22 #[.pointer (some ⟨g, 0, none⟩)] w fun e w' => e = .returned (.int .i64 s.dur.length) ∧ w = w' := by
  obtain ⟨ok, hd, _⟩ := SepT.get h hm
  exact Pages_calls g ok s w hd
theorem Pending_S (h : SepT w0 w ts) (hm : diskT g s ∈ ts) :
    Calls Try.prog 16 #[.pointer (some ⟨g, 0, none⟩)] w fun e w' => e = .returned (.int .i64 s.pen.length) ∧ w = w' := by
  obtain ⟨ok, hd, _⟩ := SepT.get h hm
  exact Pending_calls g ok s w hd
theorem Read_S (h : SepT w0 w ts) (hm : diskT g s ∈ ts) (p : Int) :
    Calls Try.prog 20 #[.pointer (some ⟨g, 0, none⟩), .int .i64 p] w fun e w' => e = .returned (.tuple #[.string (readD s p).1, .int .i64 (readD s p).2]) ∧ w = w' := by
  obtain ⟨ok, hd, _⟩ := SepT.get h hm
  exact Read_calls g ok s p w hd
theorem SepT.inb (h : SepT w0 w ts) (hm : diskT g s ∈ ts) : (∀ x ∈ s.pen, 0 ≤ x.1 ∧ x.1 < s.dur.length) ∧ s.dur.length ≤ 4096 := by
  obtain ⟨ok, hd, _⟩ := SepT.get h hm
  exact ⟨IsDisk.inb hd, IsDisk.lim hd⟩
theorem Write_S (h : SepT w0 w (diskT g s :: ts)) (p : Int) (x : ByteArray) (hlen : s.log.length < 1000000) (hlen2 : s.pen.length < 1000000) :
    Calls Try.prog 27 #[.pointer (some ⟨g, 0, none⟩), .int .i64 p, .string x] w fun e w' => e = .returned (.int .i64 (writeD s p x).2) ∧ SepT w0 w' (diskT g (writeD s p x).1 :: ts) := by
  obtain ⟨ok, hd, _, hk⟩ := h.focus
  refine (Write_calls g ok s p x w hd hlen hlen2).mono ?_
  rintro e w1 ⟨rfl, hi, ho⟩
  exact ⟨rfl, hk w1 (diskT g (writeD s p x).1) ho hi⟩
theorem Sync_S (h : SepT w0 w (diskT g s :: ts)) (hlen : s.log.length < 1000000) (hlen2 : s.pen.length < 1000000) :
    Calls Try.prog 25 #[.pointer (some ⟨g, 0, none⟩)] w fun e w' => e = .returned (.tuple #[]) ∧ SepT w0 w' (diskT g (syncD s) :: ts) := by
  obtain ⟨ok, hd, _, hk⟩ := h.focus
  refine (Sync_calls g ok s w hd hlen hlen2).mono ?_
  rintro e w1 ⟨rfl, hi, ho⟩
  exact ⟨rfl, hk w1 (diskT g (syncD s)) ho hi⟩
theorem Clone_S (h : SepT w0 w ts) (hm : diskT g s ∈ ts) (hlen : s.pen.length < 1000000) :
    Calls Try.prog 23 #[.pointer (some ⟨g, 0, none⟩)] w fun e w' => ∃ g', e = .returned (.pointer (some ⟨g', 0, none⟩)) ∧ SepT w0 w' (diskT g' { dur := s.dur, pen := s.pen, rc := false, log := [] } :: ts) := by
  obtain ⟨ok, hd, _⟩ := SepT.get h hm
  refine (Clone_calls g ok s w hd hlen).mono ?_
  rintro e w1 ⟨g', rfl, hd, hb⟩
  exact ⟨g', rfl, h.add hb (diskT g' _) hd⟩
theorem Image_S (h : SepT w0 w ts) (hm : diskT g s ∈ ts) :
    Calls Try.prog 18 #[.pointer (some ⟨g, 0, none⟩)] w fun e w' => ∃ A c, e = .returned (.slice A (flush s.dur s.pen).length c) ∧ SepT w0 w' (rowT Kd.string 9 (.slice A (flush s.dur s.pen).length c) (flush s.dur s.pen) :: ts) := by
  obtain ⟨ok, hd, _⟩ := SepT.get h hm
  refine (image_calls g ok s w hd).mono ?_
  rintro e w1 ⟨v, rfl, hR, hB⟩
  rw [imageD_eq s (IsDisk.inb hd)] at hR
  obtain ⟨A, c, rfl, hc, hC⟩ := Kd.R_reads hR
  exact ⟨A, c, rfl, h.addRow hB hR⟩
/-- The choices lie in a row that no thing is. -/
theorem Crash_S (h : SepT w0 w (diskT g s :: ts)) (A : Option Addr) (c : Nat) (cs : List Int) (hC : Kd.C (Kd.int .i64) w0 A cs.length cs) (hl : cs.length ≤ c) (hc : cs.length < 1000000) (hlen : s.pen.length < 1000000) :
    Calls Try.prog 24 #[.pointer (some ⟨g, 0, none⟩), .slice A cs.length c] w fun e w' => e = .returned (.tuple #[]) ∧ SepT w0 w' (diskT g (crashD s cs) :: ts) := by
  have hb := Sep.base h
  obtain ⟨ok, hd, h0, hk⟩ := h.focus
  refine (Crash_calls g ok s A c cs w hd (fun W hW => Kd.C_below hC (hb.trans (hW.below hb.size (fun k hk => (h0 k hk).1)))) hl hc hlen).mono ?_
  rintro e w1 ⟨rfl, hi, ho⟩
  exact ⟨rfl, hk w1 (diskT g (crashD s cs)) ho hi⟩
/-- The front thing is worked on; the others can be read all the while. -/
theorem SepT.focus2 {t : Th} (h : SepT w0 w (t :: ts)) : ∃ ok, t.P w ok ∧ (∀ (W : World), Only ok w W → ∀ t' ∈ ts, ∃ ok', t'.P W ok') ∧ ∀ (w1 : World) (t1 : Th), Only ok w w1 → t1.P w1 (fun k => ok k ∨ w.heap.size ≤ k) → SepT w0 w1 (t1 :: ts) := by
  have hb := Sep.base h
  obtain ⟨ok, h1, h2, h3⟩ := h
  refine ⟨ok, h1, fun W hW t' ht' => ?_, fun w1 t1 ho ht => ?_⟩
  · obtain ⟨ok', hp, _⟩ := SepT.get (h3.only hW (fun k hk => ⟨.inr hk, (h2 k hk).1⟩)) ht'
    exact ⟨ok', hp⟩
  · refine ⟨fun k => (ok k ∨ w.heap.size ≤ k) ∧ k < w1.heap.size, t1.stay ht (fun _ _ _ => rfl) (fun k hk hl => ⟨hk, hl⟩), ?_, ?_⟩
    · intro k hk
      have hb := hb.size
      rcases hk with ⟨hk | hk, hl⟩
      · exact ⟨(h2 k hk).1, hl, fun h => h⟩
      · exact ⟨by omega, hl, fun h => h⟩
    · refine (h3.only ho (fun k hk => ⟨.inr hk, (h2 k hk).1⟩)).weak (fun k _ h => ?_)
      rcases h with h | h
      · exact h.elim
      · rcases h.1 with h | h
        · exact .inl (.inr h)
        · exact .inr h
/-- The choices lie in a row of their own. -/
theorem Crash_row (A : Option Addr) (c : Nat) (cs : List Int) (h : SepT w0 w (diskT g s :: ts)) (hm : rowT (Kd.int .i64) 3 (.slice A cs.length c) cs ∈ ts) (hc : cs.length < 1000000) (hlen : s.pen.length < 1000000) :
    Calls Try.prog 24 #[.pointer (some ⟨g, 0, none⟩), .slice A cs.length c] w fun e w' => e = .returned (.tuple #[]) ∧ SepT w0 w' (diskT g (crashD s cs) :: ts) := by
  obtain ⟨ok, hd, hr, hk⟩ := h.focus2
  have hl : cs.length ≤ c := by
    obtain ⟨ok', h1⟩ := hr w (Only.refl _ _) _ hm
    exact (Kd.R_reads' h1).2.1
  refine (Crash_calls g ok s A c cs w hd (fun W hW => ?_) hl hc hlen).mono ?_
  · obtain ⟨ok', h1⟩ := hr W hW _ hm
    exact (Kd.R_reads' h1).2.2
  rintro e w1 ⟨rfl, hi, ho⟩
  exact ⟨rfl, hk w1 (diskT g (crashD s cs)) ho hi⟩
theorem Execute_S (A : Option Addr) (c : Nat) (l : List (Int × ByteArray × Bool)) (h : SepT w0 w (diskT g s :: ts)) (hP : Kd.C kop w0 A l.length l) (hlen : s.log.length + l.length < 1000000) (hlen2 : s.pen.length + l.length < 1000000) :
    Calls Try.prog 30 #[.pointer (some ⟨g, 0, none⟩), .slice A l.length c] w fun e w' => e = .returned (.int .i64 (execD s l).2) ∧ SepT w0 w' (diskT g (execD s l).1 :: ts) := by
  have hb := Sep.base h
  obtain ⟨ok, hd, h0, hk⟩ := h.focus
  refine (Execute_calls g ok s A c l w hd (fun W hW => Kd.C_below hP (hb.trans (hW.below hb.size (fun k hk => (h0 k hk).1)))) hlen hlen2).mono ?_
  rintro e w1 ⟨rfl, hi, ho⟩
  exact ⟨rfl, hk w1 (diskT g (execD s l).1) ho hi⟩
theorem Execute_row (A : Option Addr) (c : Nat) (l : List (Int × ByteArray × Bool)) (h : SepT w0 w (diskT g s :: ts)) (hm : rowT kop 38 (.slice A l.length c) l ∈ ts) (hlen : s.log.length + l.length < 1000000) (hlen2 : s.pen.length + l.length < 1000000) :
    Calls Try.prog 30 #[.pointer (some ⟨g, 0, none⟩), .slice A l.length c] w fun e w' => e = .returned (.int .i64 (execD s l).2) ∧ SepT w0 w' (diskT g (execD s l).1 :: ts) := by
  obtain ⟨ok, hd, hr, hk⟩ := h.focus2
  refine (Execute_calls g ok s A c l w hd (fun W hW => ?_) hlen hlen2).mono ?_
  · obtain ⟨ok', h1⟩ := hr W hW _ hm
    exact (Kd.R_reads' h1).2.2
  rintro e w1 ⟨rfl, hi, ho⟩
  exact ⟨rfl, hk w1 (diskT g (execD s l).1) ho hi⟩
/-- What was recorded becomes a thing of its own. -/
theorem Record_S (h : SepT w0 w (diskT g s :: ts)) (b : Bool) :
    Calls Try.prog 26 #[.pointer (some ⟨g, 0, none⟩), .bool b] w fun e w' => ∃ A c, e = .returned (.slice A s.log.length c) ∧ SepT w0 w' (diskT g { s with rc := b, log := [] } :: rowT kop 38 (.slice A s.log.length c) s.log :: ts) := by
  have hb := Sep.base h
  obtain ⟨ok, h1, h2, h3⟩ := h
  refine (Record_calls g ok s b w h1).mono ?_
  rintro e w1 ⟨v, rfl, hR, hi, ho⟩
  obtain ⟨A, c, rfl⟩ := Kd.R_slice hR
  refine ⟨A, c, rfl, fun k => (ok k ∧ some k ≠ (Value.slice A s.log.length c).ownBlock) ∧ k < w1.heap.size, ?_, fun k hk => ⟨(h2 k hk.1.1).1, hk.2, fun h => h⟩, fun k => (ok k ∧ some k = (Value.slice A s.log.length c).ownBlock) ∧ k < w1.heap.size, ?_, fun k hk => ⟨(h2 k hk.1.1).1, hk.2, fun h => h.elim id (fun h => h.1.2 hk.1.2)⟩, ?_⟩
  · exact IsDisk.mono hi (fun k h1 h2 => ⟨h1, h2⟩)
  · exact ⟨fun k hk => ⟨⟨hR.1 k hk, hk.symm⟩, Kd.R_lt hR k hk⟩, hR.2.imp_ (fun _ _ hp => hp)⟩
  · refine (h3.only ho (fun k hk => ⟨.inr hk, (h2 k hk).1⟩)).weak (fun k _ h => ?_)
    rcases h with (h | h) | h
    · exact h.elim
    · exact .inl (.inr h.1.1)
    · exact .inl (.inr h.1.1)
/-- Two rows, compared. -/
theorem Equal_S (A0 : Option Addr) (c0 : Nat) (l0 : List ByteArray) (A1 : Option Addr) (c1 : Nat) (l1 : List ByteArray) (h : SepT w0 w ts) (hm0 : rowT Kd.string 9 (.slice A0 l0.length c0) l0 ∈ ts) (hm1 : rowT Kd.string 9 (.slice A1 l1.length c1) l1 ∈ ts) (hl : l0.length < 1000000000) :
    Calls Try.prog 17 #[.slice A0 l0.length c0, .slice A1 l1.length c1] w fun e w' => e = .returned (.bool (decide (l0 = l1))) ∧ SepT w0 w' ts := by
  obtain ⟨o0, h0, _⟩ := SepT.get h hm0
  obtain ⟨o1, h1, _⟩ := SepT.get h hm1
  obtain ⟨_, a1, a2⟩ := Kd.R_reads' h0
  obtain ⟨_, b1, b2⟩ := Kd.R_reads' h1
  refine (Equal_calls A0 c0 l0 A1 c1 l1 w a2 a1 b2 b1 hl).mono ?_
  rintro e w1 ⟨rfl, hb⟩
  exact ⟨rfl, h.below hb⟩
end Go.Proofs.Ytccomlafacdcjaa.Dk
