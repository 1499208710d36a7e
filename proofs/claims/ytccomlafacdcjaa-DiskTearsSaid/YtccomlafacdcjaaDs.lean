/-
  The disk's Sync, New, Execute, each by a contract.
-/
import Derived.Test.YtccomlafacdcjaaDw
namespace Go.Proofs.Ytccomlafacdcjaa.Dk
open Go.RowKit Go.Proofs.YtccomlafacdcjaaW.PrintWords Go.Proofs.YtccomlafacdcjaaW.PrintMore
set_option linter.unusedVariables false

section
variable {w w1 : World} {g : Nat} {ok : Nat → Prop} {s : DS} {vd vp vr v1 : Value} {m : Nat}
theorem IsDiskAt.stay (h : IsDiskAt w g ok s vd vp m vr) (hb : ∀ k, ok k → k < w.heap.size → w1.heap[k]? = w.heap[k]?) : IsDiskAt w1 g ok s vd vp m vr :=
  ⟨(hb g h.okg (blk_lt h.blk)).trans h.blk, h.okg, h.okm, h.map.stay (hb m h.okm h.map.lt), Kd.R_step h.dur hb, Kd.R_step h.pen hb, Kd.R_step h.log hb, h.inb, h.lim⟩
theorem IsDiskAt.alloc (h : IsDiskAt w g ok s vd vp m vr) (o : Obj) : IsDiskAt (w.alloc o) g ok s vd vp m vr := h.stay (fun k _ hk => Below.heap_alloc w o k hk)
theorem IsDiskAt.drew (h : IsDiskAt w g ok s vd vp m vr) : IsDiskAt w.drew g ok s vd vp m vr := h.stay (fun k _ hk => rfl)
/-- A store into a page. -/
theorem IsDiskAt.put {A : Option Addr} {n c : Nat} (h : IsDiskAt w g ok s (.slice A n c) vp m vr) (p : Int) (hp : 0 ≤ p ∧ p < s.dur.length) (x : ByteArray) :
    ∃ b u, A = some ⟨b, 0, none⟩ ∧ n = s.dur.length ∧ ok b ∧ w.cell? ⟨b, p.toNat, none⟩ = some u ∧ w.frozen? ⟨b, p.toNat, none⟩ = false ∧ IsDiskAt (w.setCell ⟨b, p.toNat, none⟩ (.string x)) g ok { s with dur := s.dur.set p.toNat x } (.slice A n c) vp m vr := by
  have hR := h.dur
  obtain ⟨h0, inner, ho, hr⟩ := hR
  obtain ⟨A', c', he, hl, hC⟩ := Kd.R_reads h.dur
  injection he with he1 he2 he3
  subst he1 he3
  obtain rfl : n = s.dur.length := he2
  obtain ⟨ad, rfl, hc⟩ := str_at hC p hp.1 hp.2
  rcases ho.2 with ⟨e, _⟩ | ⟨b, c', cur, e, _, hh, _⟩
  · injection e with e; cases e
  · injection e with e1 e2 e3
    injection e1 with e1
    subst e1
    rw [add_plain] at hc
    have hput := Kd.R_put (e := 9) h.dur p x
    have hok : ok b := h0 b (by simp [Value.ownBlock])
    have hg : g ≠ b := fun e => by
      have h1 := h.blk
      rw [e, hh] at h1
      injection h1 with h1
      injection h1 with _ h1
      cases h1
    have hm : m ≠ b := fun e => h.map.notCells _ _ _ (by rw [e]; exact hh)
    have far : ∀ {α : Type} {d : Kd α} {e : Nat} {v : Value} {xs : List α}, Kd.R d e w 0 ok v xs → (∀ q, q ∈ e :: d.E → q ≠ 9) → Kd.R d e (w.setCell ⟨b, p.toNat, none⟩ (.string x)) 0 ok v xs := fun hr h2 => Kd.R_set hr hh h2 _ _
    refine ⟨b, _, rfl, rfl, hok, hc, blk_frozen hh _, blk_far h.blk hg _, h.okg, h.okm, h.map.stay (Below.heap_setCell _ _ _ _ hm), ?_, far h.pen (by simp [Kd.string, Kd.scalar, Kd.pair, Kd.int]), far h.log (by simp [Kd.string, Kd.scalar, Kd.pair, Kd.int, Kd.bool]), ?_, ?_⟩
    · exact hput.1
    · intro y hy
      have := h.inb y hy
      simpa using this
    · simpa using h.lim
end

/-- The writes, done in order. -/
def flush (d : List ByteArray) (l : List (Int × ByteArray)) : List ByteArray := l.foldl (fun d x => d.set x.1.toNat x.2) d
theorem flush_length (l : List (Int × ByteArray)) : ∀ d : List ByteArray, (flush d l).length = d.length := by
  induction l with
  | nil => intro d; rfl
  | cons x l ih => intro d; show (flush (d.set x.1.toNat x.2) l).length = _; rw [ih]; simp
theorem flush_snoc (d : List ByteArray) (l : List (Int × ByteArray)) (x : Int × ByteArray) : flush d (l ++ [x]) = (flush d l).set x.1.toNat x.2 := by simp [flush]
theorem flush_take (d : List ByteArray) (l : List (Int × ByteArray)) (k : Nat) (hk : k < l.length) : flush d (l.take (k + 1)) = (flush d (l.take k)).set (l.getD k (0, nb)).1.toNat (l.getD k (0, nb)).2 := by
  rw [List.take_succ_eq_append_getElem hk, flush_snoc]
  simp [List.getD, hk]

set_option maxHeartbeats 1000000 in
set_option maxRecDepth 100000 in
theorem Sync_calls (g : Nat) (ok : Nat → Prop) (s : DS) (w : World) (h : IsDisk w g ok s) (hlen : s.log.length < 1000000) (hlen2 : s.pen.length < 1000000) :
    Calls Try.prog 25 #[.pointer (some ⟨g, 0, none⟩)] w fun e w' => e = .returned (.tuple #[]) ∧ IsDisk w' g (fun k => ok k ∨ w.heap.size ≤ k) (noted { s with dur := flush s.dur s.pen, pen := [] } (0, nb, true)) ∧ Only ok w w' := by
  obtain ⟨vd, vp, m, vr, h⟩ := h
  obtain ⟨A, c, rfl, hc, hC⟩ := Kd.R_reads h.pen
  obtain ⟨A0, k0, rfl, hc0, hC0⟩ := Kd.R_reads h.dur
  have c1 := h.c1
  have HD := Aside0.mk h
  clear h hC hC0
  go_enter Try.func25, Try.ntmps25
  go_wp2
  go_loopw [9] (fun i wr => ∃ k : Nat, k ≤ s.pen.length ∧ i = .int .i64 k ∧ IsDiskAt wr g ok { s with dur := flush s.dur (s.pen.take k) } (.slice A0 s.dur.length k0) (.slice A s.pen.length c) m vr ∧ Only ok w wr) (fun i _ => s.pen.length - (intOf i).toNat)
  case atStart => exact ⟨0, Nat.zero_le _, rfl, HD.out, Only.refl _ _⟩
  case round =>
    obtain ⟨k, hk, rfl, hI, hO⟩ := hrel
    by_cases hlt : k < s.pen.length
    · have hI1 := Aside0.mk hI
      have hO1 := Aside0.mk hO
      obtain ⟨A', c', he, _, hC⟩ := Kd.R_reads hI.pen
      injection he with he1 he2 he3
      subst he1 he3
      obtain ⟨ad, rfl, d0, d1⟩ := pen_at hC k (by omega) (by simp; omega)
      simp only [Int.toNat_natCast] at d0 d1
      have hin := hI.inb (s.pen[k]) (List.getElem_mem hlt)
      have hgd : s.pen.getD k (0, nb) = s.pen[k] := by simp [List.getD, hlt]
      obtain ⟨p, hp⟩ : ∃ p, (s.pen.getD k (0, nb)).1 = p := ⟨_, rfl⟩
      obtain ⟨x, hx⟩ : ∃ x, (s.pen.getD k (0, nb)).2 = x := ⟨_, rfl⟩
      have HF := Aside0.mk (show flush s.dur (s.pen.take (k + 1)) = (flush s.dur (s.pen.take k)).set p.toNat x by rw [flush_take _ _ _ hlt, hp, hx])
      rw [hp] at d0
      rw [hx] at d1
      rw [← hgd, hp] at hin
      clear hp hx hgd he2 hC hO HD c1
      have hb0 := hin.1
      have hb1 := hin.2
      obtain ⟨b, u, rfl, hbn, hokb, e0, e1, hN⟩ := (hI.alloc (.cells #[.int .i64 p, .string x] 79)).drew.put p hin x
      have HN := Aside0.mk hN
      have c0 := hI.c0
      have hg := blk_lt hI.blk
      have HOK := Aside0.mk hokb
      have hb1 : p < s.dur.length := by have := hin.2; dsimp only at this; rw [flush_length] at this; exact this
      clear hN hI hin hokb hbn
      have hk2 : (k : Int) < s.pen.length := by omega
      go_wp2
      go_region
      all_goals
        go_wp2
        go_roundw
        case rel => exact ⟨k + 1, by omega, by go_num, by rw [HF.out]; exact HN.out, ((hO1.out.alloc _).drew).setCell (p := ⟨b, p.toNat, none⟩) (.inl HOK.out) _⟩
        case measure => simp [intOf]; omega
    · obtain rfl : k = s.pen.length := by omega
      have hI' : IsDiskAt wr g ok { s with dur := flush s.dur s.pen } (.slice A0 s.dur.length k0) (.slice A s.pen.length c) m vr := by
        rw [List.take_length] at hI; exact hI
      have hO1 := Aside0.mk hO
      clear hI hO HD c1
      go_wp2_with (first | (go_at_call 41; refine (forget_calls g ok _ _ ⟨_, _, _, _, hI'⟩).mono ?_; rintro e w1 ⟨rfl, hi1, ho1⟩; have HI1 := Aside0.mk hi1; have HO1 := Aside0.mk ho1; clear hi1 ho1) | (go_at_call 42; refine (record_any g ok _ 0 _ true _ HI1.out hlen).mono ?_; rintro e w2 ⟨rfl, hi2, ho2⟩))
      go_end0
      refine ⟨rfl, hi2.mono (fun k hk _ => hk.elim .inl (fun h3 => .inr ?_)), (hO1.out.trans HO1.out (fun _ h => .inl h)).trans ho2 (fun _ h => .inl h)⟩
      have := hO1.out.size
      have := HO1.out.size
      omega
end Go.Proofs.Ytccomlafacdcjaa.Dk
