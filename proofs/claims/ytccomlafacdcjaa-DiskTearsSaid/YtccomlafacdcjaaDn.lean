/-
  The disk's New and Execute, each by a contract.
-/
import Derived.Test.YtccomlafacdcjaaDs
namespace Go.Proofs.Ytccomlafacdcjaa.Dk
open Go.RowKit Go.Proofs.YtccomlafacdcjaaW.PrintWords Go.Proofs.YtccomlafacdcjaaW.PrintMore
set_option linter.unusedVariables false

/-- A new disk. -/
def newD (n : Nat) : DS := { dur := List.replicate n nb, pen := [], rc := false, log := [] }

theorem MapAt.empty (w : World) : MapAt (w.alloc (.map #[] 0)) w.heap.size (fun _ => none) := by
  refine ⟨[], 0, ?_, ⟨by simp, by simp, by simp⟩, fun _ => rfl⟩
  show (w.heap.push _)[w.heap.size]? = _
  simp

theorem heap_new (w : World) (o : Obj) : (w.alloc o).heap[w.heap.size]? = some o := by
  show (w.heap.push _)[w.heap.size]? = _
  simp

set_option maxRecDepth 100000 in
theorem New_no (n : Int) (w : World) (h : n < 1 ∨ 4096 < n) :
    Calls Try.prog 12 #[.int .i64 n] w fun e w' => e = .returned (.tuple #[.pointer none, .int .i64 2]) ∧ w = w' := by
  rcases h with h | h
  · go_enter Try.func12, Try.ntmps12
    go_wp2
    go_ret2
    exact ⟨rfl, rfl⟩
  · have h1 : ¬ n < 1 := by omega
    go_enter Try.func12, Try.ntmps12
    go_wp2
    go_ret2
    exact ⟨rfl, rfl⟩

set_option maxRecDepth 100000 in
theorem New_yes (n : Nat) (w : World) (h1 : 1 ≤ n) (h2 : n ≤ 4096) :
    Calls Try.prog 12 #[.int .i64 n] w fun e w' => ∃ g, e = .returned (.tuple #[.pointer (some ⟨g, 0, none⟩), .int .i64 0]) ∧ IsDisk w' g (fun k => w.heap.size ≤ k) (newD n) ∧ Below w.heap.size w w' := by
  have hmm := @run_makeMap Try.prog
  have hu73 := Try.underlying73
  go_enter Try.func12, Try.ntmps12
  go_wp2_with ((with_reducible refine gate_dst (N := 11) rfl ?_); refine Kd.R_make Kd.string 0 9 rfl (N := 11) rfl 29 _ _ rfl (n : Int) rfl rfl Try.underlying29 (.string ⟨#[]⟩) 16 info9 rfl (by decide) (by omega) (⟨#[]⟩ : ByteArray) (ok := fun k => w.heap.size ≤ k) (okp := fun _ => False) rfl (fun _ hk => hk.elim) (Nat.le_refl _) (by omega) (by omega) (Below.refl _ _) (Nat.zero_le _) ?_; intro v1 w1 hR _ hgr _; obtain ⟨A1, n1, rfl⟩ := Kd.R_slice hR; have HR1 := Aside0.mk hR; have HG1 := Aside0.mk hgr; clear hR hgr)
  simp only [Int.toNat_natCast, List.length_replicate] at HR1
  go_ret2
  have hs := HG1.out.size
  have hB : Below w.heap.size w w1 := (Below.refl _ _).grown HG1.out (Nat.le_refl _) (fun k hk => by cases hk)
  have hB2 : Below w.heap.size w ((w1.alloc (.map #[] 0)).alloc (.cells (dcells (.slice A1 n n1) (.slice none 0 0) w1.heap.size false (.slice none 0 0)) 73)) := (hB.alloc hs _).alloc (by simp; omega) _
  refine ⟨w1.heap.size + 1, rfl, ⟨.slice A1 n n1, .slice none 0 0, w1.heap.size, .slice none 0 0, ?_, Nat.le_succ_of_le hs, hs, ?_, ?_, Kd.R_nil _ _ _ _ _, Kd.R_nil _ _ _ _ _, by simp [newD], by simp [newD]; omega⟩, hB2⟩
  · have := heap_new (w1.alloc (.map #[] 0)) (.cells (dcells (.slice A1 n n1) (.slice none 0 0) w1.heap.size false (.slice none 0 0)) 73)
    rw [World.size_alloc] at this
    exact this
  · exact (MapAt.empty w1).stay (Below.heap_alloc _ _ _ (by simp))
  · exact Kd.R_alloc (Kd.R_alloc HR1.out _) _

/-- What a sync makes of a disk. -/
def syncD (s : DS) : DS := noted { s with dur := flush s.dur s.pen, pen := [] } (0, nb, true)
/-- What a plan makes of a disk. -/
def execD : DS → List (Int × ByteArray × Bool) → DS × Int
  | s, [] => (s, 0)
  | s, (p, x, b) :: l => if b = true then execD (syncD s) l else if (writeD s p x).2 = 0 then execD (writeD s p x).1 l else writeD s p x

theorem noted_pen (s : DS) (x : Int × ByteArray × Bool) : (noted s x).pen = s.pen := by unfold noted; split <;> rfl
theorem noted_dur (s : DS) (x : Int × ByteArray × Bool) : (noted s x).dur = s.dur := by unfold noted; split <;> rfl
theorem noted_rc (s : DS) (x : Int × ByteArray × Bool) : (noted s x).rc = s.rc := by unfold noted; split <;> rfl
theorem noted_log (s : DS) (x : Int × ByteArray × Bool) : (noted s x).log.length ≤ s.log.length + 1 := by unfold noted; split <;> simp
theorem writeD_pen (s : DS) (p : Int) (x : ByteArray) : (writeD s p x).1.pen.length ≤ s.pen.length + 1 := by
  unfold writeD; split
  · simp
  · split
    · simp
    · rw [noted_pen]; simp
theorem writeD_log (s : DS) (p : Int) (x : ByteArray) : (writeD s p x).1.log.length ≤ s.log.length + 1 := by
  unfold writeD; split
  · simp
  · split
    · simp
    · exact noted_log _ _
theorem syncD_pen (s : DS) : (syncD s).pen = [] := by unfold syncD; rw [noted_pen]
theorem syncD_log (s : DS) : (syncD s).log.length ≤ s.log.length + 1 := by unfold syncD; exact noted_log _ _

theorem op_at {w : World} {A : Option Addr} {n : Nat} {xs : List (Int × ByteArray × Bool)} (h : Kd.C kop w A n xs) (i : Int) (h0 : 0 ≤ i) (h1 : i < n) : ∃ ad, A = some ad ∧ w.cell? (ad.add (i.toNat * 3)) = some (.int .i64 (xs.getD i.toNat (0, nb, false)).1) ∧ w.cell? ⟨(ad.add (i.toNat * 3)).block, (ad.add (i.toNat * 3)).off + 1, none⟩ = some (.string (xs.getD i.toNat (0, nb, false)).2.1) ∧ w.cell? ⟨(ad.add (i.toNat * 3)).block, (ad.add (i.toNat * 3)).off + 2, none⟩ = some (.bool (xs.getD i.toNat (0, nb, false)).2.2) := by
  obtain ⟨ad, c, e, _, hK, hc0⟩ := Kd.C_get h (0, nb, false) i h0 h1
  have hc : ∀ j u, c[j]? = some u → w.cell? (ad.add (i.toNat * 3 + j)) = some u := hc0
  obtain ⟨u0, u1, rfl, h2, u2, u3, rfl, h3, h4⟩ := hK
  obtain rfl : u0 = [.int .i64 (xs.getD i.toNat (0, nb, false)).1] := h2
  obtain rfl : u2 = [.string (xs.getD i.toNat (0, nb, false)).2.1] := h3
  obtain rfl : u3 = [.bool (xs.getD i.toNat (0, nb, false)).2.2] := h4
  exact ⟨ad, e, hc 0 _ rfl, by rw [← add_field _ _ 1 (by omega)]; exact hc 1 _ rfl, by rw [← add_field _ _ 2 (by omega)]; exact hc 2 _ rfl⟩

set_option maxHeartbeats 1000000 in
set_option maxRecDepth 100000 in
theorem Execute_calls (g : Nat) (ok : Nat → Prop) (s : DS) (A : Option Addr) (c : Nat) (l : List (Int × ByteArray × Bool)) (w : World) (h : IsDisk w g ok s) (hP : ∀ W, Only ok w W → Kd.C kop W A l.length l) (hlen : s.log.length + l.length < 1000000) (hlen2 : s.pen.length + l.length < 1000000) :
    Calls Try.prog 30 #[.pointer (some ⟨g, 0, none⟩), .slice A l.length c] w fun e w' => e = .returned (.int .i64 (execD s l).2) ∧ IsDisk w' g (fun k => ok k ∨ w.heap.size ≤ k) (execD s l).1 ∧ Only ok w w' := by
  have HI := Aside0.mk h
  clear h
  have HP := Aside0.mk hP
  clear hP
  go_enter Try.func30, Try.ntmps30
  go_wp2
  go_loopw [10] (fun i wr => ∃ (k : Nat) (t : DS), k ≤ l.length ∧ i = .int .i64 k ∧ Aside0 (execD s l = execD t (l.drop k)) ∧ IsDisk wr g (fun k => ok k ∨ w.heap.size ≤ k) t ∧ t.log.length ≤ s.log.length + k ∧ t.pen.length ≤ s.pen.length + k ∧ Only ok w wr) (fun i _ => l.length - (intOf i).toNat)
  case atStart => exact ⟨0, s, Nat.zero_le _, rfl, ⟨rfl⟩, HI.out.mono (fun k hk _ => .inl hk), by omega, by omega, Only.refl _ _⟩
  case round =>
    obtain ⟨k, t, hk, rfl, hE, hI, hL, hN, hO⟩ := hrel
    by_cases hlt : k < l.length
    · obtain ⟨ad, rfl, d0, d1, d2⟩ := op_at (HP.out _ hO) k (by omega) (by omega)
      simp only [Int.toNat_natCast] at d0 d1 d2
      have hdr : l.drop k = (l.getD k (0, nb, false)) :: l.drop (k + 1) := by
        rw [List.drop_eq_getElem_cons hlt]; simp [List.getD, hlt]
      rw [hdr] at hE
      clear hdr
      have HO := Aside0.mk hO
      clear hO
      generalize l.getD k (0, nb, false) = y at hE d0 d1 d2
      obtain ⟨p, x, b⟩ := y
      dsimp only at d0 d1 d2
      have hk2 : (k : Int) < l.length := by omega
      have HB := Aside0.mk (hI.below ((Below.refl _ _).alloc (Nat.le_refl _) (.cells #[.int .i64 p, .string x, .bool b] 38)))
      have hgl := hI.lt
      clear hI
      cases b with
      | true =>
        have hE2 : Aside0 (execD s l = execD (syncD t) (l.drop (k + 1))) := ⟨by rw [hE.out]; rfl⟩
        clear hE
        go_wp2_with (go_at_call 25; refine (Sync_calls g _ t _ HB.out (by omega) (by omega)).mono ?_; rintro e w1 ⟨rfl, hi1, ho1⟩; have HI1 := Aside0.mk hi1; have HO1 := Aside0.mk ho1; clear hi1 ho1)
        have hs1 := HO.out.size
        have hsz : w.heap.size ≤ (wr.alloc (.cells #[.int .i64 p, .string x, .bool true] 38)).heap.size := by rw [World.size_alloc]; omega
        go_roundw
        case rel => exact ⟨k + 1, syncD t, by omega, by go_num, hE2, HI1.out.mono (fun k hk _ => hk.elim id (fun h3 => .inr (Nat.le_trans hsz h3))), by have := syncD_log t; omega, by rw [syncD_pen]; simp, (HO.out.alloc _).trans HO1.out (fun _ h => h)⟩
        case measure => simp [intOf]; omega
      | false =>
        by_cases hz : (writeD t p x).2 = 0
        · have hE2 : Aside0 (execD s l = execD (writeD t p x).1 (l.drop (k + 1))) := ⟨by rw [hE.out]; simp [execD, hz]⟩
          clear hE
          have hzb : ((writeD t p x).2 != 0) = false := by simp [hz]
          have hzc : ((writeD t p x).2 == 0) = true := by simp [hz]
          clear hz
          have hL2 := writeD_log t p x
          have hN2 := writeD_pen t p x
          go_wp2_with (go_at_call 27; refine (Write_calls g _ t p x _ HB.out (by omega) (by omega)).mono ?_; rintro e w1 ⟨rfl, hi1, ho1⟩; have HI1 := Aside0.mk hi1; have HO1 := Aside0.mk ho1; clear hi1 ho1)
          have hs1 := HO.out.size
          have hsz : w.heap.size ≤ (wr.alloc (.cells #[.int .i64 p, .string x, .bool false] 38)).heap.size := by rw [World.size_alloc]; omega
          go_roundw
          case rel => exact ⟨k + 1, (writeD t p x).1, by omega, by go_num, hE2, HI1.out.mono (fun k hk _ => hk.elim id (fun h3 => .inr (Nat.le_trans hsz h3))), by omega, by omega, (HO.out.alloc _).trans HO1.out (fun _ h => h)⟩
          case measure => simp [intOf]; omega
        · have hE2 : Aside0 (execD s l = writeD t p x) := ⟨by rw [hE.out]; simp [execD, hz]⟩
          clear hE
          have hzb : ((writeD t p x).2 != 0) = true := by simp [hz]
          have hzc : ((writeD t p x).2 == 0) = false := by simp [hz]
          clear hz
          go_wp2_with (go_at_call 27; refine (Write_calls g _ t p x _ HB.out (by omega) (by omega)).mono ?_; rintro e w1 ⟨rfl, hi1, ho1⟩; have HI1 := Aside0.mk hi1; have HO1 := Aside0.mk ho1; clear hi1 ho1)
          have hs1 := HO.out.size
          have hsz : w.heap.size ≤ (wr.alloc (.cells #[.int .i64 p, .string x, .bool false] 38)).heap.size := by rw [World.size_alloc]; omega
          go_ret
          rw [hE2.out]
          exact ⟨rfl, HI1.out.mono (fun k hk _ => hk.elim id (fun h3 => .inr (Nat.le_trans hsz h3))), (HO.out.alloc _).trans HO1.out (fun _ h => h)⟩
    · obtain rfl : k = l.length := by omega
      have hE2 : Aside0 (execD s l = (t, 0)) := ⟨by rw [hE.out, List.drop_length]; rfl⟩
      have HI1 := Aside0.mk hI
      have HO := Aside0.mk hO
      clear hE hI hO
      go_wp2
      go_ret
      rw [hE2.out]
      exact ⟨rfl, HI1.out, HO.out⟩
end Go.Proofs.Ytccomlafacdcjaa.Dk
