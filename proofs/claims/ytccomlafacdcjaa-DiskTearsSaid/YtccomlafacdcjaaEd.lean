/-
  The laws' do: a call of a disk and of its reference.
-/
import Derived.Test.YtccomlafacdcjaaEs
namespace Go.Proofs.Ytccomlafacdcjaa.Dk
open Go.RowKit Go.Proofs.YtccomlafacdcjaaW.PrintWords Go.Proofs.YtccomlafacdcjaaW.PrintMore
open Go.Proofs.Ytccomlafacdcjaa.Ref
set_option linter.unusedVariables false
attribute [local irreducible] Sep diskT rowT refT boxT

set_option maxHeartbeats 1000000 in
set_option maxRecDepth 100000 in
theorem do_crash {w0 w : World} {ts : List Th} {s : DS} {g : Nat} {A0 A1 A : Option Addr} {n0 c0 n1 c1 c : Nat} (S0 : SepT w0 w (refT w0.heap.size (.slice A0 n0 c0) (.slice A1 n1 c1) s.dur s.pen :: diskT g s :: ts))
    (k p : Int) (x : ByteArray) (b : Bool) (cs : List Int) (hk : (Int.tmod k 3 == 1) = true) (hC : Kd.C (Kd.int .i64) w0 A cs.length cs) (hl : cs.length ≤ c) (hcs : cs.length < 1000000) (hp : s.pen.length < 1000000) :
    Calls Try.prog 15 #[.pointer (some ⟨g, 0, none⟩), .agg #[.slice A0 n0 c0, .slice A1 n1 c1], .agg #[.int .u8 k, .int .i64 p, .string x, .bool b, .slice A cs.length c]] w
      fun e w' => ∃ A0 n0 c0 A1 n1 c1, e = .returned (.tuple #[.agg #[.slice A0 n0 c0, .slice A1 n1 c1], .bool true]) ∧ SepT w0 w' (refT w0.heap.size (.slice A0 n0 c0) (.slice A1 n1 c1) (crashD s cs).dur (crashD s cs).pen :: diskT g (crashD s cs) :: ts) := by
  have HIN := Aside0.mk (SepT.inb S0 m1)
  have S := Aside0.mk (((S0.allocBox #[.slice A0 n0 c0, .slice A1 n1 c1] 32).allocBox #[.int .u8 k, .int .i64 p, .string x, .bool b, .slice A cs.length c] 41).allocBox #[.slice none 0 0, .slice none 0 0] 32)
  simp only [World.size_alloc] at S
  clear S0
  have HC := Aside0.mk hC
  clear hC
  go_enter Try.func15, Try.ntmps15
  go_wp2_with (first
    | (go_at_call 24; have hc := Crash_S S.out.fifth A c cs HC.out hl hcs hp; go_fit hc; clear hc; rintro e w1 ⟨rfl, hs⟩; clear S; have S := Aside0.mk hs; clear hs; have d0 : w1.cell? ⟨w.heap.size, 0, none⟩ = some (.slice A0 n0 c0) := (blk_cell (SepT.box S.out m3').1 0).trans rfl; have d1 : w1.cell? ⟨w.heap.size, 1, none⟩ = some (.slice A1 n1 c1) := (blk_cell (SepT.box S.out m3').1 1).trans rfl; have d2 : w1.cell? ⟨w.heap.size + 1, 4, none⟩ = some (.slice A cs.length c) := (blk_cell (SepT.box S.out m2).1 4).trans rfl)
    | (go_at_call 35; have hc := refCrash_S S.out m4 A c cs HC.out hl hcs HIN.out.2 hp HIN.out.1; go_fit hc; clear hc; rintro e w2 ⟨B0, k0, j0, B1, k1, j1, rfl, hs⟩; clear S; have S := Aside0.mk hs; clear hs; have x6 := (SepT.box S.out m2).1; have d0 : w2.cell? ⟨w.heap.size + 1 + 1, 0, none⟩ = some (.slice none 0 0) := (blk_cell x6 0).trans rfl; have d1 : w2.cell? ⟨w.heap.size + 1 + 1, 1, none⟩ = some (.slice none 0 0) := (blk_cell x6 1).trans rfl; have e0 := blk_frozen x6 0; have e1 := blk_frozen x6 1; clear x6)
    )
  have S2 := Aside0.mk (((S.out.third).setBox 0 (.slice B0 k0 j0)).setBox 1 (.slice B1 k1 j1))
  clear d0 d1 e0 e1 S
  generalize World.setCell (World.setCell _ _ _) _ _ = W2 at S2 ⊢
  have x6 : W2.heap[w.heap.size + 1 + 1]? = some (.cells #[.slice B0 k0 j0, .slice B1 k1 j1] 32 (0, 0)) := (SepT.box S2.out m0).1
  refine bodyPost_ret (results_ct rfl _ _ (w.heap.size + 1 + 1) 32 #[.slice B0 k0 j0, .slice B1 k1 j1] (0, 0) _ rfl x6 Try.underlying32 rfl (by kernel_rfl)) rfl ?_
  exact ⟨B0, k0, j0, B1, k1, j1, rfl, SepT.drop (SepT.third (SepT.drop (SepT.third (SepT.drop (SepT.third (SepT.drop S2.out))))))⟩

theorem syncD_dur (s : DS) : (syncD s).dur = flush s.dur s.pen := by unfold syncD; rw [noted_dur]

set_option maxHeartbeats 1000000 in
set_option maxRecDepth 100000 in
theorem do_sync {w0 w : World} {ts : List Th} {s : DS} {g : Nat} {A0 A1 A : Option Addr} {n0 c0 n1 c1 c : Nat} (S0 : SepT w0 w (refT w0.heap.size (.slice A0 n0 c0) (.slice A1 n1 c1) s.dur s.pen :: diskT g s :: ts))
    (k p : Int) (x : ByteArray) (b : Bool) (cs : List Int) (hk1 : (Int.tmod k 3 == 1) = false) (hk : (Int.tmod k 3 == 2) = true) (hp : s.pen.length < 1000000) (hq : s.log.length < 1000000) :
    Calls Try.prog 15 #[.pointer (some ⟨g, 0, none⟩), .agg #[.slice A0 n0 c0, .slice A1 n1 c1], .agg #[.int .u8 k, .int .i64 p, .string x, .bool b, .slice A cs.length c]] w
      fun e w' => ∃ A0 n0 c0 A1 n1 c1, e = .returned (.tuple #[.agg #[.slice A0 n0 c0, .slice A1 n1 c1], .bool true]) ∧ SepT w0 w' (refT w0.heap.size (.slice A0 n0 c0) (.slice A1 n1 c1) (syncD s).dur (syncD s).pen :: diskT g (syncD s) :: ts) := by
  have HIN := Aside0.mk (SepT.inb S0 m1)
  have S := Aside0.mk (((S0.allocBox #[.slice A0 n0 c0, .slice A1 n1 c1] 32).allocBox #[.int .u8 k, .int .i64 p, .string x, .bool b, .slice A cs.length c] 41).allocBox #[.slice none 0 0, .slice none 0 0] 32)
  simp only [World.size_alloc] at S
  clear S0
  rw [syncD_dur, syncD_pen]
  go_enter Try.func15, Try.ntmps15
  go_wp2_with (first
    | (go_at_call 25; have hc := Sync_S S.out.fifth hq hp; go_fit hc; clear hc; rintro e w1 ⟨rfl, hs⟩; clear S; have S := Aside0.mk hs; clear hs; have d0 : w1.cell? ⟨w.heap.size, 0, none⟩ = some (.slice A0 n0 c0) := (blk_cell (SepT.box S.out m3').1 0).trans rfl; have d1 : w1.cell? ⟨w.heap.size, 1, none⟩ = some (.slice A1 n1 c1) := (blk_cell (SepT.box S.out m3').1 1).trans rfl)
    | (go_at_call 28; have hc := refSync_S S.out m4 HIN.out.2 hp HIN.out.1; go_fit hc; clear hc; rintro e w2 ⟨B0, k0, j0, B1, k1, j1, rfl, hs⟩; clear S; have S := Aside0.mk hs; clear hs; have x6 := (SepT.box S.out m2).1; have d0 : w2.cell? ⟨w.heap.size + 1 + 1, 0, none⟩ = some (.slice none 0 0) := (blk_cell x6 0).trans rfl; have d1 : w2.cell? ⟨w.heap.size + 1 + 1, 1, none⟩ = some (.slice none 0 0) := (blk_cell x6 1).trans rfl; have e0 := blk_frozen x6 0; have e1 := blk_frozen x6 1; clear x6)
    )
  have S2 := Aside0.mk (((S.out.third).setBox 0 (.slice B0 k0 j0)).setBox 1 (.slice B1 k1 j1))
  clear d0 d1 e0 e1 S
  generalize World.setCell (World.setCell _ _ _) _ _ = W2 at S2 ⊢
  have x6 : W2.heap[w.heap.size + 1 + 1]? = some (.cells #[.slice B0 k0 j0, .slice B1 k1 j1] 32 (0, 0)) := (SepT.box S2.out m0).1
  refine bodyPost_ret (results_ct rfl _ _ (w.heap.size + 1 + 1) 32 #[.slice B0 k0 j0, .slice B1 k1 j1] (0, 0) _ rfl x6 Try.underlying32 rfl (by kernel_rfl)) rfl ?_
  exact ⟨B0, k0, j0, B1, k1, j1, rfl, SepT.drop (SepT.third (SepT.drop (SepT.third (SepT.drop (SepT.third (SepT.drop S2.out))))))⟩

set_option maxHeartbeats 1000000 in
set_option maxRecDepth 100000 in
theorem do_write {w0 w : World} {ts : List Th} {s : DS} {g : Nat} {A0 A1 A : Option Addr} {n0 c0 n1 c1 c : Nat} (S0 : SepT w0 w (refT w0.heap.size (.slice A0 n0 c0) (.slice A1 n1 c1) s.dur s.pen :: diskT g s :: ts))
    (k p : Int) (x : ByteArray) (b : Bool) (cs : List Int) (hk1 : (Int.tmod k 3 == 1) = false) (hk : (Int.tmod k 3 == 2) = false) (hp : s.pen.length < 1000000) (hq : s.log.length < 1000000) :
    Calls Try.prog 15 #[.pointer (some ⟨g, 0, none⟩), .agg #[.slice A0 n0 c0, .slice A1 n1 c1], .agg #[.int .u8 k, .int .i64 p, .string x, .bool b, .slice A cs.length c]] w
      fun e w' => ∃ A0 n0 c0 A1 n1 c1, e = .returned (.tuple #[.agg #[.slice A0 n0 c0, .slice A1 n1 c1], .bool true]) ∧ SepT w0 w' (refT w0.heap.size (.slice A0 n0 c0) (.slice A1 n1 c1) s.dur (writeD s p x).1.pen :: diskT g (writeD s p x).1 :: ts) := by
  have HIN := Aside0.mk (SepT.inb S0 m1)
  have S := Aside0.mk (((S0.allocBox #[.slice A0 n0 c0, .slice A1 n1 c1] 32).allocBox #[.int .u8 k, .int .i64 p, .string x, .bool b, .slice A cs.length c] 41).allocBox #[.slice none 0 0, .slice none 0 0] 32)
  simp only [World.size_alloc] at S
  clear S0
  go_enter Try.func15, Try.ntmps15
  go_wp2_with (first
    | (go_at_call 36; have hc := refWrite_S s S.out.fourth p x HIN.out.2 hp; go_fit hc; clear hc; rintro e w1 ⟨B0, k0, j0, B1, k1, j1, rfl, hs⟩; clear S; have S := Aside0.mk hs; clear hs)
    )
  have S1 := Aside0.mk (S.out.allocBox #[.slice B0 k0 j0, .slice B1 k1 j1] 32)
  clear S
  obtain ⟨W, hW⟩ : ∃ W, W = w1.alloc (.cells #[.slice B0 k0 j0, .slice B1 k1 j1] 32) := ⟨_, rfl⟩
  rw [← hW] at S1 ⊢
  clear hW
  generalize w1.heap.size = b8 at S1 ⊢
  have S := S1
  clear S1
  obtain ⟨SS, hSS⟩ : ∃ SS : World → Prop, SS = fun W => W.cell? ⟨b8, 0, none⟩ = some (.slice B0 k0 j0) ∧ W.cell? ⟨b8, 1, none⟩ = some (.slice B1 k1 j1) ∧ W.cell? ⟨w.heap.size + 1, 1, none⟩ = some (.int .i64 p) ∧ W.cell? ⟨w.heap.size + 1, 2, none⟩ = some (.string x) := ⟨_, rfl⟩
  have HK1 : Aside0 (∀ (W : World) (l : List Th), SepT w0 W l → boxT b8 #[.slice B0 k0 j0, .slice B1 k1 j1] 32 ∈ l → boxT (w.heap.size + 1) #[.int .u8 k, .int .i64 p, .string x, .bool b, .slice A cs.length c] 41 ∈ l → SS W) := ⟨fun W l h h1 h2 => by
    rw [hSS]
    exact ⟨(blk_cell (SepT.box h h1).1 0).trans rfl, (blk_cell (SepT.box h h1).1 1).trans rfl, (blk_cell (SepT.box h h2).1 1).trans rfl, (blk_cell (SepT.box h h2).1 2).trans rfl⟩⟩
  subst hSS
  go_region_held3 (fun W => W.cell? ⟨b8, 0, none⟩ = some (.slice B0 k0 j0) ∧ W.cell? ⟨b8, 1, none⟩ = some (.slice B1 k1 j1) ∧ W.cell? ⟨w.heap.size + 1, 1, none⟩ = some (.int .i64 p) ∧ W.cell? ⟨w.heap.size + 1, 2, none⟩ = some (.string x)) (first | exact HK1.out _ _ S.out.drew m0 m3' | exact HK1.out _ _ S.out m1 m4 | exact HK1.out _ _ ((S.out.fourth.setBox 0 (.slice B0 k0 j0)).setBox 1 (.slice B1 k1 j1)) m2 m4)
    ((go_at_call 27; have hc := Write_S S.out.drew.sixth p x hq hp; go_fit hc; clear hc; rintro e w2 ⟨rfl, hs⟩; clear S; have S := Aside0.mk hs; clear hs; have x6 := (SepT.box S.out m3').1; have d0 : w2.cell? ⟨w.heap.size + 1 + 1, 0, none⟩ = some (.slice none 0 0) := (blk_cell x6 0).trans rfl; have d1 : w2.cell? ⟨w.heap.size + 1 + 1, 1, none⟩ = some (.slice none 0 0) := (blk_cell x6 1).trans rfl; have e0 := blk_frozen x6 0; have e1 := blk_frozen x6 1; clear x6))
  go_wp2
  have S2 := Aside0.mk ((S.out.fourth.setBox 0 (.slice B0 k0 j0)).setBox 1 (.slice B1 k1 j1))
  clear d0 d1 e0 e1 S
  generalize World.setCell (World.setCell _ _ _) _ _ = W2 at S2 ⊢
  have x6 : W2.heap[w.heap.size + 1 + 1]? = some (.cells #[.slice B0 k0 j0, .slice B1 k1 j1] 32 (0, 0)) := (SepT.box S2.out m0).1
  refine bodyPost_ret (results_ct rfl _ _ (w.heap.size + 1 + 1) 32 #[.slice B0 k0 j0, .slice B1 k1 j1] (0, 0) _ rfl x6 Try.underlying32 rfl (by kernel_rfl)) rfl ?_
  exact ⟨B0, k0, j0, B1, k1, j1, rfl, SepT.drop (SepT.third (SepT.drop (SepT.third (SepT.drop (SepT.third (SepT.third (SepT.drop S2.out)))))))⟩

/-- What a call makes of a disk. -/
def doD (s : DS) (a : S41) : DS := if Int.tmod a.f0 3 = 1 then crashD s a.f2 else if Int.tmod a.f0 3 = 2 then syncD s else (writeD s a.f1.f0 a.f1.f1).1
theorem writeD_dur (s : DS) (p : Int) (x : ByteArray) : (writeD s p x).1.dur = s.dur := by
  unfold writeD; split
  · rfl
  · split
    · rfl
    · rw [noted_dur]
theorem do_S {w0 w : World} {ts : List Th} {s : DS} {g : Nat} {A0 A1 : Option Addr} {n0 c0 n1 c1 : Nat} (S0 : SepT w0 w (refT w0.heap.size (.slice A0 n0 c0) (.slice A1 n1 c1) s.dur s.pen :: diskT g s :: ts))
    (a : S41) (A : Option Addr) (c : Nat) (hC : Kd.C (Kd.int .i64) w0 A a.f2.length a.f2) (hl : a.f2.length ≤ c) (hcs : a.f2.length < 1000000) (hp : s.pen.length < 1000000) (hq : s.log.length < 1000000) :
    Calls Try.prog 15 #[.pointer (some ⟨g, 0, none⟩), .agg #[.slice A0 n0 c0, .slice A1 n1 c1], .agg #[.int .u8 a.f0, .int .i64 a.f1.f0, .string a.f1.f1, .bool a.f1.f2, .slice A a.f2.length c]] w
      fun e w' => ∃ A0 n0 c0 A1 n1 c1, e = .returned (.tuple #[.agg #[.slice A0 n0 c0, .slice A1 n1 c1], .bool true]) ∧ SepT w0 w' (refT w0.heap.size (.slice A0 n0 c0) (.slice A1 n1 c1) (doD s a).dur (doD s a).pen :: diskT g (doD s a) :: ts) := by
  unfold doD
  by_cases h1 : Int.tmod a.f0 3 = 1
  · rw [if_pos h1]
    exact do_crash S0 _ _ _ _ _ (by simpa using h1) hC hl hcs hp
  · rw [if_neg h1]
    by_cases h2 : Int.tmod a.f0 3 = 2
    · rw [if_pos h2]
      exact do_sync S0 _ _ _ _ _ (by simpa using h1) (by simpa using h2) hp hq
    · rw [if_neg h2]
      have h := do_write (A := A) (c := c) S0 a.f0 a.f1.f0 a.f1.f1 a.f1.f2 a.f2 (by simpa using h1) (by simpa using h2) hp hq
      rw [writeD_dur]
      exact h
end Go.Proofs.Ytccomlafacdcjaa.Dk
