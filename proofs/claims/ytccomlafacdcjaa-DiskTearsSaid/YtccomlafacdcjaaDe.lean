/-
  The endless choices of a crash: the function that makes the iterator, and the iterator, for whatever body that comes to an end.
-/
import Derived.Test.YtccomlafacdcjaaDm
import Derived.RangeFuncNested
import Derived.RangeFuncBound
import Derived.RangeFuncCalls
import Derived.RangeFuncLeaves
import Derived.Shelf.Abstract
import Derived.Shelf.RegionOpen
import Derived.WalkKit
import Derived.OwnWalkIn
import Derived.TacticsInMore
import Derived.LoopNIn
import Derived.LoopIn
import Derived.Sort.LoopGhostIn
import Derived.Outline
namespace Go.Proofs.Ytccomlafacdcjaa.Dk
open Go.RowKit Go.Shelf Go.Proofs.YtccomlafacdcjaaW.PrintWords
set_option linter.unusedVariables false
attribute [local go_sem] Oper.semAt_some

/-- What a crash makes of a number: modulo 3. -/
def m3 (c : Int) : Int := Int.tmod (wrap64 (Int.tmod c 3 + 3)) 3
theorem m3_range (c : Int) : 0 ≤ m3 c ∧ m3 c < 3 := by
  unfold m3
  have h1 := Int.tmod_lt_of_pos c (show (0 : Int) < 3 by decide)
  have h2 : -3 < Int.tmod c 3 := Int.lt_tmod_of_pos c (by decide)
  have h3 : wrap64 (Int.tmod c 3 + 3) = Int.tmod c 3 + 3 := by unfold wrap64; omega
  rw [h3, Int.tmod_eq_emod_of_nonneg (by omega)]
  omega
/-- The choices, of which there is one at least. -/
def some1 (l : List Int) : List Int := if l = [] then [0] else l
theorem some1_pos (l : List Int) : 0 < (some1 l).length := by
  unfold some1
  split
  · simp
  · exact List.length_pos_iff.2 ‹_›

set_option maxHeartbeats 2000000 in
set_option maxRecDepth 100000 in
theorem endless1_in (n : Nat) (hn : 1 ≤ n) (l bl : Nat) (A : Option Addr) (c : Nat) (cs : List Int) (hcs : 0 < cs.length) (hcl : cs.length < 1000000000) (M : Nat) (Inv : Nat → World → Prop) (Post : World → Prop)
    (hmem : ∀ k W, Inv k W → W.cell? ⟨bl, 0, none⟩ = some (.slice A cs.length c) ∧ Kd.C (Kd.int .i64) W A cs.length cs)
    (hM : ∀ k W, Inv k W → k ≤ M)
    (hY : ∀ k W, Inv k W → YieldAt Fence.wide (n - 1) Try.prog l #[.int .i64 (m3 (rd cs (k % cs.length : Nat)))] W fun e W' => (e = .returned (.bool true) ∧ Inv (k + 1) W') ∨ (e = .returned (.bool false) ∧ Post W'))
    (W : World) (h0 : Inv 0 W) :
    CallsIn Fence.wide n Try.prog 48 #[.func (.yield l) #[] #[], .pointer (some ⟨bl, 0, none⟩)] W fun e W' => (∃ v, e = .returned v) ∧ Post W' := by
  refine callsIn_of_wp Try.func48 rfl trivial ?_ rfl
  simp only [Try.ntmps48, List.size_toArray, List.length_cons, List.length_nil, Nat.reduceAdd, Nat.reduceSub, Array.replicate_succ, Array.replicate_zero, List.push_toArray, List.append_toArray, List.nil_append, List.cons_append]
  have HY := Aside0.mk hY
  have HM := Aside0.mk hM
  have HMM := Aside0.mk hmem
  clear hY hM hmem
  gi_wp2
  gi_loopg [] (M + 1) (fun q wr => ∃ k : Nat, M + 1 - k = q ∧ k % cs.length = 0 ∧ Aside0 (Inv k wr))
  case atStart => exact ⟨0, rfl, by simp, ⟨h0⟩⟩
  case round =>
    obtain ⟨k, hq, hk0, HI⟩ := hrel
    have c0 := (HMM.out k wr HI.out).1
    have HQ := Aside0.mk hq
    have HK0 := Aside0.mk hk0
    clear hq hk0 h0
    gi_wp2
    gi_loopg [7] cs.length (fun q v wr => ∃ j : Nat, j ≤ cs.length ∧ cs.length - j = q ∧ v = .int .i64 j ∧ Aside0 (Inv (k + j) wr))
    case atStart => exact ⟨0, Nat.zero_le _, rfl, rfl, HI⟩
    case round =>
      obtain ⟨j, hj, hq2, rfl, HI2⟩ := hrel
      have HQ2 := Aside0.mk hq2
      clear hq2 HI c0
      by_cases hlt : j < cs.length
      · have hC := (HMM.out _ _ HI2.out).2
        obtain ⟨ad, rfl, d0⟩ := Kd.at_int hC j (by omega) (by omega)
        simp only [Int.toNat_natCast] at d0
        obtain ⟨fn, tmps, assign, body, hy, hR⟩ := HY.out _ _ HI2.out
        have hmod : (k + j) % cs.length = j := by rw [Nat.add_mod, HK0.out, Nat.zero_add, Nat.mod_mod, Nat.mod_eq_of_lt hlt]
        rw [hmod] at hy
        generalize rd cs j = x at hy d0
        clear hmod hC
        have hj2 : (j : Int) < cs.length := by omega
        unfold m3 at hy
        gi_wp2
        refine hR.mono ?_
        rintro e W3 (⟨rfl, hI3⟩ | ⟨rfl, hP3⟩)
        · have hI4 : Aside0 (Inv (k + (j + 1)) W3) := ⟨hI3⟩
          clear hI3 hy hR
          gi_wp2
          go_roundg (cs.length - (j + 1))
          case measure => have := HQ2.out; omega
          case rel => exact ⟨j + 1, by omega, rfl, by go_num, hI4⟩
        · have HP := Aside0.mk hP3
          clear hP3 hy hR
          gi_wp2
          refine bodyPost_ret (results_none rfl _ _ _) rfl ?_
          exact ⟨⟨_, rfl⟩, HP.out⟩
      · obtain rfl : j = cs.length := by omega
        have hM1 := HM.out _ _ HI2.out
        gi_wp2
        go_roundg (M + 1 - (k + cs.length))
        case measure => have := HQ.out; omega
        case rel => exact ⟨k + cs.length, rfl, by rw [Nat.add_mod, HK0.out, Nat.mod_self]; simp, HI2⟩

theorem heap_new (w : World) (o : Obj) : (w.alloc o).heap[w.heap.size]? = some o := by
  show (w.heap.push _)[w.heap.size]? = _
  simp

set_option maxRecDepth 100000 in
/-- The iterator is made: its choices lie in a box of their own. -/
theorem endless_calls (A : Option Addr) (c : Nat) (cs : List Int) (w : World) (S : Nat → Prop) (hS : ∀ k, S k → k < w.heap.size) (hC : ∀ W, Only S w W → Kd.C (Kd.int .i64) W A cs.length cs) (hl : cs.length ≤ c) (hc : cs.length < 1000000) :
    Calls Try.prog 40 #[.slice A cs.length c] w fun e w' => e = .returned (.func (.func 48) #[] #[.pointer (some ⟨w.heap.size, 0, none⟩)]) ∧ Below w.heap.size w w' ∧ w.heap.size < w'.heap.size ∧
      ∃ A' c', ∀ W, Only S w' W → W.cell? ⟨w.heap.size, 0, none⟩ = some (.slice A' (some1 cs).length c') ∧ Kd.C (Kd.int .i64) W A' (some1 cs).length (some1 cs) := by
  have HC := Aside0.mk hC
  clear hC
  by_cases he : cs = []
  · subst he
    go_enter Try.func40, Try.ntmps40
    go_wp2
    go_ret
    refine ⟨rfl, ((Below.refl _ _).alloc (Nat.le_refl _) _).alloc (by simp) _, by simp; omega, some ⟨w.heap.size + 1, 0, none⟩, 1, fun W hW => ?_⟩
    have e1 : ((w.alloc (.cells #[.slice (some ⟨w.heap.size + 1, 0, none⟩) 1 1] 39)).alloc (.cells #[.int .i64 0] 3)).heap[w.heap.size]? = some (.cells #[.slice (some ⟨w.heap.size + 1, 0, none⟩) 1 1] 39 (0, 0)) :=
      (Below.heap_alloc _ _ _ (by simp)).trans (heap_new _ _)
    have e2 : ((w.alloc (.cells #[.slice (some ⟨w.heap.size + 1, 0, none⟩) 1 1] 39)).alloc (.cells #[.int .i64 0] 3)).heap[w.heap.size + 1]? = some (.cells #[.int .i64 0] 3 (0, 0)) := by
      have := heap_new (w.alloc (.cells #[.slice (some ⟨w.heap.size + 1, 0, none⟩) 1 1] 39)) (.cells #[.int .i64 0] 3)
      rwa [World.size_alloc] at this
    have f1 := (hW.block _ (blk_lt e1) (fun hs => by have := hS _ hs; omega)).trans e1
    have f2 := (hW.block _ (blk_lt e2) (fun hs => by have := hS _ hs; omega)).trans e2
    refine ⟨blk_cell f1 0, ?_⟩
    show Kd.C (Kd.int .i64) W (some ⟨w.heap.size + 1, 0, none⟩) 1 [0]
    refine ⟨rfl, by decide, fun _ => ⟨_, rfl, fun j p hj => ⟨[.int .i64 p], rfl, rfl, fun i u hu => ?_⟩⟩⟩
    match j, i, hj, hu with
    | 0, 0, hj, hu =>
      simp at hj hu
      subst hj hu
      rw [show (0 * (Kd.int .i64).sz + 0) = 0 from by simp, add_plain]
      exact blk_cell f2 0
  · have h1 : some1 cs = cs := by simp [some1, he]
    have hp := List.length_pos_iff.2 he
    have hb1 : ((cs.length : Int) == 0) = false := by simp; omega
    go_enter Try.func40, Try.ntmps40
    go_wp2
    go_ret
    refine ⟨rfl, (Below.refl _ _).alloc (Nat.le_refl _) _, by simp, A, c, fun W hW => ?_⟩
    have f1 := (hW.block _ (blk_lt (heap_new w (.cells #[.slice A cs.length c] 39))) (fun hs => by have := hS _ hs; omega)).trans (heap_new w (.cells #[.slice A cs.length c] 39))
    rw [h1]
    exact ⟨blk_cell f1 0, HC.out W (((Only.refl S w).alloc _).trans hW (fun _ h => .inl h))⟩
end Go.Proofs.Ytccomlafacdcjaa.Dk
