/-
  The laws' start: a disk and its reference.
-/
import Derived.Test.YtccomlafacdcjaaDv
namespace Go.Proofs.Ytccomlafacdcjaa.Dk
open Go.RowKit Go.Proofs.YtccomlafacdcjaaW.PrintWords Go.Proofs.YtccomlafacdcjaaW.PrintMore
open Go.Proofs.Ytccomlafacdcjaa.Ref
set_option linter.unusedVariables false
attribute [local irreducible] Sep diskT rowT refT

def pagesOf (p : Nat) : Nat := 1 + p % 12
theorem pagesOf_range (p : Nat) : 1 ≤ pagesOf p ∧ pagesOf p ≤ 4096 := by unfold pagesOf; omega

set_option maxHeartbeats 1000000 in
set_option maxRecDepth 100000 in
theorem start_S {w0 w : World} {ts : List Th} (S0 : SepT w0 w ts) (p : Nat) (hp : p < 256) :
    Calls Try.prog 14 #[.int .u8 p] w fun e w' => ∃ g A0 n0 c0 A1 n1 c1, e = .returned (.tuple #[.pointer (some ⟨g, 0, none⟩), .agg #[.slice A0 n0 c0, .slice A1 n1 c1]]) ∧ SepT w0 w' (refT w0.heap.size (.slice A0 n0 c0) (.slice A1 n1 c1) (List.replicate (pagesOf p) nb) [] :: diskT g (newD (pagesOf p)) :: ts) := by
  have S := Aside0.mk (S0.allocBox #[.slice none 0 0, .slice none 0 0] 32)
  clear S0
  have hn : 1 + (p : Int) % 12 = (pagesOf p : Int) := by unfold pagesOf; omega
  have ⟨hn1, hn2⟩ := pagesOf_range p
  go_enter Try.func14, Try.ntmps14
  go_wp2_with (first
    | (go_at_call 12; have hc := New_S S.out (pagesOf p) hn1 hn2; rw [← hn] at hc; go_fit hc; clear hc; rintro e w1 ⟨g, rfl, hs⟩; clear S; have S := Aside0.mk hs; clear hs)
    | (go_at_call 13; have hc := refNew_S S.out (pagesOf p) hn1 hn2; rw [← hn] at hc; go_fit hc; clear hc; rintro e w2 ⟨A0, n0, c0, A1, n1, c1, rfl, hs⟩; clear S; have S := Aside0.mk hs; clear hs))
  have S1 := Aside0.mk (S.out.allocBox #[.slice A0 n0 c0, .slice A1 n1 c1] 32)
  clear S
  obtain ⟨W, hW⟩ : ∃ W, W = w2.alloc (.cells #[.slice A0 n0 c0, .slice A1 n1 c1] 32) := ⟨_, rfl⟩
  rw [← hW] at S1 ⊢
  clear hW
  generalize w2.heap.size = b7 at S1 ⊢
  have S := S1
  clear S1
  have x7 := (SepT.box S.out m0).1
  have x3 := (SepT.box S.out m3').1
  have d0 := blk_cell x7 0
  have d1 := blk_cell x7 1
  have e0 := blk_frozen x3 0
  have e1 := blk_frozen x3 1
  have y0 := blk_cell x3 0
  have y1 := blk_cell x3 1
  simp at d0 d1 y0 y1
  clear x7 x3
  have S2 := Aside0.mk (((((SepT.drop S.out).third).setBox 0 (.slice A0 n0 c0)).setBox 1 (.slice A1 n1 c1)).drew)
  go_region
  clear e0 e1 d0 d1 y0 y1 S
  generalize (World.setCell _ _ _).drew = W2 at S2 ⊢
  have x3 : W2.heap[w.heap.size]? = some (.cells #[.slice A0 n0 c0, .slice A1 n1 c1] 32 (0, 0)) := (SepT.box S2.out m0).1
  go_wp2
  refine bodyPost_ret (results_tc rfl _ _ w.heap.size 32 #[.slice A0 n0 c0, .slice A1 n1 c1] (0, 0) _ rfl x3 Try.underlying32 rfl (by kernel_rfl)) rfl ?_
  exact ⟨g, A0, n0, c0, A1, n1, c1, rfl, SepT.drop S2.out⟩
end Go.Proofs.Ytccomlafacdcjaa.Dk
