/-
  A range over a function whose iterator never ends by itself: the body brings it to an end. The statement's law, for rounds that are counted.
-/
import Derived.Test.YtccomlafacdcjaaDe
namespace Go.Proofs.Ytccomlafacdcjaa.Dk
open Go.RowKit Go.Shelf Go.Proofs.YtccomlafacdcjaaW.PrintWords
set_option linter.unusedVariables false

/-- How a round's body may be left: it goes on to the next round, or it leaves by a jump. -/
def leftBy (I : World → Prop) (Ix : Code → World → Prop) (l D : Nat) (W : World) : Exit → Act → World → Prop
  | .normal, _, W' => I W' ∧ W'.heap[l]? = W.heap[l]? ∧ W'.heap[D]? = W.heap[D]?
  | .exit id, _, W' => Ix (.exit id) W' ∧ W'.heap[l]? = W.heap[l]? ∧ W'.heap[D]? = W.heap[D]?
  | _, _, _ => False

theorem range_rounds {P : Program} {n : Nat} {g : Operand} {ps : Array Tmp} {assign body : Code} {Q : Exit → Act → World → Prop} {a : Act} {w : World} (h1 : 1 ≤ n) {gf : Nat} {lb : Array Value}
    (hg : a.eval g = .func (.func gf) #[] lb) (eg : ∀ args w, (callFunc gf args).run P w = .ok (.enter gf args) w) (encs : Nat → Array Value) (hps : ∀ k, (encs k).size = ps.size) (Mem : Nat → World → Prop)
    (hseq : ∀ (l : Nat) (Inv : Nat → World → Prop) (Post : World → Prop) (W : World), (∀ k W, Inv k W → Mem k W) →
      (∀ k W, Inv k W → YieldAt Fence.wide (n - 1 - 1) P l (encs k) W fun e W' => (e = .returned (.bool true) ∧ Inv (k + 1) W') ∨ (e = .returned (.bool false) ∧ Post W')) → Inv 0 W →
      CallsIn Fence.wide (n - 1) P gf (#[.func (.yield l) #[] #[]] ++ lb) W fun e W' => (∃ v, e = .returned v) ∧ Post W')
    (I : Nat → World → Prop) (Ix : Code → World → Prop) (hmem : ∀ k W, I k W → Mem k W)
    (hI : ∀ k W r o, I k W → W.heap[w.heap.size + 1]? = some (.loop r) → I k (W.putObj (w.heap.size + 1) o))
    (hIx : ∀ c W r o, Ix c W → W.heap[w.heap.size + 1]? = some (.loop r) → Ix c (W.putObj (w.heap.size + 1) o))
    (h0 : ∀ d o, I 0 ((w.alloc d).alloc o)) (a₁ : Nat → Act)
    (hassign : ∀ (k : Nat) (W : World) (K : Act → World → Prop), K (a₁ k) W →
      assign.wpIn (Fence.wide.inRound (w.heap.size + 1)) (n - 1 - 1) P (Exit.then K (fun _ _ _ => False)) { tmps := (ps.zip (encs k)).foldl (fun t (p, v) => t.setIfInBounds p v) a.tmps, defers := [] } W)
    (hbody : ∀ (k : Nat) (W : World) (r : Loop) (d : Option (List Deferred)), I k W → W.heap[w.heap.size + 1]? = some (.loop r) → W.heap[w.heap.size]? = some (.deferred d) →
      body.wpIn (Fence.wide.inRound (w.heap.size + 1)) (n - 1 - 1) P (leftBy (I (k + 1)) Ix (w.heap.size + 1) w.heap.size W) (a₁ k) W)
    (hstop : ∀ (c : Code) (W : World), Ix c W → W.heap[w.heap.size]? = some (.deferred (some [])) → c.wpIn Fence.wide n P Q { a with defers := { target := .collected w.heap.size, args := #[] } :: a.defers } W) :
    (Code.rangeFunc g ps assign body).wpIn Fence.wide n P Q a w := by
  refine wpIn_rangeFunc ?_
  intro fn _
  let rec_ : LoopState → Option Code → Loop := fun st pe => { state := st, pending := pe, fn, tmps := a.tmps, params := ps, assign, body, defers := w.heap.size }
  let W1 : World := (w.alloc (.deferred (some []))).alloc (.loop (rec_ .ready none))
  have hL1 : W1.heap[w.heap.size + 1]? = some (.loop (rec_ .ready none)) := by
    have := heap_new (w.alloc (.deferred (some []))) (.loop (rec_ .ready none))
    rwa [World.size_alloc] at this
  have hK1 : W1.heap[w.heap.size]? = some (.deferred (some [])) := (Below.heap_alloc _ _ _ (by simp)).trans (heap_new w _)
  refine ⟨w.heap.size + 1, [{ target := .collected w.heap.size, args := #[] }], W1, { target := .fn (.func gf) lb, args := #[.func (.yield (w.heap.size + 1)) #[] #[]] }, W1, gf,
    #[.func (.yield (w.heap.size + 1)) #[] #[]] ++ lb, W1, run_enterLoop_outer _ _ _ _ _, ?_, fun _ _ => trivial, ?_, fun _ => h1, ?_⟩
  · simp only [resolve, hg]
    simp [go_sem]
  · simp [invoke, go_sem, eg]
  · refine (hseq (w.heap.size + 1)
      (fun k W => I k W ∧ W.heap[w.heap.size + 1]? = some (.loop (rec_ .ready none)) ∧ W.heap[w.heap.size]? = some (.deferred (some [])))
      (fun W => ∃ c, Ix c W ∧ W.heap[w.heap.size + 1]? = some (.loop (rec_ .done (some c))) ∧ W.heap[w.heap.size]? = some (.deferred (some [])))
      W1 (fun k W h => hmem k W h.1) ?_ ⟨h0 _ _, hL1, hK1⟩).mono ?_
    · rintro k W ⟨hi, hl, hk⟩
      have hlt := blk_lt hl
      have hy := run_yield (P := P) (args := encs k) hl (hps k)
      refine ⟨fn, _, assign, body, hy, roundIn_of_wpIn trivial (hassign k W _ ⟨_, run_beginRound hl rfl, ?_⟩)⟩
      have hl2 : (W.putObj (w.heap.size + 1) (.loop { rec_ .ready none with state := .busy })).heap[w.heap.size + 1]? = some (.loop { rec_ .ready none with state := .busy }) := World.putObj_heap_same hlt
      have hk2 : (W.putObj (w.heap.size + 1) (.loop { rec_ .ready none with state := .busy })).heap[w.heap.size]? = some (.deferred (some [])) := (World.putObj_heap_other (by omega)).trans hk
      refine wpIn_mono (hbody k _ _ _ (hI k W _ _ hi hl) hl2 hk2) ?_
      rintro e a3 W3 hp
      cases e with
      | normal =>
        obtain ⟨hi3, e1, e2⟩ := hp
        have hl3 := e1.trans hl2
        exact ⟨_, _, run_endRound (P := P) none hl3, .inl ⟨rfl, hI _ _ _ _ hi3 hl3, World.putObj_heap_same (blk_lt hl3), (World.putObj_heap_other (by omega)).trans (e2.trans hk2)⟩⟩
      | exit id =>
        obtain ⟨hi3, e1, e2⟩ := hp
        have hl3 := e1.trans hl2
        exact ⟨_, _, run_endRound (P := P) (some (.exit id)) hl3, .inr ⟨rfl, .exit id, hIx _ _ _ _ hi3 hl3, World.putObj_heap_same (blk_lt hl3), (World.putObj_heap_other (by omega)).trans (e2.trans hk2)⟩⟩
      | ret => exact hp.elim
      | goto t => exact hp.elim
      | panic ch => exact hp.elim
      | outgrown => exact hp.elim
    · rintro e W2 ⟨⟨v, rfl⟩, c, hi, hl, hk⟩
      exact ⟨some c, _, run_endLoop (P := P) hl (by simp [rec_]), hstop c _ (hIx c _ _ _ hi hl) ((World.putObj_heap_other (by omega)).trans hk)⟩
end Go.Proofs.Ytccomlafacdcjaa.Dk
