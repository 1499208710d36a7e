/-
  A region that draws its order, in a round of a range over a function: walked as outside the round.
-/
import Derived.Test.YtccomlafacdcjaaDl
import Derived.OrdersHeld
import Derived.OrdersIn
namespace Go.Proofs.Ytccomlafacdcjaa.Dk
open Go.RowKit Go.Shelf Go.Proofs.YtccomlafacdcjaaW.PrintWords
set_option linter.unusedVariables false

def noDefer (ops : Array Oper) : Bool := ops.all fun o => match o.op with | .defer _ => false | _ => true

theorem uponIn_of_upon {P : Program} {n l : Nat} {o : Oper} {a : Act} {K : Act → World → Prop} {Q : Exit → Act → World → Prop} {r : Result Next} (h : o.upon P a K Q r) : o.uponIn (Fence.wide.inRound l) n P a K Q r := by
  cases r with
  | ok x w' =>
    cases x with
    | value v => exact h
    | skip => exact h
    | defer d => exact h
    | enter f args => exact ⟨(fun h => nomatch h), CallsIn.inRound l (callsIn_wide.2 h)⟩
    | row row args =>
      refine ⟨(fun h => nomatch h), ?_⟩
      intro c cs _
      obtain ⟨v, w2, h1, h2⟩ := h c cs
      exact ⟨v, w2, h1, stepsIn_wide.2 h2⟩
    | _ => exact h.elim
  | halt x w' =>
    cases x with
    | panic v => exact h
    | _ => exact h.elim

theorem wpOpIn_of {P : Program} {n l : Nat} {ops : Array Oper} {Q : Exit → Act → World → Prop} (hq : ¬ LetsOut Q) (hd : noDefer ops = true) {i : Nat} {K K' : Act → World → Prop} (hK : ∀ a w, K a w → K' a w) {a : Act} {w : World} (h : wpOp P ops Q i K a w) : wpOpIn (Fence.wide.inRound l) n P ops Q i K' a w := by
  unfold wpOp at h
  unfold wpOpIn
  cases ho : ops[i]? with
  | none => rw [ho] at h; exact hK _ _ h
  | some o =>
    rw [ho] at h
    simp only at h ⊢
    have hnd : ∀ c, o.op ≠ .defer c := by
      intro c hc
      obtain ⟨hi, he⟩ := Array.getElem?_eq_some_iff.1 ho
      have := Array.all_eq_true.1 hd i hi
      rw [he, hc] at this
      cases this
    split at h
    · rename_i hw
      rw [if_pos hw]
      rcases h with h | h
      · refine ⟨fun _ _ => trivial, ?_⟩
        rw [Oper.semAt_eq _ _ _ hnd]
        exact uponIn_of_upon (Oper.wp_mono hK h)
      · exact absurd h.2 hq
    · rename_i hw
      rw [if_neg hw]
      exact ⟨fun _ _ => trivial, hK _ _ h⟩

theorem wpAnyIn_of {P : Program} {n l : Nat} {md : Region.Mode} {ops : Array Oper} {Q : Exit → Act → World → Prop} (hq : ¬ LetsOut Q) (hd : noDefer ops = true) :
    ∀ (fuel : Nat) (listed : Array Bool) (a : Act) (w : World), wpAny P md ops Q fuel listed a w → wpAnyIn (Fence.wide.inRound l) n P md ops Q fuel listed a w
  | 0, _, _, _, h => h
  | fuel + 1, listed, a, w, h => ⟨h.1, fun i hi => wpOpIn_of hq hd (fun a' w' h' => wpAnyIn_of hq hd fuel _ a' w' h') (h.2 i hi)⟩

theorem wpIn_region_round {P : Program} {n l id : Nat} {ops : Array Oper} {Q : Exit → Act → World → Prop} {a : Act} {w : World} (S : World → Prop) (hm : P.follows .mixedOrders = true) (hq : ¬ LetsOut Q) (hd : noDefer ops = true)
    (h : wpAnyH P .any ops Q S ops.size (Array.replicate ops.size false) a w.drew) : (Code.region id ops true).wpIn (Fence.wide.inRound l) n P Q a w :=
  wpIn_region_any hm (wpAnyIn_of hq hd _ _ _ _ (wpAny_of_held _ _ _ _ h))
end Go.Proofs.Ytccomlafacdcjaa.Dk
