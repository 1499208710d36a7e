/-
  The law MerkleFrontiers, walked.
-/
import Derived.Test.YtiafadmkkehdnaaPf
namespace Go.Proofs.Ytiafadmkkehdnaa.Sh
open Go.RowKit Go.Great Go.Proofs.YtiafadmkkehdnaaW.PrintWords Go.Proofs.YtiafadmkkehdnaaW.PrintMore
set_option linter.unusedVariables false
theorem boxKeeps {w V : World} {ts : List Th} {b t : Nat} {x y : Value} (h : SepT w V ts) (hm : boxT b #[x, y] t ∈ ts) : V.cell? ⟨b, 0, none⟩ = some x ∧ V.cell? ⟨b, 1, none⟩ = some y := by
  have xg := (SepT.box h hm).1
  exact ⟨(blk_cell xg 0).trans rfl, (blk_cell xg 1).trans rfl⟩
attribute [local irreducible] Sep rowT boxT hashT sumB splitN rootB nodeB nodeP leafB cutA inclB consB validB givR readR popN FewB consP AppR FrR
set_option maxHeartbeats 8000000 in
set_option maxRecDepth 100000 in
theorem MerkleFrontiers_law (w : World) (n : Int) (A : Option Addr) (c : Nat) (l : List ByteArray) (hC : Kd.C Kd.string w A l.length l) (hc : l.length ≤ c) (hbs : ∀ s ∈ l, s.size ≤ 140737488351232) (x : ByteArray) :
    Calls Try.prog 13 #[.agg #[.int .i64 n, .slice A l.length c], .string x] w fun e w' => e = .returned (.bool true) ∧ Below w.heap.size w w' := by
  have S := Aside0.mk ((SepT.start w).allocBox #[.int .i64 n, .slice A l.length c] 26)
  obtain ⟨q, hq⟩ : ∃ q, FewB l = q := ⟨_, rfl⟩
  have HF : Aside0 (∀ V ts, SepT w V ts → Calls Try.prog 17 #[.slice A l.length c] V fun e w' => e = .returned (.bool q) ∧ SepT w w' ts) := ⟨fun V ts h => by
    rw [← hq]
    exact Few2_S h A c l (Kd.C_below hC (Sep.base h)) hc hbs⟩
  obtain ⟨N1, l1, e1, happ⟩ : ∃ N1 l1 e1, AppR n l x = (N1, l1, e1) := ⟨_, _, _, rfl⟩
  obtain ⟨R, e2, hfr⟩ : ∃ R e2, FrR n l = (R, e2) := ⟨_, _, rfl⟩
  have H19 : Aside0 (∀ V ts, SepT w V ts → Calls Try.prog 19 #[.agg #[.int .i64 n, .slice A l.length c], .string x] V fun e w' => ∃ B cb, e = .returned (.tuple #[.agg #[.int .i64 N1, .slice B l1.length cb], .int .i64 e1]) ∧ SepT w w' (rowT Kd.string 9 (.slice B l1.length cb) l1 :: ts)) := ⟨fun V ts h => by
    have := Append_S h n A c l x (Kd.C_below hC (Sep.base h)) hc
    rw [happ] at this
    exact this⟩
  have H53 : Aside0 (∀ V ts, SepT w V ts → Calls Try.prog 53 #[.agg #[.int .i64 n, .slice A l.length c], .string x] V fun e w' => ∃ B cb, e = .returned (.tuple #[.agg #[.int .i64 N1, .slice B l1.length cb], .int .i64 e1]) ∧ SepT w w' (rowT Kd.string 9 (.slice B l1.length cb) l1 :: ts)) := ⟨fun V ts h => by
    have := RefAppend_S h n A c l x (Kd.C_below hC (Sep.base h)) hc
    rw [happ] at this
    exact this⟩
  have H21 : Aside0 (∀ V ts, SepT w V ts → Calls Try.prog 21 #[.agg #[.int .i64 n, .slice A l.length c]] V fun e w' => e = .returned (.tuple #[.string R, .int .i64 e2]) ∧ SepT w w' ts) := ⟨fun V ts h => by
    have := FrontierRoot_S h n A c l (Kd.C_below hC (Sep.base h)) hc
    rw [hfr] at this
    exact this⟩
  have H54 : Aside0 (∀ V ts, SepT w V ts → Calls Try.prog 54 #[.agg #[.int .i64 n, .slice A l.length c]] V fun e w' => e = .returned (.tuple #[.string R, .int .i64 e2]) ∧ SepT w w' ts) := ⟨fun V ts h => by
    have := RefFrontierRoot_S h n A c l (Kd.C_below hC (Sep.base h)) hc
    rw [hfr] at this
    exact this⟩
  have he1 : (e1 == e1) = true := by simp
  have he2 : (e2 == e2) = true := by simp
  have xg := boxKeeps S.out m0
  obtain ⟨y0, y1⟩ := xg
  clear hC hc hbs happ hfr hq
  cases q with
  | false =>
    go_enter Try.func13, Try.ntmps13
    go_wp2_with (first
      | (go_at_call 16; have hc := awake46_S S.out; go_fit hc; clear hc; rintro e w1 ⟨rfl, hh⟩; clear S; have S := Aside0.mk hh; clear hh; clear y0 y1; have xg := boxKeeps S.out m0; obtain ⟨y0, y1⟩ := xg)
      | (go_at_call 17; have hc := HF.out _ _ S.out; go_fit hc; clear hc; rintro e w2 ⟨rfl, hh⟩; clear S; have S := Aside0.mk hh; clear hh))
    go_ret
    exact ⟨rfl, Sep.base S.out⟩
  | true =>
    go_enter Try.func13, Try.ntmps13
    go_wp2_with (first
      | (go_at_call 16; have hc := awake46_S S.out; go_fit hc; clear hc; rintro e w1 ⟨rfl, hh⟩; clear S; have S := Aside0.mk hh; clear hh; clear y0 y1; have xg := boxKeeps S.out m0; obtain ⟨y0, y1⟩ := xg)
      | (go_at_call 17; have hc := HF.out _ _ S.out; go_fit hc; clear hc; rintro e w2 ⟨rfl, hh⟩; clear S; have S := Aside0.mk hh; clear hh; clear y0 y1; have xg := boxKeeps S.out m0; obtain ⟨y0, y1⟩ := xg)
      | (go_at_call 19; have hc := H19.out _ _ S.out; go_fit hc; clear hc; rintro e w3 ⟨B, cb, rfl, hh⟩; clear S; have S := Aside0.mk (hh.allocBox #[.int .i64 N1, .slice B l1.length cb] 26); clear y0 y1; have xg := boxKeeps hh m1; obtain ⟨y0, y1⟩ := xg; have xg := boxKeeps S.out m2; obtain ⟨y2, y3⟩ := xg; clear hh)
      | (go_at_call 53; have hc := H53.out _ _ S.out; go_fit hc; clear hc; rintro e w4 ⟨B2, c2, rfl, hh⟩; clear S; have S := Aside0.mk (hh.allocBox #[.int .i64 N1, .slice B2 l1.length c2] 26); clear y0 y1 y2 y3; have xg := boxKeeps hh m3'; obtain ⟨y0, y1⟩ := xg; have xg := boxKeeps S.out m4; obtain ⟨y2, y3⟩ := xg; clear hh)
      | (go_at_call 21; have hc := H21.out _ _ S.out; go_fit hc; clear hc; rintro e w5 ⟨rfl, hh⟩; clear S; have S := Aside0.mk hh; clear hh; clear y0 y1 y2 y3; have xg := boxKeeps S.out m4; obtain ⟨y0, y1⟩ := xg)
      | (go_at_call 54; have hc := H54.out _ _ S.out; go_fit hc; clear hc; rintro e w6 ⟨rfl, hh⟩; clear S; have S := Aside0.mk hh; clear hh; clear y0 y1; have xg := boxKeeps S.out m0; obtain ⟨y0, y1⟩ := xg; have xg := boxKeeps S.out m2; obtain ⟨y2, y3⟩ := xg)
      | (go_at_call 55; have hc := SameFrontier_S S.out N1 l1 B cb B2 c2 (SepT.rowC S.out m3').1 (SepT.rowC S.out m3').2 (SepT.rowC S.out m1).1 (SepT.rowC S.out m1).2; go_fit hc; clear hc; rintro e w7 ⟨rfl, hh⟩; clear S; have S := Aside0.mk hh; clear hh))
    go_ret
    exact ⟨by first | rfl | simp, Sep.base S.out⟩
end Go.Proofs.Ytiafadmkkehdnaa.Sh
