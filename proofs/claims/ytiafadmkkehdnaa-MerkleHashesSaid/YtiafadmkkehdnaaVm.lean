/-
  The law MerkleHashes, walked.
-/
import Derived.Test.YtiafadmkkehdnaaRb
namespace Go.Proofs.Ytiafadmkkehdnaa.Sh
open Go.RowKit Go.Great Go.Proofs.YtiafadmkkehdnaaW.PrintWords Go.Proofs.YtiafadmkkehdnaaW.PrintMore
set_option linter.unusedVariables false
attribute [local irreducible] Sep rowT boxT hashT sumB splitN rootB nodeB nodeP leafB cutA inclB consB validB givR readR popN FewB consP InclR ConsR RootB
set_option maxHeartbeats 8000000 in
set_option maxRecDepth 100000 in
theorem Hashes_main (w : World) (a b : ByteArray) (A : Option Addr) (c : Nat) (l : List ByteArray) (i o : Int) (hC : Kd.C Kd.string w A l.length l) (hcn : l.length ≤ c) (hbs : ∀ x ∈ l, x.size ≤ 140737488351232) (hs : a.size + b.size ≤ 2000) (hf : FewB l = true ∨ (FewB l = false ∧ 4096 < l.length)) :
    Calls Try.prog 12 #[.string a, .string b, .slice A l.length c, .int .i64 i, .int .i64 o] w fun e w' => e = .returned (.bool true) ∧ Below w.heap.size w w' := by
  have S := Aside0.mk (SepT.start w)
  have HF : Aside0 (∀ V ts, SepT w V ts → Calls Try.prog 17 #[.slice A l.length c] V fun e w' => e = .returned (.bool (FewB l)) ∧ SepT w w' ts) := ⟨fun V ts h => Few2_S h A c l (Kd.C_below hC (Sep.base h)) hcn hbs⟩
  have H23 : Aside0 (∀ V ts, SepT w V ts → Calls Try.prog 23 #[.slice A l.length c, .int .i64 i] V fun e w' => ∃ B cb, e = .returned (.tuple #[.slice B (InclR l i).1.length cb, .int .i64 (InclR l i).2]) ∧ SepT w w' (rowT Kd.string 9 (.slice B (InclR l i).1.length cb) (InclR l i).1 :: ts)) := ⟨fun V ts h => (Inclusion_calls V A c l i (Kd.C_below hC (Sep.base h)) hcn).mono (fun _ _ ⟨B, cb, h1, h2⟩ => ⟨B, cb, h1, h.lift h2⟩)⟩
  have H45 : Aside0 (∀ V ts, SepT w V ts → Calls Try.prog 45 #[.slice A l.length c, .int .i64 i] V fun e w' => ∃ B cb, e = .returned (.tuple #[.slice B (InclR l i).1.length cb, .int .i64 (InclR l i).2]) ∧ SepT w w' (rowT Kd.string 9 (.slice B (InclR l i).1.length cb) (InclR l i).1 :: ts)) := ⟨fun V ts h => (RefInclusion_calls V A c l i (Kd.C_below hC (Sep.base h)) hcn).mono (fun _ _ ⟨B, cb, h1, h2⟩ => ⟨B, cb, h1, h.lift h2⟩)⟩
  have H24 : Aside0 (∀ V ts, SepT w V ts → Calls Try.prog 24 #[.slice A l.length c, .int .i64 o] V fun e w' => ∃ B cb, e = .returned (.tuple #[.slice B (ConsR l o).1.length cb, .int .i64 (ConsR l o).2]) ∧ SepT w w' (rowT Kd.string 9 (.slice B (ConsR l o).1.length cb) (ConsR l o).1 :: ts)) := ⟨fun V ts h => (Consistency_calls V A c l o (Kd.C_below hC (Sep.base h)) hcn).mono (fun _ _ ⟨B, cb, h1, h2⟩ => ⟨B, cb, h1, h.lift h2⟩)⟩
  have H46 : Aside0 (∀ V ts, SepT w V ts → Calls Try.prog 46 #[.slice A l.length c, .int .i64 o] V fun e w' => ∃ B cb, e = .returned (.tuple #[.slice B (ConsR l o).1.length cb, .int .i64 (ConsR l o).2]) ∧ SepT w w' (rowT Kd.string 9 (.slice B (ConsR l o).1.length cb) (ConsR l o).1 :: ts)) := ⟨fun V ts h => (RefConsistency_calls V A c l o (Kd.C_below hC (Sep.base h)) hcn).mono (fun _ _ ⟨B, cb, h1, h2⟩ => ⟨B, cb, h1, h.lift h2⟩)⟩
  have H22 : Aside0 (∀ V ts, SepT w V ts → Calls Try.prog 22 #[.slice A l.length c] V fun e w' => e = .returned (.string (RootB l)) ∧ SepT w w' ts) := ⟨fun V ts h => (Root_calls V A c l (Kd.C_below hC (Sep.base h)) hcn).mono (fun _ _ q => ⟨q.1, h.below q.2⟩)⟩
  have H51 : Aside0 (∀ V ts, SepT w V ts → Calls Try.prog 51 #[.slice A l.length c] V fun e w' => e = .returned (.string (RootB l)) ∧ SepT w w' ts) := ⟨fun V ts h => (RefRoot_calls V A c l (Kd.C_below hC (Sep.base h)) hcn).mono (fun _ _ q => ⟨q.1, h.below q.2⟩)⟩
  have ha7 : a.size ≤ 10000000 := by omega
  obtain ⟨s, hss⟩ : ∃ s, a.size + b.size = s := ⟨_, rfl⟩
  have hs1 : (a.size : Int) + (b.size : Int) = (s : Int) := by omega
  have hs2 : IntKind.i64.wrap (s : Int) = s := IntWalk.i64_in _ (by omega)
  have hs3 : ¬ (2000 : Int) < (s : Int) := by omega
  have hs4 : (s : Int) ≤ 2000 := by omega
  generalize (InclR l i).1 = p at *
  generalize (InclR l i).2 = e1 at *
  generalize (ConsR l o).1 = q at *
  generalize (ConsR l o).2 = e2 at *
  generalize RootB l = r at *
  have hcase := hf
  clear hf hC hcn hbs hs hss
  rcases hcase with hf | ⟨hf, hl⟩
  · rw [hf] at HF
    clear hf
    go_enter Try.func12, Try.ntmps12
    go_wp2_with (first
      | (go_at_call 16; have hc := awake46_S S.out; go_fit hc; clear hc; rintro e w1 ⟨rfl, hh⟩; clear S; have S := Aside0.mk hh; clear hh)
      | (go_at_call 17; have hc := HF.out _ _ S.out; go_fit hc; clear hc; rintro e w2 ⟨rfl, hh⟩; clear S; have S := Aside0.mk hh; clear hh)
      | (go_at_call 23; have hc := H23.out _ _ S.out; go_fit hc; clear hc; rintro e w3 ⟨B1, c1, rfl, hh⟩; clear S; have S := Aside0.mk hh; clear hh)
      | (go_at_call 45; have hc := H45.out _ _ S.out; go_fit hc; clear hc; rintro e w4 ⟨B2, c2, rfl, hh⟩; clear S; have S := Aside0.mk hh; clear hh)
      | (go_at_call 24; have hc := H24.out _ _ S.out; go_fit hc; clear hc; rintro e w5 ⟨B3, c3, rfl, hh⟩; clear S; have S := Aside0.mk hh; clear hh)
      | (go_at_call 46; have hc := H46.out _ _ S.out; go_fit hc; clear hc; rintro e w6 ⟨B4, c4, rfl, hh⟩; clear S; have S := Aside0.mk hh; clear hh)
      | (go_at_call 47; have hc := Leaf_S S.out a ha7; go_fit hc; clear hc; rintro e w7 ⟨rfl, hh⟩; clear S; have S := Aside0.mk hh; clear hh)
      | (go_at_call 48; have hc := RefLeaf_S S.out a ha7; go_fit hc; clear hc; rintro e w8 ⟨rfl, hh⟩; clear S; have S := Aside0.mk hh; clear hh)
      | (go_at_call 49; have hc := NodeP_S S.out a b; go_fit hc; clear hc; rintro e w9 ⟨rfl, hh⟩; clear S; have S := Aside0.mk hh; clear hh)
      | (go_at_call 50; have hc := RefNodeP_S S.out a b; go_fit hc; clear hc; rintro e w10 ⟨rfl, hh⟩; clear S; have S := Aside0.mk hh; clear hh)
      | (go_at_call 22; have hc := H22.out _ _ S.out; go_fit hc; clear hc; rintro e w11 ⟨rfl, hh⟩; clear S; have S := Aside0.mk hh; clear hh)
      | (go_at_call 51; have hc := H51.out _ _ S.out; go_fit hc; clear hc; rintro e w12 ⟨rfl, hh⟩; clear S; have S := Aside0.mk hh; clear hh)
      | (go_at_call 52; have hc := Equal_C S.out (SepT.rowC S.out m3').1 (SepT.rowC S.out m3').2 (SepT.rowC S.out m2).1 (SepT.rowC S.out m2).2; go_fit hc; clear hc; rintro e w13 ⟨rfl, hh⟩; clear S; have S := Aside0.mk hh; clear hh)
      | (go_at_call 52; have hc := Equal_C S.out (SepT.rowC S.out m1).1 (SepT.rowC S.out m1).2 (SepT.rowC S.out m0).1 (SepT.rowC S.out m0).2; go_fit hc; clear hc; rintro e w14 ⟨rfl, hh⟩; clear S; have S := Aside0.mk hh; clear hh))
    go_ret
    exact ⟨by first | rfl | simp, Sep.base S.out⟩
  · rw [hf] at HF
    have hl2 : ¬ (l.length : Int) ≤ 4096 := by omega
    clear hf
    go_enter Try.func12, Try.ntmps12
    go_wp2_with (first
      | (go_at_call 16; have hc := awake46_S S.out; go_fit hc; clear hc; rintro e w1 ⟨rfl, hh⟩; clear S; have S := Aside0.mk hh; clear hh)
      | (go_at_call 17; have hc := HF.out _ _ S.out; go_fit hc; clear hc; rintro e w2 ⟨rfl, hh⟩; clear S; have S := Aside0.mk hh; clear hh)
      | (go_at_call 23; have hc := H23.out _ _ S.out; go_fit hc; clear hc; rintro e w3 ⟨B1, c1, rfl, hh⟩; clear S; have S := Aside0.mk hh; clear hh)
      | (go_at_call 45; have hc := H45.out _ _ S.out; go_fit hc; clear hc; rintro e w4 ⟨B2, c2, rfl, hh⟩; clear S; have S := Aside0.mk hh; clear hh)
      | (go_at_call 24; have hc := H24.out _ _ S.out; go_fit hc; clear hc; rintro e w5 ⟨B3, c3, rfl, hh⟩; clear S; have S := Aside0.mk hh; clear hh)
      | (go_at_call 46; have hc := H46.out _ _ S.out; go_fit hc; clear hc; rintro e w6 ⟨B4, c4, rfl, hh⟩; clear S; have S := Aside0.mk hh; clear hh)
      | (go_at_call 47; have hc := Leaf_S S.out a ha7; go_fit hc; clear hc; rintro e w7 ⟨rfl, hh⟩; clear S; have S := Aside0.mk hh; clear hh)
      | (go_at_call 48; have hc := RefLeaf_S S.out a ha7; go_fit hc; clear hc; rintro e w8 ⟨rfl, hh⟩; clear S; have S := Aside0.mk hh; clear hh)
      | (go_at_call 49; have hc := NodeP_S S.out a b; go_fit hc; clear hc; rintro e w9 ⟨rfl, hh⟩; clear S; have S := Aside0.mk hh; clear hh)
      | (go_at_call 50; have hc := RefNodeP_S S.out a b; go_fit hc; clear hc; rintro e w10 ⟨rfl, hh⟩; clear S; have S := Aside0.mk hh; clear hh)
      | (go_at_call 22; have hc := H22.out _ _ S.out; go_fit hc; clear hc; rintro e w11 ⟨rfl, hh⟩; clear S; have S := Aside0.mk hh; clear hh)
      | (go_at_call 51; have hc := H51.out _ _ S.out; go_fit hc; clear hc; rintro e w12 ⟨rfl, hh⟩; clear S; have S := Aside0.mk hh; clear hh)
      | (go_at_call 52; have hc := Equal_C S.out (SepT.rowC S.out m3').1 (SepT.rowC S.out m3').2 (SepT.rowC S.out m2).1 (SepT.rowC S.out m2).2; go_fit hc; clear hc; rintro e w13 ⟨rfl, hh⟩; clear S; have S := Aside0.mk hh; clear hh)
      | (go_at_call 52; have hc := Equal_C S.out (SepT.rowC S.out m1).1 (SepT.rowC S.out m1).2 (SepT.rowC S.out m0).1 (SepT.rowC S.out m0).2; go_fit hc; clear hc; rintro e w14 ⟨rfl, hh⟩; clear S; have S := Aside0.mk hh; clear hh))
    go_ret
    exact ⟨by first | rfl | simp, Sep.base S.out⟩
set_option maxHeartbeats 2000000 in
set_option maxRecDepth 100000 in
theorem MerkleHashes_law (w : World) (a b : ByteArray) (A : Option Addr) (c : Nat) (l : List ByteArray) (hC : Kd.C Kd.string w A l.length l) (hcn : l.length ≤ c) (hbs : ∀ x ∈ l, x.size ≤ 140737488351232) (i o : Int) (ha : a.size ≤ 140737488351232) (hb : b.size ≤ 140737488351232) :
    Calls Try.prog 12 #[.string a, .string b, .slice A l.length c, .int .i64 i, .int .i64 o] w fun e w' => e = .returned (.bool true) ∧ Below w.heap.size w w' := by
  have HF : Aside0 (∀ V ts, SepT w V ts → Calls Try.prog 17 #[.slice A l.length c] V fun e w' => e = .returned (.bool (FewB l)) ∧ SepT w w' ts) := ⟨fun V ts h => Few2_S h A c l (Kd.C_below hC (Sep.base h)) hcn hbs⟩
  have S := Aside0.mk (SepT.start w)
  obtain ⟨s, hss⟩ : ∃ s, a.size + b.size = s := ⟨_, rfl⟩
  have hs1 : (a.size : Int) + (b.size : Int) = (s : Int) := by omega
  have hs2 : IntKind.i64.wrap (s : Int) = s := IntWalk.i64_in _ (by omega)
  by_cases hs : s ≤ 2000
  · by_cases hf : FewB l = true
    · exact Hashes_main w a b A c l i o hC hcn hbs (by omega) (.inl hf)
    · have hf' : FewB l = false := by simpa using hf
      by_cases hl : l.length ≤ 4096
      · have hs3 : ¬ (2000 : Int) < (s : Int) := by omega
        have hl2 : (l.length : Int) ≤ 4096 := by omega
        rw [hf'] at HF
        clear hC hcn hbs hf hf' ha hb hss hs hl
        go_enter Try.func12, Try.ntmps12
        go_wp2_with (first
          | (go_at_call 16; have hc := awake46_S S.out; go_fit hc; clear hc; rintro e w1 ⟨rfl, hh⟩; clear S; have S := Aside0.mk hh; clear hh)
          | (go_at_call 17; have hc := HF.out _ _ S.out; go_fit hc; clear hc; rintro e w2 ⟨rfl, hh⟩; clear S; have S := Aside0.mk hh; clear hh))
        go_ret
        exact ⟨rfl, Sep.base S.out⟩
      · exact Hashes_main w a b A c l i o hC hcn hbs (by omega) (.inr ⟨hf', by omega⟩)
  · have hs3 : (2000 : Int) < (s : Int) := by omega
    clear hC hcn hbs ha hb hss hs HF
    go_enter Try.func12, Try.ntmps12
    go_wp2_with (go_at_call 16; have hc := awake46_S S.out; go_fit hc; clear hc; rintro e w1 ⟨rfl, hh⟩; clear S; have S := Aside0.mk hh; clear hh)
    go_ret
    exact ⟨rfl, Sep.base S.out⟩
end Go.Proofs.Ytiafadmkkehdnaa.Sh
