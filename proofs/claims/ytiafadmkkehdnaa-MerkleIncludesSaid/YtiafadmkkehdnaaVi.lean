/-
  The law MerkleIncludes, walked.
-/
import Derived.Test.YtiafadmkkehdnaaY5
namespace Go.Proofs.Ytiafadmkkehdnaa.Sh
open Go.RowKit Go.Great Go.Proofs.YtiafadmkkehdnaaW.PrintWords Go.Proofs.YtiafadmkkehdnaaW.PrintMore
set_option linter.unusedVariables false
/-- append of any row that can be read, onto a row of one's own, in a region that draws. -/
theorem SepT.appendC_step {P : Program} {ops : Array Oper} {o : Oper} {a : Act} {Q : Exit → Act → World → Prop} {Kc : Act → World → Prop} {α : Type} {enc : α → Value} {h1 : ∀ x, (enc x).oneCell' = true} {w0 W : World} {ts : List Th} (hw : Region.wanted o (yielded ops a.tmps) = true) (s x : Operand) (t e : TypeId) (z : Value) (bytes : Nat)
    (ho : o.op = .call { callee := .builtin .append, args := #[s, x], argTypes := #[t, t] })
    (ht : P.underlying t = some (.slice e)) (hinfo : (P.info? e).map (fun i => (i.zero, i.size, i.bytes)) = some (some z, 1, bytes)) (hz : z.cells.size = 1) (hb0 : 0 < bytes)
    (v : Value) (xs ys : List α) (A : Option Addr) (m c : Nat) (hs : a.eval s = v) (hx : a.eval x = .slice A m c)
    (S : SepT w0 W (rowT (Kd.scalar enc h1) e v xs :: ts)) (hC : (Kd.scalar enc h1).C W A m ys) (hl : (xs.length + m) * bytes ≤ 140737488355328)
    (h : ∀ A c w1, SepT w0 w1 (rowT (Kd.scalar enc h1) e (.slice A (xs ++ ys).length c) (xs ++ ys) :: ts) → Kc (a.put o.dst (.slice A (xs ++ ys).length c)) w1) :
    if Region.wanted o (yielded ops a.tmps) = true then Oper.wp P o a W Kc Q else Kc (a.put o.dst undef) W := by
  obtain ⟨ok, hR, h0, hk⟩ := S.focus
  have hR' : Kd.R (Kd.scalar enc h1) e W 0 ok v xs := hR
  refine Kd.R_append_rows_step (Kd.scalar enc h1) (w0 := W) 0 hw s x t e z bytes ho ht hinfo hz Nat.one_pos hb0 v xs ys A m c (fun k => ok k ∨ W.heap.size ≤ k) (fun _ => False) hs hx (Kd.R_mono hR' (fun k hk => .inl hk)) hC (fun _ _ hk => hk) (fun _ hk => hk.elim) (fun k hk => .inr hk) (Below.refl _ _) (Nat.zero_le _) hl ?_
  intro v1 w1 h2 _ hg _
  obtain ⟨A, c, rfl⟩ := Kd.R_slice h2
  exact h A c w1 (hk w1 (rowT _ e _ (xs ++ ys)) ((Only.refl ok W).grown hg (fun k hk => .inl (hR'.1 k hk))) h2)
theorem inclB_pos (l : List ByteArray) (i : Nat) (h2 : 2 ≤ l.length) (hm : l.length ≤ 4096) (hi : i < l.length) : 1 ≤ (inclB l i).length := by
  by_cases hk : i < splitN l.length
  · rw [inclB_lo l i h2 hm hk]; simp
  · rw [inclB_hi l i h2 hm hk hi]; simp
attribute [local irreducible] Sep rowT boxT hashT sumB splitN rootB nodeB nodeP leafB cutA inclB consB validB givR readR popN FewB consP
set_option maxHeartbeats 8000000 in
set_option maxRecDepth 100000 in
theorem Includes_main (w : World) (A : Option Addr) (c n i : Nat) (dat l p : List ByteArray) (o : Int) (hC : Kd.C Kd.string w A n dat) (hcn : n ≤ c) (hn : n ≤ 40) (hn1 : 1 ≤ n) (hf : FewB dat = true) (hbs : ∀ x ∈ dat, x.size ≤ 140737488351232) (ho : 0 ≤ o ∧ o ≤ 255) (hl : dat.map leafB = l) (hi : (i : Int) = Int.tmod o (n : Int)) (hp : inclB l i = p) :
    Calls Try.prog 14 #[.slice A n c, .int .u8 o] w fun e w' => e = .returned (.bool true) ∧ Below w.heap.size w w' := by
  have S := Aside0.mk (SepT.start w)
  have hdn : dat.length = n := hC.1
  have hln : l.length = n := by rw [← hl, List.length_map, hdn]
  have hd : AllD l := by rw [← hl]; exact leaves_all dat
  have hin : i < n := by
    have h0 := Int.tmod_lt_of_pos o (show (0 : Int) < (n : Int) by omega)
    omega
  have hts := (FewB_true hf).2
  have hsz : ∀ x ∈ dat, x.size ≤ 10000000 := fun x hx => by have := tot2_mem hx; omega
  have HF : Aside0 (∀ V ts, SepT w V ts → Calls Try.prog 17 #[.slice A n c] V fun e w' => e = .returned (.bool true) ∧ SepT w w' ts) := ⟨fun V ts h => by
    have hc := Few2_S h A c dat (by rw [hdn]; exact Kd.C_below hC (Sep.base h)) (by omega) hbs
    rw [hdn, hf] at hc
    exact hc⟩
  have H18 : Aside0 (∀ V ts, SepT w V ts → Calls Try.prog 18 #[.slice A n c] V fun e w' => ∃ ad cb, e = .returned (.slice (some ad) n cb) ∧ SepT w w' (rowT Kd.string 9 (.slice (some ad) n cb) l :: ts)) := ⟨fun V ts h => by
    rw [← hl]
    refine (leaves_C h (Kd.C_below hC (Sep.base h)) (by omega) hsz).mono ?_
    rintro e w1 ⟨B, cb, rfl, hs⟩
    obtain ⟨ad, rfl, _⟩ := row_str hs m0 0 (by omega)
    exact ⟨ad, cb, rfl, hs⟩⟩
  obtain ⟨R, hR⟩ : ∃ R, rootB l = R := ⟨_, rfl⟩
  obtain ⟨leaf, hleaf⟩ : ∃ leaf, l.getD i ⟨#[]⟩ = leaf := ⟨_, rfl⟩
  have sR : R.size = 32 := by rw [← hR]; exact rootB_size l hd (by omega)
  have sl : leaf.size = 32 := by
    rw [← hleaf]
    exact hd _ (by simp [List.getD, show i < l.length by omega])
  have H22 : Aside0 (∀ V ts B cb, SepT w V ts → rowT Kd.string 9 (.slice B n cb) l ∈ ts → Calls Try.prog 22 #[.slice B n cb] V fun e w' => e = .returned (.string R) ∧ SepT w w' ts) := ⟨fun V ts B cb h hm => Root_C h (SepT.rowC h hm).1 (SepT.rowC h hm).2 R (by rw [RootB_valid (by omega) hd, hR])⟩
  have hpa : AllD p := by rw [← hp]; exact inclB_all (n + 1) l i (by omega) (by omega) hd (by omega)
  have hpl : p.length ≤ 41 := by rw [← hp]; have := inclB_length l i; omega
  obtain ⟨k, hk⟩ : ∃ k, p.length = k := ⟨_, rfl⟩
  have H23 : Aside0 (∀ V ts B cb, SepT w V ts → rowT Kd.string 9 (.slice B n cb) l ∈ ts → Calls Try.prog 23 #[.slice B n cb, .int .i64 i] V fun e w' => ∃ B2 c2 B3 n3 c3, e = .returned (.tuple #[.slice B2 k c2, .int .i64 0]) ∧ (1 ≤ k → Rest w B2 k c2 p B3 n3 c3 ∧ n3 = k - 1) ∧ SepT w w' (rowT Kd.string 9 (.slice B2 k c2) p :: ts)) := ⟨fun V ts B cb h hmm => by
    refine (Inclusion_C h (SepT.rowC h hmm).1 (SepT.rowC h hmm).2 (i : Int) p 0 (by rw [InclR_valid (by omega) hd (by omega), hp])).mono ?_
    rintro e w1 ⟨B2, c2, rfl, hs⟩
    rw [hk] at hs ⊢
    exact ⟨B2, c2, _, _, _, rfl, fun h1 => ⟨rest_of w B2 k c2 p h1 (SepT.rowC hs m0).2, rfl⟩, hs⟩⟩
  have H25 : Aside0 (∀ V ts B cb q j (b : Bool), SepT w V ts → Kd.C Kd.string V B j q → j ≤ cb → AllD q → j ≤ 4096 → ((b = true ∧ q = p) ∨ (b = false ∧ j ≠ k)) → Calls Try.prog 25 #[.string leaf, .int .i64 i, .int .i64 n, .slice B j cb, .string R] V fun e w' => e = .returned (.bool b) ∧ SepT w w' ts) := ⟨fun V ts B cb q j b h hC hc hq hj hb => by
    have hqj : q.length = j := hC.1
    refine Included_C h hC hc leaf R i n (val_of hq (by omega)) sl sR (by omega) hin b ?_
    rw [← hln, ← hR, ← hleaf]
    rcases hb with ⟨rfl, h⟩ | ⟨rfl, h⟩
    · rw [h, ← hp]; exact InclOk_made l i (by omega) hd (by omega)
    · exact InclOk_length l i _ _ q (by omega) (by omega) (by rw [hqj, hp, hk]; exact h)⟩
  have H25o : Aside0 (∀ V ts B cb (z : Int), SepT w V ts → Kd.C Kd.string V B k p → k ≤ cb → (z < 0 ∨ (n : Int) ≤ z) → Calls Try.prog 25 #[.string leaf, .int .i64 z, .int .i64 n, .slice B k cb, .string R] V fun e w' => e = .returned (.bool false) ∧ SepT w w' ts) := ⟨fun V ts B cb z h hC hc hz => Included_outC h hC hc leaf R z n (val_of hpa (by omega)) sl sR (by omega) (by omega) hz⟩
  have H56 : Aside0 (∀ V ts B cb, SepT w V ts → rowT Kd.string 9 (.slice B k cb) p ∈ ts → Calls Try.prog 56 #[.slice B k cb] V fun e w' => ∃ B2 c2, e = .returned (.slice B2 k c2) ∧ SepT w w' (rowT Kd.string 9 (.slice B2 k c2) p :: ts)) := ⟨fun V ts B cb h hm => Clone_C h (SepT.rowC h hm).1 (SepT.rowC h hm).2 (by omega)⟩
  have HLN : Aside0 ((p ++ [R]).length = k + 1) := ⟨by rw [List.length_append, hk]; rfl⟩
  have HPA : Aside0 (AllD p) := ⟨hpa⟩
  have HPB : Aside0 (AllD (p ++ [R])) := ⟨fun x hx => by
    rcases List.mem_append.1 hx with h | h
    · exact hpa x h
    · rw [List.mem_singleton.1 h]; exact sR⟩
  have HPC : Aside0 (AllD (p.drop 1)) := ⟨hpa.drop 1⟩
  have haL : (p.length + 1) * 16 ≤ 140737488355328 := by omega
  have hk41 : k ≤ 41 := by omega
  have HK : Aside0 (∀ V ts ad cb, SepT w V ts → rowT Kd.string 9 (.slice (some ad) n cb) l ∈ ts → V.cell? (ad.add i) = some (.string leaf)) := ⟨fun V ts ad cb h hmm => by
    obtain ⟨ad2, e, d⟩ := row_str h hmm i (by omega)
    injection e with e
    subst e
    rw [hleaf] at d
    exact d⟩
  have how : IntKind.i64.wrap o = o := IntWalk.i64_in _ (by omega)
  have hiw : IntKind.i64.wrap (i : Int) = i := IntWalk.i64_in _ (by omega)
  have hr1 : Int.tmod o (n : Int) = (i : Int) := hi.symm
  have hr2 : o % (n : Int) = (i : Int) := by rw [← Int.tmod_eq_emod_of_nonneg ho.1]; exact hi.symm
  have hnz : ¬ (n : Int) = 0 := by omega
  have hnb : ((n : Int) == 0) = false := by rw [beq_eq_false_iff_ne]; exact hnz
  have hn40 : (n : Int) ≤ 40 := by omega
  have hn40' : ¬ 40 < (n : Int) := by omega
  have hi0 : (0 : Int) ≤ i := by omega
  have hi1 : (i : Int) < n := by omega
  have hcase : (k = 0) ∨ (1 ≤ k) := by omega
  have HCASE := Aside0.mk hcase
  have HKP := Aside0.mk hk
  have hnN : (n : Int) ≤ n := Int.le_refl _
  have HK41 : Aside0 (k ≤ 4096) := ⟨by omega⟩
  have HK42 : Aside0 (k + 1 ≤ 4096) := ⟨by omega⟩
  have HK43 : Aside0 (k + 1 ≠ k) := ⟨by omega⟩
  have HK44 : Aside0 (k - 1 ≤ 4096) := ⟨by omega⟩
  have haL2 : (p.length + [R].length) * 16 ≤ 140737488355328 := by simpa using haL
  have h11 : [R].length ≤ 1000000000 := by simp
  have hcaseR := HCASE.out
  clear hcase hk hi hpa hpl hp hR hleaf sR sl hts hsz hf hl hln hdn hd hbs hC hcn hn hn1 ho hin hnN
  rcases hcaseR with hk0 | hk1
  · have g2 : ((k : Int) == 0) = true := by rw [hk0]; rfl
    clear hk0
    go_enter Try.func14, Try.ntmps14
    go_upto_region 13 with (first
      | (go_at_call 16; have hc := awake46_S S.out; go_fit hc; clear hc; rintro e w1 ⟨rfl, hh⟩; clear S; have S := Aside0.mk hh; clear hh)
      | (go_at_call 17; have hc := HF.out _ _ S.out; go_fit hc; clear hc; rintro e w2 ⟨rfl, hh⟩; clear S; have S := Aside0.mk hh; clear hh)
      | (go_at_call 18; have hc := H18.out _ _ S.out; go_fit hc; clear hc; rintro e w3 ⟨ad, cb, rfl, hh⟩; clear S; have S := Aside0.mk hh; clear hh)
      | (go_at_call 22; have hc := H22.out _ _ (some ad) cb S.out m0; go_fit hc; clear hc; rintro e w4 ⟨rfl, hh⟩; clear S; have S := Aside0.mk hh; clear hh)
      | (go_at_call 23; have hc := H23.out _ _ (some ad) cb S.out m0; go_fit hc; clear hc; rintro e w5 ⟨B2, c2, B3, n3, c3, rfl, hrest, hh⟩; clear S; have S := Aside0.mk hh; clear hh; clear hrest; have dx := HK.out _ _ ad cb S.out m1)
      | (go_at_call 25; have hc := H25.out _ _ B2 c2 p k true S.out (SepT.rowC S.out m0).1 (SepT.rowC S.out m0).2 HPA.out HK41.out (.inl ⟨rfl, rfl⟩); go_fit hc; clear hc; rintro e w6 ⟨rfl, hh⟩; clear S; have S := Aside0.mk hh; clear hh; clear dx; have dx := HK.out _ _ ad cb S.out m1)
      | (go_at_call 25; have hc := H25o.out _ _ B2 c2 (n : Int) S.out (SepT.rowC S.out m0).1 (SepT.rowC S.out m0).2 (.inr (Int.le_refl _)); go_fit hc; clear hc; rintro e w7 ⟨rfl, hh⟩; clear S; have S := Aside0.mk hh; clear hh; clear dx; have dx := HK.out _ _ ad cb S.out m1)
      | (go_at_call 25; have hc := H25o.out _ _ B2 c2 (-1) S.out (SepT.rowC S.out m0).1 (SepT.rowC S.out m0).2 (.inl (by omega)); go_fit hc; clear hc; rintro e w8 ⟨rfl, hh⟩; clear S; have S := Aside0.mk hh; clear hh; clear dx; have dx := HK.out _ _ ad cb S.out m1))
    have SP := S
    have S1 := Aside0.mk S.out.drew
    clear S dx
    have S := S1
    clear S1
    refine wp_region_noPanic ?_
    refine wp_region_held_drew (S := fun V => V.cell? (ad.add i) = some (.string leaf)) (by kernel_rfl) (by exact HK.out _ _ ad cb S.out m1) (fun hHeld => ?_)
    refine wpAnyH_take (i := 0) (oi := ({ dst := some 77, op := Op.move (Operand.tmp 5), type := 22, pos := "law.go:96", after := #[], guard := none } : Oper)) (v := ?_) rfl (by kernel_rfl) (by kernel_rfl) (by kernel_rfl) (fun _ _ _ h => h) (Or.inl ⟨by rfl, ?_⟩) (by assumption) ?_
    rotate_left
    · intro w hSw
      try dsimp only at hSw
      go_simp
      try with_reducible rfl
    try simp only [Act.put, List.setIfInBounds_toArray, List.set_cons_zero, List.set_cons_succ]
    refine wpAnyH_take (i := 1) (oi := ({ dst := some 78, op := Op.move (Operand.tmp 7), type := 3, pos := "law.go:96", after := #[], guard := none } : Oper)) (v := ?_) rfl (by kernel_rfl) (by kernel_rfl) (by kernel_rfl) (fun _ _ _ h => h) (Or.inl ⟨by rfl, ?_⟩) (by assumption) ?_
    rotate_left
    · intro w hSw
      try dsimp only at hSw
      go_simp
      try with_reducible rfl
    try simp only [Act.put, List.setIfInBounds_toArray, List.set_cons_zero, List.set_cons_succ]
    refine wpAnyH_take (i := 2) (oi := ({ dst := some 79, op := Op.indexAddr 22 (Operand.tmp 77) (Operand.tmp 78), type := 0, pos := "law.go:96", after := #[{ on := 0, ground := Ground.data }, { on := 1, ground := Ground.data }], guard := none } : Oper)) (v := ?_) rfl (by kernel_rfl) (by kernel_rfl) (by kernel_rfl) (fun _ _ _ h => h) (Or.inl ⟨by rfl, ?_⟩) (by assumption) ?_
    rotate_left
    · intro w hSw
      try dsimp only at hSw
      go_simp
      try with_reducible rfl
    try simp only [Act.put, List.setIfInBounds_toArray, List.set_cons_zero, List.set_cons_succ]
    refine wpAnyH_take (i := 3) (oi := ({ dst := some 80, op := Op.load 9 (Operand.tmp 79), type := 9, pos := "law.go:96", after := #[{ on := 2, ground := Ground.data }], guard := none } : Oper)) (v := ?_) rfl (by kernel_rfl) (by kernel_rfl) (by kernel_rfl) (fun _ _ _ h => h) (Or.inl ⟨by rfl, ?_⟩) (by assumption) ?_
    rotate_left
    · intro w hSw
      try dsimp only at hSw
      go_simp
      try with_reducible rfl
    try simp only [Act.put, List.setIfInBounds_toArray, List.set_cons_zero, List.set_cons_succ]
    refine wpAnyH_take (i := 4) (oi := ({ dst := some 81, op := Op.move (Operand.tmp 7), type := 3, pos := "law.go:96", after := #[], guard := none } : Oper)) (v := ?_) rfl (by kernel_rfl) (by kernel_rfl) (by kernel_rfl) (fun _ _ _ h => h) (Or.inl ⟨by rfl, ?_⟩) (by assumption) ?_
    rotate_left
    · intro w hSw
      try dsimp only at hSw
      go_simp
      try with_reducible rfl
    try simp only [Act.put, List.setIfInBounds_toArray, List.set_cons_zero, List.set_cons_succ]
    refine wpAnyH_take (i := 5) (oi := ({ dst := some 82, op := Op.move (Operand.tmp 5), type := 22, pos := "law.go:96", after := #[], guard := none } : Oper)) (v := ?_) rfl (by kernel_rfl) (by kernel_rfl) (by kernel_rfl) (fun _ _ _ h => h) (Or.inl ⟨by rfl, ?_⟩) (by assumption) ?_
    rotate_left
    · intro w hSw
      try dsimp only at hSw
      go_simp
      try with_reducible rfl
    try simp only [Act.put, List.setIfInBounds_toArray, List.set_cons_zero, List.set_cons_succ]
    refine wpAnyH_take (i := 6) (oi := ({ dst := some 83, op := Op.call { callee := Callee.builtin Builtin.len, args := #[Operand.tmp 82], argTypes := #[22] }, type := 3, pos := "law.go:96", after := #[{ on := 5, ground := Ground.data }], guard := none } : Oper)) (v := ?_) rfl (by kernel_rfl) (by kernel_rfl) (by kernel_rfl) (fun _ _ _ h => h) (Or.inl ⟨by rfl, ?_⟩) (by assumption) ?_
    rotate_left
    · intro w hSw
      try dsimp only at hSw
      go_simp
      try with_reducible rfl
    try simp only [Act.put, List.setIfInBounds_toArray, List.set_cons_zero, List.set_cons_succ]
    refine wpAnyH_take (i := 7) (oi := ({ dst := some 84, op := Op.move (Operand.tmp 8), type := 22, pos := "law.go:96", after := #[], guard := none } : Oper)) (v := ?_) rfl (by kernel_rfl) (by kernel_rfl) (by kernel_rfl) (fun _ _ _ h => h) (Or.inl ⟨by rfl, ?_⟩) (by assumption) ?_
    rotate_left
    · intro w hSw
      try dsimp only at hSw
      go_simp
      try with_reducible rfl
    try simp only [Act.put, List.setIfInBounds_toArray, List.set_cons_zero, List.set_cons_succ]
    refine wpAnyH_take (i := 9) (oi := ({ dst := some 86, op := Op.move (Operand.tmp 6), type := 9, pos := "law.go:96", after := #[], guard := none } : Oper)) (v := ?_) rfl (by kernel_rfl) (by kernel_rfl) (by kernel_rfl) (fun _ _ _ h => h) (Or.inl ⟨by rfl, ?_⟩) (by assumption) ?_
    rotate_left
    · intro w hSw
      try dsimp only at hSw
      go_simp
      try with_reducible rfl
    try simp only [Act.put, List.setIfInBounds_toArray, List.set_cons_zero, List.set_cons_succ]
    refine wpAnyH_take (i := 12) (oi := ({ dst := some 89, op := Op.move (Operand.tmp 6), type := 9, pos := "law.go:96", after := #[], guard := none } : Oper)) (v := ?_) rfl (by kernel_rfl) (by kernel_rfl) (by kernel_rfl) (fun _ _ _ h => h) (Or.inl ⟨by rfl, ?_⟩) (by assumption) ?_
    rotate_left
    · intro w hSw
      try dsimp only at hSw
      go_simp
      try with_reducible rfl
    try simp only [Act.put, List.setIfInBounds_toArray, List.set_cons_zero, List.set_cons_succ]
    refine wpAnyH_ready (rs := [8, 10]) (by kernel_rfl) (by simp) ?_
    refine AllReadyH.cons (o := ({ dst := some 85, op := Op.call { callee := Callee.value (Operand.func 56), args := #[Operand.tmp 84], argTypes := #[22] }, type := 22, pos := "law.go:96", after := #[{ on := 7, ground := Ground.data }], guard := none } : Oper)) rfl (fun K hK => ?step8) (AllReadyH.cons (o := ({ dst := some 87, op := Op.buildSlice 22 1 #[(0, Operand.tmp 86)], type := 22, pos := "law.go:96", after := #[{ on := 9, ground := Ground.data }], guard := none } : Oper)) rfl (fun K hK => ?step10) AllReadyH.nil)
    case step8 =>
      go_simp
      (have hc := H56.out _ _ B2 c2 S.out m0; go_fit hc; clear hc; rintro e w9 ⟨B5, c5, rfl, hh⟩; clear S; have S := Aside0.mk hh; clear hh)
      try go_wp2_with fail
      refine hK.out _ _ (by exact HK.out _ _ ad cb S.out m2) (fun hHeld => ?_)
      clear hK K
      try simp only [Act.put, List.setIfInBounds_toArray, List.set_cons_zero, List.set_cons_succ]
      refine wpAnyH_ready (rs := [10]) (by kernel_rfl) (by simp) ?_
      refine AllReadyH.cons (o := ({ dst := some 87, op := Op.buildSlice 22 1 #[(0, Operand.tmp 86)], type := 22, pos := "law.go:96", after := #[{ on := 9, ground := Ground.data }], guard := none } : Oper)) rfl (fun K hK => ?_) AllReadyH.nil
      go_simp
      refine hK.out _ _ (by exact HK.out _ _ ad cb (S.out.alloc (.cells #[.string R] 9)) m2) (fun hHeld => ?_)
      clear hK K
      try simp only [Act.put, List.setIfInBounds_toArray, List.set_cons_zero, List.set_cons_succ]
      refine wpAnyH_ready (rs := [11]) (by kernel_rfl) (by simp) ?_
      refine AllReadyH.cons (o := ({ dst := some 88, op := Op.call { callee := Callee.builtin Builtin.append, args := #[Operand.tmp 85, Operand.tmp 87], argTypes := #[22, 22] }, type := 22, pos := "law.go:96", after := #[{ on := 8, ground := Ground.data }, { on := 10, ground := Ground.data }, { on := 8, ground := Ground.chain }], guard := none } : Oper)) rfl (fun K hK => ?_) AllReadyH.nil
      refine SepT.appendLit_step (enc := Value.string) (h1 := fun _ => rfl) rfl (.tmp 85) (.tmp 87) 22 9 (.string ⟨#[]⟩) 16 rfl Try.underlying22 info9 rfl (by decide) (.slice B5 k c5) p [R] h11 rfl rfl S.out haL2 ?_
      intro An cn w10 hq
      rw [HLN.out] at hq ⊢
      clear S
      have S := Aside0.mk hq
      clear hq
      refine hK.out _ _ (by exact HK.out _ _ ad cb S.out m2) (fun hHeld => ?_)
      clear hK K
      try simp only [Act.put, List.setIfInBounds_toArray, List.set_cons_zero, List.set_cons_succ]
      refine wpAnyH_ready (rs := [13]) (by kernel_rfl) (by simp) ?_
      refine AllReadyH.cons (o := ({ dst := some 90, op := Op.call { callee := Callee.value (Operand.func 25), args := #[Operand.tmp 80, Operand.tmp 81, Operand.tmp 83, Operand.tmp 88, Operand.tmp 89], argTypes := #[9, 3, 3, 22, 9] }, type := 4, pos := "law.go:96", after := #[{ on := 3, ground := Ground.data }, { on := 4, ground := Ground.data }, { on := 6, ground := Ground.data }, { on := 11, ground := Ground.data }, { on := 12, ground := Ground.data }, { on := 11, ground := Ground.chain }], guard := none } : Oper)) rfl (fun K hK => ?_) AllReadyH.nil
      go_simp
      (have hc := H25.out _ _ An cn (p ++ [R]) (k + 1) false S.out (SepT.rowC S.out m0).1 (SepT.rowC S.out m0).2 HPB.out HK42.out (.inr ⟨rfl, HK43.out⟩); go_fit hc; clear hc; rintro e w11 ⟨rfl, hh⟩; clear S; have S := Aside0.mk hh; clear hh)
      try go_wp2_with fail
      refine hK.out _ _ (by exact HK.out _ _ ad cb S.out m2) (fun hHeld => ?_)
      clear hK K
      try simp only [Act.put, List.setIfInBounds_toArray, List.set_cons_zero, List.set_cons_succ]
      refine wpAnyH_take (i := 14) (oi := ({ dst := some 91, op := Op.unOp UnOp.not 4 (Operand.tmp 90), type := 4, pos := "law.go:96", after := #[{ on := 13, ground := Ground.data }], guard := none } : Oper)) (v := ?_) rfl (by kernel_rfl) (by kernel_rfl) (by kernel_rfl) (fun _ _ _ h => h) (Or.inl ⟨by rfl, ?_⟩) (by assumption) ?_
      rotate_left
      · intro w hSw
        try dsimp only at hSw
        go_simp
        try with_reducible rfl
      try simp only [Act.put, List.setIfInBounds_toArray, List.set_cons_zero, List.set_cons_succ]
      refine wpAnyH_take (i := 15) (oi := ({ dst := some 92, op := Op.move (Operand.tmp 91), type := 4, pos := "law.go:96", after := #[{ on := 14, ground := Ground.data }, { on := 13, ground := Ground.chain }], guard := none } : Oper)) (v := ?_) rfl (by kernel_rfl) (by kernel_rfl) (by kernel_rfl) (fun _ _ _ h => h) (Or.inl ⟨by rfl, ?_⟩) (by assumption) ?_
      rotate_left
      · intro w hSw
        try dsimp only at hSw
        go_simp
        try with_reducible rfl
      try simp only [Act.put, List.setIfInBounds_toArray, List.set_cons_zero, List.set_cons_succ]
      refine wpAnyH_take (i := 16) (oi := ({ dst := some 93, op := Op.move (Operand.tmp 8), type := 22, pos := "law.go:96", after := #[{ on := 15, ground := Ground.guard }], guard := some (15, true) } : Oper)) (v := ?_) rfl (by kernel_rfl) (by kernel_rfl) (by kernel_rfl) (fun _ _ _ h => h) (Or.inl ⟨by rfl, ?_⟩) (by assumption) ?_
      rotate_left
      · intro w hSw
        try dsimp only at hSw
        go_simp
        try with_reducible rfl
      try simp only [Act.put, List.setIfInBounds_toArray, List.set_cons_zero, List.set_cons_succ]
      refine wpAnyH_take (i := 17) (oi := ({ dst := some 94, op := Op.call { callee := Callee.builtin Builtin.len, args := #[Operand.tmp 93], argTypes := #[22] }, type := 3, pos := "law.go:96", after := #[{ on := 16, ground := Ground.data }, { on := 15, ground := Ground.guard }], guard := some (15, true) } : Oper)) (v := ?_) rfl (by kernel_rfl) (by kernel_rfl) (by kernel_rfl) (fun _ _ _ h => h) (Or.inl ⟨by rfl, ?_⟩) (by assumption) ?_
      rotate_left
      · intro w hSw
        try dsimp only at hSw
        go_simp
        try with_reducible rfl
      try simp only [Act.put, List.setIfInBounds_toArray, List.set_cons_zero, List.set_cons_succ]
      refine wpAnyH_take (i := 18) (oi := ({ dst := some 95, op := Op.binOp BinOp.eql 3 (Operand.tmp 94) (Operand.const (Value.int IntKind.i64 0)) 3, type := 4, pos := "law.go:96", after := #[{ on := 17, ground := Ground.data }, { on := 15, ground := Ground.guard }], guard := some (15, true) } : Oper)) (v := ?_) rfl (by kernel_rfl) (by kernel_rfl) (by kernel_rfl) (fun _ _ _ h => h) (Or.inl ⟨by rfl, ?_⟩) (by assumption) ?_
      rotate_left
      · intro w hSw
        try dsimp only at hSw
        go_simp
        try with_reducible rfl
      try simp only [Act.put, List.setIfInBounds_toArray, List.set_cons_zero, List.set_cons_succ]
      refine wpAnyH_take (i := 19) (oi := ({ dst := some 96, op := Op.move (Operand.tmp 95), type := 4, pos := "law.go:96", after := #[{ on := 18, ground := Ground.data }, { on := 15, ground := Ground.chain }, { on := 15, ground := Ground.guard }], guard := some (15, true) } : Oper)) (v := ?_) rfl (by kernel_rfl) (by kernel_rfl) (by kernel_rfl) (fun _ _ _ h => h) (Or.inl ⟨by rfl, ?_⟩) (by assumption) ?_
      rotate_left
      · intro w hSw
        try dsimp only at hSw
        go_simp
        try with_reducible rfl
      try simp only [Act.put, List.setIfInBounds_toArray, List.set_cons_zero, List.set_cons_succ]
      refine wpAnyH_take (i := 20) (oi := ({ dst := some 97, op := Op.move (Operand.tmp 5), type := 22, pos := "law.go:96", after := #[{ on := 19, ground := Ground.guard }], guard := some (19, false) } : Oper)) (v := undef) rfl (by kernel_rfl) (by kernel_rfl) (by kernel_rfl) (fun _ _ _ h => h) (Or.inr ⟨by rfl, rfl⟩) (by assumption) ?_
      try simp only [Act.put, List.setIfInBounds_toArray, List.set_cons_zero, List.set_cons_succ]
      refine wpAnyH_take (i := 21) (oi := ({ dst := some 98, op := Op.move (Operand.tmp 7), type := 3, pos := "law.go:96", after := #[{ on := 19, ground := Ground.guard }], guard := some (19, false) } : Oper)) (v := undef) rfl (by kernel_rfl) (by kernel_rfl) (by kernel_rfl) (fun _ _ _ h => h) (Or.inr ⟨by rfl, rfl⟩) (by assumption) ?_
      try simp only [Act.put, List.setIfInBounds_toArray, List.set_cons_zero, List.set_cons_succ]
      refine wpAnyH_take (i := 22) (oi := ({ dst := some 99, op := Op.indexAddr 22 (Operand.tmp 97) (Operand.tmp 98), type := 0, pos := "law.go:96", after := #[{ on := 20, ground := Ground.data }, { on := 21, ground := Ground.data }, { on := 19, ground := Ground.guard }], guard := some (19, false) } : Oper)) (v := undef) rfl (by kernel_rfl) (by kernel_rfl) (by kernel_rfl) (fun _ _ _ h => h) (Or.inr ⟨by rfl, rfl⟩) (by assumption) ?_
      try simp only [Act.put, List.setIfInBounds_toArray, List.set_cons_zero, List.set_cons_succ]
      refine wpAnyH_take (i := 23) (oi := ({ dst := some 100, op := Op.load 9 (Operand.tmp 99), type := 9, pos := "law.go:96", after := #[{ on := 22, ground := Ground.data }, { on := 19, ground := Ground.guard }], guard := some (19, false) } : Oper)) (v := undef) rfl (by kernel_rfl) (by kernel_rfl) (by kernel_rfl) (fun _ _ _ h => h) (Or.inr ⟨by rfl, rfl⟩) (by assumption) ?_
      try simp only [Act.put, List.setIfInBounds_toArray, List.set_cons_zero, List.set_cons_succ]
      refine wpAnyH_take (i := 24) (oi := ({ dst := some 101, op := Op.move (Operand.tmp 7), type := 3, pos := "law.go:96", after := #[{ on := 19, ground := Ground.guard }], guard := some (19, false) } : Oper)) (v := undef) rfl (by kernel_rfl) (by kernel_rfl) (by kernel_rfl) (fun _ _ _ h => h) (Or.inr ⟨by rfl, rfl⟩) (by assumption) ?_
      try simp only [Act.put, List.setIfInBounds_toArray, List.set_cons_zero, List.set_cons_succ]
      refine wpAnyH_take (i := 25) (oi := ({ dst := some 102, op := Op.move (Operand.tmp 5), type := 22, pos := "law.go:96", after := #[{ on := 19, ground := Ground.guard }], guard := some (19, false) } : Oper)) (v := undef) rfl (by kernel_rfl) (by kernel_rfl) (by kernel_rfl) (fun _ _ _ h => h) (Or.inr ⟨by rfl, rfl⟩) (by assumption) ?_
      try simp only [Act.put, List.setIfInBounds_toArray, List.set_cons_zero, List.set_cons_succ]
      refine wpAnyH_take (i := 26) (oi := ({ dst := some 103, op := Op.call { callee := Callee.builtin Builtin.len, args := #[Operand.tmp 102], argTypes := #[22] }, type := 3, pos := "law.go:96", after := #[{ on := 25, ground := Ground.data }, { on := 19, ground := Ground.guard }], guard := some (19, false) } : Oper)) (v := undef) rfl (by kernel_rfl) (by kernel_rfl) (by kernel_rfl) (fun _ _ _ h => h) (Or.inr ⟨by rfl, rfl⟩) (by assumption) ?_
      try simp only [Act.put, List.setIfInBounds_toArray, List.set_cons_zero, List.set_cons_succ]
      refine wpAnyH_take (i := 27) (oi := ({ dst := some 104, op := Op.move (Operand.tmp 8), type := 22, pos := "law.go:96", after := #[{ on := 19, ground := Ground.guard }], guard := some (19, false) } : Oper)) (v := undef) rfl (by kernel_rfl) (by kernel_rfl) (by kernel_rfl) (fun _ _ _ h => h) (Or.inr ⟨by rfl, rfl⟩) (by assumption) ?_
      try simp only [Act.put, List.setIfInBounds_toArray, List.set_cons_zero, List.set_cons_succ]
      refine wpAnyH_take (i := 28) (oi := ({ dst := some 105, op := Op.slice 22 (Operand.tmp 104) (some (Operand.const (Value.int IntKind.i64 1))) none none, type := 22, pos := "law.go:96", after := #[{ on := 27, ground := Ground.data }, { on := 19, ground := Ground.guard }], guard := some (19, false) } : Oper)) (v := undef) rfl (by kernel_rfl) (by kernel_rfl) (by kernel_rfl) (fun _ _ _ h => h) (Or.inr ⟨by rfl, rfl⟩) (by assumption) ?_
      try simp only [Act.put, List.setIfInBounds_toArray, List.set_cons_zero, List.set_cons_succ]
      refine wpAnyH_take (i := 29) (oi := ({ dst := some 106, op := Op.move (Operand.tmp 6), type := 9, pos := "law.go:96", after := #[{ on := 19, ground := Ground.guard }], guard := some (19, false) } : Oper)) (v := undef) rfl (by kernel_rfl) (by kernel_rfl) (by kernel_rfl) (fun _ _ _ h => h) (Or.inr ⟨by rfl, rfl⟩) (by assumption) ?_
      try simp only [Act.put, List.setIfInBounds_toArray, List.set_cons_zero, List.set_cons_succ]
      refine wpAnyH_take (i := 30) (oi := ({ dst := some 107, op := Op.call { callee := Callee.value (Operand.func 25), args := #[Operand.tmp 100, Operand.tmp 101, Operand.tmp 103, Operand.tmp 105, Operand.tmp 106], argTypes := #[9, 3, 3, 22, 9] }, type := 4, pos := "law.go:96", after := #[{ on := 23, ground := Ground.data }, { on := 24, ground := Ground.data }, { on := 26, ground := Ground.data }, { on := 28, ground := Ground.data }, { on := 29, ground := Ground.data }, { on := 19, ground := Ground.chain }, { on := 19, ground := Ground.guard }], guard := some (19, false) } : Oper)) (v := undef) rfl (by kernel_rfl) (by kernel_rfl) (by kernel_rfl) (fun _ _ _ h => h) (Or.inr ⟨by rfl, rfl⟩) (by assumption) ?_
      try simp only [Act.put, List.setIfInBounds_toArray, List.set_cons_zero, List.set_cons_succ]
      refine wpAnyH_take (i := 31) (oi := ({ dst := some 108, op := Op.unOp UnOp.not 4 (Operand.tmp 107), type := 4, pos := "law.go:96", after := #[{ on := 30, ground := Ground.data }, { on := 19, ground := Ground.guard }], guard := some (19, false) } : Oper)) (v := undef) rfl (by kernel_rfl) (by kernel_rfl) (by kernel_rfl) (fun _ _ _ h => h) (Or.inr ⟨by rfl, rfl⟩) (by assumption) ?_
      try simp only [Act.put, List.setIfInBounds_toArray, List.set_cons_zero, List.set_cons_succ]
      refine wpAnyH_take (i := 32) (oi := ({ dst := some 109, op := Op.pick (Operand.tmp 96) (Operand.const (Value.bool true)) (Operand.tmp 108), type := 4, pos := "law.go:96", after := #[{ on := 19, ground := Ground.data }, { on := 31, ground := Ground.data }, { on := 15, ground := Ground.guard }], guard := some (15, true) } : Oper)) (v := ?_) rfl (by kernel_rfl) (by kernel_rfl) (by kernel_rfl) (fun _ _ _ h => h) (Or.inl ⟨by rfl, ?_⟩) (by assumption) ?_
      rotate_left
      · intro w hSw
        try dsimp only at hSw
        go_simp
        try with_reducible rfl
      try simp only [Act.put, List.setIfInBounds_toArray, List.set_cons_zero, List.set_cons_succ]
      refine wpAnyH_take (i := 33) (oi := ({ dst := some 110, op := Op.pick (Operand.tmp 92) (Operand.tmp 109) (Operand.const (Value.bool false)), type := 4, pos := "law.go:96", after := #[{ on := 15, ground := Ground.data }, { on := 32, ground := Ground.data }], guard := none } : Oper)) (v := ?_) rfl (by kernel_rfl) (by kernel_rfl) (by kernel_rfl) (fun _ _ _ h => h) (Or.inl ⟨by rfl, ?_⟩) (by assumption) ?_
      rotate_left
      · intro w hSw
        try dsimp only at hSw
        go_simp
        try with_reducible rfl
      try simp only [Act.put, List.setIfInBounds_toArray, List.set_cons_zero, List.set_cons_succ]
      refine wpAnyH_take (i := 34) (oi := ({ dst := some 4, op := Op.assign (Operand.tmp 110), type := 4, pos := "law.go:96", after := #[{ on := 33, ground := Ground.data }, { on := 30, ground := Ground.chain }, { on := 0, ground := Ground.phase }, { on := 1, ground := Ground.phase }, { on := 2, ground := Ground.phase }, { on := 3, ground := Ground.phase }, { on := 4, ground := Ground.phase }, { on := 5, ground := Ground.phase }, { on := 6, ground := Ground.phase }, { on := 7, ground := Ground.phase }, { on := 8, ground := Ground.phase }, { on := 9, ground := Ground.phase }, { on := 10, ground := Ground.phase }, { on := 11, ground := Ground.phase }, { on := 12, ground := Ground.phase }, { on := 13, ground := Ground.phase }, { on := 14, ground := Ground.phase }, { on := 15, ground := Ground.phase }, { on := 16, ground := Ground.phase }, { on := 17, ground := Ground.phase }, { on := 18, ground := Ground.phase }, { on := 19, ground := Ground.phase }, { on := 20, ground := Ground.phase }, { on := 21, ground := Ground.phase }, { on := 22, ground := Ground.phase }, { on := 23, ground := Ground.phase }, { on := 24, ground := Ground.phase }, { on := 25, ground := Ground.phase }, { on := 26, ground := Ground.phase }, { on := 27, ground := Ground.phase }, { on := 28, ground := Ground.phase }, { on := 29, ground := Ground.phase }, { on := 30, ground := Ground.phase }, { on := 31, ground := Ground.phase }, { on := 32, ground := Ground.phase }, { on := 33, ground := Ground.phase }], guard := none } : Oper)) (v := ?_) rfl (by kernel_rfl) (by kernel_rfl) (by kernel_rfl) (fun _ _ _ h => h) (Or.inl ⟨by rfl, ?_⟩) (by assumption) ?_
      rotate_left
      · intro w hSw
        try dsimp only at hSw
        go_simp
        try with_reducible rfl
      try simp only [Act.put, List.setIfInBounds_toArray, List.set_cons_zero, List.set_cons_succ]
      refine wpAnyH_done (by kernel_rfl) ?_ _
      refine NoPanic.normal ?_
      go_wp2_with fail
      go_ret
      exact ⟨rfl, Sep.base S.out⟩
    case step10 =>
      go_simp
      refine hK.out _ _ (by exact HK.out _ _ ad cb (SP.out.alloc (.cells #[.string R] 9)).drew m1) (fun hHeld => ?_)
      clear hK K
      try simp only [Act.put, List.setIfInBounds_toArray, List.set_cons_zero, List.set_cons_succ]
      refine wpAnyH_ready (rs := [8]) (by kernel_rfl) (by simp) ?_
      refine AllReadyH.cons (o := ({ dst := some 85, op := Op.call { callee := Callee.value (Operand.func 56), args := #[Operand.tmp 84], argTypes := #[22] }, type := 22, pos := "law.go:96", after := #[{ on := 7, ground := Ground.data }], guard := none } : Oper)) rfl (fun K hK => ?_) AllReadyH.nil
      go_simp
      (have hc := H56.out _ _ B2 c2 (SepT.lit (enc := Value.string) (h1 := fun _ => rfl) SP.out 9 [R] h11).drew m1; go_fit hc; clear hc; rintro e w9 ⟨B5, c5, rfl, hh⟩; clear S; have S := Aside0.mk hh; clear hh)
      try go_wp2_with fail
      refine hK.out _ _ (by exact HK.out _ _ ad cb S.out m3') (fun hHeld => ?_)
      clear hK K
      try simp only [Act.put, List.setIfInBounds_toArray, List.set_cons_zero, List.set_cons_succ]
      refine wpAnyH_ready (rs := [11]) (by kernel_rfl) (by simp) ?_
      refine AllReadyH.cons (o := ({ dst := some 88, op := Op.call { callee := Callee.builtin Builtin.append, args := #[Operand.tmp 85, Operand.tmp 87], argTypes := #[22, 22] }, type := 22, pos := "law.go:96", after := #[{ on := 8, ground := Ground.data }, { on := 10, ground := Ground.data }, { on := 8, ground := Ground.chain }], guard := none } : Oper)) rfl (fun K hK => ?_) AllReadyH.nil
      refine SepT.appendC_step (enc := Value.string) (h1 := fun _ => rfl) rfl (.tmp 85) (.tmp 87) 22 9 (.string ⟨#[]⟩) 16 rfl Try.underlying22 info9 rfl (by decide) (.slice B5 k c5) p [R] (some ⟨w8.heap.size, 0, none⟩) 1 1 rfl rfl S.out (SepT.rowC S.out m1).1 haL ?_
      intro An cn w10 hq
      rw [HLN.out] at hq ⊢
      clear S
      have S := Aside0.mk hq
      clear hq
      refine hK.out _ _ (by exact HK.out _ _ ad cb S.out m3') (fun hHeld => ?_)
      clear hK K
      try simp only [Act.put, List.setIfInBounds_toArray, List.set_cons_zero, List.set_cons_succ]
      refine wpAnyH_ready (rs := [13]) (by kernel_rfl) (by simp) ?_
      refine AllReadyH.cons (o := ({ dst := some 90, op := Op.call { callee := Callee.value (Operand.func 25), args := #[Operand.tmp 80, Operand.tmp 81, Operand.tmp 83, Operand.tmp 88, Operand.tmp 89], argTypes := #[9, 3, 3, 22, 9] }, type := 4, pos := "law.go:96", after := #[{ on := 3, ground := Ground.data }, { on := 4, ground := Ground.data }, { on := 6, ground := Ground.data }, { on := 11, ground := Ground.data }, { on := 12, ground := Ground.data }, { on := 11, ground := Ground.chain }], guard := none } : Oper)) rfl (fun K hK => ?_) AllReadyH.nil
      go_simp
      (have hc := H25.out _ _ An cn (p ++ [R]) (k + 1) false S.out (SepT.rowC S.out m0).1 (SepT.rowC S.out m0).2 HPB.out HK42.out (.inr ⟨rfl, HK43.out⟩); go_fit hc; clear hc; rintro e w11 ⟨rfl, hh⟩; clear S; have S := Aside0.mk hh; clear hh)
      try go_wp2_with fail
      refine hK.out _ _ (by exact HK.out _ _ ad cb S.out m3') (fun hHeld => ?_)
      clear hK K
      try simp only [Act.put, List.setIfInBounds_toArray, List.set_cons_zero, List.set_cons_succ]
      refine wpAnyH_take (i := 14) (oi := ({ dst := some 91, op := Op.unOp UnOp.not 4 (Operand.tmp 90), type := 4, pos := "law.go:96", after := #[{ on := 13, ground := Ground.data }], guard := none } : Oper)) (v := ?_) rfl (by kernel_rfl) (by kernel_rfl) (by kernel_rfl) (fun _ _ _ h => h) (Or.inl ⟨by rfl, ?_⟩) (by assumption) ?_
      rotate_left
      · intro w hSw
        try dsimp only at hSw
        go_simp
        try with_reducible rfl
      try simp only [Act.put, List.setIfInBounds_toArray, List.set_cons_zero, List.set_cons_succ]
      refine wpAnyH_take (i := 15) (oi := ({ dst := some 92, op := Op.move (Operand.tmp 91), type := 4, pos := "law.go:96", after := #[{ on := 14, ground := Ground.data }, { on := 13, ground := Ground.chain }], guard := none } : Oper)) (v := ?_) rfl (by kernel_rfl) (by kernel_rfl) (by kernel_rfl) (fun _ _ _ h => h) (Or.inl ⟨by rfl, ?_⟩) (by assumption) ?_
      rotate_left
      · intro w hSw
        try dsimp only at hSw
        go_simp
        try with_reducible rfl
      try simp only [Act.put, List.setIfInBounds_toArray, List.set_cons_zero, List.set_cons_succ]
      refine wpAnyH_take (i := 16) (oi := ({ dst := some 93, op := Op.move (Operand.tmp 8), type := 22, pos := "law.go:96", after := #[{ on := 15, ground := Ground.guard }], guard := some (15, true) } : Oper)) (v := ?_) rfl (by kernel_rfl) (by kernel_rfl) (by kernel_rfl) (fun _ _ _ h => h) (Or.inl ⟨by rfl, ?_⟩) (by assumption) ?_
      rotate_left
      · intro w hSw
        try dsimp only at hSw
        go_simp
        try with_reducible rfl
      try simp only [Act.put, List.setIfInBounds_toArray, List.set_cons_zero, List.set_cons_succ]
      refine wpAnyH_take (i := 17) (oi := ({ dst := some 94, op := Op.call { callee := Callee.builtin Builtin.len, args := #[Operand.tmp 93], argTypes := #[22] }, type := 3, pos := "law.go:96", after := #[{ on := 16, ground := Ground.data }, { on := 15, ground := Ground.guard }], guard := some (15, true) } : Oper)) (v := ?_) rfl (by kernel_rfl) (by kernel_rfl) (by kernel_rfl) (fun _ _ _ h => h) (Or.inl ⟨by rfl, ?_⟩) (by assumption) ?_
      rotate_left
      · intro w hSw
        try dsimp only at hSw
        go_simp
        try with_reducible rfl
      try simp only [Act.put, List.setIfInBounds_toArray, List.set_cons_zero, List.set_cons_succ]
      refine wpAnyH_take (i := 18) (oi := ({ dst := some 95, op := Op.binOp BinOp.eql 3 (Operand.tmp 94) (Operand.const (Value.int IntKind.i64 0)) 3, type := 4, pos := "law.go:96", after := #[{ on := 17, ground := Ground.data }, { on := 15, ground := Ground.guard }], guard := some (15, true) } : Oper)) (v := ?_) rfl (by kernel_rfl) (by kernel_rfl) (by kernel_rfl) (fun _ _ _ h => h) (Or.inl ⟨by rfl, ?_⟩) (by assumption) ?_
      rotate_left
      · intro w hSw
        try dsimp only at hSw
        go_simp
        try with_reducible rfl
      try simp only [Act.put, List.setIfInBounds_toArray, List.set_cons_zero, List.set_cons_succ]
      refine wpAnyH_take (i := 19) (oi := ({ dst := some 96, op := Op.move (Operand.tmp 95), type := 4, pos := "law.go:96", after := #[{ on := 18, ground := Ground.data }, { on := 15, ground := Ground.chain }, { on := 15, ground := Ground.guard }], guard := some (15, true) } : Oper)) (v := ?_) rfl (by kernel_rfl) (by kernel_rfl) (by kernel_rfl) (fun _ _ _ h => h) (Or.inl ⟨by rfl, ?_⟩) (by assumption) ?_
      rotate_left
      · intro w hSw
        try dsimp only at hSw
        go_simp
        try with_reducible rfl
      try simp only [Act.put, List.setIfInBounds_toArray, List.set_cons_zero, List.set_cons_succ]
      refine wpAnyH_take (i := 20) (oi := ({ dst := some 97, op := Op.move (Operand.tmp 5), type := 22, pos := "law.go:96", after := #[{ on := 19, ground := Ground.guard }], guard := some (19, false) } : Oper)) (v := undef) rfl (by kernel_rfl) (by kernel_rfl) (by kernel_rfl) (fun _ _ _ h => h) (Or.inr ⟨by rfl, rfl⟩) (by assumption) ?_
      try simp only [Act.put, List.setIfInBounds_toArray, List.set_cons_zero, List.set_cons_succ]
      refine wpAnyH_take (i := 21) (oi := ({ dst := some 98, op := Op.move (Operand.tmp 7), type := 3, pos := "law.go:96", after := #[{ on := 19, ground := Ground.guard }], guard := some (19, false) } : Oper)) (v := undef) rfl (by kernel_rfl) (by kernel_rfl) (by kernel_rfl) (fun _ _ _ h => h) (Or.inr ⟨by rfl, rfl⟩) (by assumption) ?_
      try simp only [Act.put, List.setIfInBounds_toArray, List.set_cons_zero, List.set_cons_succ]
      refine wpAnyH_take (i := 22) (oi := ({ dst := some 99, op := Op.indexAddr 22 (Operand.tmp 97) (Operand.tmp 98), type := 0, pos := "law.go:96", after := #[{ on := 20, ground := Ground.data }, { on := 21, ground := Ground.data }, { on := 19, ground := Ground.guard }], guard := some (19, false) } : Oper)) (v := undef) rfl (by kernel_rfl) (by kernel_rfl) (by kernel_rfl) (fun _ _ _ h => h) (Or.inr ⟨by rfl, rfl⟩) (by assumption) ?_
      try simp only [Act.put, List.setIfInBounds_toArray, List.set_cons_zero, List.set_cons_succ]
      refine wpAnyH_take (i := 23) (oi := ({ dst := some 100, op := Op.load 9 (Operand.tmp 99), type := 9, pos := "law.go:96", after := #[{ on := 22, ground := Ground.data }, { on := 19, ground := Ground.guard }], guard := some (19, false) } : Oper)) (v := undef) rfl (by kernel_rfl) (by kernel_rfl) (by kernel_rfl) (fun _ _ _ h => h) (Or.inr ⟨by rfl, rfl⟩) (by assumption) ?_
      try simp only [Act.put, List.setIfInBounds_toArray, List.set_cons_zero, List.set_cons_succ]
      refine wpAnyH_take (i := 24) (oi := ({ dst := some 101, op := Op.move (Operand.tmp 7), type := 3, pos := "law.go:96", after := #[{ on := 19, ground := Ground.guard }], guard := some (19, false) } : Oper)) (v := undef) rfl (by kernel_rfl) (by kernel_rfl) (by kernel_rfl) (fun _ _ _ h => h) (Or.inr ⟨by rfl, rfl⟩) (by assumption) ?_
      try simp only [Act.put, List.setIfInBounds_toArray, List.set_cons_zero, List.set_cons_succ]
      refine wpAnyH_take (i := 25) (oi := ({ dst := some 102, op := Op.move (Operand.tmp 5), type := 22, pos := "law.go:96", after := #[{ on := 19, ground := Ground.guard }], guard := some (19, false) } : Oper)) (v := undef) rfl (by kernel_rfl) (by kernel_rfl) (by kernel_rfl) (fun _ _ _ h => h) (Or.inr ⟨by rfl, rfl⟩) (by assumption) ?_
      try simp only [Act.put, List.setIfInBounds_toArray, List.set_cons_zero, List.set_cons_succ]
      refine wpAnyH_take (i := 26) (oi := ({ dst := some 103, op := Op.call { callee := Callee.builtin Builtin.len, args := #[Operand.tmp 102], argTypes := #[22] }, type := 3, pos := "law.go:96", after := #[{ on := 25, ground := Ground.data }, { on := 19, ground := Ground.guard }], guard := some (19, false) } : Oper)) (v := undef) rfl (by kernel_rfl) (by kernel_rfl) (by kernel_rfl) (fun _ _ _ h => h) (Or.inr ⟨by rfl, rfl⟩) (by assumption) ?_
      try simp only [Act.put, List.setIfInBounds_toArray, List.set_cons_zero, List.set_cons_succ]
      refine wpAnyH_take (i := 27) (oi := ({ dst := some 104, op := Op.move (Operand.tmp 8), type := 22, pos := "law.go:96", after := #[{ on := 19, ground := Ground.guard }], guard := some (19, false) } : Oper)) (v := undef) rfl (by kernel_rfl) (by kernel_rfl) (by kernel_rfl) (fun _ _ _ h => h) (Or.inr ⟨by rfl, rfl⟩) (by assumption) ?_
      try simp only [Act.put, List.setIfInBounds_toArray, List.set_cons_zero, List.set_cons_succ]
      refine wpAnyH_take (i := 28) (oi := ({ dst := some 105, op := Op.slice 22 (Operand.tmp 104) (some (Operand.const (Value.int IntKind.i64 1))) none none, type := 22, pos := "law.go:96", after := #[{ on := 27, ground := Ground.data }, { on := 19, ground := Ground.guard }], guard := some (19, false) } : Oper)) (v := undef) rfl (by kernel_rfl) (by kernel_rfl) (by kernel_rfl) (fun _ _ _ h => h) (Or.inr ⟨by rfl, rfl⟩) (by assumption) ?_
      try simp only [Act.put, List.setIfInBounds_toArray, List.set_cons_zero, List.set_cons_succ]
      refine wpAnyH_take (i := 29) (oi := ({ dst := some 106, op := Op.move (Operand.tmp 6), type := 9, pos := "law.go:96", after := #[{ on := 19, ground := Ground.guard }], guard := some (19, false) } : Oper)) (v := undef) rfl (by kernel_rfl) (by kernel_rfl) (by kernel_rfl) (fun _ _ _ h => h) (Or.inr ⟨by rfl, rfl⟩) (by assumption) ?_
      try simp only [Act.put, List.setIfInBounds_toArray, List.set_cons_zero, List.set_cons_succ]
      refine wpAnyH_take (i := 30) (oi := ({ dst := some 107, op := Op.call { callee := Callee.value (Operand.func 25), args := #[Operand.tmp 100, Operand.tmp 101, Operand.tmp 103, Operand.tmp 105, Operand.tmp 106], argTypes := #[9, 3, 3, 22, 9] }, type := 4, pos := "law.go:96", after := #[{ on := 23, ground := Ground.data }, { on := 24, ground := Ground.data }, { on := 26, ground := Ground.data }, { on := 28, ground := Ground.data }, { on := 29, ground := Ground.data }, { on := 19, ground := Ground.chain }, { on := 19, ground := Ground.guard }], guard := some (19, false) } : Oper)) (v := undef) rfl (by kernel_rfl) (by kernel_rfl) (by kernel_rfl) (fun _ _ _ h => h) (Or.inr ⟨by rfl, rfl⟩) (by assumption) ?_
      try simp only [Act.put, List.setIfInBounds_toArray, List.set_cons_zero, List.set_cons_succ]
      refine wpAnyH_take (i := 31) (oi := ({ dst := some 108, op := Op.unOp UnOp.not 4 (Operand.tmp 107), type := 4, pos := "law.go:96", after := #[{ on := 30, ground := Ground.data }, { on := 19, ground := Ground.guard }], guard := some (19, false) } : Oper)) (v := undef) rfl (by kernel_rfl) (by kernel_rfl) (by kernel_rfl) (fun _ _ _ h => h) (Or.inr ⟨by rfl, rfl⟩) (by assumption) ?_
      try simp only [Act.put, List.setIfInBounds_toArray, List.set_cons_zero, List.set_cons_succ]
      refine wpAnyH_take (i := 32) (oi := ({ dst := some 109, op := Op.pick (Operand.tmp 96) (Operand.const (Value.bool true)) (Operand.tmp 108), type := 4, pos := "law.go:96", after := #[{ on := 19, ground := Ground.data }, { on := 31, ground := Ground.data }, { on := 15, ground := Ground.guard }], guard := some (15, true) } : Oper)) (v := ?_) rfl (by kernel_rfl) (by kernel_rfl) (by kernel_rfl) (fun _ _ _ h => h) (Or.inl ⟨by rfl, ?_⟩) (by assumption) ?_
      rotate_left
      · intro w hSw
        try dsimp only at hSw
        go_simp
        try with_reducible rfl
      try simp only [Act.put, List.setIfInBounds_toArray, List.set_cons_zero, List.set_cons_succ]
      refine wpAnyH_take (i := 33) (oi := ({ dst := some 110, op := Op.pick (Operand.tmp 92) (Operand.tmp 109) (Operand.const (Value.bool false)), type := 4, pos := "law.go:96", after := #[{ on := 15, ground := Ground.data }, { on := 32, ground := Ground.data }], guard := none } : Oper)) (v := ?_) rfl (by kernel_rfl) (by kernel_rfl) (by kernel_rfl) (fun _ _ _ h => h) (Or.inl ⟨by rfl, ?_⟩) (by assumption) ?_
      rotate_left
      · intro w hSw
        try dsimp only at hSw
        go_simp
        try with_reducible rfl
      try simp only [Act.put, List.setIfInBounds_toArray, List.set_cons_zero, List.set_cons_succ]
      refine wpAnyH_take (i := 34) (oi := ({ dst := some 4, op := Op.assign (Operand.tmp 110), type := 4, pos := "law.go:96", after := #[{ on := 33, ground := Ground.data }, { on := 30, ground := Ground.chain }, { on := 0, ground := Ground.phase }, { on := 1, ground := Ground.phase }, { on := 2, ground := Ground.phase }, { on := 3, ground := Ground.phase }, { on := 4, ground := Ground.phase }, { on := 5, ground := Ground.phase }, { on := 6, ground := Ground.phase }, { on := 7, ground := Ground.phase }, { on := 8, ground := Ground.phase }, { on := 9, ground := Ground.phase }, { on := 10, ground := Ground.phase }, { on := 11, ground := Ground.phase }, { on := 12, ground := Ground.phase }, { on := 13, ground := Ground.phase }, { on := 14, ground := Ground.phase }, { on := 15, ground := Ground.phase }, { on := 16, ground := Ground.phase }, { on := 17, ground := Ground.phase }, { on := 18, ground := Ground.phase }, { on := 19, ground := Ground.phase }, { on := 20, ground := Ground.phase }, { on := 21, ground := Ground.phase }, { on := 22, ground := Ground.phase }, { on := 23, ground := Ground.phase }, { on := 24, ground := Ground.phase }, { on := 25, ground := Ground.phase }, { on := 26, ground := Ground.phase }, { on := 27, ground := Ground.phase }, { on := 28, ground := Ground.phase }, { on := 29, ground := Ground.phase }, { on := 30, ground := Ground.phase }, { on := 31, ground := Ground.phase }, { on := 32, ground := Ground.phase }, { on := 33, ground := Ground.phase }], guard := none } : Oper)) (v := ?_) rfl (by kernel_rfl) (by kernel_rfl) (by kernel_rfl) (fun _ _ _ h => h) (Or.inl ⟨by rfl, ?_⟩) (by assumption) ?_
      rotate_left
      · intro w hSw
        try dsimp only at hSw
        go_simp
        try with_reducible rfl
      try simp only [Act.put, List.setIfInBounds_toArray, List.set_cons_zero, List.set_cons_succ]
      refine wpAnyH_done (by kernel_rfl) ?_ _
      refine NoPanic.normal ?_
      go_wp2_with fail
      go_ret
      exact ⟨rfl, Sep.base S.out⟩
  · have HK45 : Aside0 (k - 1 ≠ k) := ⟨by omega⟩
    have g2 : ((k : Int) == 0) = false := by rw [beq_eq_false_iff_ne]; omega
    go_enter Try.func14, Try.ntmps14
    go_upto_region 13 with (first
      | (go_at_call 16; have hc := awake46_S S.out; go_fit hc; clear hc; rintro e w1 ⟨rfl, hh⟩; clear S; have S := Aside0.mk hh; clear hh)
      | (go_at_call 17; have hc := HF.out _ _ S.out; go_fit hc; clear hc; rintro e w2 ⟨rfl, hh⟩; clear S; have S := Aside0.mk hh; clear hh)
      | (go_at_call 18; have hc := H18.out _ _ S.out; go_fit hc; clear hc; rintro e w3 ⟨ad, cb, rfl, hh⟩; clear S; have S := Aside0.mk hh; clear hh)
      | (go_at_call 22; have hc := H22.out _ _ (some ad) cb S.out m0; go_fit hc; clear hc; rintro e w4 ⟨rfl, hh⟩; clear S; have S := Aside0.mk hh; clear hh)
      | (go_at_call 23; have hc := H23.out _ _ (some ad) cb S.out m0; go_fit hc; clear hc; rintro e w5 ⟨B2, c2, B3, n3, c3, rfl, hrest, hh⟩; clear S; have S := Aside0.mk hh; clear hh; have HRS := Aside0.mk (hrest hk1).1; have hrs := HRS.out.s; have HN3 := Aside0.mk (hrest hk1).2; clear hrest; have dx := HK.out _ _ ad cb S.out m1)
      | (go_at_call 25; have hc := H25.out _ _ B2 c2 p k true S.out (SepT.rowC S.out m0).1 (SepT.rowC S.out m0).2 HPA.out HK41.out (.inl ⟨rfl, rfl⟩); go_fit hc; clear hc; rintro e w6 ⟨rfl, hh⟩; clear S; have S := Aside0.mk hh; clear hh; clear dx; have dx := HK.out _ _ ad cb S.out m1)
      | (go_at_call 25; have hc := H25o.out _ _ B2 c2 (n : Int) S.out (SepT.rowC S.out m0).1 (SepT.rowC S.out m0).2 (.inr (Int.le_refl _)); go_fit hc; clear hc; rintro e w7 ⟨rfl, hh⟩; clear S; have S := Aside0.mk hh; clear hh; clear dx; have dx := HK.out _ _ ad cb S.out m1)
      | (go_at_call 25; have hc := H25o.out _ _ B2 c2 (-1) S.out (SepT.rowC S.out m0).1 (SepT.rowC S.out m0).2 (.inl (by omega)); go_fit hc; clear hc; rintro e w8 ⟨rfl, hh⟩; clear S; have S := Aside0.mk hh; clear hh; clear dx; have dx := HK.out _ _ ad cb S.out m1))
    have SP := S
    have S1 := Aside0.mk S.out.drew
    clear S dx
    have S := S1
    clear S1
    go_region_held3 (fun V => V.cell? (ad.add i) = some (.string leaf)) (first
        | exact HK.out _ _ ad cb S.out m1
        | exact HK.out _ _ ad cb S.out m2
        | exact HK.out _ _ ad cb S.out m3'
        | exact HK.out _ _ ad cb (S.out.alloc (.cells #[.string R] 9)) m2
        | exact HK.out _ _ ad cb (SP.out.alloc (.cells #[.string R] 9)).drew m1) (first
      | (go_at_call 56; have hc := H56.out _ _ B2 c2 S.out m0; go_fit hc; clear hc; rintro e w9 ⟨B5, c5, rfl, hh⟩; clear S; have S := Aside0.mk hh; clear hh)
      | (go_at_call 56; have hc := H56.out _ _ B2 c2 (SepT.lit (enc := Value.string) (h1 := fun _ => rfl) SP.out 9 [R] h11).drew m1; go_fit hc; clear hc; rintro e w9 ⟨B5, c5, rfl, hh⟩; clear S; have S := Aside0.mk hh; clear hh)
      | (go_at_call 25; have hc := H25.out _ _ An cn (p ++ [R]) (k + 1) false S.out (SepT.rowC S.out m0).1 (SepT.rowC S.out m0).2 HPB.out HK42.out (.inr ⟨rfl, HK43.out⟩); go_fit hc; clear hc; rintro e w11 ⟨rfl, hh⟩; clear S; have S := Aside0.mk hh; clear hh)
      | (go_at_call 25; have hc := H25.out _ _ B3 c3 (p.drop 1) n3 false S.out (HRS.out.c _ _ S.out (by first | exact m1 | exact m2)) HRS.out.le HPC.out (HN3.out ▸ HK44.out) (.inr ⟨rfl, HN3.out ▸ HK45.out⟩); go_fit hc; clear hc; rintro e w12 ⟨rfl, hh⟩; clear S; have S := Aside0.mk hh; clear hh)
      | (refine SepT.appendLit_step (enc := Value.string) (h1 := fun _ => rfl) rfl (.tmp 85) (.tmp 87) 22 9 (.string ⟨#[]⟩) 16 rfl Try.underlying22 info9 rfl (by decide) (.slice B5 k c5) p [R] h11 rfl rfl S.out haL2 ?_; intro An cn w10 hq; rw [HLN.out] at hq ⊢; clear S; have S := Aside0.mk hq; clear hq)
      | (refine SepT.appendC_step (enc := Value.string) (h1 := fun _ => rfl) rfl (.tmp 85) (.tmp 87) 22 9 (.string ⟨#[]⟩) 16 rfl Try.underlying22 info9 rfl (by decide) (.slice B5 k c5) p [R] (some ⟨w8.heap.size, 0, none⟩) 1 1 rfl rfl S.out (SepT.rowC S.out m1).1 haL ?_; intro An cn w10 hq; rw [HLN.out] at hq ⊢; clear S; have S := Aside0.mk hq; clear hq))
    all_goals
      go_wp2_with fail
      go_ret
      exact ⟨rfl, Sep.base S.out⟩
set_option maxHeartbeats 2000000 in
set_option maxRecDepth 100000 in
theorem MerkleIncludes_law (w : World) (A : Option Addr) (c : Nat) (dat : List ByteArray) (hC : Kd.C Kd.string w A dat.length dat) (hcn : dat.length ≤ c) (hbs : ∀ x ∈ dat, x.size ≤ 140737488351232) (o : Nat) (ho : o ≤ 255) :
    Calls Try.prog 14 #[.slice A dat.length c, .int .u8 o] w fun e w' => e = .returned (.bool true) ∧ Below w.heap.size w w' := by
  have HF : Aside0 (∀ V ts, SepT w V ts → Calls Try.prog 17 #[.slice A dat.length c] V fun e w' => e = .returned (.bool (FewB dat)) ∧ SepT w w' ts) := ⟨fun V ts h => Few2_S h A c dat (Kd.C_below hC (Sep.base h)) hcn hbs⟩
  have S := Aside0.mk (SepT.start w)
  by_cases hf : FewB dat = true
  · by_cases hn : dat.length ≤ 40
    · by_cases hn1 : 1 ≤ dat.length
      · have h0 : (0 : Int) ≤ Int.tmod (o : Int) (dat.length : Int) := Int.tmod_nonneg _ (by omega)
        exact Includes_main w A c dat.length (Int.tmod (o : Int) (dat.length : Int)).toNat dat _ _ (o : Int) hC hcn hn hn1 hf hbs (by omega) rfl (Int.toNat_of_nonneg h0) rfl
      · have hz : dat.length = 0 := by omega
        have hn2 : ((dat.length : Int) == 0) = true := by rw [hz]; rfl
        have hn3 : ¬ (40 : Int) < dat.length := by omega
        rw [hf] at HF
        clear hC hcn hbs hf hn hn1 hz ho
        go_enter Try.func14, Try.ntmps14
        go_wp2_with (first
          | (go_at_call 16; have hc := awake46_S S.out; go_fit hc; clear hc; rintro e w1 ⟨rfl, hh⟩; clear S; have S := Aside0.mk hh; clear hh)
          | (go_at_call 17; have hc := HF.out _ _ S.out; go_fit hc; clear hc; rintro e w2 ⟨rfl, hh⟩; clear S; have S := Aside0.mk hh; clear hh))
        go_ret
        exact ⟨rfl, Sep.base S.out⟩
    · have hn2 : (40 : Int) < dat.length := by omega
      rw [hf] at HF
      clear hC hcn hbs hf hn ho
      go_enter Try.func14, Try.ntmps14
      go_wp2_with (first
        | (go_at_call 16; have hc := awake46_S S.out; go_fit hc; clear hc; rintro e w1 ⟨rfl, hh⟩; clear S; have S := Aside0.mk hh; clear hh)
        | (go_at_call 17; have hc := HF.out _ _ S.out; go_fit hc; clear hc; rintro e w2 ⟨rfl, hh⟩; clear S; have S := Aside0.mk hh; clear hh))
      go_ret
      exact ⟨rfl, Sep.base S.out⟩
  · rw [show FewB dat = false by simpa using hf] at HF
    clear hC hcn hbs hf ho
    go_enter Try.func14, Try.ntmps14
    go_wp2_with (first
      | (go_at_call 16; have hc := awake46_S S.out; go_fit hc; clear hc; rintro e w1 ⟨rfl, hh⟩; clear S; have S := Aside0.mk hh; clear hh)
      | (go_at_call 17; have hc := HF.out _ _ S.out; go_fit hc; clear hc; rintro e w2 ⟨rfl, hh⟩; clear S; have S := Aside0.mk hh; clear hh))
    go_ret
    exact ⟨rfl, Sep.base S.out⟩
end Go.Proofs.Ytiafadmkkehdnaa.Sh
