/-
  sha256's add: a block to the state.
-/
import Derived.Test.YtiafadmkkehdnaaSd
namespace Go.Proofs.Ytiafadmkkehdnaa.Sh
open Go.RowKit Go.Great Go.Proofs.YtiafadmkkehdnaaW.PrintWords Go.Proofs.YtiafadmkkehdnaaW.PrintMore
set_option linter.unusedVariables false


theorem gate_op {P : Program} {ops : Array Oper} {rest : List Oper} {o : Oper} {a : Act} {Q : Exit → Act → World → Prop} {W : World} (h : wpList P ops Q (o :: rest) a W) : wpList P ops Q (o :: rest) a W := h
/-- The eight words of a state. -/
structure H8 where
  a : Int
  b : Int
  c : Int
  d : Int
  e : Int
  f : Int
  g : Int
  h : Int
def cells8 (s : H8) : Array Value := #[.int .u32 s.a, .int .u32 s.b, .int .u32 s.c, .int .u32 s.d, .int .u32 s.e, .int .u32 s.f, .int .u32 s.g, .int .u32 s.h]
def hcells (s : H8) (rest : ByteArray) (n : Int) : Array Value := #[.int .u32 s.a, .int .u32 s.b, .int .u32 s.c, .int .u32 s.d, .int .u32 s.e, .int .u32 s.f, .int .u32 s.g, .int .u32 s.h, .string rest, .int .u64 n]
theorem constants_S {w0 w : World} {ts : List Th} (h : SepT w0 w ts) : Calls Try.prog 98 #[] w fun e w' => e = .returned (.agg (wordsA ks)) ∧ SepT w0 w' ts := by
  refine (constants_calls w).mono ?_
  rintro e w1 ⟨rfl, hb⟩
  exact ⟨rfl, h.below hb⟩
theorem schedule_S {w0 w : World} {ts : List Th} (h : SepT w0 w ts) (s : ByteArray) (hs : s.size = 64) : Calls Try.prog 97 #[.string s] w fun e w' => e = .returned (.agg (wordsA (sched s))) ∧ SepT w0 w' ts := by
  refine (schedule_calls s hs w).mono ?_
  rintro e w1 ⟨rfl, hb⟩
  exact ⟨rfl, h.below hb⟩
theorem v_cells {w0 V : World} {ts : List Th} {b : Nat} {v : H8} (h : SepT w0 V ts) (hm : boxT b (cells8 v) 92 ∈ ts) : V.cell? ⟨b, 0, none⟩ = some (.int .u32 v.a) ∧ V.cell? ⟨b, 1, none⟩ = some (.int .u32 v.b) ∧ V.cell? ⟨b, 2, none⟩ = some (.int .u32 v.c) ∧ V.cell? ⟨b, 3, none⟩ = some (.int .u32 v.d) ∧ V.cell? ⟨b, 4, none⟩ = some (.int .u32 v.e) ∧ V.cell? ⟨b, 5, none⟩ = some (.int .u32 v.f) ∧ V.cell? ⟨b, 6, none⟩ = some (.int .u32 v.g) ∧ V.cell? ⟨b, 7, none⟩ = some (.int .u32 v.h) := by
  have xb := (SepT.box h hm).1
  exact ⟨(blk_cell xb 0).trans rfl, (blk_cell xb 1).trans rfl, (blk_cell xb 2).trans rfl, (blk_cell xb 3).trans rfl, (blk_cell xb 4).trans rfl, (blk_cell xb 5).trans rfl, (blk_cell xb 6).trans rfl, (blk_cell xb 7).trans rfl⟩
theorem v_free {w0 V : World} {ts : List Th} {b t : Nat} {cs : Array Value} (h : SepT w0 V ts) (hm : boxT b cs t ∈ ts) (i : Nat) : V.frozen? ⟨b, i, none⟩ = false := blk_frozen (SepT.box h hm).1 i
theorem words_cell {w0 V : World} {ts : List Th} {b t : Nat} {l : List Int} (h : SepT w0 V ts) (hm : boxT b (wordsA l) t ∈ ts) (i : Nat) (hi : i < l.length) {x : Int} (hx : l.getD i 0 = x) : V.cell? ⟨b, i, none⟩ = some (.int .u32 x) := by
  rw [← hx]
  exact (blk_cell (SepT.box h hm).1 i).trans (wordsA_get _ _ hi)
theorem mix3' (x a b c : Int) (a1 : 1 ≤ a ∧ a ≤ 31 ∧ 1 ≤ b ∧ b ≤ 31 ∧ 1 ≤ c ∧ c ≤ 31) (w : World) :
    Calls Try.prog 95 #[.int .u32 x, .int .i64 a, .int .i64 b, .int .i64 c] w fun e w' => e = .returned (.int .u32 (mix3 x a b c)) ∧ w' = w :=
  (mix3_calls x a b c a1.1 a1.2.1 a1.2.2.1 a1.2.2.2.1 a1.2.2.2.2.1 a1.2.2.2.2.2 w).mono (fun _ _ h => ⟨h.1, h.2.symm⟩)
def first8 (k w : Int) (v : H8) : Int := v.h + mix3 v.e 6 11 25 + bits .xor .u32 (bits .and .u32 v.e v.f) (bits .and .u32 (bits .xor .u32 4294967295 v.e) v.g) + k + w
def second8 (v : H8) : Int := mix3 v.a 2 13 22 + bits .xor .u32 (bits .xor .u32 (bits .and .u32 v.a v.b) (bits .and .u32 v.a v.c)) (bits .and .u32 v.b v.c)
/-- A step. -/
def step8 (k w : Int) (v : H8) : H8 := ⟨(first8 k w v + second8 v) % 4294967296, v.a, v.b, v.c, (v.d + first8 k w v) % 4294967296, v.e, v.f, v.g⟩
def rounds (k w : List Int) : Nat → H8 → H8
  | 0, s => s
  | i + 1, s => step8 (k.getD i 0) (w.getD i 0) (rounds k w i s)
def add8 (s v : H8) : H8 := ⟨(s.a + v.a) % 4294967296, (s.b + v.b) % 4294967296, (s.c + v.c) % 4294967296, (s.d + v.d) % 4294967296, (s.e + v.e) % 4294967296, (s.f + v.f) % 4294967296, (s.g + v.g) % 4294967296, (s.h + v.h) % 4294967296⟩
def addTo (z : Int) (s v : H8) : H8 := ⟨if 0 < z then (s.a + v.a) % 4294967296 else s.a, if 1 < z then (s.b + v.b) % 4294967296 else s.b, if 2 < z then (s.c + v.c) % 4294967296 else s.c, if 3 < z then (s.d + v.d) % 4294967296 else s.d, if 4 < z then (s.e + v.e) % 4294967296 else s.e, if 5 < z then (s.f + v.f) % 4294967296 else s.f, if 6 < z then (s.g + v.g) % 4294967296 else s.g, if 7 < z then (s.h + v.h) % 4294967296 else s.h⟩
/-- The state behind a block. -/
def compress (s : H8) (block : ByteArray) : H8 := add8 s (rounds ks (sched block) 64 s)
theorem store8 {w0 V : World} {ts : List Th} {b : Nat} {v : H8} (h : SepT w0 V (boxT b (cells8 v) 92 :: ts)) (u : H8) :
    SepT w0 ((((((((V.setCell ⟨b, 0, none⟩ (.int .u32 u.a)).setCell ⟨b, 1, none⟩ (.int .u32 u.b)).setCell ⟨b, 2, none⟩ (.int .u32 u.c)).setCell ⟨b, 3, none⟩ (.int .u32 u.d)).setCell ⟨b, 4, none⟩ (.int .u32 u.e)).setCell ⟨b, 5, none⟩ (.int .u32 u.f)).setCell ⟨b, 6, none⟩ (.int .u32 u.g)).setCell ⟨b, 7, none⟩ (.int .u32 u.h)) (boxT b (cells8 u) 92 :: ts) := by
  have h8 := (((((((h.setBox 0 (.int .u32 u.a)).setBox 1 (.int .u32 u.b)).setBox 2 (.int .u32 u.c)).setBox 3 (.int .u32 u.d)).setBox 4 (.int .u32 u.e)).setBox 5 (.int .u32 u.f)).setBox 6 (.int .u32 u.g)).setBox 7 (.int .u32 u.h)
  have e : ((((((((cells8 v).setIfInBounds 0 (.int .u32 u.a)).setIfInBounds 1 (.int .u32 u.b)).setIfInBounds 2 (.int .u32 u.c)).setIfInBounds 3 (.int .u32 u.d)).setIfInBounds 4 (.int .u32 u.e)).setIfInBounds 5 (.int .u32 u.f)).setIfInBounds 6 (.int .u32 u.g)).setIfInBounds 7 (.int .u32 u.h) = cells8 u := by
    simp only [cells8, List.setIfInBounds_toArray, List.set_cons_zero, List.set_cons_succ]
  rw [e] at h8
  exact h8
theorem mix3_S {w0 w : World} {ts : List Th} (h : SepT w0 w ts) (x a b c : Int) (a1 : 1 ≤ a ∧ a ≤ 31 ∧ 1 ≤ b ∧ b ≤ 31 ∧ 1 ≤ c ∧ c ≤ 31) :
    Calls Try.prog 95 #[.int .u32 x, .int .i64 a, .int .i64 b, .int .i64 c] w fun e w' => e = .returned (.int .u32 (mix3 x a b c)) ∧ w = w' :=
  mix3_calls x a b c a1.1 a1.2.1 a1.2.2.1 a1.2.2.2.1 a1.2.2.2.2.1 a1.2.2.2.2.2 w
theorem ks_length : ks.length = 64 := by decide
theorem sched_length (s : ByteArray) : (sched s).length = 64 := schedTo_length s 64
theorem wordsA_size (l : List Int) : (wordsA l).size = l.length := by unfold wordsA; simp
attribute [local irreducible] Sep rowT boxT wordsA cellAt ks sched wordsZ
set_option maxHeartbeats 2000000 in
set_option maxRecDepth 100000 in
theorem add_S {w0 w : World} {ts : List Th} {g : Nat} {s : H8} {rest : ByteArray} {total : Int} (S0 : SepT w0 w (boxT g (hcells s rest total) 94 :: ts)) (block : ByteArray) (hb : block.size = 64) :
    Calls Try.prog 74 #[.pointer (some ⟨g, 0, none⟩), .string block] w fun e w' => e = .returned (.tuple #[]) ∧ SepT w0 w' (boxT g (hcells (compress s block) rest total) 94 :: ts) := by
  have S := Aside0.mk S0
  clear S0
  have HB := Aside0.mk hb
  clear hb
  have ik : (Try.prog.info? 106).map (·.size) = some (wordsA ks).size := by rw [wordsA_size, ks_length]; exact info106
  have is : (Try.prog.info? 106).map (·.size) = some (wordsA (sched block)).size := by rw [wordsA_size, sched_length]; exact info106
  have hk64 : wordsZ.size = (wordsA ks).size := by rw [wordsA_size, ks_length]; unfold wordsZ; rw [wordsA_size]; simp
  have hs64 : wordsZ.size = (wordsA (sched block)).size := by rw [wordsA_size, sched_length]; unfold wordsZ; rw [wordsA_size]; simp
  have HZ := Aside0.mk (And.intro ik (And.intro is (And.intro hk64 hs64)))
  clear ik is hk64 hs64
  go_enter Try.func74, Try.ntmps74
  go_upto_region 2 with (first
    | (go_at_call 97; have hc := schedule_S S.out block HB.out; go_fit hc; clear hc; rintro e w1 ⟨rfl, hs⟩; clear S; have S := Aside0.mk hs; clear hs)
    | (go_at_call 98; have hc := constants_S S.out; go_fit hc; clear hc; rintro e w2 ⟨rfl, hs⟩; clear S; have S := Aside0.mk hs; clear hs)
    | ((with_reducible refine gate_op (o := ⟨some 5, .alloc 106, _, _, _, _⟩) ?_); refine wpList_allocTo rfl (some 5) rfl _ _ (new64 106 rfl _ _ rfl _) ?_; have S1 := Aside0.mk (S.out.allocBox wordsZ 106); clear S; have S := S1; clear S1)
    | ((with_reducible refine gate_op (o := ⟨some 6, .alloc 106, _, _, _, _⟩) ?_); refine wpList_allocTo rfl (some 6) rfl _ _ (new64 106 rfl _ _ rfl _) ?_; have S1 := Aside0.mk (S.out.allocBox wordsZ 106); clear S; have S := S1; clear S1; simp only [World.size_alloc] at S ⊢)
    | ((with_reducible refine gate_op (o := ⟨none, .store 106 (.tmp 5) (.tmp 20), _, _, _, _⟩) ?_); refine wpList_store_row rfl 106 (.tmp 5) (.tmp 20) rfl w2.heap.size (wordsA (sched block)) rfl rfl 106 wordsZ (SepT.box S.out m1).1 HZ.out.2.1 HZ.out.2.2.2 (wordsA_one _) ?_; have S1 := Aside0.mk (S.out.swap.setRow (wordsA (sched block))).swap; clear S; have S := S1; clear S1)
    | ((with_reducible refine gate_op (o := ⟨none, .store 106 (.tmp 6) (.tmp 21), _, _, _, _⟩) ?_); refine wpList_store_row rfl 106 (.tmp 6) (.tmp 21) rfl (w2.heap.size + 1) (wordsA ks) rfl rfl 106 wordsZ (SepT.box S.out m0).1 HZ.out.1 HZ.out.2.2.1 (wordsA_one _) ?_; have S1 := Aside0.mk (S.out.setRow (wordsA ks)); clear S; have S := S1; clear S1))
  generalize World.setRow (World.setRow _ _ _) _ _ = W at S ⊢
  generalize w2.heap.size = b5 at S ⊢
  have xg := (SepT.box S.out m2).1
  have z0 : W.cell? ⟨g, 0, none⟩ = some (.int .u32 s.a) := (blk_cell xg 0).trans rfl
  have z1 : W.cell? ⟨g, 1, none⟩ = some (.int .u32 s.b) := (blk_cell xg 1).trans rfl
  have z2 : W.cell? ⟨g, 2, none⟩ = some (.int .u32 s.c) := (blk_cell xg 2).trans rfl
  have z3 : W.cell? ⟨g, 3, none⟩ = some (.int .u32 s.d) := (blk_cell xg 3).trans rfl
  have z4 : W.cell? ⟨g, 4, none⟩ = some (.int .u32 s.e) := (blk_cell xg 4).trans rfl
  have z5 : W.cell? ⟨g, 5, none⟩ = some (.int .u32 s.f) := (blk_cell xg 5).trans rfl
  have z6 : W.cell? ⟨g, 6, none⟩ = some (.int .u32 s.g) := (blk_cell xg 6).trans rfl
  have z7 : W.cell? ⟨g, 7, none⟩ = some (.int .u32 s.h) := (blk_cell xg 7).trans rfl
  clear xg
  have S1 := Aside0.mk (S.out.allocBox (cells8 s) 92)
  clear S
  go_wp2
  clear z0 z1 z2 z3 z4 z5 z6 z7
  generalize hb7 : W.heap.size = b7 at S1 ⊢
  have S := Aside0.mk (show SepT w0 (W.alloc (.cells #[.int .u32 s.a, .int .u32 s.b, .int .u32 s.c, .int .u32 s.d, .int .u32 s.e, .int .u32 s.f, .int .u32 s.g, .int .u32 s.h] 92)) _ from S1.out)
  clear S1 hb7
  generalize World.alloc _ _ = W1 at S ⊢
  go_loopw [26] (fun v26 wr => ∃ (i : Nat) (v : H8), i ≤ 64 ∧ v26 = .int .i64 i ∧ Aside0 (v = rounds ks (sched block) i s) ∧ Aside0 (SepT w0 wr (boxT b7 (cells8 v) 92 :: boxT (b5 + 1) (wordsA ks) 106 :: boxT b5 (wordsA (sched block)) 106 :: boxT g (hcells s rest total) 94 :: ts))) (fun v26 _ => 64 - (intOf v26).toNat)
  case atStart => exact ⟨0, s, by omega, rfl, ⟨rfl⟩, S⟩
  case round =>
    clear S
    obtain ⟨i, v, hi, rfl, HV, S⟩ := hrel
    by_cases hlt : i < 64
    · have hlt2 : (i : Int) < 64 := by omega
      obtain ⟨kk, hkk⟩ : ∃ x, ks.getD i 0 = x := ⟨_, rfl⟩
      obtain ⟨ww, hww⟩ : ∃ x, (sched block).getD i 0 = x := ⟨_, rfl⟩
      have HKW := Aside0.mk (And.intro hkk hww)
      clear hkk hww
      obtain ⟨y0, y1, y2, y3, y4, y5, y6, y7⟩ := v_cells S.out m0
      go_wp2
      go_quiet (fail)
      clear y0 y1 y2 y3 y4 y5 y6 y7
      have S1 := Aside0.mk (S.out.drewN nq)
      clear S
      generalize wr.drewN nq = V at S1 ⊢
      obtain ⟨y0, y1, y2, y3, y4, y5, y6, y7⟩ := v_cells S1.out m0
      have yk := words_cell S1.out m1 i (by rw [ks_length]; exact hlt) HKW.out.1
      have yw := words_cell S1.out m2 i (by rw [sched_length]; exact hlt) HKW.out.2
      clear y0 y1 y2 y3 y4 y5 y6
      go_wp2
      go_quiet ((go_at_call 95; with_reducible exact Calls.quiet_of_same (mix3' v.e 6 11 25 (by omega) _)))
      have S2 := Aside0.mk (S1.out.drewN nq)
      clear S1 y7 yk yw
      generalize V.drewN nq = V2 at S2 ⊢
      obtain ⟨y0, y1, y2, y3, y4, y5, y6, y7⟩ := v_cells S2.out m0
      have f0 := v_free S2.out m0 0
      have f1 := v_free S2.out m0 1
      have f2 := v_free S2.out m0 2
      have f3 := v_free S2.out m0 3
      have f4 := v_free S2.out m0 4
      have f5 := v_free S2.out m0 5
      have f6 := v_free S2.out m0 6
      have f7 := v_free S2.out m0 7
      go_wp2_with ((go_at_call 95; ((with_reducible refine (mix3_S S2.out v.a 2 13 22 (by omega)).mono ?_); rintro e w' ⟨rfl, rfl⟩)))
      clear y0 y1 y2 y3 y4 y5 y6 y7 f0 f1 f2 f3 f4 f5 f6 f7
      have S3 := Aside0.mk (store8 S2.out (step8 kk ww v))
      clear S2
      have HV2 : Aside0 (step8 kk ww v = rounds ks (sched block) (i + 1) s) := ⟨by rw [rounds, HKW.out.1, HKW.out.2, ← HV.out]⟩
      go_roundw
      case rel => exact ⟨i + 1, step8 kk ww v, by omega, by go_num, HV2, S3⟩
      case measure => simp [intOf]; omega
    · obtain rfl : i = 64 := by omega
      obtain ⟨y0, y1, y2, y3, y4, y5, y6, y7⟩ := v_cells S.out m0
      have S1 := Aside0.mk (SepT.drop (SepT.drop (SepT.drop S.out)))
      clear S hlt
      go_wp2
      clear y0 y1 y2 y3 y4 y5 y6 y7
      have S2 := Aside0.mk (show SepT w0 wr (boxT g (hcells (addTo 0 s v) rest total) 94 :: ts) from S1.out)
      clear S1
      go_loopw [95] (fun v95 wr => ∃ z : Int, 0 ≤ z ∧ z ≤ 8 ∧ v95 = .int .i64 z ∧ Aside0 (SepT w0 wr (boxT g (hcells (addTo z s v) rest total) 94 :: ts))) (fun v95 _ => 8 - (intOf v95).toNat)
      case atStart => exact ⟨0, by omega, by omega, rfl, S2⟩
      case round =>
        clear S2
        obtain ⟨z, hz0, hz8, rfl, S⟩ := hrel
        have xg := (SepT.box S.out m0).1
        rcases (by omega : z = 0 ∨ z = 1 ∨ z = 2 ∨ z = 3 ∨ z = 4 ∨ z = 5 ∨ z = 6 ∨ z = 7 ∨ z = 8) with rfl | rfl | rfl | rfl | rfl | rfl | rfl | rfl | rfl
        · have hix : ∀ V : World, (Instr.index 92 (.agg #[.int .u32 v.a, .int .u32 v.b, .int .u32 v.c, .int .u32 v.d, .int .u32 v.e, .int .u32 v.f, .int .u32 v.g, .int .u32 v.h]) (.int .i64 0)).run Try.prog V = .ok (.int .u32 v.a) V := fun _ => by kernel_rfl
          have y : wr.cell? ⟨g, 0, none⟩ = some (.int .u32 s.a) := (blk_cell xg 0).trans rfl
          have e := blk_frozen xg 0
          have S1 := Aside0.mk (show SepT w0 _ (boxT g (hcells (addTo 1 s v) rest total) 94 :: ts) from (S.out.setBox 0 (.int .u32 ((s.a + v.a) % 4294967296))).drew)
          clear xg S
          go_wp2
          go_region
          clear y e hix
          go_wp2
          go_roundw
          case rel => exact ⟨1, by omega, by omega, rfl, S1⟩
          case measure => simp [intOf]
        · have hix : ∀ V : World, (Instr.index 92 (.agg #[.int .u32 v.a, .int .u32 v.b, .int .u32 v.c, .int .u32 v.d, .int .u32 v.e, .int .u32 v.f, .int .u32 v.g, .int .u32 v.h]) (.int .i64 1)).run Try.prog V = .ok (.int .u32 v.b) V := fun _ => by kernel_rfl
          have y : wr.cell? ⟨g, 1, none⟩ = some (.int .u32 s.b) := (blk_cell xg 1).trans rfl
          have e := blk_frozen xg 1
          have S1 := Aside0.mk (show SepT w0 _ (boxT g (hcells (addTo 2 s v) rest total) 94 :: ts) from (S.out.setBox 1 (.int .u32 ((s.b + v.b) % 4294967296))).drew)
          clear xg S
          go_wp2
          go_region
          clear y e hix
          go_wp2
          go_roundw
          case rel => exact ⟨2, by omega, by omega, rfl, S1⟩
          case measure => simp [intOf]
        · have hix : ∀ V : World, (Instr.index 92 (.agg #[.int .u32 v.a, .int .u32 v.b, .int .u32 v.c, .int .u32 v.d, .int .u32 v.e, .int .u32 v.f, .int .u32 v.g, .int .u32 v.h]) (.int .i64 2)).run Try.prog V = .ok (.int .u32 v.c) V := fun _ => by kernel_rfl
          have y : wr.cell? ⟨g, 2, none⟩ = some (.int .u32 s.c) := (blk_cell xg 2).trans rfl
          have e := blk_frozen xg 2
          have S1 := Aside0.mk (show SepT w0 _ (boxT g (hcells (addTo 3 s v) rest total) 94 :: ts) from (S.out.setBox 2 (.int .u32 ((s.c + v.c) % 4294967296))).drew)
          clear xg S
          go_wp2
          go_region
          clear y e hix
          go_wp2
          go_roundw
          case rel => exact ⟨3, by omega, by omega, rfl, S1⟩
          case measure => simp [intOf]
        · have hix : ∀ V : World, (Instr.index 92 (.agg #[.int .u32 v.a, .int .u32 v.b, .int .u32 v.c, .int .u32 v.d, .int .u32 v.e, .int .u32 v.f, .int .u32 v.g, .int .u32 v.h]) (.int .i64 3)).run Try.prog V = .ok (.int .u32 v.d) V := fun _ => by kernel_rfl
          have y : wr.cell? ⟨g, 3, none⟩ = some (.int .u32 s.d) := (blk_cell xg 3).trans rfl
          have e := blk_frozen xg 3
          have S1 := Aside0.mk (show SepT w0 _ (boxT g (hcells (addTo 4 s v) rest total) 94 :: ts) from (S.out.setBox 3 (.int .u32 ((s.d + v.d) % 4294967296))).drew)
          clear xg S
          go_wp2
          go_region
          clear y e hix
          go_wp2
          go_roundw
          case rel => exact ⟨4, by omega, by omega, rfl, S1⟩
          case measure => simp [intOf]
        · have hix : ∀ V : World, (Instr.index 92 (.agg #[.int .u32 v.a, .int .u32 v.b, .int .u32 v.c, .int .u32 v.d, .int .u32 v.e, .int .u32 v.f, .int .u32 v.g, .int .u32 v.h]) (.int .i64 4)).run Try.prog V = .ok (.int .u32 v.e) V := fun _ => by kernel_rfl
          have y : wr.cell? ⟨g, 4, none⟩ = some (.int .u32 s.e) := (blk_cell xg 4).trans rfl
          have e := blk_frozen xg 4
          have S1 := Aside0.mk (show SepT w0 _ (boxT g (hcells (addTo 5 s v) rest total) 94 :: ts) from (S.out.setBox 4 (.int .u32 ((s.e + v.e) % 4294967296))).drew)
          clear xg S
          go_wp2
          go_region
          clear y e hix
          go_wp2
          go_roundw
          case rel => exact ⟨5, by omega, by omega, rfl, S1⟩
          case measure => simp [intOf]
        · have hix : ∀ V : World, (Instr.index 92 (.agg #[.int .u32 v.a, .int .u32 v.b, .int .u32 v.c, .int .u32 v.d, .int .u32 v.e, .int .u32 v.f, .int .u32 v.g, .int .u32 v.h]) (.int .i64 5)).run Try.prog V = .ok (.int .u32 v.f) V := fun _ => by kernel_rfl
          have y : wr.cell? ⟨g, 5, none⟩ = some (.int .u32 s.f) := (blk_cell xg 5).trans rfl
          have e := blk_frozen xg 5
          have S1 := Aside0.mk (show SepT w0 _ (boxT g (hcells (addTo 6 s v) rest total) 94 :: ts) from (S.out.setBox 5 (.int .u32 ((s.f + v.f) % 4294967296))).drew)
          clear xg S
          go_wp2
          go_region
          clear y e hix
          go_wp2
          go_roundw
          case rel => exact ⟨6, by omega, by omega, rfl, S1⟩
          case measure => simp [intOf]
        · have hix : ∀ V : World, (Instr.index 92 (.agg #[.int .u32 v.a, .int .u32 v.b, .int .u32 v.c, .int .u32 v.d, .int .u32 v.e, .int .u32 v.f, .int .u32 v.g, .int .u32 v.h]) (.int .i64 6)).run Try.prog V = .ok (.int .u32 v.g) V := fun _ => by kernel_rfl
          have y : wr.cell? ⟨g, 6, none⟩ = some (.int .u32 s.g) := (blk_cell xg 6).trans rfl
          have e := blk_frozen xg 6
          have S1 := Aside0.mk (show SepT w0 _ (boxT g (hcells (addTo 7 s v) rest total) 94 :: ts) from (S.out.setBox 6 (.int .u32 ((s.g + v.g) % 4294967296))).drew)
          clear xg S
          go_wp2
          go_region
          clear y e hix
          go_wp2
          go_roundw
          case rel => exact ⟨7, by omega, by omega, rfl, S1⟩
          case measure => simp [intOf]
        · have hix : ∀ V : World, (Instr.index 92 (.agg #[.int .u32 v.a, .int .u32 v.b, .int .u32 v.c, .int .u32 v.d, .int .u32 v.e, .int .u32 v.f, .int .u32 v.g, .int .u32 v.h]) (.int .i64 7)).run Try.prog V = .ok (.int .u32 v.h) V := fun _ => by kernel_rfl
          have y : wr.cell? ⟨g, 7, none⟩ = some (.int .u32 s.h) := (blk_cell xg 7).trans rfl
          have e := blk_frozen xg 7
          have S1 := Aside0.mk (show SepT w0 _ (boxT g (hcells (addTo 8 s v) rest total) 94 :: ts) from (S.out.setBox 7 (.int .u32 ((s.h + v.h) % 4294967296))).drew)
          clear xg S
          go_wp2
          go_region
          clear y e hix
          go_wp2
          go_roundw
          case rel => exact ⟨8, by omega, by omega, rfl, S1⟩
          case measure => simp [intOf]
        · have S1 := Aside0.mk (show SepT w0 wr (boxT g (hcells (compress s block) rest total) 94 :: ts) by
            rw [compress, ← HV.out]
            exact S.out)
          clear xg S
          go_wp2
          go_end0
          exact ⟨rfl, S1.out⟩
end Go.Proofs.Ytiafadmkkehdnaa.Sh
