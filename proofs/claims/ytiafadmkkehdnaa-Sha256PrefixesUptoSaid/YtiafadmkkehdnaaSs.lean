/-
  The reference's compress.
-/
import Derived.Test.YtiafadmkkehdnaaSk
import Derived.Test.YtiafadmkkehdnaaRq1
import Derived.StillTailTactics
namespace Go.Proofs.Ytiafadmkkehdnaa.Sh
open Go.RowKit Go.Great Go.Proofs.YtiafadmkkehdnaaW.PrintWords Go.Proofs.YtiafadmkkehdnaaW.PrintMore Go.Proofs.Ytiafadmkkehdnaa.Ref
set_option linter.unusedVariables false

/-- A row of one's own: its block, and its cells. -/
theorem SepT.rowN {w0 w : World} {ts : List Th} {e : Nat} {v : Value} {xs : List Int} (h : SepT w0 w ts) (hm : rowT (Kd.int .u32) e v xs ∈ ts) (hx : 0 < xs.length) :
    ∃ g c, v = .slice (some ⟨g, 0, none⟩) xs.length c ∧ ∀ j, j < xs.length → w.cell? ⟨g, j, none⟩ = some (.int .u32 (xs.getD j 0)) := by
  obtain ⟨ok, hR, _⟩ := SepT.get h hm
  have hR' : Kd.R (Kd.int .u32) e w 0 ok v xs := by unfold rowT at hR; exact hR
  have ho := Kd.own_of_R hR'
  obtain ⟨_, h2⟩ := ho
  rcases h2 with ⟨_, h0⟩ | ⟨g, cap, cur, he, _⟩
  · omega
  · subst he
    refine ⟨g, _, rfl, fun j hj => ?_⟩
    have hC := (Kd.R_reads' hR').2.2
    obtain ⟨ad, c, e1, _, hK, hc0⟩ := Kd.C_get hC 0 (j : Int) (by omega) (by omega)
    injection e1 with e1
    subst e1
    rw [Int.toNat_natCast] at hK hc0
    obtain rfl : c = [.int .u32 (xs.getD j 0)] := hK
    have := hc0 0 _ rfl
    simpa [Kd.int, Kd.scalar, add_plain] using this
theorem RefSchedule_S {w0 w : World} {ts : List Th} (S0 : SepT w0 w ts) (s : ByteArray) (hs : s.size = 64) :
    Calls Try.prog 91 #[.string s] w fun e w' => ∃ g c, e = .returned (.slice (some ⟨g, 0, none⟩) 64 c) ∧ SepT w0 w' (rowT (Kd.int .u32) 75 (.slice (some ⟨g, 0, none⟩) 64 c) (sched s) :: ts) := by
  refine (modcertref01_schedule.calls 66 s (sched s) w (schedule_f s hs)).mono ?_
  rintro e w1 ⟨v, rfl, hR, hb⟩
  have S1 := S0.addRow hb hR
  obtain ⟨g, c, rfl, _⟩ := SepT.rowN S1 (List.mem_cons_self ..) (by rw [sched_length]; decide)
  rw [sched_length] at S1 ⊢
  exact ⟨g, c, rfl, S1⟩
theorem RefConstants_S {w0 w : World} {ts : List Th} (S0 : SepT w0 w ts) :
    Calls Try.prog 92 #[] w fun e w' => ∃ g c, e = .returned (.slice (some ⟨g, 0, none⟩) 64 c) ∧ SepT w0 w' (rowT (Kd.int .u32) 75 (.slice (some ⟨g, 0, none⟩) 64 c) ks :: ts) := by
  refine (Rq.modcertref01_constants.calls ks w rfl).mono ?_
  rintro e w1 ⟨v, rfl, hR, hb⟩
  have S1 := S0.addRow hb hR
  obtain ⟨g, c, rfl, _⟩ := SepT.rowN S1 (List.mem_cons_self ..) (by rw [ks_length]; decide)
  rw [ks_length] at S1 ⊢
  exact ⟨g, c, rfl, S1⟩
theorem row_cell {w0 w : World} {ts : List Th} {g c n : Nat} {xs : List Int} (h : SepT w0 w ts) (hm : rowT (Kd.int .u32) 75 (.slice (some ⟨g, 0, none⟩) n c) xs ∈ ts) (i : Nat) (hi : i < xs.length) : w.cell? ⟨g, i, none⟩ = some (.int .u32 (xs.getD i 0)) := by
  obtain ⟨g', c', e, h1⟩ := SepT.rowN h hm (by omega)
  injection e with e1 e2 e3
  injection e1 with e1
  injection e1 with e1
  subst e1
  exact h1 i hi
theorem refRotr (x n : Int) (h1 : 1 ≤ n ∧ n ≤ 31) (w : World) (k : Nat) :
    Calls Try.prog 93 #[.int .u32 x, .int .i64 n] (w.drewN k) fun e w' => e = .returned (.int .u32 (rotr x n)) ∧ ∃ m, w' = w.drewN m :=
  Calls.quiet_of ((modcertref01_rotr.calls x n _ _ (rotr_f x n h1.1 h1.2)).mono (fun _ _ h => ⟨h.1, h.2.out⟩))
theorem RefRotr_S {w0 w : World} {ts : List Th} (S0 : SepT w0 w ts) (x n : Int) (h1 : 1 ≤ n ∧ n ≤ 31) :
    Calls Try.prog 93 #[.int .u32 x, .int .i64 n] w fun e w' => e = .returned (.int .u32 (rotr x n)) ∧ SepT w0 w' ts := by
  refine (modcertref01_rotr.calls x n _ w (rotr_f x n h1.1 h1.2)).mono ?_
  rintro e w1 ⟨rfl, ⟨k, rfl⟩⟩
  exact ⟨rfl, S0.drewN k⟩
/-- A state's row. -/
def cellsR (s : H8) : Array Value := #[.int .u32 s.a, .int .u32 s.b, .int .u32 s.c, .int .u32 s.d, .int .u32 s.e, .int .u32 s.f, .int .u32 s.g, .int .u32 s.h]
theorem s_cells {w0 V : World} {ts : List Th} {b : Nat} {v : H8} (h : SepT w0 V ts) (hm : boxT b (cellsR v) 75 ∈ ts) : V.cell? ⟨b, 0, none⟩ = some (.int .u32 v.a) ∧ V.cell? ⟨b, 1, none⟩ = some (.int .u32 v.b) ∧ V.cell? ⟨b, 2, none⟩ = some (.int .u32 v.c) ∧ V.cell? ⟨b, 3, none⟩ = some (.int .u32 v.d) ∧ V.cell? ⟨b, 4, none⟩ = some (.int .u32 v.e) ∧ V.cell? ⟨b, 5, none⟩ = some (.int .u32 v.f) ∧ V.cell? ⟨b, 6, none⟩ = some (.int .u32 v.g) ∧ V.cell? ⟨b, 7, none⟩ = some (.int .u32 v.h) := by
  have xb := (SepT.box h hm).1
  exact ⟨(blk_cell xb 0).trans rfl, (blk_cell xb 1).trans rfl, (blk_cell xb 2).trans rfl, (blk_cell xb 3).trans rfl, (blk_cell xb 4).trans rfl, (blk_cell xb 5).trans rfl, (blk_cell xb 6).trans rfl, (blk_cell xb 7).trans rfl⟩
attribute [local irreducible] Sep rowT boxT ks sched rotr bits
set_option maxHeartbeats 4000000 in
set_option maxRecDepth 100000 in
theorem RefCompress_S {w0 w : World} {ts : List Th} {g : Nat} {s : H8} (S0 : SepT w0 w ts) (hm : boxT g (cellsR s) 75 ∈ ts) (block : ByteArray) (hb : block.size = 64) :
    Calls Try.prog 69 #[.slice (some ⟨g, 0, none⟩) 8 8, .string block] w fun e w' => ∃ g', e = .returned (.slice (some ⟨g', 0, none⟩) 8 8) ∧ SepT w0 w' (boxT g' (cellsR (compress s block)) 75 :: ts) := by
  have S := Aside0.mk S0
  have HM := Aside0.mk hm
  clear S0 hm
  go_enter Try.func69, Try.ntmps69
  go_upto_region 2 with (first
    | (go_at_call 91; have hc := RefSchedule_S S.out block hb; go_fit hc; clear hc; rintro e w1 ⟨gs, cs, rfl, hs⟩; clear S; have S := Aside0.mk hs; clear hs)
    | (go_at_call 92; have hc := RefConstants_S S.out; go_fit hc; clear hc; rintro e w2 ⟨gk, ck, rfl, hs⟩; clear S; have S := Aside0.mk hs; clear hs))
  obtain ⟨y0, y1, y2, y3, y4, y5, y6, y7⟩ := s_cells S.out (List.mem_cons_of_mem _ (List.mem_cons_of_mem _ HM.out))
  go_quiet (fail)
  clear y0 y1 y2 y3 y4 y5 y6 y7
  have S1 := Aside0.mk (S.out.drewN nq)
  clear S
  generalize w2.drewN nq = V at S1 ⊢
  go_wp2
  go_loopw [7, 8, 9, 10, 11, 12, 13, 14, 15] (fun v7 v8 v9 v10 v11 v12 v13 v14 v15 wr => ∃ (i : Nat) (v : H8), i ≤ 64 ∧ v15 = .int .i64 i ∧ v7 = .int .u32 v.a ∧ v8 = .int .u32 v.b ∧ v9 = .int .u32 v.c ∧ v10 = .int .u32 v.d ∧ v11 = .int .u32 v.e ∧ v12 = .int .u32 v.f ∧ v13 = .int .u32 v.g ∧ v14 = .int .u32 v.h ∧ Aside0 (v = rounds ks (sched block) i s) ∧ Aside0 (SepT w0 wr (rowT (Kd.int .u32) 75 (.slice (some ⟨gk, 0, none⟩) 64 ck) ks :: rowT (Kd.int .u32) 75 (.slice (some ⟨gs, 0, none⟩) 64 cs) (sched block) :: ts))) (fun _ _ _ _ _ _ _ _ v15 _ => 64 - (intOf v15).toNat)
  case atStart => exact ⟨0, s, by omega, rfl, rfl, rfl, rfl, rfl, rfl, rfl, rfl, rfl, ⟨rfl⟩, S1⟩
  case round =>
    clear S1
    obtain ⟨i, v, hi, rfl, rfl, rfl, rfl, rfl, rfl, rfl, rfl, rfl, HV, S⟩ := hrel
    by_cases hlt : i < 64
    · have hlt2 : (i : Int) < 64 := by omega
      obtain ⟨kk, hkk⟩ : ∃ x, ks.getD i 0 = x := ⟨_, rfl⟩
      obtain ⟨ww, hww⟩ : ∃ x, (sched block).getD i 0 = x := ⟨_, rfl⟩
      have yk := row_cell S.out m0 i (by rw [ks_length]; exact hlt)
      have yw := row_cell S.out m1 i (by rw [sched_length]; exact hlt)
      rw [hkk] at yk
      rw [hww] at yw
      have HKW := Aside0.mk (And.intro hkk hww)
      clear hkk hww
      go_upto_region 6 with fail
      go_quiet ((go_at_call 93; with_reducible exact refRotr _ _ (by decide) _ _))
      obtain ⟨t1, ht1⟩ : ∃ t, first8 kk ww v % 4294967296 = t := ⟨_, rfl⟩
      have e1 : (((v.h + bits .xor .u32 (bits .xor .u32 (rotr v.e 6) (rotr v.e 11)) (rotr v.e 25) + bits .xor .u32 (bits .and .u32 v.e v.f) (bits .and .u32 (bits .xor .u32 (if IntKind.u32.signed = true then -1 else IntKind.u32.max) v.e) v.g) + kk) % 4294967296 + ww) % 4294967296) = t1 := by
        have h0 : (if IntKind.u32.signed = true then (-1 : Int) else IntKind.u32.max) = 4294967295 := by decide
        rw [h0, ← ht1]
        unfold first8 mix3
        omega
      rw [e1]
      have HT1 := Aside0.mk ht1
      have S2 := Aside0.mk (S.out.drewN nq)
      clear S yk yw e1 ht1
      generalize wr.drewN nq = V2 at S2 ⊢
      go_wp2_with (first
        | (go_at_call 93; have hc := RefRotr_S S2.out v.a 2 (by decide); go_fit hc; clear hc; rintro e w3 ⟨rfl, hh⟩; clear S2; have S2 := Aside0.mk hh; clear hh)
        | (go_at_call 93; have hc := RefRotr_S S2.out v.a 13 (by decide); go_fit hc; clear hc; rintro e w4 ⟨rfl, hh⟩; clear S2; have S2 := Aside0.mk hh; clear hh)
        | (go_at_call 93; have hc := RefRotr_S S2.out v.a 22 (by decide); go_fit hc; clear hc; rintro e w5 ⟨rfl, hh⟩; clear S2; have S2 := Aside0.mk hh; clear hh))
      have HV2 : Aside0 (step8 kk ww v = rounds ks (sched block) (i + 1) s) := ⟨by rw [rounds, HKW.out.1, HKW.out.2, ← HV.out]⟩
      go_roundw
      case rel =>
        refine ⟨i + 1, step8 kk ww v, by omega, by go_num, ?_, rfl, rfl, rfl, ?_, rfl, rfl, rfl, HV2, S2⟩
        · show Value.int .u32 _ = Value.int .u32 ((first8 kk ww v + second8 v) % 4294967296)
          rw [← HT1.out]
          unfold second8 mix3
          congr 1
          generalize first8 kk ww v = f
          omega
        · show Value.int .u32 _ = Value.int .u32 ((v.d + first8 kk ww v) % 4294967296)
          rw [← HT1.out]
          congr 1
          generalize first8 kk ww v = f
          omega
      case measure => simp [intOf]; omega
    · obtain rfl : i = 64 := by omega
      obtain ⟨y0, y1, y2, y3, y4, y5, y6, y7⟩ := s_cells S.out (List.mem_cons_of_mem _ (List.mem_cons_of_mem _ HM.out))
      go_upto_region 9 with fail
      have S1 := Aside0.mk (SepT.drop (SepT.drop S.out)).drew
      clear S hlt
      go_still_tail 40, (by kernel_rfl)
      change wpList _ _ _ _ _ wr.drew
      clear y0 y1 y2 y3 y4 y5 y6 y7
      generalize wr.drew = V3 at S1 ⊢
      have hcs : cellsR (compress s block) = cellsR (add8 s v) := by rw [compress, ← HV.out]
      have S2 := Aside0.mk (S1.out.allocBox (cellsR (compress s block)) 75)
      rw [hcs] at S2
      have HCS := Aside0.mk hcs
      clear S1 hcs
      go_wp2
      go_ret
      refine ⟨_, rfl, ?_⟩
      rw [HCS.out]
      exact S2.out
end Go.Proofs.Ytiafadmkkehdnaa.Sh
