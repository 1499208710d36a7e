/-
  The reference's Sum.
-/
import Derived.Test.YtiafadmkkehdnaaZ1
import Derived.Test.YtiafadmkkehdnaaRm1
import Derived.Test.YtiafadmkkehdnaaRm2
import Derived.Test.YtiafadmkkehdnaaRm3
import Derived.ArgAppend
import Derived.Laws.IdiomCopy
import Derived.StillTailTactics
import Derived.RegionCalls
import Derived.Deep.RegionWith
import Derived.BigRegion
namespace Go.Proofs.Ytiafadmkkehdnaa.Sh
open Go.RowKit Go.Great Go.Proofs.YtiafadmkkehdnaaW.PrintWords Go.Proofs.YtiafadmkkehdnaaW.PrintMore Go.Proofs.Ytiafadmkkehdnaa.Rm
set_option linter.unusedVariables false

theorem bits_or_comm (k : IntKind) (a b : Int) : bits .or k a b = bits .or k b a := by
  unfold bits
  simp only [BitVec.or_comm]
theorem rotr_f (x n : Int) (h1 : 1 ≤ n) (h2 : n ≤ 31) : modcertref01_rotr.f x n = some (rotr x n) := by
  have hw : wrap64 (32 - n) = 32 - n := by unfold wrap64; omega
  unfold modcertref01_rotr.f rotr
  rw [hw, if_pos (by omega), if_pos (by omega)]
  have e1 : shr .u32 x n = x / 2 ^ n.toNat := by
    unfold shr
    rw [Nat.min_eq_left (by show n.toNat ≤ 32; omega)]
  have e2 : shl .u32 x (32 - n) = IntKind.u32.wrap (x * 2 ^ (32 - n).toNat) := by
    unfold shl
    rw [Nat.min_eq_left (by show (32 - n).toNat ≤ 32; omega)]
  rw [e1, e2, bits_or_comm]
theorem bt_byteN (s : ByteArray) (i : Nat) (h : i < s.size) : bt s (i : Int) = byteN s i := by
  rw [byteN_get s i h]
  exact (bt_at s (i : Int) h).symm
theorem or_mul (k n m : Nat) (hk : k ≤ 32) (hm : m < 2 ^ k) (hn : n * 2 ^ k + m < 4294967296) : bits .or .u32 ((n * 2 ^ k : Nat) : Int) (m : Int) = ((n * 2 ^ k + m : Nat) : Int) := by
  have hw : ∀ k : Int, 0 ≤ k → k < 2 ^ 32 → IntKind.u32.wrap k = k := fun k h0 h1 => by
    have e : (2 : Int) ^ 32 = 4294967296 := by decide
    rw [e] at h1
    rw [IntKind.wrap_u32]
    omega
  have h := (bits_nat .u32 32 (by decide) hw (n * 2 ^ k) m (by omega) (by omega)).2
  rw [h]
  have h2 := Nat.shiftLeft_add_eq_or_of_lt hm n
  rw [Nat.shiftLeft_eq] at h2
  rw [← h2]
/-- The four bytes of a word. -/
theorem word_or (a b c d : Int) (ha : 0 ≤ a ∧ a ≤ 255) (hb : 0 ≤ b ∧ b ≤ 255) (hc : 0 ≤ c ∧ c ≤ 255) (hd : 0 ≤ d ∧ d ≤ 255) :
    bits .or .u32 (bits .or .u32 (bits .or .u32 (((a % 4294967296) * 16777216) % 4294967296) (((b % 4294967296) * 65536) % 4294967296)) (((c % 4294967296) * 256) % 4294967296)) (d % 4294967296) = ((a * 256 + b) * 256 + c) * 256 + d := by
  obtain ⟨a, rfl⟩ := Int.eq_ofNat_of_zero_le ha.1
  obtain ⟨b, rfl⟩ := Int.eq_ofNat_of_zero_le hb.1
  obtain ⟨c, rfl⟩ := Int.eq_ofNat_of_zero_le hc.1
  obtain ⟨d, rfl⟩ := Int.eq_ofNat_of_zero_le hd.1
  have e1 := or_mul 24 a (b * 65536) (by omega) (by omega) (by omega)
  have e2 := or_mul 16 (a * 256 + b) (c * 256) (by omega) (by omega) (by omega)
  have e3 := or_mul 8 ((a * 256 + b) * 256 + c) d (by omega) (by omega) (by omega)
  rw [show (((a : Int) % 4294967296) * 16777216) % 4294967296 = ((a * 2 ^ 24 : Nat) : Int) by omega, show (((b : Int) % 4294967296) * 65536) % 4294967296 = ((b * 65536 : Nat) : Int) by omega, e1]
  rw [show ((a * 2 ^ 24 + b * 65536 : Nat) : Int) = (((a * 256 + b) * 2 ^ 16 : Nat) : Int) by omega, show (((c : Int) % 4294967296) * 256) % 4294967296 = ((c * 256 : Nat) : Int) by omega, e2]
  rw [show (((a * 256 + b) * 2 ^ 16 + c * 256 : Nat) : Int) = ((((a * 256 + b) * 256 + c) * 2 ^ 8 : Nat) : Int) by omega, show ((d : Int) % 4294967296) = (d : Int) by omega, e3]
  omega
theorem part4 (s : ByteArray) (i : Nat) : part s i 4 = ((byteN s (4 * i) * 256 + byteN s (4 * i + 1)) * 256 + byteN s (4 * i + 2)) * 256 + byteN s (4 * i + 3) := by
  simp [part]
theorem mixs10 (x : Int) : mixs x 17 19 10 = bits .xor .u32 (bits .xor .u32 (rotr x 17) (rotr x 19)) (x / 1024) := by
  unfold mixs
  rw [show (2 : Int) ^ (10 : Int).toNat = 1024 by decide]
theorem mixs3 (x : Int) : mixs x 7 18 3 = bits .xor .u32 (bits .xor .u32 (rotr x 7) (rotr x 18)) (x / 8) := by
  unfold mixs
  rw [show (2 : Int) ^ (3 : Int).toNat = 8 by decide]
attribute [local irreducible] rotr bits mixs part sched
theorem next_eq (s : ByteArray) (i : Nat) (h16 : 16 ≤ i) : schedTo s (i + 1) = schedTo s i ++ [((((((Go.bits .xor .u32 (Go.bits .xor .u32 (rotr (rd (schedTo s i) ((i - 2 : Nat) : Int)) 17) (rotr (rd (schedTo s i) ((i - 2 : Nat) : Int)) 19)) ((rd (schedTo s i) ((i - 2 : Nat) : Int)) / 1024)) + (rd (schedTo s i) ((i - 7 : Nat) : Int))) % 4294967296) + (Go.bits .xor .u32 (Go.bits .xor .u32 (rotr (rd (schedTo s i) ((i - 15 : Nat) : Int)) 7) (rotr (rd (schedTo s i) ((i - 15 : Nat) : Int)) 18)) ((rd (schedTo s i) ((i - 15 : Nat) : Int)) / 8))) % 4294967296) + (rd (schedTo s i) ((i - 16 : Nat) : Int))) % 4294967296] := by
  show schedTo s i ++ [if i < 16 then part s i 4 else nextW (schedTo s i) i] = _
  rw [if_neg (by omega), nextW, mixs10, mixs3]
  unfold rd
  simp only [Int.toNat_natCast, IntKind.wrap_u32]
set_option maxRecDepth 100000 in
theorem sched_l1 (s : ByteArray) : ∀ (n i : Nat), i + n = 64 → 16 ≤ i → modcertref01_schedule.l1 (n + 1) (schedTo s i) (i : Int) = some (sched s)
  | 0, i, h, _ => by
    obtain rfl : i = 64 := by omega
    rw [modcertref01_schedule.l1, if_neg (by omega)]
    unfold sched
    rfl
  | n + 1, i, h, h16 => by
    have hl := schedTo_length s i
    have a0 : (i : Int) < 64 := by omega
    have p15 : 0 ≤ ((i - 15 : Nat) : Int) ∧ ((i - 15 : Nat) : Int) < ((schedTo s i).length : Int) := by omega
    have p2 : 0 ≤ ((i - 2 : Nat) : Int) ∧ ((i - 2 : Nat) : Int) < ((schedTo s i).length : Int) := by omega
    have p7 : 0 ≤ ((i - 7 : Nat) : Int) ∧ ((i - 7 : Nat) : Int) < ((schedTo s i).length : Int) := by omega
    have p16 : 0 ≤ ((i - 16 : Nat) : Int) ∧ ((i - 16 : Nat) : Int) < ((schedTo s i).length : Int) := by omega
    have pl : (schedTo s i).length < 35184372088832 := by omega
    have ih := sched_l1 s n (i + 1) (by omega) (by omega)
    have w1 : wrap64 ((i : Int) - 15) = ((i - 15 : Nat) : Int) := by unfold wrap64; omega
    have w2 : wrap64 ((i : Int) - 2) = ((i - 2 : Nat) : Int) := by clear w1; unfold wrap64; omega
    have w3 : wrap64 ((i : Int) - 7) = ((i - 7 : Nat) : Int) := by clear w1 w2; unfold wrap64; omega
    have w4 : wrap64 ((i : Int) - 16) = ((i - 16 : Nat) : Int) := by clear w1 w2 w3; unfold wrap64; omega
    have w5 : wrap64 ((i : Int) + 1) = ((i + 1 : Nat) : Int) := by clear w1 w2 w3 w4; unfold wrap64; omega
    rw [modcertref01_schedule.l1, if_pos a0, w1, w2, w3, w4, w5, if_pos p15.1, if_pos p15.2, if_pos p2.1, if_pos p2.2]
    rw [rotr_f _ 7 (by decide) (by decide), Option.bind_some, rotr_f _ 18 (by decide) (by decide), Option.bind_some, rotr_f _ 17 (by decide) (by decide), Option.bind_some, rotr_f _ 19 (by decide) (by decide), Option.bind_some]
    rw [if_pos p7.1, if_pos p7.2, if_pos p16.1, if_pos p16.2, if_pos pl]
    have e := next_eq s i h16
    rw [e] at ih
    exact ih
set_option maxRecDepth 100000 in
theorem sched_l0 (s : ByteArray) (hs : s.size = 64) : ∀ (n i : Nat), i + n = 16 → modcertref01_schedule.l0 (n + 50) s (schedTo s i) ((4 * i : Nat) : Int) = some (sched s)
  | 0, i, h => by
    obtain rfl : i = 16 := by omega
    rw [show 0 + 50 = 49 + 1 from rfl, modcertref01_schedule.l0, if_neg (by omega)]
    exact sched_l1 s 48 16 (by omega) (by omega)
  | n + 1, i, h => by
    have hl := schedTo_length s i
    have a0 : ((4 * i : Nat) : Int) < 64 := by omega
    have p0 : 0 ≤ ((4 * i : Nat) : Int) ∧ ((4 * i : Nat) : Int) < (s.size : Int) := by omega
    have p1 : 0 ≤ ((4 * i + 1 : Nat) : Int) ∧ ((4 * i + 1 : Nat) : Int) < (s.size : Int) := by omega
    have p2 : 0 ≤ ((4 * i + 2 : Nat) : Int) ∧ ((4 * i + 2 : Nat) : Int) < (s.size : Int) := by omega
    have p3 : 0 ≤ ((4 * i + 3 : Nat) : Int) ∧ ((4 * i + 3 : Nat) : Int) < (s.size : Int) := by omega
    have pl : (schedTo s i).length < 35184372088832 := by omega
    have b0 := bt_byteN s (4 * i) (by omega)
    have b1 := bt_byteN s (4 * i + 1) (by omega)
    have b2 := bt_byteN s (4 * i + 2) (by omega)
    have b3 := bt_byteN s (4 * i + 3) (by omega)
    have ih := sched_l0 s hs n (i + 1) (by omega)
    have e0 : n + 1 + 50 = (n + 50) + 1 := by omega
    have hi16 : i < 16 := by omega
    have w1 : wrap64 (((4 * i : Nat) : Int) + 1) = ((4 * i + 1 : Nat) : Int) := by unfold wrap64; omega
    have w2 : wrap64 (((4 * i : Nat) : Int) + 2) = ((4 * i + 2 : Nat) : Int) := by clear w1; unfold wrap64; omega
    have w3 : wrap64 (((4 * i : Nat) : Int) + 3) = ((4 * i + 3 : Nat) : Int) := by clear w1 w2; unfold wrap64; omega
    have w4 : wrap64 (((4 * i : Nat) : Int) + 4) = ((4 * (i + 1) : Nat) : Int) := by clear w1 w2 w3; unfold wrap64; omega
    rw [e0, modcertref01_schedule.l0, w1, w2, w3, w4, if_pos a0, if_pos p0.1, if_pos p0.2, if_pos p1.1, if_pos p1.2, if_pos p2.1, if_pos p2.2, if_pos p3.1, if_pos p3.2, if_pos pl]
    clear w1 w2 w3 w4
    rw [b0, b1, b2, b3]
    rw [word_or _ _ _ _ (byteN_range _ _) (byteN_range _ _) (byteN_range _ _) (byteN_range _ _)]
    have e : schedTo s (i + 1) = schedTo s i ++ [((byteN s (4 * i) * 256 + byteN s (4 * i + 1)) * 256 + byteN s (4 * i + 2)) * 256 + byteN s (4 * i + 3)] := by
      show schedTo s i ++ [if i < 16 then part s i 4 else nextW (schedTo s i) i] = _
      rw [if_pos hi16, part4]
    rw [e] at ih
    exact ih
theorem schedule_f (s : ByteArray) (hs : s.size = 64) : modcertref01_schedule.f 66 s = some (sched s) := by
  unfold modcertref01_schedule.f
  exact sched_l0 s hs 16 0 (by omega)
end Go.Proofs.Ytiafadmkkehdnaa.Sh
namespace Go.Proofs.Ytiafadmkkehdnaa.Sh
open Go.RowKit Go.Great Go.Proofs.YtiafadmkkehdnaaW.PrintWords Go.Proofs.YtiafadmkkehdnaaW.PrintMore Go.Proofs.Ytiafadmkkehdnaa.Rm
set_option linter.unusedVariables false

/-- A row of one's own: its block, and its cells. -/
theorem SepT.rowN {w0 w : World} {ts : List Th} {e : Nat} {v : Value} {xs : List Int} (h : SepT w0 w ts) (hm : rowT (Kd.int .u32) e v xs ∈ ts) (hx : 0 < xs.length) :
    ∃ g c, v = .slice (some ⟨g, 0, none⟩) xs.length c ∧ ∀ j, j < xs.length → w.cell? ⟨g, j, none⟩ = some (.int .u32 (xs.getD j 0)) := by
  obtain ⟨ok, hR, _⟩ := SepT.get h hm
  have hR' : Kd.R (Kd.int .u32) e w 0 ok v xs := by unfold rowT at hR; exact hR
  have ho := Kd.own_of_R hR'
  obtain ⟨_, h2⟩ := ho
  rcases h2 with ⟨_, h0⟩ | ⟨g, cap, cur, he, _⟩
  · omega
  · subst he
    refine ⟨g, _, rfl, fun j hj => ?_⟩
    have hC := (Kd.R_reads' hR').2.2
    obtain ⟨ad, c, e1, _, hK, hc0⟩ := Kd.C_get hC 0 (j : Int) (by omega) (by omega)
    injection e1 with e1
    subst e1
    rw [Int.toNat_natCast] at hK hc0
    obtain rfl : c = [.int .u32 (xs.getD j 0)] := hK
    have := hc0 0 _ rfl
    simpa [Kd.int, Kd.scalar, add_plain] using this
theorem RefSchedule_S {w0 w : World} {ts : List Th} (S0 : SepT w0 w ts) (s : ByteArray) (hs : s.size = 64) :
    Calls Try.prog 91 #[.string s] w fun e w' => ∃ g c, e = .returned (.slice (some ⟨g, 0, none⟩) 64 c) ∧ SepT w0 w' (rowT (Kd.int .u32) 75 (.slice (some ⟨g, 0, none⟩) 64 c) (sched s) :: ts) := by
  refine (modcertref01_schedule.calls 66 s (sched s) w (schedule_f s hs)).mono ?_
  rintro e w1 ⟨v, rfl, hR, hb⟩
  have S1 := S0.addRow hb hR
  obtain ⟨g, c, rfl, _⟩ := SepT.rowN S1 (List.mem_cons_self ..) (by rw [sched_length]; decide)
  rw [sched_length] at S1 ⊢
  exact ⟨g, c, rfl, S1⟩
theorem RefConstants_S {w0 w : World} {ts : List Th} (S0 : SepT w0 w ts) :
    Calls Try.prog 92 #[] w fun e w' => ∃ g c, e = .returned (.slice (some ⟨g, 0, none⟩) 64 c) ∧ SepT w0 w' (rowT (Kd.int .u32) 75 (.slice (some ⟨g, 0, none⟩) 64 c) ks :: ts) := by
  refine (Rm.modcertref01_constants.calls ks w rfl).mono ?_
  rintro e w1 ⟨v, rfl, hR, hb⟩
  have S1 := S0.addRow hb hR
  obtain ⟨g, c, rfl, _⟩ := SepT.rowN S1 (List.mem_cons_self ..) (by rw [ks_length]; decide)
  rw [ks_length] at S1 ⊢
  exact ⟨g, c, rfl, S1⟩
theorem row_cell {w0 w : World} {ts : List Th} {g c n : Nat} {xs : List Int} (h : SepT w0 w ts) (hm : rowT (Kd.int .u32) 75 (.slice (some ⟨g, 0, none⟩) n c) xs ∈ ts) (i : Nat) (hi : i < xs.length) : w.cell? ⟨g, i, none⟩ = some (.int .u32 (xs.getD i 0)) := by
  obtain ⟨g', c', e, h1⟩ := SepT.rowN h hm (by omega)
  injection e with e1 e2 e3
  injection e1 with e1
  injection e1 with e1
  subst e1
  exact h1 i hi
theorem refRotr (x n : Int) (h1 : 1 ≤ n ∧ n ≤ 31) (w : World) (k : Nat) :
    Calls Try.prog 93 #[.int .u32 x, .int .i64 n] (w.drewN k) fun e w' => e = .returned (.int .u32 (rotr x n)) ∧ ∃ m, w' = w.drewN m :=
  Calls.quiet_of ((modcertref01_rotr.calls x n _ _ (rotr_f x n h1.1 h1.2)).mono (fun _ _ h => ⟨h.1, h.2.out⟩))
theorem RefRotr_S {w0 w : World} {ts : List Th} (S0 : SepT w0 w ts) (x n : Int) (h1 : 1 ≤ n ∧ n ≤ 31) :
    Calls Try.prog 93 #[.int .u32 x, .int .i64 n] w fun e w' => e = .returned (.int .u32 (rotr x n)) ∧ SepT w0 w' ts := by
  refine (modcertref01_rotr.calls x n _ w (rotr_f x n h1.1 h1.2)).mono ?_
  rintro e w1 ⟨rfl, ⟨k, rfl⟩⟩
  exact ⟨rfl, S0.drewN k⟩
/-- A state's row. -/
def cellsR (s : H8) : Array Value := #[.int .u32 s.a, .int .u32 s.b, .int .u32 s.c, .int .u32 s.d, .int .u32 s.e, .int .u32 s.f, .int .u32 s.g, .int .u32 s.h]
theorem s_cells {w0 V : World} {ts : List Th} {b : Nat} {v : H8} (h : SepT w0 V ts) (hm : boxT b (cellsR v) 75 ∈ ts) : V.cell? ⟨b, 0, none⟩ = some (.int .u32 v.a) ∧ V.cell? ⟨b, 1, none⟩ = some (.int .u32 v.b) ∧ V.cell? ⟨b, 2, none⟩ = some (.int .u32 v.c) ∧ V.cell? ⟨b, 3, none⟩ = some (.int .u32 v.d) ∧ V.cell? ⟨b, 4, none⟩ = some (.int .u32 v.e) ∧ V.cell? ⟨b, 5, none⟩ = some (.int .u32 v.f) ∧ V.cell? ⟨b, 6, none⟩ = some (.int .u32 v.g) ∧ V.cell? ⟨b, 7, none⟩ = some (.int .u32 v.h) := by
  have xb := (SepT.box h hm).1
  exact ⟨(blk_cell xb 0).trans rfl, (blk_cell xb 1).trans rfl, (blk_cell xb 2).trans rfl, (blk_cell xb 3).trans rfl, (blk_cell xb 4).trans rfl, (blk_cell xb 5).trans rfl, (blk_cell xb 6).trans rfl, (blk_cell xb 7).trans rfl⟩
attribute [local irreducible] Sep rowT boxT ks sched rotr bits
set_option maxHeartbeats 4000000 in
set_option maxRecDepth 100000 in
theorem RefCompress_S {w0 w : World} {ts : List Th} {g : Nat} {s : H8} (S0 : SepT w0 w ts) (hm : boxT g (cellsR s) 75 ∈ ts) (block : ByteArray) (hb : block.size = 64) :
    Calls Try.prog 69 #[.slice (some ⟨g, 0, none⟩) 8 8, .string block] w fun e w' => ∃ g', e = .returned (.slice (some ⟨g', 0, none⟩) 8 8) ∧ SepT w0 w' (boxT g' (cellsR (compress s block)) 75 :: ts) := by
  have S := Aside0.mk S0
  have HM := Aside0.mk hm
  clear S0 hm
  go_enter Try.func69, Try.ntmps69
  go_upto_region 2 with (first
    | (go_at_call 91; have hc := RefSchedule_S S.out block hb; go_fit hc; clear hc; rintro e w1 ⟨gs, cs, rfl, hs⟩; clear S; have S := Aside0.mk hs; clear hs)
    | (go_at_call 92; have hc := RefConstants_S S.out; go_fit hc; clear hc; rintro e w2 ⟨gk, ck, rfl, hs⟩; clear S; have S := Aside0.mk hs; clear hs))
  obtain ⟨y0, y1, y2, y3, y4, y5, y6, y7⟩ := s_cells S.out (List.mem_cons_of_mem _ (List.mem_cons_of_mem _ HM.out))
  go_quiet (fail)
  clear y0 y1 y2 y3 y4 y5 y6 y7
  have S1 := Aside0.mk (S.out.drewN nq)
  clear S
  generalize w2.drewN nq = V at S1 ⊢
  go_wp2
  go_loopw [7, 8, 9, 10, 11, 12, 13, 14, 15] (fun v7 v8 v9 v10 v11 v12 v13 v14 v15 wr => ∃ (i : Nat) (v : H8), i ≤ 64 ∧ v15 = .int .i64 i ∧ v7 = .int .u32 v.a ∧ v8 = .int .u32 v.b ∧ v9 = .int .u32 v.c ∧ v10 = .int .u32 v.d ∧ v11 = .int .u32 v.e ∧ v12 = .int .u32 v.f ∧ v13 = .int .u32 v.g ∧ v14 = .int .u32 v.h ∧ Aside0 (v = rounds ks (sched block) i s) ∧ Aside0 (SepT w0 wr (rowT (Kd.int .u32) 75 (.slice (some ⟨gk, 0, none⟩) 64 ck) ks :: rowT (Kd.int .u32) 75 (.slice (some ⟨gs, 0, none⟩) 64 cs) (sched block) :: ts))) (fun _ _ _ _ _ _ _ _ v15 _ => 64 - (intOf v15).toNat)
  case atStart => exact ⟨0, s, by omega, rfl, rfl, rfl, rfl, rfl, rfl, rfl, rfl, rfl, ⟨rfl⟩, S1⟩
  case round =>
    clear S1
    obtain ⟨i, v, hi, rfl, rfl, rfl, rfl, rfl, rfl, rfl, rfl, rfl, HV, S⟩ := hrel
    by_cases hlt : i < 64
    · have hlt2 : (i : Int) < 64 := by omega
      obtain ⟨kk, hkk⟩ : ∃ x, ks.getD i 0 = x := ⟨_, rfl⟩
      obtain ⟨ww, hww⟩ : ∃ x, (sched block).getD i 0 = x := ⟨_, rfl⟩
      have yk := row_cell S.out m0 i (by rw [ks_length]; exact hlt)
      have yw := row_cell S.out m1 i (by rw [sched_length]; exact hlt)
      rw [hkk] at yk
      rw [hww] at yw
      have HKW := Aside0.mk (And.intro hkk hww)
      clear hkk hww
      go_upto_region 6 with fail
      go_quiet ((go_at_call 93; with_reducible exact refRotr _ _ (by decide) _ _))
      obtain ⟨t1, ht1⟩ : ∃ t, first8 kk ww v % 4294967296 = t := ⟨_, rfl⟩
      have e1 : (((v.h + bits .xor .u32 (bits .xor .u32 (rotr v.e 6) (rotr v.e 11)) (rotr v.e 25) + bits .xor .u32 (bits .and .u32 v.e v.f) (bits .and .u32 (bits .xor .u32 (if IntKind.u32.signed = true then -1 else IntKind.u32.max) v.e) v.g) + kk) % 4294967296 + ww) % 4294967296) = t1 := by
        have h0 : (if IntKind.u32.signed = true then (-1 : Int) else IntKind.u32.max) = 4294967295 := by decide
        rw [h0, ← ht1]
        unfold first8 mix3
        omega
      rw [e1]
      have HT1 := Aside0.mk ht1
      have S2 := Aside0.mk (S.out.drewN nq)
      clear S yk yw e1 ht1
      generalize wr.drewN nq = V2 at S2 ⊢
      go_wp2_with (first
        | (go_at_call 93; have hc := RefRotr_S S2.out v.a 2 (by decide); go_fit hc; clear hc; rintro e w3 ⟨rfl, hh⟩; clear S2; have S2 := Aside0.mk hh; clear hh)
        | (go_at_call 93; have hc := RefRotr_S S2.out v.a 13 (by decide); go_fit hc; clear hc; rintro e w4 ⟨rfl, hh⟩; clear S2; have S2 := Aside0.mk hh; clear hh)
        | (go_at_call 93; have hc := RefRotr_S S2.out v.a 22 (by decide); go_fit hc; clear hc; rintro e w5 ⟨rfl, hh⟩; clear S2; have S2 := Aside0.mk hh; clear hh))
      have HV2 : Aside0 (step8 kk ww v = rounds ks (sched block) (i + 1) s) := ⟨by rw [rounds, HKW.out.1, HKW.out.2, ← HV.out]⟩
      go_roundw
      case rel =>
        refine ⟨i + 1, step8 kk ww v, by omega, by go_num, ?_, rfl, rfl, rfl, ?_, rfl, rfl, rfl, HV2, S2⟩
        · show Value.int .u32 _ = Value.int .u32 ((first8 kk ww v + second8 v) % 4294967296)
          rw [← HT1.out]
          unfold second8 mix3
          congr 1
          generalize first8 kk ww v = f
          omega
        · show Value.int .u32 _ = Value.int .u32 ((v.d + first8 kk ww v) % 4294967296)
          rw [← HT1.out]
          congr 1
          generalize first8 kk ww v = f
          omega
      case measure => simp [intOf]; omega
    · obtain rfl : i = 64 := by omega
      obtain ⟨y0, y1, y2, y3, y4, y5, y6, y7⟩ := s_cells S.out (List.mem_cons_of_mem _ (List.mem_cons_of_mem _ HM.out))
      go_upto_region 9 with fail
      have S1 := Aside0.mk (SepT.drop (SepT.drop S.out)).drew
      clear S hlt
      go_still_tail 40, (by kernel_rfl)
      change wpList _ _ _ _ _ wr.drew
      clear y0 y1 y2 y3 y4 y5 y6 y7
      generalize wr.drew = V3 at S1 ⊢
      have hcs : cellsR (compress s block) = cellsR (add8 s v) := by rw [compress, ← HV.out]
      have S2 := Aside0.mk (S1.out.allocBox (cellsR (compress s block)) 75)
      rw [hcs] at S2
      have HCS := Aside0.mk hcs
      clear S1 hcs
      go_wp2
      go_ret
      refine ⟨_, rfl, ?_⟩
      rw [HCS.out]
      exact S2.out
end Go.Proofs.Ytiafadmkkehdnaa.Sh
namespace Go.Proofs.Ytiafadmkkehdnaa.Sh
open Go.RowKit Go.Great Go.Proofs.YtiafadmkkehdnaaW.PrintWords Go.Proofs.YtiafadmkkehdnaaW.PrintMore Go.Proofs.Ytiafadmkkehdnaa.Rm
set_option linter.unusedVariables false

/-- A row of bytes that can be written on, whatever its mark. -/
structure RowB (w : World) (g c : Nat) (xs : List Int) : Prop where
  lt : g < w.heap.size
  cells : ∀ j, j < xs.length → w.cell? ⟨g, j, none⟩ = some (.int .u8 (xs.getD j 0))
  free : ∀ j, j < c → (w.cell? ⟨g, j, none⟩).isSome = true ∧ w.frozen? ⟨g, j, none⟩ = false
  le : xs.length ≤ c
theorem RowB.kept {w w' : World} {g c : Nat} {xs : List Int} (h : RowB w g c xs) (hs : w.heap.size ≤ w'.heap.size) (hk : w'.heap[g]? = w.heap[g]?) : RowB w' g c xs :=
  ⟨by have := h.lt; omega, fun j hj => (World.cell?_of_block (a := ⟨g, j, none⟩) hk).trans (h.cells j hj), fun j hj => ⟨by rw [World.cell?_of_block (a := ⟨g, j, none⟩) hk]; exact (h.free j hj).1, (World.frozen?_of_block (a := ⟨g, j, none⟩) hk).trans (h.free j hj).2⟩, h.le⟩
theorem RowB.below {w w' : World} {g c : Nat} {xs : List Int} (h : RowB w g c xs) (hb : Below w.heap.size w w') : RowB w' g c xs :=
  h.kept hb.size (hb.block g h.lt)
theorem RowB.of_own {w : World} {base : Nat} {v : Value} {n : Nat} {xs : List Int} (h : w.ownsRow base 5 1 v n (encs (Value.int .u8) xs)) (hn : 0 < n) : ∃ g c, v = .slice (some ⟨g, 0, none⟩) n c ∧ base ≤ g ∧ RowB w g c xs := by
  obtain ⟨hl, h2⟩ := h
  have hl2 : xs.length = n := by simpa [encs] using hl
  rcases h2 with ⟨_, h0⟩ | ⟨g, cap, cur, he, hb, hh, hnc, hcm, hcs, ht⟩
  · omega
  · refine ⟨g, cap, he, hb, blk_lt hh, fun j hj => ?_, fun j hj => ⟨?_, blk_frozen hh j⟩, by omega⟩
    · rw [blk_cell hh j]
      have h3 : (cur.toList.take (n * 1))[j]? = (encs (Value.int .u8) xs)[j]? := by rw [ht]
      rw [List.getElem?_take, if_pos (by omega)] at h3
      rw [← Array.getElem?_toList, h3]
      simp [encs, hj, List.getD]
    · rw [blk_cell hh j]
      simp [hcs, hj]
theorem RowB.app {w : World} {g c : Nat} {xs : List Int} (h : RowB w g c xs) (hr : xs.length + 1 ≤ c) (y : Int) : RowB (w.setCell ⟨g, xs.length, none⟩ (.int .u8 y)) g c (xs ++ [y]) := by
  have hu := (h.free xs.length (by omega)).1
  obtain ⟨u, hu⟩ := Option.isSome_iff_exists.1 hu
  refine ⟨by simp only [World.size_setCell]; exact h.lt, fun j hj => ?_, fun j hj => ⟨?_, ?_⟩, by simp; omega⟩
  · by_cases e : j = xs.length
    · subst e
      rw [World.cell?_setCell_same _ _ _ hu]
      simp [List.getD]
    · rw [World.cell?_setCell_other _ _ _ _ (by intro h; simp only [Addr.mk.injEq] at h; omega)]
      have hj2 : j < xs.length := by simp at hj; omega
      rw [h.cells j hj2]
      simp [List.getD, List.getElem?_append_left hj2]
  · by_cases e : j = xs.length
    · subst e
      rw [World.cell?_setCell_same _ _ _ hu]
      rfl
    · rw [World.cell?_setCell_other _ _ _ _ (by intro h; simp only [Addr.mk.injEq] at h; omega)]
      exact (h.free j hj).1
  · rw [World.frozen?_setCell]
    exact (h.free j hj).2
/-- One byte more. -/
theorem appB {ops : Array Oper} {rest : List Oper} {o : Oper} {a : Act} {Q : Exit → Act → World → Prop} {w0 W : World} {base : Nat} (hgd : o.guard = none) (s x : Operand)
    (ho : o.op = .call { callee := .builtin .append, args := #[s, x], argTypes := #[49, 49] })
    (g c : Nat) (xs : List Int) (y : Int) (hs : a.eval s = .slice (some ⟨g, 0, none⟩) xs.length c) (hx : a.eval x = .slice (some ⟨W.heap.size, 0, none⟩) 1 1)
    (HR : RowB W g c xs) (HB : Below base w0 W) (hg : base ≤ g) (hl : xs.length ≤ 1000000000)
    (h : ∀ g' c' w1, RowB w1 g' c' (xs ++ [y]) → Below base w0 w1 → base ≤ g' → wpList Try.prog ops Q rest (a.put o.dst (.slice (some ⟨g', 0, none⟩) (xs ++ [y]).length c')) w1) :
    wpList Try.prog ops Q (o :: rest) a (W.alloc (.cells #[.int .u8 y] 5)) := by
  obtain ⟨i, hi, hij⟩ := Option.map_eq_some_iff.1 info5
  simp only [Prod.mk.injEq] at hij
  have hbs : base ≤ W.heap.size := by have := HR.lt; omega
  have HB1 : Below base w0 (W.alloc (.cells #[.int .u8 y] 5)) := HB.alloc hbs _
  have HR1 : RowB (W.alloc (.cells #[.int .u8 y] 5)) g c xs := HR.below ((Below.refl _ W).alloc (Nat.le_refl _) _)
  have hnew := heap_new W (.cells #[.int .u8 y] 5)
  have hm : (1000000000 : Nat) + 1 ≤ maxLen := by decide
  refine wpList_append_arg (P := Try.prog) _ hgd s x 49 ho 5 i (.int .u8 0) 1 1 Try.underlying49 hi hij.1 hij.2.1 hij.2.2 rfl Nat.one_pos g 0 xs.length c (encs (Value.int .u8) xs) hs (by simp [encs]) (fun j u hj => ?_) ⟨W.heap.size, 0, none⟩ 1 1 [.int .u8 y] hx rfl (fun j u hj => ?_) (by simp [Value.oneCell']) (fun hr j hj => ?_) (by omega) (by omega) (fun hr => ?_) (fun hr v' w' ho' hgr => ?_)
  · rw [Nat.zero_add]
    have hj2 : j < xs.length := by
      have := (List.getElem?_eq_some_iff.1 hj).1
      simpa [encs] using this
    rw [HR1.cells j hj2, ← hj]
    simp [encs, hj2, List.getD]
  · have hj2 : j = 0 := by
      have := (List.getElem?_eq_some_iff.1 hj).1
      simpa using this
    subst hj2
    rw [add_plain, blk_cell hnew 0, ← hj]
    rfl
  · have hj0 : j = 0 := by simpa using hj
    subst hj0
    have := HR1.free xs.length (by omega)
    simpa using this
  · have e : (W.alloc (.cells #[.int .u8 y] 5)).setCells g (0 + xs.length * 1) [.int .u8 y] = (W.alloc (.cells #[.int .u8 y] 5)).setCell ⟨g, xs.length, none⟩ (.int .u8 y) := by
      rw [Nat.zero_add, Nat.mul_one]
      rfl
    rw [e]
    have := h g c _ (HR1.app hr y) (HB1.setCell (p := ⟨g, xs.length, none⟩) hg _) hg
    rw [List.length_append] at this
    exact this
  · have ho2 : w'.ownsRow (W.alloc (.cells #[.int .u8 y] 5)).heap.size 5 1 v' (xs.length + 1) (encs (Value.int .u8) (xs ++ [y])) := by
      simpa [encs] using ho'
    obtain ⟨g', c', rfl, hb', HR'⟩ := RowB.of_own ho2 (by omega)
    have hsz : W.heap.size ≤ (W.alloc (.cells #[.int .u8 y] 5)).heap.size := by simp
    have := h g' c' w' HR' (HB1.grown hgr (by omega) (fun k hk => by cases hk)) (by omega)
    rw [List.length_append] at this
    exact this
end Go.Proofs.Ytiafadmkkehdnaa.Sh
namespace Go.Proofs.Ytiafadmkkehdnaa.Sh
open Go.RowKit Go.Great Go.Proofs.YtiafadmkkehdnaaW.PrintWords Go.Proofs.YtiafadmkkehdnaaW.PrintMore Go.Proofs.Ytiafadmkkehdnaa.Rm
set_option linter.unusedVariables false

theorem bytes_at (s : ByteArray) (i : Nat) (h : i < s.size) : (bytesOf s)[i]? = some (byteN s i) := by
  have h' : i < s.data.toList.length := by rw [data_length]; exact h
  unfold bytesOf
  rw [List.getElem?_map, List.getElem?_eq_getElem h', byteN_get s i h]
  rfl
theorem length_f (n : Int) (h0 : 0 ≤ n) (h1 : n ≤ 4611686018427387904) : modcertref01_Length.f 10 n = some (numB n) := by
  unfold modcertref01_Length.f
  simp [modcertref01_Length.l0, wrap64, shr, IntKind.bits]
  unfold numB numL
  congr 1
  simp
  omega
def lenV : Value → Nat
  | .slice _ n _ => n
  | _ => 0
def padL (s : ByteArray) (k : Nat) : List Int := bytesOf s ++ [128] ++ List.replicate k 0
theorem padL_length (s : ByteArray) (k : Nat) : (padL s k).length = s.size + 1 + k := by unfold padL; simp [bytesOf_length]; omega
theorem padL_succ (s : ByteArray) (k : Nat) : padL s k ++ [0] = padL s (k + 1) := by
  unfold padL
  rw [List.append_assoc, ← List.replicate_succ']
theorem repeat_zero : ∀ k, Lib.repeatL [(0 : UInt8)] k = List.replicate k 0
  | 0 => rfl
  | k + 1 => by rw [List.replicate_succ, ← repeat_zero k]; rfl
theorem padL_str (s : ByteArray) : strOfNums (padL s (zerosOf s)) ++ numB (8 * (s.size : Nat)) = s ++ padB s := by
  unfold padB
  apply ByteArray.ext
  apply Array.toList_inj.1
  simp only [ByteArray.data_append, Array.toList_append, strOfNums_data]
  unfold padL bytesOf
  rw [repeat_zero]
  simp [Function.comp_def]
theorem bytes_row (W : World) (s : ByteArray) : RowB (Lib.bytesWorld W 5 s) W.heap.size (grownCap W s.size 0 5) (bytesOf s) := by
  have hge := grownCap_ge W s.size 0 5
  have hcs : (Lib.bytesCells W 5 s).size = grownCap W s.size 0 5 := by
    simp only [Lib.bytesCells, Array.size_append, Array.size_map, Array.size_replicate]
    show s.size + _ = _
    omega
  have hb := Lib.bytesWorld_at_new W 5 s
  refine ⟨blk_lt hb, fun j hj => ?_, fun j hj => ⟨?_, ?_⟩, by rw [bytesOf_length]; exact hge⟩
  · rw [bytesOf_length] at hj
    rw [Lib.bytesWorld_cell W 5 s j hj]
    simp only [List.getD_eq_getElem?_getD, bytes_at s j hj, Option.getD_some]
    have h' : j < s.data.toList.length := by rw [data_length]; exact hj
    rw [byteN_get s j hj]
    simp [List.getElem?_eq_getElem h']
    rfl
  · unfold World.cell?
    rw [hb]
    simp [hcs, hj]
  · unfold World.frozen?
    rw [hb]
    simp [hcs]
    omega
theorem RowB.reads {w : World} {g c : Nat} {xs : List Int} (h : RowB w g c xs) (hx : xs.length ≤ 9223372036854775807) : ReadsInt w .u8 (some ⟨g, 0, none⟩) xs.length xs :=
  ⟨rfl, hx, fun _ => ⟨_, rfl, fun j hj => by rw [add_plain]; exact h.cells j hj⟩⟩
attribute [local irreducible] Sep rowT boxT padL padB
set_option maxHeartbeats 2000000 in
set_option maxRecDepth 100000 in
theorem RefPadded_calls (w : World) (s : ByteArray) (hs : s.size ≤ 100000000) :
    Calls Try.prog 68 #[.string s] w fun e w' => e = .returned (.string (s ++ padB s)) ∧ Below w.heap.size w w' := by
  have hsi : (s.size : Int) ≤ 100000000 := by omega
  have hcv := print_bytes (P := Try.prog) 9 49 5 Try.underlying9 Try.underlying49 Try.underlying5 s w
  have HR := Aside0.mk (bytes_row w s)
  have HB := Aside0.mk (bytes_below (Below.refl w.heap.size w) (Nat.le_refl _) 5 s)
  obtain ⟨Z, hZ⟩ : ∃ Z, zerosOf s = Z := ⟨_, rfl⟩
  have hrs : (restOf s).size = s.size % 64 := by unfold restOf; rw [ByteArray.size_extract]; omega
  have hZ1 : Z < 64 ∧ (s.size + 1 + Z) % 64 = 56 := by rw [← hZ]; unfold zerosOf; rw [hrs]; omega
  have HZ := Aside0.mk hZ
  have HZ1 := Aside0.mk hZ1
  have hl0 : (bytesOf s).length = s.size := bytesOf_length s
  have HL0 := Aside0.mk hl0
  have hxl : (bytesOf s).length ≤ 1000000000 := by omega
  have hZ64 : Z < 64 := hZ1.1
  clear hZ hrs hZ1 hl0
  generalize grownCap w s.size 0 5 = cc at hcv HR
  generalize Lib.bytesWorld w 5 s = W1 at *
  generalize hn : w.heap.size = n at *
  clear hn
  go_enter Try.func68, Try.ntmps68
  go_wp2_with ((with_reducible refine gate_builtin (b := .append) (xs := #[.tmp 5, .tmp 6]) rfl ?_); at_builtin; go_loud (refine appB rfl (.tmp 5) (.tmp 6) rfl n cc (bytesOf s) 128 (by rw [HL0.out]; rfl) rfl HR.out HB.out (Nat.le_refl _) hxl ?_; intro g' c' w6 hr6 hb6 hg6; have HR6 := Aside0.mk hr6; have HB6 := Aside0.mk hb6; clear hr6 hb6))
  have S0 := Aside0.mk (show RowB w6 g' c' (padL s 0) by unfold padL; simpa using HR6.out)
  have HLEN : Aside0 ((bytesOf s ++ [128]).length = s.size + 1) := ⟨by simp [HL0.out]⟩
  clear HR6 HR HB hcv hxl
  go_loopw [3] (fun v3 wr => ∃ (k m g c : Nat), k ≤ Z ∧ v3 = .slice (some ⟨g, 0, none⟩) m c ∧ Aside0 (m = s.size + 1 + k) ∧ Aside0 (RowB wr g c (padL s k)) ∧ Aside0 (Below n w wr) ∧ n ≤ g) (fun v3 _ => s.size + 1 + Z - lenV v3)
  case atStart => exact ⟨0, s.size + 1, g', c', Nat.zero_le _, by rw [HL0.out], ⟨rfl⟩, S0, HB6, hg6⟩
  case round =>
    clear S0 HB6 hg6 HLEN HL0
    obtain ⟨k, m, g, c, hk, rfl, HM, HR, HB, hg⟩ := hrel
    have hm := HM.out
    have hz := HZ1.out
    have hmi : (m : Int) ≤ 100000100 := by omega
    by_cases hlt : k < Z
    · have c1 : ((m : Int) % 64 != 56) = true := by rw [bne_iff_ne]; omega
      have c2 : (Int.tmod (m : Int) 64 != 56) = true := by rw [Int.tmod_eq_emod_of_nonneg (by omega)]; exact c1
      have hpl : Aside0 ((padL s k).length = m) := ⟨by rw [padL_length, hm]⟩
      have hxl : (padL s k).length ≤ 1000000000 := by rw [padL_length]; omega
      clear hm hz
      go_wp2_with ((with_reducible refine gate_builtin (b := .append) (xs := #[.tmp 12, .tmp 13]) rfl ?_); at_builtin; go_loud (refine appB rfl (.tmp 12) (.tmp 13) rfl g c (padL s k) 0 (by rw [hpl.out]; rfl) rfl HR.out HB.out hg hxl ?_; intro g2 c2' w7 hr7 hb7 hg7; rw [padL_succ] at hr7 ⊢; have HR7 := Aside0.mk hr7; have HB7 := Aside0.mk hb7; clear hr7 hb7))
      clear c1 c2
      have HLEN : Aside0 ((padL s (k + 1)).length = m + 1) := ⟨by rw [padL_length, HM.out]; omega⟩
      go_roundw
      case rel => exact ⟨k + 1, m + 1, g2, c2', by omega, by rw [HLEN.out], ⟨by rw [HM.out]; omega⟩, HR7, HB7, hg7⟩
      case measure => rw [HLEN.out]; simp [lenV]; have := HM.out; omega
    · obtain rfl : k = Z := by omega
      have c1 : ((m : Int) % 64 != 56) = false := by rw [bne_eq_false_iff_eq]; omega
      have c2 : (Int.tmod (m : Int) 64 != 56) = false := by rw [Int.tmod_eq_emod_of_nonneg (by omega)]; exact c1
      clear hz
      have hpl : (padL s k).length = m := by rw [padL_length, hm]
      have HCV : Aside0 (∀ V, RowB V g c (padL s k) → (convert 49 9 (.slice (some ⟨g, 0, none⟩) m c)).run Try.prog V = .ok (.string (strOfNums (padL s k))) V) := ⟨fun V h => by
        have hr := h.reads (by omega)
        rw [hpl] at hr
        exact string_of_reads (P := Try.prog) (src := 49) (dst := 9) (e := 5) (c := c) Try.underlying49 Try.underlying5 Try.underlying9 hr⟩
      have hss : (strOfNums (padL s k)).size = m := by rw [strOfNums_size, hpl]
      have hps := padL_str s
      rw [HZ.out] at hps
      generalize hX : strOfNums (padL s k) = X at HCV hss hps
      have hw8 : IntKind.i64.wrap (8 * (s.size : Int)) = 8 * (s.size : Int) := IntWalk.i64_in _ (by omega)
      obtain ⟨N8, hN8⟩ : ∃ N8, numB (8 * ((s.size : Nat) : Int)) = N8 := ⟨_, rfl⟩
      have hNs : N8.size = 8 := by rw [← hN8]; exact numB_size _
      have hlen := length_f (8 * (s.size : Int)) (by omega) (by omega)
      rw [hN8] at hlen hps
      have HLF := Aside0.mk hlen
      have r1 : ∀ V : World, (Op.stringOp .add X N8).run Try.prog V = .ok (.string (s ++ padB s)) V := fun V => by
        rw [← hps]
        exact run_string_add_sum V _ _ (by omega)
      have HR2 := Aside0.mk (HR.out.kept (w' := wr.drew) (Nat.le_refl _) rfl)
      have HB2 := Aside0.mk (below_drew HB.out)
      have hcv1 := HCV.out _ HR2.out
      clear hpl hss hps hN8 hNs hlen hX HR HB hm
      go_wp2
      clear c1 c2
      go_region_with (go_at_call 71; go_loud (have hc := modcertref01_Length.calls 10 (8 * (s.size : Int)) N8 wr.drew HLF.out; refine hc.mono ?_; clear hc; rintro e w8 ⟨rfl, hb8⟩; have HB8 := Aside0.mk hb8; have hcv8 := HCV.out _ (HR2.out.below hb8); clear hb8))
      all_goals
        have hlt8 := HR2.out.lt
        have hb9 : Below n w w8 := HB2.out.trans ⟨HB8.out.os, HB8.out.tape, HB8.out.output, HB8.out.size, fun q hq => HB8.out.block q (by omega)⟩
        go_wp2
        go_ret
        exact ⟨rfl, hb9⟩
theorem RefPadded_S {w0 w : World} {ts : List Th} (S0 : SepT w0 w ts) (s : ByteArray) (hs : s.size ≤ 100000000) :
    Calls Try.prog 68 #[.string s] w fun e w' => e = .returned (.string (s ++ padB s)) ∧ SepT w0 w' ts := by
  refine (RefPadded_calls w s hs).mono ?_
  rintro e w1 ⟨rfl, hb⟩
  exact ⟨rfl, S0.below hb⟩
end Go.Proofs.Ytiafadmkkehdnaa.Sh
namespace Go.Proofs.Ytiafadmkkehdnaa.Sh
open Go.RowKit Go.Great Go.Proofs.YtiafadmkkehdnaaW.PrintWords Go.Proofs.YtiafadmkkehdnaaW.PrintMore Go.Proofs.Ytiafadmkkehdnaa.Rm
set_option linter.unusedVariables false

def wordL (s : H8) : List Int := [s.a, s.b, s.c, s.d, s.e, s.f, s.g, s.h]
def quad (x : Int) : List Int := [x / 16777216 % 256, x / 65536 % 256, x / 256 % 256, x % 256]
theorem dig_take (s : H8) (z : Nat) (h : z < 8) : (digL s).take (4 * (z + 1)) = (digL s).take (4 * z) ++ quad ((wordL s).getD z 0) := by
  rcases (by omega : z = 0 ∨ z = 1 ∨ z = 2 ∨ z = 3 ∨ z = 4 ∨ z = 5 ∨ z = 6 ∨ z = 7) with rfl | rfl | rfl | rfl | rfl | rfl | rfl | rfl
  all_goals rfl
theorem word_cell {w0 V : World} {ts : List Th} {b : Nat} {v : H8} (h : SepT w0 V ts) (hm : boxT b (cellsR v) 75 ∈ ts) (z : Nat) (hz : z < 8) : V.cell? ⟨b, z, none⟩ = some (.int .u32 ((wordL v).getD z 0)) := by
  have xb := (SepT.box h hm).1
  rw [blk_cell xb z]
  rcases (by omega : z = 0 ∨ z = 1 ∨ z = 2 ∨ z = 3 ∨ z = 4 ∨ z = 5 ∨ z = 6 ∨ z = 7) with rfl | rfl | rfl | rfl | rfl | rfl | rfl | rfl
  all_goals rfl
theorem dig_take_length (s : H8) (z : Nat) (h : z ≤ 8) : ((digL s).take (4 * z)).length = 4 * z := by
  rw [List.length_take]
  have : (digL s).length = 32 := rfl
  omega
theorem pad_mod (s : ByteArray) : (s ++ padB s).size % 64 = 0 := by
  have h1 : (numB (8 * (s.size : Nat))).size = 8 := numB_size _
  have h2 : (⟨(Lib.repeatL [0] (zerosOf s)).toArray⟩ : ByteArray).size = zerosOf s := by
    show (Lib.repeatL [0] (zerosOf s)).toArray.size = _
    simp [Lib.repeatL_length]
  have h3 : (⟨#[128]⟩ : ByteArray).size = 1 := rfl
  have hrs : (restOf s).size = s.size % 64 := by unfold restOf; rw [ByteArray.size_extract]; omega
  have h4 : zerosOf s = (119 - s.size % 64) % 64 := by unfold zerosOf; rw [hrs]
  unfold padB
  rw [ByteArray.size_append, ByteArray.size_append, ByteArray.size_append, h1, h2, h3]
  omega
attribute [local irreducible] Sep rowT boxT padB digL compress wordL cellsR
set_option maxHeartbeats 4000000 in
set_option maxRecDepth 100000 in
theorem RefSum_S {w0 w : World} {ts : List Th} (S0 : SepT w0 w ts) (s : ByteArray) (hs : s.size ≤ 100000000) :
    Calls Try.prog 29 #[.string s] w fun e w' => e = .returned (.string (sumB s)) ∧ SepT w0 w' ts := by
  have S := Aside0.mk (S0.allocBox (cellsR iv) 75)
  clear S0
  obtain ⟨P, hP⟩ : ∃ P, s ++ padB s = P := ⟨_, rfl⟩
  have hPm := pad_mod s
  rw [hP] at hPm
  have hPs : P.size ≤ 100001000 := by rw [← hP, ByteArray.size_append]; have := padB_size s; omega
  have hsum : sumB s = strOfNums (digL (stOf P)) := by unfold sumB; rw [hP]
  have HSUM := Aside0.mk hsum
  have HP := Aside0.mk hP
  have HPM := Aside0.mk hPm
  have hPi : (P.size : Int) ≤ 100001000 := by omega
  have e0 : cellsR iv = #[.int .u32 1779033703, .int .u32 3144134277, .int .u32 1013904242, .int .u32 2773480762, .int .u32 1359893119, .int .u32 2600822924, .int .u32 528734635, .int .u32 1541459225] := by unfold cellsR iv; rfl
  rw [e0] at S
  have E0 := Aside0.mk e0
  clear hP hPm hsum e0
  go_enter Try.func29, Try.ntmps29
  go_wp2_with (go_at_call 68; have hc := RefPadded_S S.out s hs; rw [HP.out] at hc; go_fit hc; clear hc; rintro e w1 ⟨rfl, hh⟩; clear S; have S := Aside0.mk hh; clear hh)
  have S1 := Aside0.mk (show SepT w0 w1 (boxT w.heap.size (cellsR (stAt P 0)) 75 :: ts) by rw [show stAt P 0 = iv from rfl, E0.out]; exact S.out)
  clear S
  generalize w.heap.size = g0 at S1 ⊢
  go_loopw [3, 5] (fun v3 v5 wr => ∃ (j i g : Nat), i ≤ P.size ∧ v5 = .int .i64 i ∧ v3 = .slice (some ⟨g, 0, none⟩) 8 8 ∧ Aside0 (i = 64 * j) ∧ Aside0 (SepT w0 wr (boxT g (cellsR (stAt P j)) 75 :: ts))) (fun _ v5 _ => P.size - (intOf v5).toNat)
  case atStart => exact ⟨0, 0, g0, Nat.zero_le _, rfl, rfl, ⟨rfl⟩, S1⟩
  case round =>
    clear S1
    obtain ⟨j, i, g, hi, rfl, rfl, HI, S⟩ := hrel
    by_cases hlt : i < P.size
    · have hij := HI.out
      have hpm := HPM.out
      have hle : i + 64 ≤ P.size := by omega
      have hlt2 : (i : Int) < P.size := by omega
      have hle2 : (i : Int) + 64 ≤ P.size := by omega
      have hbs : (P.extract i (i + 64)).size = 64 := by rw [ByteArray.size_extract]; omega
      have HC : Aside0 (compress (stAt P j) (P.extract i (i + 64)) = stAt P (j + 1)) := ⟨by rw [stAt, hij]⟩
      have hsl : ∀ V : World, (Instr.slice 9 (.string P) (some (.int .i64 (i : Int))) (some (.int .i64 ((i : Int) + 64))) none).run Try.prog V = .ok (.string (P.extract i (i + 64))) V := fun V => by
        have h := run_slice_string (P := Try.prog) V 9 P .i64 .i64 (i : Int) ((i : Int) + 64) Try.underlying9 (by omega) (by omega) (by omega)
        rw [Int.toNat_natCast, show ((i : Int) + 64).toNat = i + 64 by omega] at h
        exact h
      clear hij hpm
      go_wp2_with (go_at_call 69; have hc := RefCompress_S S.out m0 (P.extract i (i + 64)) hbs; rw [HC.out] at hc; go_fit hc; clear hc; rintro e w2 ⟨g2, rfl, hh⟩; clear S; have S := Aside0.mk hh.swap.drop; clear hh)
      clear hsl
      go_roundw
      case rel => exact ⟨j + 1, i + 64, g2, by omega, by go_num, rfl, ⟨by rw [HI.out]; omega⟩, S⟩
      case measure => simp [intOf]; omega
    · have hij := HI.out
      have hj : P.size / 64 = j := by omega
      have S1 := Aside0.mk (show SepT w0 wr (boxT g (cellsR (stOf P)) 75 :: ts) by unfold stOf; rw [hj]; exact S.out)
      clear S hij hj
      generalize stOf P = st at S1 HSUM
      have hms : ([] : List Int).length ≤ 1000000000 := by simp
      have S2 := Aside0.mk (SepT.lit (enc := Value.int .u8) (h1 := fun _ => rfl) S1.out 5 [] hms)
      clear S1
      go_wp2
      have S3 := Aside0.mk (show SepT w0 (wr.alloc (.cells #[] 5)) (rowT (Kd.int .u8) 5 (.slice (some ⟨wr.heap.size, 0, none⟩) 0 0) [] :: boxT g (cellsR st) 75 :: ts) from S2.out)
      clear S2
      generalize World.alloc _ _ = W at S3 ⊢
      generalize hA : (some (⟨wr.heap.size, 0, none⟩ : Addr)) = A at S3 ⊢
      clear hA
      go_loopw [6, 7] (fun v6 v7 wr => ∃ (z : Nat) (B : Option Addr) (cb : Nat) (xs : List Int), z ≤ 8 ∧ v7 = .int .i64 z ∧ v6 = .slice B xs.length cb ∧ Aside0 (xs = (digL st).take (4 * z)) ∧ xs.length ≤ 32 ∧ Aside0 (SepT w0 wr (rowT (Kd.int .u8) 5 (.slice B xs.length cb) xs :: boxT g (cellsR st) 75 :: ts))) (fun _ v7 _ => 8 - (intOf v7).toNat)
      case atStart => exact ⟨0, A, 0, [], by omega, rfl, rfl, ⟨by simp⟩, by simp, S3⟩
      case round =>
        clear S3
        obtain ⟨z, B, cb, xs, hz, rfl, rfl, HX, hxl, S⟩ := hrel
        by_cases hz8 : z < 8
        · have hz8i : (z : Int) < 8 := by omega
          obtain ⟨x, hx⟩ : ∃ x, (wordL st).getD z 0 = x := ⟨_, rfl⟩
          have y := word_cell S.out.drew m1 z hz8
          rw [hx] at y
          have hxs := dig_take st z hz8
          rw [hx, ← HX.out] at hxs
          have HXS : Aside0 (xs ++ [x / 16777216 % 256, x / 65536 % 256, x / 256 % 256, x % 256] = (digL st).take (4 * (z + 1))) := ⟨hxs.symm⟩
          have HXL : Aside0 ((xs ++ [x / 16777216 % 256, x / 65536 % 256, x / 256 % 256, x % 256]).length = xs.length + 4) := ⟨by simp⟩
          have S1 := Aside0.mk S.out.drew
          clear S hx hxs
          go_upto_region 11 with fail
          go_region_law ((refine SepT.appendLit_step (enc := Value.int .u8) (h1 := fun _ => rfl) rfl (.tmp 29) (.tmp 53) 49 5 (.int .u8 0) 1 rfl Try.underlying49 info5 rfl (by omega) (.slice B xs.length cb) xs [x / 16777216 % 256, x / 65536 % 256, x / 256 % 256, x % 256] (Nat.le_of_ble_eq_true rfl) rfl rfl S1.out (by show (xs.length + 4) * 1 ≤ _; omega) ?_); (intro An cn w6 ho; have S4 := Aside0.mk ho; clear ho))
          all_goals
            have hs4 := Aside0.mk S4.out
            rw [HXL.out] at hs4
            have hxz : xs.length = 4 * z := by rw [HX.out]; exact dig_take_length st z hz
            have hx32 : Aside0 ((xs ++ [x / 16777216 % 256, x / 65536 % 256, x / 256 % 256, x % 256]).length ≤ 32) := ⟨by rw [HXL.out]; omega⟩
            clear S1 y hxz
            go_wp2
            go_roundw
            case rel => exact ⟨z + 1, An, cn, xs ++ [x / 16777216 % 256, x / 65536 % 256, x / 256 % 256, x % 256], by omega, by go_num, by first | (rw [HXL.out]; done) | rfl | simp, HXS, hx32.out, by first | exact S4 | exact ⟨by rw [HXL.out]; exact hs4.out⟩⟩
            case measure => simp [intOf]; omega
        · obtain rfl : z = 8 := by omega
          obtain ⟨ok, hR, _⟩ := SepT.get S.out m0
          have hR' : Kd.R (Kd.int .u8) 5 wr 0 ok (.slice B xs.length cb) xs := by unfold rowT at hR; exact hR
          have hxs : xs = digL st := by rw [HX.out]; unfold digL; rfl
          have hcv := Kd.C_string (P := Try.prog) (src := 49) (dst := 9) (e := 5) (c := cb) Try.underlying49 Try.underlying5 Try.underlying9 (Kd.R_reads' hR').2.2
          rw [hxs] at hcv
          have HXS := Aside0.mk hxs
          clear hR hR' hxs
          rw [HXS.out]
          go_wp2
          go_ret
          exact ⟨by rw [HSUM.out]; rfl, S.out.drop.drop⟩
end Go.Proofs.Ytiafadmkkehdnaa.Sh
