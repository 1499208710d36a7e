/-
  sha256's Clone and Sum, and Sum of a string.
-/
import Derived.Test.YtiafadmkkehdnaaSg
namespace Go.Proofs.Ytiafadmkkehdnaa.Sh
open Go.RowKit Go.Great Go.Proofs.YtiafadmkkehdnaaW.PrintWords Go.Proofs.YtiafadmkkehdnaaW.PrintMore
set_option linter.unusedVariables false

theorem h_cells {w0 V : World} {ts : List Th} {g : Nat} {s : H8} {r : ByteArray} {n : Int} (h : SepT w0 V ts) (hm : boxT g (hcells s r n) 94 ∈ ts) : V.cell? ⟨g, 0, none⟩ = some (.int .u32 s.a) ∧ V.cell? ⟨g, 1, none⟩ = some (.int .u32 s.b) ∧ V.cell? ⟨g, 2, none⟩ = some (.int .u32 s.c) ∧ V.cell? ⟨g, 3, none⟩ = some (.int .u32 s.d) ∧ V.cell? ⟨g, 4, none⟩ = some (.int .u32 s.e) ∧ V.cell? ⟨g, 5, none⟩ = some (.int .u32 s.f) ∧ V.cell? ⟨g, 6, none⟩ = some (.int .u32 s.g) ∧ V.cell? ⟨g, 7, none⟩ = some (.int .u32 s.h) ∧ V.cell? ⟨g, 8, none⟩ = some (.string r) ∧ V.cell? ⟨g, 9, none⟩ = some (.int .u64 n) := by
  have xb := (SepT.box h hm).1
  exact ⟨(blk_cell xb 0).trans rfl, (blk_cell xb 1).trans rfl, (blk_cell xb 2).trans rfl, (blk_cell xb 3).trans rfl, (blk_cell xb 4).trans rfl, (blk_cell xb 5).trans rfl, (blk_cell xb 6).trans rfl, (blk_cell xb 7).trans rfl, (blk_cell xb 8).trans rfl, (blk_cell xb 9).trans rfl⟩

/-- A whole literal appended onto a row of one's own. -/
theorem SepT.appendLit {P : Program} {ops : Array Oper} {rest : List Oper} {o : Oper} {a : Act} {Q : Exit → Act → World → Prop} {α : Type} {enc : α → Value} {h1 : ∀ x, (enc x).oneCell' = true} {w0 W : World} {ts : List Th} (hgd : o.guard = none) (s x : Operand) (t e : TypeId) (z : Value) (bytes : Nat)
    (ho : o.op = .call { callee := .builtin .append, args := #[s, x], argTypes := #[t, t] })
    (ht : P.underlying t = some (.slice e)) (hinfo : (P.info? e).map (fun i => (i.zero, i.size, i.bytes)) = some (some z, 1, bytes)) (hz : z.cells.size = 1) (hb0 : 0 < bytes)
    (v : Value) (xs ys : List α) (hy : ys.length ≤ 1000000000) (hs : a.eval s = v) (hx : a.eval x = .slice (some ⟨W.heap.size, 0, none⟩) ys.length ys.length)
    (S : SepT w0 W (rowT (Kd.scalar enc h1) e v xs :: ts)) (hl : (xs.length + ys.length) * bytes ≤ 140737488355328)
    (h : ∀ A c w1, SepT w0 w1 (rowT (Kd.scalar enc h1) e (.slice A (xs ++ ys).length c) (xs ++ ys) :: ts) → wpList P ops Q rest (a.put o.dst (.slice A (xs ++ ys).length c)) w1) :
    wpList P ops Q (o :: rest) a (W.alloc (.cells (ys.map enc).toArray e)) := by
  have S1 := (S.lit (enc := enc) (h1 := h1) e ys hy).swap
  obtain ⟨_, _, e0, _, hC⟩ := SepT.row S1.swap
  injection e0 with e1 e2 e3
  subst e1
  obtain ⟨ok, hR, h0, hk⟩ := S1.focus
  have hR' : Kd.R (Kd.scalar enc h1) e (W.alloc (.cells (ys.map enc).toArray e)) 0 ok v xs := hR
  refine Kd.R_append_rows (Kd.scalar enc h1) (w0 := W.alloc (.cells (ys.map enc).toArray e)) 0 hgd s x t e z bytes ho ht hinfo hz Nat.one_pos hb0 v xs ys _ _ _ (fun k => ok k ∨ (W.alloc (.cells (ys.map enc).toArray e)).heap.size ≤ k) (fun _ => False) hs hx (Kd.R_mono hR' (fun k hk => .inl hk)) hC (fun _ _ hk => hk) (fun _ hk => hk.elim) (fun k hk => .inr hk) (Below.refl _ _) (Nat.zero_le _) hl ?_
  intro v1 w1 h2 _ hg _
  obtain ⟨A, c, rfl⟩ := Kd.R_slice h2
  exact h A c w1 (SepT.drop (SepT.swap (hk w1 (rowT _ e _ (xs ++ ys)) ((Only.refl ok _).grown hg (fun k hk => .inl (hR'.1 k hk))) h2)))
theorem info5 : (Try.prog.info? 5).map (fun i => (i.zero, i.size, i.bytes)) = some (some (.int .u8 0), 1, 1) := by kernel_rfl
/-- The padding of what was written. -/
def zerosOf (b : ByteArray) : Nat := (119 - (restOf b).size) % 64
def padB (b : ByteArray) : ByteArray := (⟨#[128]⟩ : ByteArray) ++ ⟨(Lib.repeatL [0] (zerosOf b)).toArray⟩ ++ numB (8 * (b.size : Nat))
/-- The bytes of a state. -/
def digL (s : H8) : List Int := [s.a / 16777216 % 256, s.a / 65536 % 256, s.a / 256 % 256, s.a % 256, s.b / 16777216 % 256, s.b / 65536 % 256, s.b / 256 % 256, s.b % 256, s.c / 16777216 % 256, s.c / 65536 % 256, s.c / 256 % 256, s.c % 256, s.d / 16777216 % 256, s.d / 65536 % 256, s.d / 256 % 256, s.d % 256, s.e / 16777216 % 256, s.e / 65536 % 256, s.e / 256 % 256, s.e % 256, s.f / 16777216 % 256, s.f / 65536 % 256, s.f / 256 % 256, s.f % 256, s.g / 16777216 % 256, s.g / 65536 % 256, s.g / 256 % 256, s.g % 256, s.h / 16777216 % 256, s.h / 65536 % 256, s.h / 256 % 256, s.h % 256]
def sumB (b : ByteArray) : ByteArray := strOfNums (digL (stOf (b ++ padB b)))
theorem restOf_size (b : ByteArray) : (restOf b).size ≤ 63 := by
  unfold restOf
  rw [ByteArray.size_extract]
  omega
theorem padB_size (b : ByteArray) : (padB b).size ≤ 1000 := by
  unfold padB
  rw [ByteArray.size_append, ByteArray.size_append]
  have h1 : (numB (8 * (b.size : Nat))).size = 8 := by unfold numB; rw [strOfNums_size]; rfl
  have h2 : (⟨(Lib.repeatL [0] (zerosOf b)).toArray⟩ : ByteArray).size = zerosOf b := by
    show (Lib.repeatL [0] (zerosOf b)).toArray.size = _
    simp [Lib.repeatL_length]
  have h3 : (⟨#[128]⟩ : ByteArray).size = 1 := rfl
  have h4 : zerosOf b < 64 := by unfold zerosOf; omega
  omega
attribute [local irreducible] Sep rowT boxT
set_option maxRecDepth 100000 in
theorem Clone_S {w0 w : World} {ts : List Th} {g : Nat} {b : ByteArray} (S0 : SepT w0 w ts) (hm : hashT g b ∈ ts) :
    Calls Try.prog 39 #[.pointer (some ⟨g, 0, none⟩)] w fun e w' => ∃ g', e = .returned (.pointer (some ⟨g', 0, none⟩)) ∧ SepT w0 w' (hashT g' b :: ts) := by
  have S := Aside0.mk (S0.allocBox (hcells (stOf b) (restOf b) (b.size : Nat)) 94)
  obtain ⟨y0, y1, y2, y3, y4, y5, y6, y7, y8, y9⟩ := h_cells S0 hm
  clear S0
  go_enter Try.func39, Try.ntmps39
  go_wp2
  go_ret
  exact ⟨_, rfl, S.out⟩
theorem repeat_S {w0 w : World} {ts : List Th} (h : SepT w0 w ts) (c : Nat) (hc : c ≤ 1000) :
    Calls Try.prog 76 #[.string ⟨#[0]⟩, .int .i64 c] w fun e w' => e = .returned (.string ⟨(Lib.repeatL [0] c).toArray⟩) ∧ SepT w0 w' ts := by
  refine (Try.strings_Repeat ⟨#[0]⟩ c w (by omega) (by show 1 * c ≤ _; omega)).mono ?_
  rintro e w1 ⟨rfl, hb⟩
  exact ⟨rfl, h.below hb⟩
set_option maxHeartbeats 2000000 in
set_option maxRecDepth 100000 in
theorem Sum_S {w0 w : World} {ts : List Th} {g : Nat} {b : ByteArray} (S0 : SepT w0 w ts) (hm : hashT g b ∈ ts) (hn : b.size ≤ 100000000) :
    Calls Try.prog 40 #[.pointer (some ⟨g, 0, none⟩)] w fun e w' => e = .returned (.string (sumB b)) ∧ SepT w0 w' ts := by
  have S := Aside0.mk S0
  clear S0
  have hr := restOf_size b
  have hr' : ((restOf b).size : Int) ≤ 63 := by omega
  obtain ⟨zc, hzc⟩ : ∃ z, zerosOf b = z := ⟨_, rfl⟩
  have hz1 : (119 - ((restOf b).size : Int)) % 64 = (zc : Int) := by rw [← hzc]; unfold zerosOf; omega
  have hz2 : Int.tmod (119 - ((restOf b).size : Int)) 64 = (zc : Int) := by rw [Int.tmod_eq_emod_of_nonneg (by omega)]; exact hz1
  have hz3 : zc ≤ 1000 := by rw [← hzc]; unfold zerosOf; omega
  have hb0 : (b.size : Int) ≤ 100000000 := by omega
  have HZ := Aside0.mk hzc
  clear hzc hr
  go_enter Try.func40, Try.ntmps40
  go_upto_region 3 with (go_at_call 39; have hc := Clone_S S.out hm; go_fit hc; clear hc; rintro e w1 ⟨gc, rfl, hs⟩; clear S; have S := Aside0.mk hs; clear hs; obtain ⟨y0, y1, y2, y3, y4, y5, y6, y7, y8, y9⟩ := h_cells S.out m0)
  clear y0 y1 y2 y3 y4 y5 y6 y7 y8 y9
  go_cut [28] (fun v28 wx => v28 = .tuple #[] ∧ SepT w0 wx (hashT gc (b ++ padB b) :: ts))
  case first =>
    have HK : Aside0 (∀ (V : World) (t : Th), SepT w0 V (t :: ts) → V.cell? ⟨g, 9, none⟩ = some (.int .u64 (b.size : Nat))) := ⟨fun V t h => (h_cells (s := stOf b) (r := restOf b) h (List.mem_cons_of_mem _ hm)).2.2.2.2.2.2.2.2.2⟩
    have S1 := Aside0.mk S.out.drew
    clear S
    have S := S1
    clear S1
    have hps : (padB b).size ≤ 1000 := padB_size b
    have HP : Aside0 (b ++ ((⟨#[128]⟩ : ByteArray) ++ ⟨(Lib.repeatL [0] zc).toArray⟩ ++ numB (8 * (b.size : Nat))) = b ++ padB b ∧ b.size + ((⟨#[128]⟩ : ByteArray) ++ ⟨(Lib.repeatL [0] zc).toArray⟩ ++ numB (8 * (b.size : Nat))).size ≤ 140737488351232) := by
      have e : ((⟨#[128]⟩ : ByteArray) ++ ⟨(Lib.repeatL [0] zc).toArray⟩ ++ numB (8 * (b.size : Nat))) = padB b := by unfold padB; rw [HZ.out]
      rw [e]
      exact ⟨rfl, by omega⟩
    clear hps
    obtain ⟨Z, hZ⟩ : ∃ Z : ByteArray, (⟨(Lib.repeatL [0] zc).toArray⟩ : ByteArray) = Z := ⟨_, rfl⟩
    obtain ⟨N8, hN8⟩ : ∃ N8, numB (8 * ((b.size : Nat) : Int)) = N8 := ⟨_, rfl⟩
    have hZs : Z.size ≤ 1000 := by rw [← hZ]; show (Lib.repeatL [0] zc).toArray.size ≤ _; simp [Lib.repeatL_length]; exact hz3
    have hNs : N8.size ≤ 8 := by rw [← hN8]; unfold numB; rw [strOfNums_size]; exact Nat.le_refl 8
    rw [hZ, hN8] at HP
    have hw8 : IntKind.u64.wrap (8 * (b.size : Int)) = 8 * (b.size : Int) := by simp [IntKind.wrap, IntKind.bits, IntKind.signed]; omega
    have r1 : ∀ V : World, (Op.stringOp .add (⟨#[128]⟩ : ByteArray) Z).run Try.prog V = .ok (.string ((⟨#[128]⟩ : ByteArray) ++ Z)) V := fun V => run_string_add_sum V _ _ (by have : (⟨#[128]⟩ : ByteArray).size = 1 := rfl; omega)
    have r2 : ∀ V : World, (Op.stringOp .add ((⟨#[128]⟩ : ByteArray) ++ Z) N8).run Try.prog V = .ok (.string ((⟨#[128]⟩ : ByteArray) ++ Z ++ N8)) V := fun V => run_string_add_sum V _ _ (by rw [ByteArray.size_append]; have : (⟨#[128]⟩ : ByteArray).size = 1 := rfl; omega)
    have hZi : (Z.size : Int) ≤ 1000 := by omega
    have hNi : (N8.size : Int) ≤ 8 := by omega
    have HZ1 := Aside0.mk hZ
    have HN1 := Aside0.mk hN8
    clear hZ hN8
    go_region_held3 (fun V => V.cell? ⟨g, 9, none⟩ = some (.int .u64 (b.size : Nat))) (exact HK.out _ _ S.out)
      (first
        | (go_at_call 76; have hc := repeat_S S.out zc hz3; rw [HZ1.out] at hc; go_fit hc; clear hc; rintro e w2 ⟨rfl, hs⟩; clear S; have S := Aside0.mk hs; clear hs)
        | (go_at_call 70; go_loud (have hc := number_S S.out (8 * (b.size : Int)) (by omega) (by omega); rw [HN1.out] at hc; go_fit hc; clear hc; rintro e w3 ⟨rfl, hs⟩; clear S; have S := Aside0.mk hs; clear hs))
        | (go_at_call 38; have hc := Write_S S.out ((⟨#[128]⟩ : ByteArray) ++ Z ++ N8) HP.out.2; rw [HP.out.1] at hc; go_fit hc; clear hc; rintro e w4 ⟨rfl, hs⟩; clear S; have S := Aside0.mk hs; clear hs))
    all_goals
      go_wp2_with fail
      go_meet
      exact ⟨rfl, S.out⟩
  case rest =>
    obtain ⟨rfl, hs⟩ := hcut
    clear S hz1 hz2
    obtain ⟨s, hs8⟩ : ∃ s, stOf (b ++ padB b) = s := ⟨_, rfl⟩
    have hsum : sumB b = strOfNums (digL s) := by unfold sumB; rw [hs8]
    have HSUM := Aside0.mk hsum
    obtain ⟨y0, y1, y2, y3, y4, y5, y6, y7, y8, y9⟩ := h_cells (s := stOf (b ++ padB b)) (r := restOf (b ++ padB b)) (n := ((b ++ padB b).size : Nat)) hs m0
    rw [hs8] at y0 y1 y2 y3 y4 y5 y6 y7
    have S := Aside0.mk ((hs.drop).addRow (Below.refl _ _) (Kd.R_nil (Kd.int .u8) 5 _ _ (fun _ => True)))
    clear hs hs8 hsum
    go_wp2
    clear y0 y1 y2 y3 y4 y5 y6 y7 y8 y9
    go_loopw [5, 33] (fun v5 v33 wr => ∃ (z : Int) (B : Option Addr) (cb : Nat) (xs : List Int), 0 ≤ z ∧ z ≤ 8 ∧ v33 = .int .i64 z ∧ v5 = .slice B xs.length cb ∧ Aside0 (xs = (digL s).take (4 * z.toNat)) ∧ xs.length ≤ 4 * z.toNat ∧ Aside0 (SepT w0 wr (rowT (Kd.int .u8) 5 (.slice B xs.length cb) xs :: ts))) (fun _ v33 _ => 8 - (intOf v33).toNat)
    case atStart => exact ⟨0, none, 0, [], by omega, by omega, rfl, rfl, ⟨rfl⟩, by simp, S⟩
    case round =>
      clear S
      obtain ⟨z, B, cb, xs, hz0, hz8, rfl, rfl, HX, hxl, S⟩ := hrel
      have hxl32 : xs.length ≤ 32 := by omega
      clear hxl
      rcases (by omega : z = 0 ∨ z = 1 ∨ z = 2 ∨ z = 3 ∨ z = 4 ∨ z = 5 ∨ z = 6 ∨ z = 7 ∨ z = 8) with rfl | rfl | rfl | rfl | rfl | rfl | rfl | rfl | rfl
      · have hix : ∀ V : World, (Instr.index 92 (.agg #[.int .u32 s.a, .int .u32 s.b, .int .u32 s.c, .int .u32 s.d, .int .u32 s.e, .int .u32 s.f, .int .u32 s.g, .int .u32 s.h]) (.int .i64 0)).run Try.prog V = .ok (.int .u32 s.a) V := fun _ => by kernel_rfl
        have HX2 : Aside0 (xs ++ [s.a / 16777216 % 256, s.a / 65536 % 256, s.a / 256 % 256, s.a % 256] = (digL s).take (4 * (1 : Int).toNat)) := ⟨by rw [HX.out]; rfl⟩
        have hxl : (xs ++ [s.a / 16777216 % 256, s.a / 65536 % 256, s.a / 256 % 256, s.a % 256]).length = xs.length + 4 := by simp
        have HXL := Aside0.mk hxl
        clear hxl
        go_wp2_with ((with_reducible refine gate_builtin (b := .append) (xs := #[.tmp 36, .tmp 48]) rfl ?_); at_builtin; go_loud (refine SepT.appendLit (enc := Value.int .u8) (h1 := fun _ => rfl) rfl (.tmp 36) (.tmp 48) 49 5 (.int .u8 0) 1 rfl Try.underlying49 info5 rfl (by omega) (.slice B xs.length cb) xs [s.a / 16777216 % 256, s.a / 65536 % 256, s.a / 256 % 256, s.a % 256] (Nat.le_of_ble_eq_true rfl) rfl rfl S.out ?aL ?_; (case aL => show (xs.length + 4) * 1 ≤ _; omega); intro Bn cn w6 ho; have S4 := Aside0.mk ho; clear ho))
        clear S hix
        have hs4 := S4.out
        rw [HXL.out] at hs4
        have S5 := Aside0.mk hs4
        clear hs4 S4
        go_roundw
        case rel => exact ⟨1, Bn, cn, _, by omega, by omega, rfl, by rw [HXL.out], HX2, by rw [HX2.out, List.length_take]; omega, ⟨by rw [HXL.out]; exact S5.out⟩⟩
        case measure => simp [intOf]
      · have hix : ∀ V : World, (Instr.index 92 (.agg #[.int .u32 s.a, .int .u32 s.b, .int .u32 s.c, .int .u32 s.d, .int .u32 s.e, .int .u32 s.f, .int .u32 s.g, .int .u32 s.h]) (.int .i64 1)).run Try.prog V = .ok (.int .u32 s.b) V := fun _ => by kernel_rfl
        have HX2 : Aside0 (xs ++ [s.b / 16777216 % 256, s.b / 65536 % 256, s.b / 256 % 256, s.b % 256] = (digL s).take (4 * (2 : Int).toNat)) := ⟨by rw [HX.out]; rfl⟩
        have hxl : (xs ++ [s.b / 16777216 % 256, s.b / 65536 % 256, s.b / 256 % 256, s.b % 256]).length = xs.length + 4 := by simp
        have HXL := Aside0.mk hxl
        clear hxl
        go_wp2_with ((with_reducible refine gate_builtin (b := .append) (xs := #[.tmp 36, .tmp 48]) rfl ?_); at_builtin; go_loud (refine SepT.appendLit (enc := Value.int .u8) (h1 := fun _ => rfl) rfl (.tmp 36) (.tmp 48) 49 5 (.int .u8 0) 1 rfl Try.underlying49 info5 rfl (by omega) (.slice B xs.length cb) xs [s.b / 16777216 % 256, s.b / 65536 % 256, s.b / 256 % 256, s.b % 256] (Nat.le_of_ble_eq_true rfl) rfl rfl S.out ?aL ?_; (case aL => show (xs.length + 4) * 1 ≤ _; omega); intro Bn cn w6 ho; have S4 := Aside0.mk ho; clear ho))
        clear S hix
        have hs4 := S4.out
        rw [HXL.out] at hs4
        have S5 := Aside0.mk hs4
        clear hs4 S4
        go_roundw
        case rel => exact ⟨2, Bn, cn, _, by omega, by omega, rfl, by rw [HXL.out], HX2, by rw [HX2.out, List.length_take]; omega, ⟨by rw [HXL.out]; exact S5.out⟩⟩
        case measure => simp [intOf]
      · have hix : ∀ V : World, (Instr.index 92 (.agg #[.int .u32 s.a, .int .u32 s.b, .int .u32 s.c, .int .u32 s.d, .int .u32 s.e, .int .u32 s.f, .int .u32 s.g, .int .u32 s.h]) (.int .i64 2)).run Try.prog V = .ok (.int .u32 s.c) V := fun _ => by kernel_rfl
        have HX2 : Aside0 (xs ++ [s.c / 16777216 % 256, s.c / 65536 % 256, s.c / 256 % 256, s.c % 256] = (digL s).take (4 * (3 : Int).toNat)) := ⟨by rw [HX.out]; rfl⟩
        have hxl : (xs ++ [s.c / 16777216 % 256, s.c / 65536 % 256, s.c / 256 % 256, s.c % 256]).length = xs.length + 4 := by simp
        have HXL := Aside0.mk hxl
        clear hxl
        go_wp2_with ((with_reducible refine gate_builtin (b := .append) (xs := #[.tmp 36, .tmp 48]) rfl ?_); at_builtin; go_loud (refine SepT.appendLit (enc := Value.int .u8) (h1 := fun _ => rfl) rfl (.tmp 36) (.tmp 48) 49 5 (.int .u8 0) 1 rfl Try.underlying49 info5 rfl (by omega) (.slice B xs.length cb) xs [s.c / 16777216 % 256, s.c / 65536 % 256, s.c / 256 % 256, s.c % 256] (Nat.le_of_ble_eq_true rfl) rfl rfl S.out ?aL ?_; (case aL => show (xs.length + 4) * 1 ≤ _; omega); intro Bn cn w6 ho; have S4 := Aside0.mk ho; clear ho))
        clear S hix
        have hs4 := S4.out
        rw [HXL.out] at hs4
        have S5 := Aside0.mk hs4
        clear hs4 S4
        go_roundw
        case rel => exact ⟨3, Bn, cn, _, by omega, by omega, rfl, by rw [HXL.out], HX2, by rw [HX2.out, List.length_take]; omega, ⟨by rw [HXL.out]; exact S5.out⟩⟩
        case measure => simp [intOf]
      · have hix : ∀ V : World, (Instr.index 92 (.agg #[.int .u32 s.a, .int .u32 s.b, .int .u32 s.c, .int .u32 s.d, .int .u32 s.e, .int .u32 s.f, .int .u32 s.g, .int .u32 s.h]) (.int .i64 3)).run Try.prog V = .ok (.int .u32 s.d) V := fun _ => by kernel_rfl
        have HX2 : Aside0 (xs ++ [s.d / 16777216 % 256, s.d / 65536 % 256, s.d / 256 % 256, s.d % 256] = (digL s).take (4 * (4 : Int).toNat)) := ⟨by rw [HX.out]; rfl⟩
        have hxl : (xs ++ [s.d / 16777216 % 256, s.d / 65536 % 256, s.d / 256 % 256, s.d % 256]).length = xs.length + 4 := by simp
        have HXL := Aside0.mk hxl
        clear hxl
        go_wp2_with ((with_reducible refine gate_builtin (b := .append) (xs := #[.tmp 36, .tmp 48]) rfl ?_); at_builtin; go_loud (refine SepT.appendLit (enc := Value.int .u8) (h1 := fun _ => rfl) rfl (.tmp 36) (.tmp 48) 49 5 (.int .u8 0) 1 rfl Try.underlying49 info5 rfl (by omega) (.slice B xs.length cb) xs [s.d / 16777216 % 256, s.d / 65536 % 256, s.d / 256 % 256, s.d % 256] (Nat.le_of_ble_eq_true rfl) rfl rfl S.out ?aL ?_; (case aL => show (xs.length + 4) * 1 ≤ _; omega); intro Bn cn w6 ho; have S4 := Aside0.mk ho; clear ho))
        clear S hix
        have hs4 := S4.out
        rw [HXL.out] at hs4
        have S5 := Aside0.mk hs4
        clear hs4 S4
        go_roundw
        case rel => exact ⟨4, Bn, cn, _, by omega, by omega, rfl, by rw [HXL.out], HX2, by rw [HX2.out, List.length_take]; omega, ⟨by rw [HXL.out]; exact S5.out⟩⟩
        case measure => simp [intOf]
      · have hix : ∀ V : World, (Instr.index 92 (.agg #[.int .u32 s.a, .int .u32 s.b, .int .u32 s.c, .int .u32 s.d, .int .u32 s.e, .int .u32 s.f, .int .u32 s.g, .int .u32 s.h]) (.int .i64 4)).run Try.prog V = .ok (.int .u32 s.e) V := fun _ => by kernel_rfl
        have HX2 : Aside0 (xs ++ [s.e / 16777216 % 256, s.e / 65536 % 256, s.e / 256 % 256, s.e % 256] = (digL s).take (4 * (5 : Int).toNat)) := ⟨by rw [HX.out]; rfl⟩
        have hxl : (xs ++ [s.e / 16777216 % 256, s.e / 65536 % 256, s.e / 256 % 256, s.e % 256]).length = xs.length + 4 := by simp
        have HXL := Aside0.mk hxl
        clear hxl
        go_wp2_with ((with_reducible refine gate_builtin (b := .append) (xs := #[.tmp 36, .tmp 48]) rfl ?_); at_builtin; go_loud (refine SepT.appendLit (enc := Value.int .u8) (h1 := fun _ => rfl) rfl (.tmp 36) (.tmp 48) 49 5 (.int .u8 0) 1 rfl Try.underlying49 info5 rfl (by omega) (.slice B xs.length cb) xs [s.e / 16777216 % 256, s.e / 65536 % 256, s.e / 256 % 256, s.e % 256] (Nat.le_of_ble_eq_true rfl) rfl rfl S.out ?aL ?_; (case aL => show (xs.length + 4) * 1 ≤ _; omega); intro Bn cn w6 ho; have S4 := Aside0.mk ho; clear ho))
        clear S hix
        have hs4 := S4.out
        rw [HXL.out] at hs4
        have S5 := Aside0.mk hs4
        clear hs4 S4
        go_roundw
        case rel => exact ⟨5, Bn, cn, _, by omega, by omega, rfl, by rw [HXL.out], HX2, by rw [HX2.out, List.length_take]; omega, ⟨by rw [HXL.out]; exact S5.out⟩⟩
        case measure => simp [intOf]
      · have hix : ∀ V : World, (Instr.index 92 (.agg #[.int .u32 s.a, .int .u32 s.b, .int .u32 s.c, .int .u32 s.d, .int .u32 s.e, .int .u32 s.f, .int .u32 s.g, .int .u32 s.h]) (.int .i64 5)).run Try.prog V = .ok (.int .u32 s.f) V := fun _ => by kernel_rfl
        have HX2 : Aside0 (xs ++ [s.f / 16777216 % 256, s.f / 65536 % 256, s.f / 256 % 256, s.f % 256] = (digL s).take (4 * (6 : Int).toNat)) := ⟨by rw [HX.out]; rfl⟩
        have hxl : (xs ++ [s.f / 16777216 % 256, s.f / 65536 % 256, s.f / 256 % 256, s.f % 256]).length = xs.length + 4 := by simp
        have HXL := Aside0.mk hxl
        clear hxl
        go_wp2_with ((with_reducible refine gate_builtin (b := .append) (xs := #[.tmp 36, .tmp 48]) rfl ?_); at_builtin; go_loud (refine SepT.appendLit (enc := Value.int .u8) (h1 := fun _ => rfl) rfl (.tmp 36) (.tmp 48) 49 5 (.int .u8 0) 1 rfl Try.underlying49 info5 rfl (by omega) (.slice B xs.length cb) xs [s.f / 16777216 % 256, s.f / 65536 % 256, s.f / 256 % 256, s.f % 256] (Nat.le_of_ble_eq_true rfl) rfl rfl S.out ?aL ?_; (case aL => show (xs.length + 4) * 1 ≤ _; omega); intro Bn cn w6 ho; have S4 := Aside0.mk ho; clear ho))
        clear S hix
        have hs4 := S4.out
        rw [HXL.out] at hs4
        have S5 := Aside0.mk hs4
        clear hs4 S4
        go_roundw
        case rel => exact ⟨6, Bn, cn, _, by omega, by omega, rfl, by rw [HXL.out], HX2, by rw [HX2.out, List.length_take]; omega, ⟨by rw [HXL.out]; exact S5.out⟩⟩
        case measure => simp [intOf]
      · have hix : ∀ V : World, (Instr.index 92 (.agg #[.int .u32 s.a, .int .u32 s.b, .int .u32 s.c, .int .u32 s.d, .int .u32 s.e, .int .u32 s.f, .int .u32 s.g, .int .u32 s.h]) (.int .i64 6)).run Try.prog V = .ok (.int .u32 s.g) V := fun _ => by kernel_rfl
        have HX2 : Aside0 (xs ++ [s.g / 16777216 % 256, s.g / 65536 % 256, s.g / 256 % 256, s.g % 256] = (digL s).take (4 * (7 : Int).toNat)) := ⟨by rw [HX.out]; rfl⟩
        have hxl : (xs ++ [s.g / 16777216 % 256, s.g / 65536 % 256, s.g / 256 % 256, s.g % 256]).length = xs.length + 4 := by simp
        have HXL := Aside0.mk hxl
        clear hxl
        go_wp2_with ((with_reducible refine gate_builtin (b := .append) (xs := #[.tmp 36, .tmp 48]) rfl ?_); at_builtin; go_loud (refine SepT.appendLit (enc := Value.int .u8) (h1 := fun _ => rfl) rfl (.tmp 36) (.tmp 48) 49 5 (.int .u8 0) 1 rfl Try.underlying49 info5 rfl (by omega) (.slice B xs.length cb) xs [s.g / 16777216 % 256, s.g / 65536 % 256, s.g / 256 % 256, s.g % 256] (Nat.le_of_ble_eq_true rfl) rfl rfl S.out ?aL ?_; (case aL => show (xs.length + 4) * 1 ≤ _; omega); intro Bn cn w6 ho; have S4 := Aside0.mk ho; clear ho))
        clear S hix
        have hs4 := S4.out
        rw [HXL.out] at hs4
        have S5 := Aside0.mk hs4
        clear hs4 S4
        go_roundw
        case rel => exact ⟨7, Bn, cn, _, by omega, by omega, rfl, by rw [HXL.out], HX2, by rw [HX2.out, List.length_take]; omega, ⟨by rw [HXL.out]; exact S5.out⟩⟩
        case measure => simp [intOf]
      · have hix : ∀ V : World, (Instr.index 92 (.agg #[.int .u32 s.a, .int .u32 s.b, .int .u32 s.c, .int .u32 s.d, .int .u32 s.e, .int .u32 s.f, .int .u32 s.g, .int .u32 s.h]) (.int .i64 7)).run Try.prog V = .ok (.int .u32 s.h) V := fun _ => by kernel_rfl
        have HX2 : Aside0 (xs ++ [s.h / 16777216 % 256, s.h / 65536 % 256, s.h / 256 % 256, s.h % 256] = (digL s).take (4 * (8 : Int).toNat)) := ⟨by rw [HX.out]; rfl⟩
        have hxl : (xs ++ [s.h / 16777216 % 256, s.h / 65536 % 256, s.h / 256 % 256, s.h % 256]).length = xs.length + 4 := by simp
        have HXL := Aside0.mk hxl
        clear hxl
        go_wp2_with ((with_reducible refine gate_builtin (b := .append) (xs := #[.tmp 36, .tmp 48]) rfl ?_); at_builtin; go_loud (refine SepT.appendLit (enc := Value.int .u8) (h1 := fun _ => rfl) rfl (.tmp 36) (.tmp 48) 49 5 (.int .u8 0) 1 rfl Try.underlying49 info5 rfl (by omega) (.slice B xs.length cb) xs [s.h / 16777216 % 256, s.h / 65536 % 256, s.h / 256 % 256, s.h % 256] (Nat.le_of_ble_eq_true rfl) rfl rfl S.out ?aL ?_; (case aL => show (xs.length + 4) * 1 ≤ _; omega); intro Bn cn w6 ho; have S4 := Aside0.mk ho; clear ho))
        clear S hix
        have hs4 := S4.out
        rw [HXL.out] at hs4
        have S5 := Aside0.mk hs4
        clear hs4 S4
        go_roundw
        case rel => exact ⟨8, Bn, cn, _, by omega, by omega, rfl, by rw [HXL.out], HX2, by rw [HX2.out, List.length_take]; omega, ⟨by rw [HXL.out]; exact S5.out⟩⟩
        case measure => simp [intOf]
      · obtain ⟨ok, hR, _⟩ := SepT.get S.out m0
        have hR' : Kd.R (Kd.int .u8) 5 wr 0 ok (.slice B xs.length cb) xs := by unfold rowT at hR; exact hR
        have hxs : xs = digL s := by rw [HX.out]; rfl
        have hcv := Kd.C_string (P := Try.prog) (src := 49) (dst := 9) (e := 5) (c := cb) Try.underlying49 Try.underlying5 Try.underlying9 (Kd.R_reads' hR').2.2
        rw [hxs] at hcv
        have HXS := Aside0.mk hxs
        clear hR hR' hxs
        rw [HXS.out]
        go_wp2
        go_ret
        exact ⟨by rw [HSUM.out]; rfl, S.out.drop⟩
end Go.Proofs.Ytiafadmkkehdnaa.Sh
