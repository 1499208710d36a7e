/-
  sha256's Hex.
-/
import Derived.Test.YtiafadmkkehdnaaSj
import Derived.Deep.RegionLawGrows
namespace Go.Proofs.Ytiafadmkkehdnaa.Sh
open Go.RowKit Go.Great Go.Proofs.YtiafadmkkehdnaaW.PrintWords Go.Proofs.YtiafadmkkehdnaaW.PrintMore
set_option linter.unusedVariables false

theorem ix_str (V : World) (s : ByteArray) (k : IntKind) (i : Int) (h0 : 0 ≤ i) (h1 : i < s.size) : (Instr.index 9 (.string s) (.int k i)).run Try.prog V = .ok (.int .u8 (byteN s i.toNat)) V := by
  rw [run_index_string V 9 s k i Try.underlying9, dif_pos ⟨h0, h1⟩, byteN_get s i.toNat (by omega)]
def hexDig : ByteArray := ⟨#[48, 49, 50, 51, 52, 53, 54, 55, 56, 57, 97, 98, 99, 100, 101, 102]⟩
def hexD (x : Int) : Int := byteN hexDig x.toNat
/-- The digits of the first bytes. -/
def hexTo (s : ByteArray) : Nat → List Int
  | 0 => []
  | i + 1 => hexTo s i ++ [hexD (byteN s i / 16), hexD (byteN s i % 16)]
theorem hexTo_length (s : ByteArray) : ∀ i, (hexTo s i).length = 2 * i
  | 0 => rfl
  | i + 1 => by rw [hexTo, List.length_append, hexTo_length s i]; simp; omega
def hexB (s : ByteArray) : ByteArray := strOfNums (hexTo s s.size)
theorem and15 (x : Int) (h0 : 0 ≤ x) (h1 : x ≤ 255) : bits .and .u8 x 15 = x % 16 := by
  obtain ⟨n, rfl⟩ := Int.eq_ofNat_of_zero_le h0
  have hn : n ≤ 255 := by omega
  have : ∀ n : Nat, n < 256 → bits .and .u8 (n : Int) 15 = (n : Int) % 16 := by decide +kernel
  exact this n (by omega)
theorem SepT.room {w0 w : World} {ts : List Th} (h : SepT w0 w ts) {α : Type} {enc : α → Value} {h1 : ∀ x, (enc x).oneCell' = true} (e : Nat) (cs : Array Value) (hx : cs.size ≤ 1000000000) :
    SepT w0 (w.alloc (.cells cs e)) (rowT (Kd.scalar enc h1) e (.slice (some ⟨w.heap.size, 0, none⟩) 0 cs.size) ([] : List α) :: ts) := by
  refine h.addRow ((Below.refl _ w).alloc (Nat.le_refl _) _) (ok := fun k => True) (Kd.R_of_own ⟨by simp [encs], .inr ⟨w.heap.size, cs.size, _, rfl, Nat.le_refl _, heap_new w _, Nat.zero_le _, ?_, ?_, ?_⟩⟩ (fun _ _ => trivial))
  · have : (1000000000 : Nat) ≤ maxLen := by decide
    omega
  · simp
  · simp [encs]
/-- A whole literal appended onto a row of one's own, in a region that draws. -/
theorem SepT.appendLit_step {P : Program} {ops : Array Oper} {o : Oper} {a : Act} {Q : Exit → Act → World → Prop} {Kc : Act → World → Prop} {α : Type} {enc : α → Value} {h1 : ∀ x, (enc x).oneCell' = true} {w0 W : World} {ts : List Th} (hw : Region.wanted o (yielded ops a.tmps) = true) (s x : Operand) (t e : TypeId) (z : Value) (bytes : Nat)
    (ho : o.op = .call { callee := .builtin .append, args := #[s, x], argTypes := #[t, t] })
    (ht : P.underlying t = some (.slice e)) (hinfo : (P.info? e).map (fun i => (i.zero, i.size, i.bytes)) = some (some z, 1, bytes)) (hz : z.cells.size = 1) (hb0 : 0 < bytes)
    (v : Value) (xs ys : List α) (hy : ys.length ≤ 1000000000) (hs : a.eval s = v) (hx : a.eval x = .slice (some ⟨W.heap.size, 0, none⟩) ys.length ys.length)
    (S : SepT w0 W (rowT (Kd.scalar enc h1) e v xs :: ts)) (hl : (xs.length + ys.length) * bytes ≤ 140737488355328)
    (h : ∀ A c w1, SepT w0 w1 (rowT (Kd.scalar enc h1) e (.slice A (xs ++ ys).length c) (xs ++ ys) :: ts) → Kc (a.put o.dst (.slice A (xs ++ ys).length c)) w1) :
    if Region.wanted o (yielded ops a.tmps) = true then Oper.wp P o a (W.alloc (.cells (ys.map enc).toArray e)) Kc Q else Kc (a.put o.dst undef) (W.alloc (.cells (ys.map enc).toArray e)) := by
  have S1 := (S.lit (enc := enc) (h1 := h1) e ys hy).swap
  obtain ⟨_, _, e0, _, hC⟩ := SepT.row S1.swap
  injection e0 with e1 e2 e3
  subst e1
  obtain ⟨ok, hR, h0, hk⟩ := S1.focus
  have hR' : Kd.R (Kd.scalar enc h1) e (W.alloc (.cells (ys.map enc).toArray e)) 0 ok v xs := hR
  refine Kd.R_append_rows_step (Kd.scalar enc h1) (w0 := W.alloc (.cells (ys.map enc).toArray e)) 0 hw s x t e z bytes ho ht hinfo hz Nat.one_pos hb0 v xs ys _ _ _ (fun k => ok k ∨ (W.alloc (.cells (ys.map enc).toArray e)).heap.size ≤ k) (fun _ => False) hs hx (Kd.R_mono hR' (fun k hk => .inl hk)) hC (fun _ _ hk => hk) (fun _ hk => hk.elim) (fun k hk => .inr hk) (Below.refl _ _) (Nat.zero_le _) hl ?_
  intro v1 w1 h2 _ hg _
  obtain ⟨A, c, rfl⟩ := Kd.R_slice h2
  exact h A c w1 (SepT.drop (SepT.swap (hk w1 (rowT _ e _ (xs ++ ys)) ((Only.refl ok _).grown hg (fun k hk => .inl (hR'.1 k hk))) h2)))
theorem hexTo_zero (s : ByteArray) : hexTo s 0 = [] := rfl
theorem hexTo_succ (s : ByteArray) (i : Nat) : hexTo s (i + 1) = hexTo s i ++ [hexD (byteN s i / 16), hexD (byteN s i % 16)] := rfl
theorem ix_dig (V : World) (x : Int) (h0 : 0 ≤ x) (h1 : x < 16) : (Instr.index 9 (.string ⟨#[48, 49, 50, 51, 52, 53, 54, 55, 56, 57, 97, 98, 99, 100, 101, 102]⟩) (.int .u8 x)).run Try.prog V = .ok (.int .u8 (hexD x)) V := ix_str V hexDig .u8 x h0 h1
attribute [local irreducible] Sep rowT boxT hashT hexTo hexD
set_option maxHeartbeats 2000000 in
set_option maxRecDepth 100000 in
theorem Hex_S {w0 w : World} {ts : List Th} (S0 : SepT w0 w ts) (s : ByteArray) (hs : s.size ≤ 100000000) :
    Calls Try.prog 35 #[.string s] w fun e w' => e = .returned (.string (hexB s)) ∧ SepT w0 w' ts := by
  have S := Aside0.mk S0
  clear S0
  obtain ⟨ii, hii, hij⟩ := Option.map_eq_some_iff.1 info5
  simp only [Prod.mk.injEq] at hij
  have hsi : (s.size : Int) ≤ 100000000 := by omega
  obtain ⟨mc, hmc⟩ : ∃ mc, madeCells (Value.int .u8 0).cells (2 * s.size) = mc := ⟨_, rfl⟩
  have hms : mc.size = 2 * s.size := by rw [← hmc]; exact size_madeCells _ _
  have hmk : ∀ W : World, (Instr.makeSlice 49 (.int .i64 0) (.int .i64 (2 * (s.size : Int)))).run Try.prog W = .ok (.slice (some ⟨W.heap.size, 0, none⟩) 0 (2 * s.size)) (W.alloc (.cells mc 5)) := fun W => by
    have h := run_make (P := Try.prog) W 49 5 ii (.int .u8 0) Try.underlying49 hii hij.1 .i64 .i64 0 (2 * (s.size : Int)) (by omega) (by omega) (by rw [hij.2.2]; omega) (by omega)
    rw [hij.2.1] at h
    rw [show (2 * (s.size : Int)).toNat = 2 * s.size by omega, Nat.mul_one, hmc] at h
    exact h
  clear hii hij
  have hmw : IntKind.i64.wrap (2 * (s.size : Int)) = 2 * (s.size : Int) := IntWalk.i64_in _ (by omega)
  have S1 := Aside0.mk (S.out.room (enc := Value.int .u8) (h1 := fun _ => rfl) 5 mc (by omega))
  rw [hms] at S1
  clear S hmc hms
  go_enter Try.func35, Try.ntmps35
  go_wp2
  clear hmk hmw
  generalize World.alloc _ _ = W at S1 ⊢
  generalize hA : (some (⟨w.heap.size, 0, none⟩ : Addr)) = A at S1 ⊢
  clear hA
  go_loopw [3, 11] (fun v3 v11 wr => ∃ (i : Nat) (B : Option Addr) (cb : Nat), i ≤ s.size ∧ v11 = .int .i64 i ∧ v3 = .slice B (hexTo s i).length cb ∧ Aside0 (SepT w0 wr (rowT (Kd.int .u8) 5 (.slice B (hexTo s i).length cb) (hexTo s i) :: ts))) (fun _ v11 _ => s.size - (intOf v11).toNat)
  case atStart => exact ⟨0, A, 2 * s.size, Nat.zero_le _, rfl, by rw [hexTo_zero]; rfl, by rw [hexTo_zero]; exact S1⟩
  case round =>
    clear S1
    obtain ⟨i, B, cb, hi, rfl, rfl, S⟩ := hrel
    by_cases hlt : i < s.size
    · have hlt2 : (i : Int) < s.size := by omega
      obtain ⟨x, hx⟩ : ∃ x, byteN s i = x := ⟨_, rfl⟩
      have hxr := byteN_range s i
      rw [hx] at hxr
      have hl := hexTo_length s i
      have he : hexTo s (i + 1) = hexTo s i ++ [hexD (x / 16), hexD (bits .and .u8 x 15)] := by rw [and15 x hxr.1 hxr.2, ← hx]; exact hexTo_succ s i
      generalize hexTo s i = xs at S hl he ⊢
      have HE := Aside0.mk he
      have ix1 : ∀ V : World, (Instr.index 9 (.string s) (.int .i64 (i : Int))).run Try.prog V = .ok (.int .u8 x) V := fun V => by rw [ix_str V s .i64 i (by omega) hlt2, Int.toNat_natCast, hx]
      have ix2 : ∀ V : World, (Instr.index 9 (.string ⟨#[48, 49, 50, 51, 52, 53, 54, 55, 56, 57, 97, 98, 99, 100, 101, 102]⟩) (.int .u8 (x / 16))).run Try.prog V = .ok (.int .u8 (hexD (x / 16))) V := fun V => ix_dig V _ (by omega) (by omega)
      have ix3 : ∀ V : World, (Instr.index 9 (.string ⟨#[48, 49, 50, 51, 52, 53, 54, 55, 56, 57, 97, 98, 99, 100, 101, 102]⟩) (.int .u8 (bits .and .u8 x 15))).run Try.prog V = .ok (.int .u8 (hexD (bits .and .u8 x 15))) V := fun V => ix_dig V _ (by rw [and15 x hxr.1 hxr.2]; omega) (by rw [and15 x hxr.1 hxr.2]; omega)
      have hxl : (xs ++ [hexD (x / 16), hexD (bits .and .u8 x 15)]).length = xs.length + 2 := by simp
      have HXL := Aside0.mk hxl
      have HL := Aside0.mk hl
      have HX0 := Aside0.mk hxr
      have hlq : xs.length ≤ 200000000 := by omega
      clear hx hxr he hxl hl
      go_upto_region 5 with fail
      have S1 := Aside0.mk S.out.drew
      clear S
      go_region_law ((refine SepT.appendLit_step (enc := Value.int .u8) (h1 := fun _ => rfl) rfl (.tmp 14) (.tmp 25) 49 5 (.int .u8 0) 1 rfl Try.underlying49 info5 rfl (by omega) (.slice B xs.length cb) xs [hexD (x / 16), hexD (bits .and .u8 x 15)] (Nat.le_of_ble_eq_true rfl) rfl rfl S1.out (by show (xs.length + 2) * 1 ≤ _; omega) ?_); (intro An cn w6 ho; have S4 := Aside0.mk ho; clear ho))
      all_goals
        have hs4 := S4.out
        rw [HXL.out] at hs4
        have hel : (hexTo s (i + 1)).length = xs.length + 2 := by rw [HE.out]; exact HXL.out
        have S5 := Aside0.mk (show SepT w0 w6 (rowT (Kd.int .u8) 5 (.slice An (hexTo s (i + 1)).length cn) (hexTo s (i + 1)) :: ts) by rw [hel, HE.out]; exact hs4)
        have HEL := Aside0.mk hel
        clear S4 hs4 S1 ix1 ix2 ix3 hel
        go_wp2
        go_roundw
        case rel => exact ⟨i + 1, An, cn, by omega, by go_num, by rw [HEL.out], S5⟩
        case measure => simp [intOf]; omega
    · obtain rfl : i = s.size := by omega
      obtain ⟨ok, hR, _⟩ := SepT.get S.out m0
      have hR' : Kd.R (Kd.int .u8) 5 wr 0 ok (.slice B (hexTo s s.size).length cb) (hexTo s s.size) := by unfold rowT at hR; exact hR
      have hcv := Kd.C_string (P := Try.prog) (src := 49) (dst := 9) (e := 5) (c := cb) Try.underlying49 Try.underlying5 Try.underlying9 (Kd.R_reads' hR').2.2
      clear hR hR'
      go_wp2
      go_ret
      exact ⟨rfl, S.out.drop⟩
end Go.Proofs.Ytiafadmkkehdnaa.Sh
