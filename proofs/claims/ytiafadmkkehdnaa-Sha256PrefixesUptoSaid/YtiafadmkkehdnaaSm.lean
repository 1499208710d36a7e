/-
  sha256's Parse.
-/
import Derived.Test.YtiafadmkkehdnaaSl
namespace Go.Proofs.Ytiafadmkkehdnaa.Sh
open Go.RowKit Go.Great Go.Proofs.YtiafadmkkehdnaaW.PrintWords Go.Proofs.YtiafadmkkehdnaaW.PrintMore
set_option linter.unusedVariables false

def nibV (x : Int) : Int := Lib.indexByte [48, 49, 50, 51, 52, 53, 54, 55, 56, 57, 97, 98, 99, 100, 101, 102] x.toNat.toUInt8
theorem nib_range (x : Int) : -1 ≤ nibV x ∧ nibV x ≤ 15 := by
  have h : ∀ c : UInt8, -1 ≤ Lib.indexByte [48, 49, 50, 51, 52, 53, 54, 55, 56, 57, 97, 98, 99, 100, 101, 102] c ∧ Lib.indexByte [48, 49, 50, 51, 52, 53, 54, 55, 56, 57, 97, 98, 99, 100, 101, 102] c ≤ 15 := by
    intro c
    have hc : c = UInt8.ofNat c.toNat := by simp
    rw [hc]
    have : ∀ n : Nat, n < 256 → -1 ≤ Lib.indexByte [48, 49, 50, 51, 52, 53, 54, 55, 56, 57, 97, 98, 99, 100, 101, 102] (UInt8.ofNat n) ∧ Lib.indexByte [48, 49, 50, 51, 52, 53, 54, 55, 56, 57, 97, 98, 99, 100, 101, 102] (UInt8.ofNat n) ≤ 15 := by decide +kernel
    exact this _ c.toNat_lt
  exact h _
/-- The bytes behind i digits. -/
def parTo (s : ByteArray) : Nat → List Int
  | 0 => List.replicate 32 0
  | i + 1 => (parTo s i).set (i / 2) (bits .or .u8 ((parTo s i).getD (i / 2) 0 * 16 % 256) (nibV (byteN s i)))
theorem parTo_length (s : ByteArray) : ∀ i, (parTo s i).length = 32
  | 0 => by simp [parTo]
  | i + 1 => by rw [parTo, List.length_set]; exact parTo_length s i
def parOk (s : ByteArray) : Bool := s.size == 64 && (List.range 64).all (fun i => decide (0 ≤ nibV (byteN s i)))
theorem parOk_size {s : ByteArray} (h : s.size ≠ 64) : parOk s = false := by simp [parOk, h]
theorem parOk_bad {s : ByteArray} {i : Nat} (h : i < 64) (hn : nibV (byteN s i) < 0) : parOk s = false := by
  unfold parOk
  rw [Bool.and_eq_false_iff]
  refine .inr ?_
  rw [List.all_eq_false]
  exact ⟨i, List.mem_range.2 h, by simp; omega⟩
theorem parOk_good {s : ByteArray} (hs : s.size = 64) (hn : ∀ i, i < 64 → 0 ≤ nibV (byteN s i)) : parOk s = true := by
  unfold parOk
  simp only [hs, beq_self_eq_true, Bool.true_and, List.all_eq_true, List.mem_range, decide_eq_true_eq]
  exact hn
/-- What Parse returns. -/
def parB (s : ByteArray) : ByteArray := if parOk s = true then strOfNums (parTo s 64) else ⟨#[]⟩
def parE (s : ByteArray) : Value := .tuple #[.string (parB s), .int .i64 (if parOk s = true then 0 else 3)]
theorem parE_bad {s : ByteArray} (h : parOk s = false) : parE s = .tuple #[.string ⟨#[]⟩, .int .i64 3] := by simp [parE, parB, h]
theorem parE_good {s : ByteArray} (h : parOk s = true) : parE s = .tuple #[.string (strOfNums (parTo s 64)), .int .i64 0] := by simp [parE, parB, h]
def zero32 : List Int := List.replicate 32 0
def bytesA (l : List Int) : Array Value := (l.map (Value.int .u8)).toArray
theorem bytesA_set (l : List Int) (j : Nat) (v : Int) : (bytesA l).setIfInBounds j (.int .u8 v) = bytesA (l.set j v) := by
  unfold bytesA
  simp [List.map_set]
theorem bytesA_get (l : List Int) (j : Nat) (h : j < l.length) : (bytesA l)[j]? = some (.int .u8 (l.getD j 0)) := by
  unfold bytesA
  simp [h, List.getD]
theorem indexByte_S {w : World} {ts : List Th} {w0 : World} (S : SepT w0 w ts) (x : Int) :
    Calls Try.prog 72 #[.string ⟨#[48, 49, 50, 51, 52, 53, 54, 55, 56, 57, 97, 98, 99, 100, 101, 102]⟩, .int .u8 x] w fun e w' => e = .returned (.int .i64 (nibV x)) ∧ w' = w :=
  Try.strings_IndexByte ⟨#[48, 49, 50, 51, 52, 53, 54, 55, 56, 57, 97, 98, 99, 100, 101, 102]⟩ x w
theorem parTo_zero (s : ByteArray) : parTo s 0 = zero32 := rfl
theorem parTo_succ (s : ByteArray) (i : Nat) : parTo s (i + 1) = (parTo s i).set (i / 2) (bits .or .u8 ((parTo s i).getD (i / 2) 0 * 16 % 256) (nibV (byteN s i))) := rfl
attribute [local irreducible] Sep rowT boxT hashT parTo nibV bytesA parOk parE zero32
set_option maxHeartbeats 2000000 in
set_option maxRecDepth 100000 in
theorem Parse_S {w0 w : World} {ts : List Th} (S0 : SepT w0 w ts) (s : ByteArray) (hs : s.size ≤ 100000000) :
    Calls Try.prog 33 #[.string s] w fun e w' => e = .returned (parE s) ∧ SepT w0 w' ts := by
  have S := Aside0.mk S0
  clear S0
  have hsi : (s.size : Int) ≤ 100000000 := by omega
  by_cases h64 : s.size = 64
  case neg =>
    have h64i : ¬ (s.size : Int) = 64 := by omega
    have hpk := Aside0.mk (parOk_size h64)
    clear h64
    go_enter Try.func33, Try.ntmps33
    go_wp2
    go_ret2
    exact ⟨by rw [parE_bad hpk.out]; rfl, S.out⟩
  case pos =>
    have h64i : (s.size : Int) = 64 := by omega
    have H64 := Aside0.mk h64
    clear h64
    have hmk : ∀ W : World, (Instr.makeSlice 49 (.int .i64 32) (.int .i64 32)).run Try.prog W = .ok (.slice (some ⟨W.heap.size, 0, none⟩) 32 32) (W.alloc (.cells (bytesA zero32) 5)) := fun W => by unfold bytesA zero32; kernel_rfl
    have S1 := Aside0.mk (S.out.allocBox (bytesA zero32) 5)
    clear S
    go_enter Try.func33, Try.ntmps33
    go_wp2
    clear hmk
    generalize hb : w.heap.size = b at S1 ⊢
    generalize World.alloc _ _ = W at S1 ⊢
    clear hb
    go_loopw [13] (fun v13 wr => ∃ i : Nat, i ≤ 64 ∧ v13 = .int .i64 i ∧ Aside0 (∀ k, k < i → 0 ≤ nibV (byteN s k)) ∧ Aside0 (SepT w0 wr (boxT b (bytesA (parTo s i)) 5 :: ts))) (fun v13 _ => 64 - (intOf v13).toNat)
    case atStart => exact ⟨0, Nat.zero_le _, rfl, ⟨fun k hk => absurd hk (Nat.not_lt_zero k)⟩, by rw [parTo_zero]; exact S1⟩
    case round =>
      clear S1
      obtain ⟨i, hi, rfl, HN, S⟩ := hrel
      by_cases hlt : i < 64
      · have hlt2 : (i : Int) < 64 := by omega
        have hsz2 : (i : Int) < s.size := by omega
        obtain ⟨x, hx⟩ : ∃ x, byteN s i = x := ⟨_, rfl⟩
        have ix1 : ∀ V : World, (Instr.index 9 (.string s) (.int .i64 (i : Int))).run Try.prog V = .ok (.int .u8 x) V := fun V => by rw [ix_str V s .i64 i (by omega) hsz2, Int.toNat_natCast, hx]
        have hst := parTo_succ s i
        have hln := parTo_length s i
        have hnr := nib_range x
        obtain ⟨v, hv⟩ : ∃ v, nibV x = v := ⟨_, rfl⟩
        rw [hx, hv] at hst
        rw [hv] at hnr
        have HV := Aside0.mk hv
        have HX := Aside0.mk hx
        by_cases hv0 : v < 0
        · have hpb := Aside0.mk (parOk_bad hlt (by rw [hx, hv]; exact hv0))
          clear hst hv hx
          go_wp2_with (go_at_call 72; have hc := indexByte_S S.out x; rw [HV.out] at hc; go_fit hc; clear hc; rintro e w1 ⟨rfl, rfl⟩)
          go_ret2
          exact ⟨by rw [parE_bad hpb.out]; rfl, S.out.drop⟩
        · obtain ⟨j, hj⟩ : ∃ j, i / 2 = j := ⟨_, rfl⟩
          have hj32 : j < 32 := by omega
          have hji : (i : Int) / 2 = (j : Int) := by omega
          have hjt : Int.tdiv (i : Int) 2 = (j : Int) := by rw [Int.tdiv_eq_ediv_of_nonneg (by omega)]; exact hji
          rw [hj] at hst
          obtain ⟨old, hold⟩ : ∃ o, (parTo s i).getD j 0 = o := ⟨_, rfl⟩
          rw [hold] at hst
          have xg := (SepT.box S.out m0).1
          have y : wr.cell? ⟨b, j, none⟩ = some (.int .u8 old) := (blk_cell xg j).trans (by rw [bytesA_get _ _ (by rw [hln]; exact hj32), hold])
          have e0 := blk_frozen xg j
          have hwv : IntKind.u8.wrap v = v := by rw [IntKind.wrap_u8]; omega
          have S1 := Aside0.mk (S.out.setBox j (.int .u8 (bits .or .u8 (old * 16 % 256) v)))
          rw [bytesA_set, ← hst] at S1
          have HN2 : Aside0 (∀ k, k < i + 1 → 0 ≤ nibV (byteN s k)) := ⟨fun k hk => by
            rcases Nat.lt_succ_iff_lt_or_eq.1 hk with h | h
            · exact HN.out k h
            · rw [h, hx, hv]; omega⟩
          have hv1 : 0 ≤ v := by omega
          have hv2 : v ≤ 15 := by omega
          clear hst hv hx hold hln hnr xg hv0 hj
          have hvm : v % 256 = v := by omega
          go_wp2_with (go_at_call 72; have hc := indexByte_S S.out x; rw [HV.out] at hc; go_fit hc; clear hc; rintro e w1 ⟨rfl, rfl⟩)
          clear y e0 hji hjt hwv hvm ix1 S
          go_roundw
          case rel => exact ⟨i + 1, by omega, by go_num, HN2, S1⟩
          case measure => simp [intOf]; omega
      · obtain rfl : i = 64 := by omega
        have hpg := Aside0.mk (parOk_good H64.out HN.out)
        have xg := (SepT.box S.out m0).1
        have hln := parTo_length s 64
        have hr : ReadsInt wr .u8 (some ⟨b, 0, none⟩) 32 (parTo s 64) := ⟨by rw [hln], by omega, fun _ => ⟨⟨b, 0, none⟩, rfl, fun j hj => by
          have e : (⟨b, 0, none⟩ : Addr).add j = ⟨b, j, none⟩ := by simp [Addr.add]; omega
          rw [e]
          exact (blk_cell xg j).trans (bytesA_get _ _ (by rw [hln]; exact hj))⟩⟩
        have hcv := string_of_reads (P := Try.prog) (src := 49) (dst := 9) (e := 5) (c := 32) Try.underlying49 Try.underlying5 Try.underlying9 hr
        clear hr xg hln
        go_wp2
        go_ret2
        exact ⟨by rw [parE_good hpg.out]; rfl, S.out.drop⟩
end Go.Proofs.Ytiafadmkkehdnaa.Sh
