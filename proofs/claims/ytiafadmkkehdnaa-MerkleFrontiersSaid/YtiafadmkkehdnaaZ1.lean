/-
  sha256, walked; its example.
-/
import Derived.Test.YtiafadmkkehdnaaZ0
import Derived.Test.YtiafadmkkehdnaaSh
import Derived.BigRegion
import Derived.Lib.ConvBytes
import Derived.Deep.RegionLawGrows
namespace Go.Proofs.Ytiafadmkkehdnaa.Sh
open Go.RowKit Go.Great Go.Proofs.YtiafadmkkehdnaaW.PrintWords Go.Proofs.YtiafadmkkehdnaaW.PrintMore
set_option linter.unusedVariables false

theorem mixs_S {w0 w : World} {ts : List Th} (h : SepT w0 w ts) (x a b c : Int) (a1 : 1 ≤ a ∧ a ≤ 31 ∧ 1 ≤ b ∧ b ≤ 31 ∧ 1 ≤ c ∧ c ≤ 31) :
    Calls Try.prog 110 #[.int .u32 x, .int .i64 a, .int .i64 b, .int .i64 c] w fun e w' => e = .returned (.int .u32 (mixs x a b c)) ∧ SepT w0 w' ts := by
  refine (mixs_calls x a b c a1.1 a1.2.1 a1.2.2.1 a1.2.2.2.1 a1.2.2.2.2.1 a1.2.2.2.2.2 w).mono ?_
  rintro e w1 ⟨rfl, n, rfl⟩
  exact ⟨rfl, h.drewN n⟩
/-- What a cell holds. -/
def cellAt (V : World) (a : Addr) : Value := (V.cell? a).getD undef
theorem cellAt_of {V : World} {a : Addr} {v : Value} (h : V.cell? a = some v) : V.cell? a = some (cellAt V a) := by
  unfold cellAt; rw [h]; rfl
/-- The bytes of a block, as numbers. -/
def byteN (s : ByteArray) (i : Nat) : Int := ((s.data.getD i 0).toNat : Int)
/-- The first k bytes of word i. -/
def part (s : ByteArray) (i : Nat) : Nat → Int
  | 0 => 0
  | k + 1 => part s i k * 256 + byteN s (4 * i + k)
def nextW (l : List Int) (i : Nat) : Int :=
  IntKind.u32.wrap (IntKind.u32.wrap (IntKind.u32.wrap (mixs (l.getD (i - 2) 0) 17 19 10 + l.getD (i - 7) 0) + mixs (l.getD (i - 15) 0) 7 18 3) + l.getD (i - 16) 0)
def schedTo (s : ByteArray) : Nat → List Int
  | 0 => []
  | i + 1 => schedTo s i ++ [if i < 16 then part s i 4 else nextW (schedTo s i) i]
def sched (s : ByteArray) : List Int := schedTo s 64
theorem schedTo_length (s : ByteArray) : ∀ i, (schedTo s i).length = i
  | 0 => rfl
  | i + 1 => by rw [schedTo, List.length_append, schedTo_length s i]; rfl
theorem byteN_range (s : ByteArray) (i : Nat) : 0 ≤ byteN s i ∧ byteN s i ≤ 255 := by
  unfold byteN
  have := (s.data.getD i 0).toNat_lt
  omega
theorem part_range (s : ByteArray) (i : Nat) : ∀ k, k ≤ 4 → 0 ≤ part s i k ∧ part s i k < 256 ^ k
  | 0, _ => by simp [part]
  | k + 1, h => by
    have h1 := part_range s i k (by omega)
    have h2 := byteN_range s (4 * i + k)
    rw [part, Int.pow_succ]
    omega
theorem or_byte (x c : Int) (h0 : 0 ≤ x) (h1 : x < 16777216) (c0 : 0 ≤ c) (c1 : c ≤ 255) : bits .or .u32 (x * 256) (c % 4294967296) = x * 256 + c := by
  obtain ⟨n, rfl⟩ := Int.eq_ofNat_of_zero_le h0
  obtain ⟨m, rfl⟩ := Int.eq_ofNat_of_zero_le c0
  have e1 : (m : Int) % 4294967296 = (m : Int) := by omega
  have hw : ∀ k : Int, 0 ≤ k → k < 2 ^ 32 → IntKind.u32.wrap k = k := fun k h0 h1 => by
    have e : (2 : Int) ^ 32 = 4294967296 := by decide
    rw [e] at h1
    rw [IntKind.wrap_u32]
    omega
  have h := (bits_nat .u32 32 (by decide) hw (n * 256) m (by omega) (by omega)).2
  rw [e1]
  rw [show ((n : Int) * 256) = ((n * 256 : Nat) : Int) by omega, h]
  have h2 := Nat.shiftLeft_add_eq_or_of_lt (b := m) (i := 8) (by omega) n
  rw [Nat.shiftLeft_eq] at h2
  rw [← h2]
  omega
theorem byteN_get (s : ByteArray) (j : Nat) (h : j < s.size) : byteN s j = (s[j].toNat : Int) := by
  have h' : j < s.data.size := h
  unfold byteN
  have e : s.data.getD j 0 = s[j] := by
    unfold Array.getD
    rw [dif_pos h']
    rfl
  rw [e]
/-- The words done and the zeros behind them. -/
def rowI (l : List Int) (n : Nat) : Array Value := wordsA (l ++ List.replicate n 0)
def rowP (l : List Int) (x : Int) (n : Nat) : Array Value := wordsA (l ++ x :: List.replicate n 0)
theorem wordsA_one (l : List Int) : (wordsA l).all (·.oneCell') = true := by
  unfold wordsA
  simp [Value.oneCell']
theorem wordsA_get (l : List Int) (i : Nat) (h : i < l.length) : (wordsA l)[i]? = some (.int .u32 (l.getD i 0)) := by
  unfold wordsA
  simp [h, List.getD]
theorem wordsA_set (l : List Int) (i : Nat) (x : Int) : (wordsA l).setIfInBounds i (.int .u32 x) = wordsA (l.set i x) := by
  unfold wordsA
  simp [List.map_set]
theorem rowP_get (l : List Int) (x : Int) (n : Nat) : (rowP l x n)[l.length]? = some (.int .u32 x) := by
  unfold rowP
  rw [wordsA_get _ _ (by simp)]
  simp [List.getD]
theorem rowP_old (l : List Int) (x : Int) (n i : Nat) (h : i < l.length) : (rowP l x n)[i]? = some (.int .u32 (l.getD i 0)) := by
  unfold rowP
  rw [wordsA_get _ _ (by simp; omega)]
  simp [List.getD, List.getElem?_append_left h]
theorem rowP_set (l : List Int) (x y : Int) (n : Nat) : (rowP l x n).setIfInBounds l.length (.int .u32 y) = rowP l y n := by
  unfold rowP
  rw [wordsA_set]
  simp
theorem rowI_P (l : List Int) (n : Nat) : rowI l (n + 1) = rowP l 0 n := by
  unfold rowI rowP
  rw [List.replicate_succ]
theorem rowP_I (l : List Int) (x : Int) (n : Nat) : rowP l x n = rowI (l ++ [x]) n := by
  unfold rowI rowP
  simp
attribute [local irreducible] Sep rowT boxT wordsA rowI rowP cellAt
set_option maxHeartbeats 2000000 in
set_option maxRecDepth 100000 in
theorem schedule_calls (s : ByteArray) (hs : s.size = 64) (w : World) :
    Calls Try.prog 97 #[.string s] w fun e w' => e = .returned (.agg (wordsA (sched s))) ∧ Below w.heap.size w w' := by
  have S := Aside0.mk (((SepT.start w).allocBox wordsZ 106).allocBox wordsZ 106)
  simp only [World.size_alloc] at S
  have HS := Aside0.mk hs
  clear hs
  go_enter Try.func97, Try.ntmps97
  apply wp_seq_k; intro K0 hK0
  apply wp_region_lit
  refine wpList_allocTo rfl (some 2) rfl _ _ (new64 106 rfl _ _ rfl _) ?_
  apply wpList_nil
  refine hK0 _ _ ?_
  clear hK0 K0
  apply wp_seq_k; intro K0 hK0
  apply wp_region_lit
  refine wpList_allocTo rfl (some 3) rfl _ _ (new64 106 rfl _ _ rfl _) ?_
  apply wpList_nil
  refine hK0 _ _ ?_
  clear hK0 K0
  simp only [World.size_alloc]
  generalize hW : (w.alloc _).alloc _ = W at S ⊢
  generalize hb : w.heap.size = b at S ⊢
  have HBS := Aside0.mk hb
  clear hW hb
  have S1 := Aside0.mk (show SepT w W [boxT (b + 1) (rowI (schedTo s 0) 64) 106, boxT b wordsZ 106] by unfold rowI; exact S.out)
  clear S
  go_wp2
  go_loopw [7] (fun v7 wr => ∃ i : Nat, i ≤ 64 ∧ v7 = .int .i64 i ∧ Aside0 (SepT w wr [boxT (b + 1) (rowI (schedTo s i) (64 - i)) 106, boxT b wordsZ 106])) (fun v7 _ => 64 - (intOf v7).toNat)
  case atStart => exact ⟨0, by omega, rfl, S1⟩
  case round =>
    clear S1
    obtain ⟨i, hi, rfl, S⟩ := hrel
    by_cases hlt : i < 64
    · have hlt2 : (i : Int) < 64 := by omega
      obtain ⟨n, hn⟩ : ∃ n, 64 - i = n + 1 := ⟨63 - i, by omega⟩
      have hl := schedTo_length s i
      rw [hn, rowI_P] at S
      have HN := Aside0.mk hn
      have HL := Aside0.mk hl
      clear hn hl
      by_cases h16 : i < 16
      · have h16' : (i : Int) < 16 := by omega
        go_wp2
        go_loopw [12] (fun v12 wr => ∃ k : Nat, k ≤ 4 ∧ v12 = .int .i64 k ∧ Aside0 (SepT w wr [boxT (b + 1) (rowP (schedTo s i) (part s i k) n) 106, boxT b wordsZ 106])) (fun v12 _ => 4 - (intOf v12).toNat)
        case atStart => exact ⟨0, by omega, rfl, S⟩
        case round =>
          clear S
          obtain ⟨k, hk, rfl, S⟩ := hrel
          by_cases hk4 : k < 4
          · have hk5 : (k : Int) < 4 := by omega
            have xb := (SepT.box S.out m0).1
            have y0 := (blk_cell xb (schedTo s i).length).trans (rowP_get _ _ _)
            have e0 := blk_frozen xb (schedTo s i).length
            have hbl := blk_lt xb
            rw [HL.out] at y0 e0
            have hr := part_range s i k (by omega)
            have hp : (256 : Int) ^ k ≤ 16777216 := by
              have : k = 0 ∨ k = 1 ∨ k = 2 ∨ k = 3 := by omega
              rcases this with rfl | rfl | rfl | rfl <;> decide
            obtain ⟨x, hx⟩ : ∃ x, part s i k = x := ⟨_, rfl⟩
            rw [hx] at y0 hr
            have hx0 : 0 ≤ x := hr.1
            have hx1 : x < 16777216 := by omega
            have HX := Aside0.mk hx
            clear hr hp hx xb
            have hsz : 4 * (i : Int) + k < s.size := by have := HS.out; omega
            have hnn : 0 ≤ 4 * (i : Int) + k := by omega
            have hj : 4 * i + k < s.size := by have := HS.out; omega
            have HV : Aside0 (bits .or .u32 (x * 256) ((s[4 * i + k].toNat : Int) % 4294967296) = part s i (k + 1)) := ⟨by
              have := byteN_range s (4 * i + k)
              rw [byteN_get s _ hj] at this
              rw [or_byte x _ hx0 hx1 this.1 this.2, part, HX.out, byteN_get s _ hj]⟩
            have S1 := Aside0.mk (S.out.setBox (schedTo s i).length (.int .u32 (part s i (k + 1)))).drew
            rw [rowP_set, HL.out] at S1
            clear S
            go_wp2
            go_region
            rw [HV.out]
            clear y0 e0
            go_wp2
            go_roundw
            case rel => exact ⟨k + 1, by omega, by go_num, S1⟩
            case measure => simp [intOf]; omega
          · obtain rfl : k = 4 := by omega
            have hi1 : 64 - (i + 1) = n := by have := HN.out; omega
            have S1 := Aside0.mk (show SepT w wr [boxT (b + 1) (rowI (schedTo s (i + 1)) (64 - (i + 1))) 106, boxT b wordsZ 106] by
              rw [hi1, schedTo, if_pos h16, ← rowP_I]
              exact S.out)
            clear S hi1
            go_wp2
            go_roundw
            case rel => exact ⟨i + 1, by omega, by go_num, S1⟩
            case measure => simp [intOf]; omega
      · obtain ⟨j, hj⟩ : ∃ j, i = j + 16 := ⟨i - 16, by omega⟩
        have h16' : (16 : Int) ≤ i := by omega
        obtain ⟨x2, hx2⟩ : ∃ x, (schedTo s i).getD (i - 2) 0 = x := ⟨_, rfl⟩
        obtain ⟨x7, hx7⟩ : ∃ x, (schedTo s i).getD (i - 7) 0 = x := ⟨_, rfl⟩
        obtain ⟨x15, hx15⟩ : ∃ x, (schedTo s i).getD (i - 15) 0 = x := ⟨_, rfl⟩
        obtain ⟨x16, hx16⟩ : ∃ x, (schedTo s i).getD (i - 16) 0 = x := ⟨_, rfl⟩
        have HNX : Aside0 (schedTo s (i + 1) = schedTo s i ++ [IntKind.u32.wrap (IntKind.u32.wrap (IntKind.u32.wrap (mixs x2 17 19 10 + x7) + mixs x15 7 18 3) + x16)]) := ⟨by
          rw [schedTo, if_neg h16, nextW, hx2, hx7, hx15, hx16]⟩
        have HK : Aside0 (∀ (V : World) (ts : List Th) (x : Int), SepT w V ts → boxT (b + 1) (rowP (schedTo s i) x n) 106 ∈ ts → V.cell? ⟨b + 1, i - 2, none⟩ = some (.int .u32 x2) ∧ V.cell? ⟨b + 1, i - 7, none⟩ = some (.int .u32 x7) ∧ V.cell? ⟨b + 1, i - 15, none⟩ = some (.int .u32 x15) ∧ V.cell? ⟨b + 1, i - 16, none⟩ = some (.int .u32 x16) ∧ V.cell? ⟨b + 1, i, none⟩ = some (cellAt V ⟨b + 1, i, none⟩) ∧ V.frozen? ⟨b + 1, i, none⟩ = false) := ⟨fun V ts x h hm => by
          have xb := (SepT.box h hm).1
          have g := fun k (hk : k < i) => (blk_cell xb k).trans (rowP_old (schedTo s i) x n k (by rw [HL.out]; exact hk))
          refine ⟨by rw [← hx2]; exact g _ (by omega), by rw [← hx7]; exact g _ (by omega), by rw [← hx15]; exact g _ (by omega), by rw [← hx16]; exact g _ (by omega), ?_, blk_frozen xb i⟩
          have := (blk_cell xb (schedTo s i).length).trans (rowP_get _ _ _)
          rw [HL.out] at this
          exact cellAt_of this⟩
        have HST : Aside0 (∀ (V : World) (ts : List Th) (x y : Int), SepT w V (boxT (b + 1) (rowP (schedTo s i) x n) 106 :: ts) → SepT w (V.setCell ⟨b + 1, i, none⟩ (.int .u32 y)) (boxT (b + 1) (rowP (schedTo s i) y n) 106 :: ts)) := ⟨fun V ts x y h => by
          have h1 := h.setBox (schedTo s i).length (.int .u32 y)
          rw [rowP_set, HL.out] at h1
          exact h1⟩
        clear hx2 hx7 hx15 hx16 hj
        obtain ⟨i2, hi2⟩ : ∃ q, i - 2 = q := ⟨_, rfl⟩
        have w2 : IntKind.i64.wrap ((i : Int) - 2) = (i2 : Int) := by rw [IntWalk.i64_in _ (by omega)]; omega
        have v2 : (i2 : Int) < 64 := by omega
        have v2' : i2 < 64 := by omega
        rw [hi2] at HK
        obtain ⟨i7, hi7⟩ : ∃ q, i - 7 = q := ⟨_, rfl⟩
        have w7 : IntKind.i64.wrap ((i : Int) - 7) = (i7 : Int) := by rw [IntWalk.i64_in _ (by omega)]; omega
        have v7 : (i7 : Int) < 64 := by omega
        have v7' : i7 < 64 := by omega
        rw [hi7] at HK
        obtain ⟨i15, hi15⟩ : ∃ q, i - 15 = q := ⟨_, rfl⟩
        have w15 : IntKind.i64.wrap ((i : Int) - 15) = (i15 : Int) := by rw [IntWalk.i64_in _ (by omega)]; omega
        have v15 : (i15 : Int) < 64 := by omega
        have v15' : i15 < 64 := by omega
        rw [hi15] at HK
        obtain ⟨i16, hi16⟩ : ∃ q, i - 16 = q := ⟨_, rfl⟩
        have w16 : IntKind.i64.wrap ((i : Int) - 16) = (i16 : Int) := by rw [IntWalk.i64_in _ (by omega)]; omega
        have v16 : (i16 : Int) < 64 := by omega
        have v16' : i16 < 64 := by omega
        rw [hi16] at HK
        clear hi2 hi7 hi15 hi16
        go_upto_region 12 with fail
        have S1 := Aside0.mk S.out.drew
        clear S
        have S := S1
        clear S1
        go_region_held3 (fun V => V.cell? ⟨b + 1, i2, none⟩ = some (.int .u32 x2) ∧ V.cell? ⟨b + 1, i7, none⟩ = some (.int .u32 x7) ∧ V.cell? ⟨b + 1, i15, none⟩ = some (.int .u32 x15) ∧ V.cell? ⟨b + 1, i16, none⟩ = some (.int .u32 x16) ∧ V.cell? ⟨b + 1, i, none⟩ = some (cellAt V ⟨b + 1, i, none⟩) ∧ V.frozen? ⟨b + 1, i, none⟩ = false) (first | exact HK.out _ _ _ S.out m0 | exact HK.out _ _ _ (HST.out _ _ _ _ S.out) m0)
          (first
            | (go_at_call 110; have hc := mixs_S S.out x2 17 19 10 (by omega); go_fit hc; clear hc; rintro e V ⟨rfl, hs⟩; clear S; have S := Aside0.mk hs; clear hs)
            | (go_at_call 110; have hc := mixs_S S.out x15 7 18 3 (by omega); go_fit hc; clear hc; rintro e V2 ⟨rfl, hs⟩; clear S; have S := Aside0.mk hs; clear hs))
        have hi1 : 64 - (i + 1) = n := by have := HN.out; omega
        have S1 := Aside0.mk (show SepT w _ [boxT (b + 1) (rowI (schedTo s (i + 1)) (64 - (i + 1))) 106, boxT b wordsZ 106] by
          rw [hi1, HNX.out, ← rowP_I]
          exact HST.out _ _ _ (IntKind.u32.wrap (IntKind.u32.wrap (IntKind.u32.wrap (mixs x2 17 19 10 + x7) + mixs x15 7 18 3) + x16)) S.out)
        clear S hi1 w2 w7 w15 w16
        go_wp2
        go_roundw
        case rel => exact ⟨i + 1, by omega, by go_num, S1⟩
        case measure => simp [intOf]; omega
    · obtain rfl : i = 64 := by omega
      clear hlt
      go_upto_region 14 with fail
      have h3 := (SepT.box S.out m0).1
      have h2 := (SepT.box S.out m1).1
      have hr : rowI (schedTo s 64) (64 - 64) = wordsA (sched s) := by unfold rowI sched; simp
      rw [hr] at h3
      apply wp_region_lit
      have hsz : (wordsA (sched s)).size = 64 := by unfold wordsA sched; simp [schedTo_length]
      have hsz2 : wordsZ.size = 64 := by unfold wordsZ wordsA; simp
      refine wpList_load_row rfl _ _ rfl (b + 1) rfl 106 _ (0, 0) _ h3 Try.underlying106 rfl (by rw [hsz]; exact info106) ?_
      refine wpList_store_row rfl _ _ _ rfl b (wordsA (sched s)) rfl rfl 106 _ h2 (by rw [hsz]; exact info106) (by rw [hsz, hsz2]) (wordsA_one _) ?_
      apply wpList_nil
      have S1 := Aside0.mk (S.out.swap.setRow (wordsA (sched s)))
      clear S h2 h3
      go_wp2
      have hy := (SepT.box S1.out m0).1
      refine bodyPost_ret (results_cell_row rfl _ _ b 106 (wordsA (sched s)) (0, 0) _ rfl hy Try.underlying106 rfl (by rw [hsz]; exact info106)) rfl ?_
      have hbb := Sep.base S1.out
      rw [HBS.out] at hbb
      exact ⟨rfl, hbb⟩
end Go.Proofs.Ytiafadmkkehdnaa.Sh
namespace Go.Proofs.Ytiafadmkkehdnaa.Sh
open Go.RowKit Go.Great Go.Proofs.YtiafadmkkehdnaaW.PrintWords Go.Proofs.YtiafadmkkehdnaaW.PrintMore
set_option linter.unusedVariables false


theorem gate_op {P : Program} {ops : Array Oper} {rest : List Oper} {o : Oper} {a : Act} {Q : Exit → Act → World → Prop} {W : World} (h : wpList P ops Q (o :: rest) a W) : wpList P ops Q (o :: rest) a W := h
/-- The eight words of a state. -/
structure H8 where
  a : Int
  b : Int
  c : Int
  d : Int
  e : Int
  f : Int
  g : Int
  h : Int
def cells8 (s : H8) : Array Value := #[.int .u32 s.a, .int .u32 s.b, .int .u32 s.c, .int .u32 s.d, .int .u32 s.e, .int .u32 s.f, .int .u32 s.g, .int .u32 s.h]
def hcells (s : H8) (rest : ByteArray) (n : Int) : Array Value := #[.int .u32 s.a, .int .u32 s.b, .int .u32 s.c, .int .u32 s.d, .int .u32 s.e, .int .u32 s.f, .int .u32 s.g, .int .u32 s.h, .string rest, .int .u64 n]
theorem constants_S {w0 w : World} {ts : List Th} (h : SepT w0 w ts) : Calls Try.prog 98 #[] w fun e w' => e = .returned (.agg (wordsA ks)) ∧ SepT w0 w' ts := by
  refine (constants_calls w).mono ?_
  rintro e w1 ⟨rfl, hb⟩
  exact ⟨rfl, h.below hb⟩
theorem schedule_S {w0 w : World} {ts : List Th} (h : SepT w0 w ts) (s : ByteArray) (hs : s.size = 64) : Calls Try.prog 97 #[.string s] w fun e w' => e = .returned (.agg (wordsA (sched s))) ∧ SepT w0 w' ts := by
  refine (schedule_calls s hs w).mono ?_
  rintro e w1 ⟨rfl, hb⟩
  exact ⟨rfl, h.below hb⟩
theorem v_cells {w0 V : World} {ts : List Th} {b : Nat} {v : H8} (h : SepT w0 V ts) (hm : boxT b (cells8 v) 92 ∈ ts) : V.cell? ⟨b, 0, none⟩ = some (.int .u32 v.a) ∧ V.cell? ⟨b, 1, none⟩ = some (.int .u32 v.b) ∧ V.cell? ⟨b, 2, none⟩ = some (.int .u32 v.c) ∧ V.cell? ⟨b, 3, none⟩ = some (.int .u32 v.d) ∧ V.cell? ⟨b, 4, none⟩ = some (.int .u32 v.e) ∧ V.cell? ⟨b, 5, none⟩ = some (.int .u32 v.f) ∧ V.cell? ⟨b, 6, none⟩ = some (.int .u32 v.g) ∧ V.cell? ⟨b, 7, none⟩ = some (.int .u32 v.h) := by
  have xb := (SepT.box h hm).1
  exact ⟨(blk_cell xb 0).trans rfl, (blk_cell xb 1).trans rfl, (blk_cell xb 2).trans rfl, (blk_cell xb 3).trans rfl, (blk_cell xb 4).trans rfl, (blk_cell xb 5).trans rfl, (blk_cell xb 6).trans rfl, (blk_cell xb 7).trans rfl⟩
theorem v_free {w0 V : World} {ts : List Th} {b t : Nat} {cs : Array Value} (h : SepT w0 V ts) (hm : boxT b cs t ∈ ts) (i : Nat) : V.frozen? ⟨b, i, none⟩ = false := blk_frozen (SepT.box h hm).1 i
theorem words_cell {w0 V : World} {ts : List Th} {b t : Nat} {l : List Int} (h : SepT w0 V ts) (hm : boxT b (wordsA l) t ∈ ts) (i : Nat) (hi : i < l.length) {x : Int} (hx : l.getD i 0 = x) : V.cell? ⟨b, i, none⟩ = some (.int .u32 x) := by
  rw [← hx]
  exact (blk_cell (SepT.box h hm).1 i).trans (wordsA_get _ _ hi)
theorem mix3' (x a b c : Int) (a1 : 1 ≤ a ∧ a ≤ 31 ∧ 1 ≤ b ∧ b ≤ 31 ∧ 1 ≤ c ∧ c ≤ 31) (w : World) :
    Calls Try.prog 95 #[.int .u32 x, .int .i64 a, .int .i64 b, .int .i64 c] w fun e w' => e = .returned (.int .u32 (mix3 x a b c)) ∧ w' = w :=
  (mix3_calls x a b c a1.1 a1.2.1 a1.2.2.1 a1.2.2.2.1 a1.2.2.2.2.1 a1.2.2.2.2.2 w).mono (fun _ _ h => ⟨h.1, h.2.symm⟩)
def first8 (k w : Int) (v : H8) : Int := v.h + mix3 v.e 6 11 25 + bits .xor .u32 (bits .and .u32 v.e v.f) (bits .and .u32 (bits .xor .u32 4294967295 v.e) v.g) + k + w
def second8 (v : H8) : Int := mix3 v.a 2 13 22 + bits .xor .u32 (bits .xor .u32 (bits .and .u32 v.a v.b) (bits .and .u32 v.a v.c)) (bits .and .u32 v.b v.c)
/-- A step. -/
def step8 (k w : Int) (v : H8) : H8 := ⟨(first8 k w v + second8 v) % 4294967296, v.a, v.b, v.c, (v.d + first8 k w v) % 4294967296, v.e, v.f, v.g⟩
def rounds (k w : List Int) : Nat → H8 → H8
  | 0, s => s
  | i + 1, s => step8 (k.getD i 0) (w.getD i 0) (rounds k w i s)
def add8 (s v : H8) : H8 := ⟨(s.a + v.a) % 4294967296, (s.b + v.b) % 4294967296, (s.c + v.c) % 4294967296, (s.d + v.d) % 4294967296, (s.e + v.e) % 4294967296, (s.f + v.f) % 4294967296, (s.g + v.g) % 4294967296, (s.h + v.h) % 4294967296⟩
def addTo (z : Int) (s v : H8) : H8 := ⟨if 0 < z then (s.a + v.a) % 4294967296 else s.a, if 1 < z then (s.b + v.b) % 4294967296 else s.b, if 2 < z then (s.c + v.c) % 4294967296 else s.c, if 3 < z then (s.d + v.d) % 4294967296 else s.d, if 4 < z then (s.e + v.e) % 4294967296 else s.e, if 5 < z then (s.f + v.f) % 4294967296 else s.f, if 6 < z then (s.g + v.g) % 4294967296 else s.g, if 7 < z then (s.h + v.h) % 4294967296 else s.h⟩
/-- The state behind a block. -/
def compress (s : H8) (block : ByteArray) : H8 := add8 s (rounds ks (sched block) 64 s)
theorem store8 {w0 V : World} {ts : List Th} {b : Nat} {v : H8} (h : SepT w0 V (boxT b (cells8 v) 92 :: ts)) (u : H8) :
    SepT w0 ((((((((V.setCell ⟨b, 0, none⟩ (.int .u32 u.a)).setCell ⟨b, 1, none⟩ (.int .u32 u.b)).setCell ⟨b, 2, none⟩ (.int .u32 u.c)).setCell ⟨b, 3, none⟩ (.int .u32 u.d)).setCell ⟨b, 4, none⟩ (.int .u32 u.e)).setCell ⟨b, 5, none⟩ (.int .u32 u.f)).setCell ⟨b, 6, none⟩ (.int .u32 u.g)).setCell ⟨b, 7, none⟩ (.int .u32 u.h)) (boxT b (cells8 u) 92 :: ts) := by
  have h8 := (((((((h.setBox 0 (.int .u32 u.a)).setBox 1 (.int .u32 u.b)).setBox 2 (.int .u32 u.c)).setBox 3 (.int .u32 u.d)).setBox 4 (.int .u32 u.e)).setBox 5 (.int .u32 u.f)).setBox 6 (.int .u32 u.g)).setBox 7 (.int .u32 u.h)
  have e : ((((((((cells8 v).setIfInBounds 0 (.int .u32 u.a)).setIfInBounds 1 (.int .u32 u.b)).setIfInBounds 2 (.int .u32 u.c)).setIfInBounds 3 (.int .u32 u.d)).setIfInBounds 4 (.int .u32 u.e)).setIfInBounds 5 (.int .u32 u.f)).setIfInBounds 6 (.int .u32 u.g)).setIfInBounds 7 (.int .u32 u.h) = cells8 u := by
    simp only [cells8, List.setIfInBounds_toArray, List.set_cons_zero, List.set_cons_succ]
  rw [e] at h8
  exact h8
theorem mix3_S {w0 w : World} {ts : List Th} (h : SepT w0 w ts) (x a b c : Int) (a1 : 1 ≤ a ∧ a ≤ 31 ∧ 1 ≤ b ∧ b ≤ 31 ∧ 1 ≤ c ∧ c ≤ 31) :
    Calls Try.prog 95 #[.int .u32 x, .int .i64 a, .int .i64 b, .int .i64 c] w fun e w' => e = .returned (.int .u32 (mix3 x a b c)) ∧ w = w' :=
  mix3_calls x a b c a1.1 a1.2.1 a1.2.2.1 a1.2.2.2.1 a1.2.2.2.2.1 a1.2.2.2.2.2 w
theorem ks_length : ks.length = 64 := by decide
theorem sched_length (s : ByteArray) : (sched s).length = 64 := schedTo_length s 64
theorem wordsA_size (l : List Int) : (wordsA l).size = l.length := by unfold wordsA; simp
attribute [local irreducible] Sep rowT boxT wordsA cellAt ks sched wordsZ
set_option maxHeartbeats 2000000 in
set_option maxRecDepth 100000 in
theorem add_S {w0 w : World} {ts : List Th} {g : Nat} {s : H8} {rest : ByteArray} {total : Int} (S0 : SepT w0 w (boxT g (hcells s rest total) 94 :: ts)) (block : ByteArray) (hb : block.size = 64) :
    Calls Try.prog 74 #[.pointer (some ⟨g, 0, none⟩), .string block] w fun e w' => e = .returned (.tuple #[]) ∧ SepT w0 w' (boxT g (hcells (compress s block) rest total) 94 :: ts) := by
  have S := Aside0.mk S0
  clear S0
  have HB := Aside0.mk hb
  clear hb
  have ik : (Try.prog.info? 106).map (·.size) = some (wordsA ks).size := by rw [wordsA_size, ks_length]; exact info106
  have is : (Try.prog.info? 106).map (·.size) = some (wordsA (sched block)).size := by rw [wordsA_size, sched_length]; exact info106
  have hk64 : wordsZ.size = (wordsA ks).size := by rw [wordsA_size, ks_length]; unfold wordsZ; rw [wordsA_size]; simp
  have hs64 : wordsZ.size = (wordsA (sched block)).size := by rw [wordsA_size, sched_length]; unfold wordsZ; rw [wordsA_size]; simp
  have HZ := Aside0.mk (And.intro ik (And.intro is (And.intro hk64 hs64)))
  clear ik is hk64 hs64
  go_enter Try.func74, Try.ntmps74
  go_upto_region 2 with (first
    | (go_at_call 97; have hc := schedule_S S.out block HB.out; go_fit hc; clear hc; rintro e w1 ⟨rfl, hs⟩; clear S; have S := Aside0.mk hs; clear hs)
    | (go_at_call 98; have hc := constants_S S.out; go_fit hc; clear hc; rintro e w2 ⟨rfl, hs⟩; clear S; have S := Aside0.mk hs; clear hs)
    | ((with_reducible refine gate_op (o := ⟨some 5, .alloc 106, _, _, _, _⟩) ?_); refine wpList_allocTo rfl (some 5) rfl _ _ (new64 106 rfl _ _ rfl _) ?_; have S1 := Aside0.mk (S.out.allocBox wordsZ 106); clear S; have S := S1; clear S1)
    | ((with_reducible refine gate_op (o := ⟨some 6, .alloc 106, _, _, _, _⟩) ?_); refine wpList_allocTo rfl (some 6) rfl _ _ (new64 106 rfl _ _ rfl _) ?_; have S1 := Aside0.mk (S.out.allocBox wordsZ 106); clear S; have S := S1; clear S1; simp only [World.size_alloc] at S ⊢)
    | ((with_reducible refine gate_op (o := ⟨none, .store 106 (.tmp 5) (.tmp 20), _, _, _, _⟩) ?_); refine wpList_store_row rfl 106 (.tmp 5) (.tmp 20) rfl w2.heap.size (wordsA (sched block)) rfl rfl 106 wordsZ (SepT.box S.out m1).1 HZ.out.2.1 HZ.out.2.2.2 (wordsA_one _) ?_; have S1 := Aside0.mk (S.out.swap.setRow (wordsA (sched block))).swap; clear S; have S := S1; clear S1)
    | ((with_reducible refine gate_op (o := ⟨none, .store 106 (.tmp 6) (.tmp 21), _, _, _, _⟩) ?_); refine wpList_store_row rfl 106 (.tmp 6) (.tmp 21) rfl (w2.heap.size + 1) (wordsA ks) rfl rfl 106 wordsZ (SepT.box S.out m0).1 HZ.out.1 HZ.out.2.2.1 (wordsA_one _) ?_; have S1 := Aside0.mk (S.out.setRow (wordsA ks)); clear S; have S := S1; clear S1))
  generalize World.setRow (World.setRow _ _ _) _ _ = W at S ⊢
  generalize w2.heap.size = b5 at S ⊢
  have xg := (SepT.box S.out m2).1
  have z0 : W.cell? ⟨g, 0, none⟩ = some (.int .u32 s.a) := (blk_cell xg 0).trans rfl
  have z1 : W.cell? ⟨g, 1, none⟩ = some (.int .u32 s.b) := (blk_cell xg 1).trans rfl
  have z2 : W.cell? ⟨g, 2, none⟩ = some (.int .u32 s.c) := (blk_cell xg 2).trans rfl
  have z3 : W.cell? ⟨g, 3, none⟩ = some (.int .u32 s.d) := (blk_cell xg 3).trans rfl
  have z4 : W.cell? ⟨g, 4, none⟩ = some (.int .u32 s.e) := (blk_cell xg 4).trans rfl
  have z5 : W.cell? ⟨g, 5, none⟩ = some (.int .u32 s.f) := (blk_cell xg 5).trans rfl
  have z6 : W.cell? ⟨g, 6, none⟩ = some (.int .u32 s.g) := (blk_cell xg 6).trans rfl
  have z7 : W.cell? ⟨g, 7, none⟩ = some (.int .u32 s.h) := (blk_cell xg 7).trans rfl
  clear xg
  have S1 := Aside0.mk (S.out.allocBox (cells8 s) 92)
  clear S
  go_wp2
  clear z0 z1 z2 z3 z4 z5 z6 z7
  generalize hb7 : W.heap.size = b7 at S1 ⊢
  have S := Aside0.mk (show SepT w0 (W.alloc (.cells #[.int .u32 s.a, .int .u32 s.b, .int .u32 s.c, .int .u32 s.d, .int .u32 s.e, .int .u32 s.f, .int .u32 s.g, .int .u32 s.h] 92)) _ from S1.out)
  clear S1 hb7
  generalize World.alloc _ _ = W1 at S ⊢
  go_loopw [26] (fun v26 wr => ∃ (i : Nat) (v : H8), i ≤ 64 ∧ v26 = .int .i64 i ∧ Aside0 (v = rounds ks (sched block) i s) ∧ Aside0 (SepT w0 wr (boxT b7 (cells8 v) 92 :: boxT (b5 + 1) (wordsA ks) 106 :: boxT b5 (wordsA (sched block)) 106 :: boxT g (hcells s rest total) 94 :: ts))) (fun v26 _ => 64 - (intOf v26).toNat)
  case atStart => exact ⟨0, s, by omega, rfl, ⟨rfl⟩, S⟩
  case round =>
    clear S
    obtain ⟨i, v, hi, rfl, HV, S⟩ := hrel
    by_cases hlt : i < 64
    · have hlt2 : (i : Int) < 64 := by omega
      obtain ⟨kk, hkk⟩ : ∃ x, ks.getD i 0 = x := ⟨_, rfl⟩
      obtain ⟨ww, hww⟩ : ∃ x, (sched block).getD i 0 = x := ⟨_, rfl⟩
      have HKW := Aside0.mk (And.intro hkk hww)
      clear hkk hww
      obtain ⟨y0, y1, y2, y3, y4, y5, y6, y7⟩ := v_cells S.out m0
      go_wp2
      go_quiet (fail)
      clear y0 y1 y2 y3 y4 y5 y6 y7
      have S1 := Aside0.mk (S.out.drewN nq)
      clear S
      generalize wr.drewN nq = V at S1 ⊢
      obtain ⟨y0, y1, y2, y3, y4, y5, y6, y7⟩ := v_cells S1.out m0
      have yk := words_cell S1.out m1 i (by rw [ks_length]; exact hlt) HKW.out.1
      have yw := words_cell S1.out m2 i (by rw [sched_length]; exact hlt) HKW.out.2
      clear y0 y1 y2 y3 y4 y5 y6
      go_wp2
      go_quiet ((go_at_call 95; with_reducible exact Calls.quiet_of_same (mix3' v.e 6 11 25 (by omega) _)))
      have S2 := Aside0.mk (S1.out.drewN nq)
      clear S1 y7 yk yw
      generalize V.drewN nq = V2 at S2 ⊢
      obtain ⟨y0, y1, y2, y3, y4, y5, y6, y7⟩ := v_cells S2.out m0
      have f0 := v_free S2.out m0 0
      have f1 := v_free S2.out m0 1
      have f2 := v_free S2.out m0 2
      have f3 := v_free S2.out m0 3
      have f4 := v_free S2.out m0 4
      have f5 := v_free S2.out m0 5
      have f6 := v_free S2.out m0 6
      have f7 := v_free S2.out m0 7
      go_wp2_with ((go_at_call 95; ((with_reducible refine (mix3_S S2.out v.a 2 13 22 (by omega)).mono ?_); rintro e w' ⟨rfl, rfl⟩)))
      clear y0 y1 y2 y3 y4 y5 y6 y7 f0 f1 f2 f3 f4 f5 f6 f7
      have S3 := Aside0.mk (store8 S2.out (step8 kk ww v))
      clear S2
      have HV2 : Aside0 (step8 kk ww v = rounds ks (sched block) (i + 1) s) := ⟨by rw [rounds, HKW.out.1, HKW.out.2, ← HV.out]⟩
      go_roundw
      case rel => exact ⟨i + 1, step8 kk ww v, by omega, by go_num, HV2, S3⟩
      case measure => simp [intOf]; omega
    · obtain rfl : i = 64 := by omega
      obtain ⟨y0, y1, y2, y3, y4, y5, y6, y7⟩ := v_cells S.out m0
      have S1 := Aside0.mk (SepT.drop (SepT.drop (SepT.drop S.out)))
      clear S hlt
      go_wp2
      clear y0 y1 y2 y3 y4 y5 y6 y7
      have S2 := Aside0.mk (show SepT w0 wr (boxT g (hcells (addTo 0 s v) rest total) 94 :: ts) from S1.out)
      clear S1
      go_loopw [95] (fun v95 wr => ∃ z : Int, 0 ≤ z ∧ z ≤ 8 ∧ v95 = .int .i64 z ∧ Aside0 (SepT w0 wr (boxT g (hcells (addTo z s v) rest total) 94 :: ts))) (fun v95 _ => 8 - (intOf v95).toNat)
      case atStart => exact ⟨0, by omega, by omega, rfl, S2⟩
      case round =>
        clear S2
        obtain ⟨z, hz0, hz8, rfl, S⟩ := hrel
        have xg := (SepT.box S.out m0).1
        rcases (by omega : z = 0 ∨ z = 1 ∨ z = 2 ∨ z = 3 ∨ z = 4 ∨ z = 5 ∨ z = 6 ∨ z = 7 ∨ z = 8) with rfl | rfl | rfl | rfl | rfl | rfl | rfl | rfl | rfl
        · have hix : ∀ V : World, (Instr.index 92 (.agg #[.int .u32 v.a, .int .u32 v.b, .int .u32 v.c, .int .u32 v.d, .int .u32 v.e, .int .u32 v.f, .int .u32 v.g, .int .u32 v.h]) (.int .i64 0)).run Try.prog V = .ok (.int .u32 v.a) V := fun _ => by kernel_rfl
          have y : wr.cell? ⟨g, 0, none⟩ = some (.int .u32 s.a) := (blk_cell xg 0).trans rfl
          have e := blk_frozen xg 0
          have S1 := Aside0.mk (show SepT w0 _ (boxT g (hcells (addTo 1 s v) rest total) 94 :: ts) from (S.out.setBox 0 (.int .u32 ((s.a + v.a) % 4294967296))).drew)
          clear xg S
          go_wp2
          go_region
          clear y e hix
          go_wp2
          go_roundw
          case rel => exact ⟨1, by omega, by omega, rfl, S1⟩
          case measure => simp [intOf]
        · have hix : ∀ V : World, (Instr.index 92 (.agg #[.int .u32 v.a, .int .u32 v.b, .int .u32 v.c, .int .u32 v.d, .int .u32 v.e, .int .u32 v.f, .int .u32 v.g, .int .u32 v.h]) (.int .i64 1)).run Try.prog V = .ok (.int .u32 v.b) V := fun _ => by kernel_rfl
          have y : wr.cell? ⟨g, 1, none⟩ = some (.int .u32 s.b) := (blk_cell xg 1).trans rfl
          have e := blk_frozen xg 1
          have S1 := Aside0.mk (show SepT w0 _ (boxT g (hcells (addTo 2 s v) rest total) 94 :: ts) from (S.out.setBox 1 (.int .u32 ((s.b + v.b) % 4294967296))).drew)
          clear xg S
          go_wp2
          go_region
          clear y e hix
          go_wp2
          go_roundw
          case rel => exact ⟨2, by omega, by omega, rfl, S1⟩
          case measure => simp [intOf]
        · have hix : ∀ V : World, (Instr.index 92 (.agg #[.int .u32 v.a, .int .u32 v.b, .int .u32 v.c, .int .u32 v.d, .int .u32 v.e, .int .u32 v.f, .int .u32 v.g, .int .u32 v.h]) (.int .i64 2)).run Try.prog V = .ok (.int .u32 v.c) V := fun _ => by kernel_rfl
          have y : wr.cell? ⟨g, 2, none⟩ = some (.int .u32 s.c) := (blk_cell xg 2).trans rfl
          have e := blk_frozen xg 2
          have S1 := Aside0.mk (show SepT w0 _ (boxT g (hcells (addTo 3 s v) rest total) 94 :: ts) from (S.out.setBox 2 (.int .u32 ((s.c + v.c) % 4294967296))).drew)
          clear xg S
          go_wp2
          go_region
          clear y e hix
          go_wp2
          go_roundw
          case rel => exact ⟨3, by omega, by omega, rfl, S1⟩
          case measure => simp [intOf]
        · have hix : ∀ V : World, (Instr.index 92 (.agg #[.int .u32 v.a, .int .u32 v.b, .int .u32 v.c, .int .u32 v.d, .int .u32 v.e, .int .u32 v.f, .int .u32 v.g, .int .u32 v.h]) (.int .i64 3)).run Try.prog V = .ok (.int .u32 v.d) V := fun _ => by kernel_rfl
          have y : wr.cell? ⟨g, 3, none⟩ = some (.int .u32 s.d) := (blk_cell xg 3).trans rfl
          have e := blk_frozen xg 3
          have S1 := Aside0.mk (show SepT w0 _ (boxT g (hcells (addTo 4 s v) rest total) 94 :: ts) from (S.out.setBox 3 (.int .u32 ((s.d + v.d) % 4294967296))).drew)
          clear xg S
          go_wp2
          go_region
          clear y e hix
          go_wp2
          go_roundw
          case rel => exact ⟨4, by omega, by omega, rfl, S1⟩
          case measure => simp [intOf]
        · have hix : ∀ V : World, (Instr.index 92 (.agg #[.int .u32 v.a, .int .u32 v.b, .int .u32 v.c, .int .u32 v.d, .int .u32 v.e, .int .u32 v.f, .int .u32 v.g, .int .u32 v.h]) (.int .i64 4)).run Try.prog V = .ok (.int .u32 v.e) V := fun _ => by kernel_rfl
          have y : wr.cell? ⟨g, 4, none⟩ = some (.int .u32 s.e) := (blk_cell xg 4).trans rfl
          have e := blk_frozen xg 4
          have S1 := Aside0.mk (show SepT w0 _ (boxT g (hcells (addTo 5 s v) rest total) 94 :: ts) from (S.out.setBox 4 (.int .u32 ((s.e + v.e) % 4294967296))).drew)
          clear xg S
          go_wp2
          go_region
          clear y e hix
          go_wp2
          go_roundw
          case rel => exact ⟨5, by omega, by omega, rfl, S1⟩
          case measure => simp [intOf]
        · have hix : ∀ V : World, (Instr.index 92 (.agg #[.int .u32 v.a, .int .u32 v.b, .int .u32 v.c, .int .u32 v.d, .int .u32 v.e, .int .u32 v.f, .int .u32 v.g, .int .u32 v.h]) (.int .i64 5)).run Try.prog V = .ok (.int .u32 v.f) V := fun _ => by kernel_rfl
          have y : wr.cell? ⟨g, 5, none⟩ = some (.int .u32 s.f) := (blk_cell xg 5).trans rfl
          have e := blk_frozen xg 5
          have S1 := Aside0.mk (show SepT w0 _ (boxT g (hcells (addTo 6 s v) rest total) 94 :: ts) from (S.out.setBox 5 (.int .u32 ((s.f + v.f) % 4294967296))).drew)
          clear xg S
          go_wp2
          go_region
          clear y e hix
          go_wp2
          go_roundw
          case rel => exact ⟨6, by omega, by omega, rfl, S1⟩
          case measure => simp [intOf]
        · have hix : ∀ V : World, (Instr.index 92 (.agg #[.int .u32 v.a, .int .u32 v.b, .int .u32 v.c, .int .u32 v.d, .int .u32 v.e, .int .u32 v.f, .int .u32 v.g, .int .u32 v.h]) (.int .i64 6)).run Try.prog V = .ok (.int .u32 v.g) V := fun _ => by kernel_rfl
          have y : wr.cell? ⟨g, 6, none⟩ = some (.int .u32 s.g) := (blk_cell xg 6).trans rfl
          have e := blk_frozen xg 6
          have S1 := Aside0.mk (show SepT w0 _ (boxT g (hcells (addTo 7 s v) rest total) 94 :: ts) from (S.out.setBox 6 (.int .u32 ((s.g + v.g) % 4294967296))).drew)
          clear xg S
          go_wp2
          go_region
          clear y e hix
          go_wp2
          go_roundw
          case rel => exact ⟨7, by omega, by omega, rfl, S1⟩
          case measure => simp [intOf]
        · have hix : ∀ V : World, (Instr.index 92 (.agg #[.int .u32 v.a, .int .u32 v.b, .int .u32 v.c, .int .u32 v.d, .int .u32 v.e, .int .u32 v.f, .int .u32 v.g, .int .u32 v.h]) (.int .i64 7)).run Try.prog V = .ok (.int .u32 v.h) V := fun _ => by kernel_rfl
          have y : wr.cell? ⟨g, 7, none⟩ = some (.int .u32 s.h) := (blk_cell xg 7).trans rfl
          have e := blk_frozen xg 7
          have S1 := Aside0.mk (show SepT w0 _ (boxT g (hcells (addTo 8 s v) rest total) 94 :: ts) from (S.out.setBox 7 (.int .u32 ((s.h + v.h) % 4294967296))).drew)
          clear xg S
          go_wp2
          go_region
          clear y e hix
          go_wp2
          go_roundw
          case rel => exact ⟨8, by omega, by omega, rfl, S1⟩
          case measure => simp [intOf]
        · have S1 := Aside0.mk (show SepT w0 wr (boxT g (hcells (compress s block) rest total) 94 :: ts) by
            rw [compress, ← HV.out]
            exact S.out)
          clear xg S
          go_wp2
          go_end0
          exact ⟨rfl, S1.out⟩
end Go.Proofs.Ytiafadmkkehdnaa.Sh
namespace Go.Proofs.Ytiafadmkkehdnaa.Sh
open Go.RowKit Go.Great Go.Proofs.YtiafadmkkehdnaaW.PrintWords Go.Proofs.YtiafadmkkehdnaaW.PrintMore
set_option linter.unusedVariables false

def iv : H8 := ⟨1779033703, 3144134277, 1013904242, 2773480762, 1359893119, 2600822924, 528734635, 1541459225⟩
theorem extract_pre (a s : ByteArray) (i j : Nat) (h : j ≤ a.size) : (a ++ s).extract i j = a.extract i j := by
  rw [ByteArray.extract_append, show j - a.size = 0 by omega]
  have e : s.extract (i - a.size) 0 = ByteArray.empty := ByteArray.extract_eq_empty_iff.2 (by omega)
  rw [e]
  simp
theorem extract_suf (a s : ByteArray) (i : Nat) (h : i ≤ a.size) : (a ++ s).extract i (a ++ s).size = a.extract i a.size ++ s := by
  rw [ByteArray.extract_append, ByteArray.size_append]
  apply ByteArray.ext
  simp only [ByteArray.data_append, ByteArray.data_extract]
  have e1 : a.data.extract i (a.size + s.size) = a.data.extract i a.size := by
    apply Array.ext
    · simp only [Array.size_extract]
      show min (a.size + s.size) a.size - i = min a.size a.size - i
      omega
    · intro k h1 h2
      simp
  have e2 : s.data.extract (i - a.size) (a.size + s.size - a.size) = s.data := by
    rw [show i - a.size = 0 by omega, show a.size + s.size - a.size = s.size by omega]
    exact Array.extract_size
  rw [e1, e2]
/-- The state behind i blocks. -/
def stAt (b : ByteArray) : Nat → H8
  | 0 => iv
  | i + 1 => compress (stAt b i) (b.extract (64 * i) (64 * i + 64))
def stOf (b : ByteArray) : H8 := stAt b (b.size / 64)
def restOf (b : ByteArray) : ByteArray := b.extract (64 * (b.size / 64)) b.size
/-- A state to which the bytes b were written. -/
def hashT (g : Nat) (b : ByteArray) : Th := boxT g (hcells (stOf b) (restOf b) (b.size : Nat)) 94
theorem stAt_pre (a s : ByteArray) : ∀ i, 64 * i ≤ a.size → stAt (a ++ s) i = stAt a i
  | 0, _ => rfl
  | i + 1, h => by
    rw [stAt, stAt, stAt_pre a s i (by omega)]
    congr 1
    exact extract_pre a s _ _ (by omega)
theorem hash_new : hcells iv ⟨#[]⟩ 0 = hcells (stOf ⟨#[]⟩) (restOf ⟨#[]⟩) ((⟨#[]⟩ : ByteArray).size : Nat) := by
  rfl
attribute [local irreducible] Sep rowT boxT wordsA cellAt ks sched wordsZ
set_option maxRecDepth 100000 in
theorem New_S {w0 w : World} {ts : List Th} (S0 : SepT w0 w ts) :
    Calls Try.prog 37 #[] w fun e w' => ∃ g, e = .returned (.pointer (some ⟨g, 0, none⟩)) ∧ SepT w0 w' (hashT g ⟨#[]⟩ :: ts) := by
  have S := Aside0.mk S0
  clear S0
  go_enter Try.func37, Try.ntmps37
  go_wp2
  have S1 := Aside0.mk (S.out.allocBox (hcells iv ⟨#[]⟩ 0) 94)
  go_ret
  refine ⟨_, rfl, ?_⟩
  unfold hashT
  rw [← hash_new]
  exact S1.out
theorem strclone_S {w0 w : World} {ts : List Th} (h : SepT w0 w ts) (s : ByteArray) (hs : s.size ≤ 140737488351232) :
    Calls Try.prog 75 #[.string s] w fun e w' => e = .returned (.string s) ∧ SepT w0 w' ts := by
  have S := Aside0.mk h
  clear h
  go_enter Try.func75, Try.ntmps75
  go_wp2_with (go_at_call 99; (with_reducible refine (Try.stringslite_Clone s _ (by omega)).mono ?_); rintro e w1 ⟨rfl, hb⟩; have S1 := Aside0.mk (S.out.below hb); clear S hb)
  go_ret
  exact ⟨rfl, S1.out⟩
set_option maxHeartbeats 2000000 in
set_option maxRecDepth 100000 in
theorem Write_S {w0 w : World} {ts : List Th} {g : Nat} {b : ByteArray} (S0 : SepT w0 w (hashT g b :: ts)) (s : ByteArray) (hn : b.size + s.size ≤ 140737488351232) :
    Calls Try.prog 38 #[.pointer (some ⟨g, 0, none⟩), .string s] w fun e w' => e = .returned (.tuple #[]) ∧ SepT w0 w' (hashT g (b ++ s) :: ts) := by
  obtain ⟨c, hc⟩ : ∃ c, b ++ s = c := ⟨_, rfl⟩
  rw [hc]
  obtain ⟨n, hcn⟩ : ∃ n, c.size = n := ⟨_, rfl⟩
  have hcs : c.size = b.size + s.size := by rw [← hc, ByteArray.size_append]
  obtain ⟨m, hm⟩ : ∃ m, b.size / 64 = m := ⟨_, rfl⟩
  have hst : stOf b = stAt c m := by
    unfold stOf
    rw [hm, ← hc, stAt_pre b s m (by omega)]
  have hrs : restOf b ++ s = c.extract (64 * m) n := by
    unfold restOf
    rw [hm, ← hcn, ← hc, extract_suf b s (64 * m) (by omega)]
  have S1 : SepT w0 w (boxT g (hcells (stAt c m) (restOf b) (b.size : Nat)) 94 :: ts) := by
    rw [← hst]
    exact S0
  clear S0
  have S := Aside0.mk S1
  clear S1
  have xg := (SepT.box S.out m0).1
  have z8 : w.cell? ⟨g, 8, none⟩ = some (.string (restOf b)) := (blk_cell xg 8).trans rfl
  have z9 : w.cell? ⟨g, 9, none⟩ = some (.int .u64 (b.size : Nat)) := (blk_cell xg 9).trans rfl
  have f9 := blk_frozen xg 9
  clear xg
  have hbs : (b.size : Int) + s.size ≤ 140737488351232 := by omega
  have S1 := Aside0.mk (S.out.setBox 9 (.int .u64 ((b.size : Int) + s.size)))
  clear S
  have S := Aside0.mk (show SepT w0 _ (boxT g (hcells (stAt c m) (restOf b) ((b.size : Int) + s.size)) 94 :: ts) from S1.out)
  clear S1
  have HC := Aside0.mk (And.intro hcs (And.intro hcn (And.intro hm hrs)))
  have hrsz : (restOf b).size ≤ 64 := by unfold restOf; rw [ByteArray.size_extract]; omega
  clear hcs hcn hm hrs hst hc
  go_enter Try.func38, Try.ntmps38
  go_wp2
  clear z8 z9 f9
  rw [HC.out.2.2.2]
  generalize World.setCell _ _ _ = W at S ⊢
  go_loopw [1] (fun v1 wr => ∃ (i : Nat) (X : ByteArray), m ≤ i ∧ 64 * i ≤ n ∧ v1 = .string X ∧ Aside0 (X = c.extract (64 * i) n) ∧ Aside0 (SepT w0 wr (boxT g (hcells (stAt c i) (restOf b) ((b.size : Int) + s.size)) 94 :: ts))) (fun v1 _ => match v1 with | .string X => X.size | _ => 0)
  case atStart => exact ⟨m, _, Nat.le_refl _, by have := HC.out; omega, rfl, ⟨rfl⟩, S⟩
  case round =>
    clear S
    obtain ⟨i, X, hmi, hin, rfl, HX, S⟩ := hrel
    have hXs : X.size = n - 64 * i := by rw [HX.out, ByteArray.size_extract]; have := HC.out; omega
    by_cases hlt : 64 * (i + 1) ≤ n
    · have h64 : (64 : Int) ≤ X.size := by omega
      have hX1 : (X.extract 0 64).size = 64 := by rw [ByteArray.size_extract]; omega
      have HE : Aside0 (compress (stAt c i) (X.extract 0 64) = stAt c (i + 1)) := ⟨by
        rw [stAt, HX.out, ByteArray.extract_extract]
        congr 2
        omega⟩
      have HX2 : Aside0 (X.extract 64 X.size = c.extract (64 * (i + 1)) n) := ⟨by
        rw [hXs, HX.out, ByteArray.extract_extract]
        congr 1 <;> omega⟩
      have HXS := Aside0.mk hXs
      clear hXs
      go_wp2_with (go_at_call 74; have hc := add_S S.out (X.extract 0 64) hX1; rw [HE.out] at hc; go_fit hc; clear hc; rintro e w1 ⟨rfl, hs⟩; clear S; have S := Aside0.mk hs; clear hs)
      go_roundw
      case rel => exact ⟨i + 1, _, by omega, by omega, rfl, HX2, S⟩
      case measure => simp [ByteArray.size_extract]; omega
    · have h64 : (X.size : Int) < 64 := by omega
      have hr : X = restOf c := by
        rw [HX.out]
        unfold restOf
        have := HC.out
        rw [this.2.1, show n / 64 = i by omega]
      have hst : stAt c i = stOf c := by
        unfold stOf
        have := HC.out
        rw [this.2.1, show n / 64 = i by omega]
      have hT : ((b.size : Int) + s.size) = (c.size : Nat) := by have := HC.out; omega
      have HF : Aside0 (∀ V ts, SepT w0 V (boxT g (hcells (stAt c i) X ((b.size : Int) + s.size)) 94 :: ts) → SepT w0 V (hashT g c :: ts)) := ⟨fun V ts h => by
        unfold hashT
        rw [hr, hst, hT] at h
        exact h⟩
      have hX47 : X.size ≤ 140737488351232 := by omega
      clear hlt hr hst hT hXs
      go_wp2_with (go_at_call 75; have hc := strclone_S S.out X hX47; go_fit hc; clear hc; rintro e w1 ⟨rfl, hs⟩; clear S; have S := Aside0.mk hs; clear hs; have xg := (SepT.box S.out m0).1; have z8 : w1.cell? ⟨g, 8, none⟩ = some (.string (restOf b)) := (blk_cell xg 8).trans rfl; have f8 := blk_frozen xg 8; clear xg)
      go_end0
      exact ⟨rfl, HF.out _ _ (S.out.setBox 8 (.string X))⟩
end Go.Proofs.Ytiafadmkkehdnaa.Sh
namespace Go.Proofs.Ytiafadmkkehdnaa.Sh
open Go.RowKit Go.Great Go.Proofs.YtiafadmkkehdnaaW.PrintWords Go.Proofs.YtiafadmkkehdnaaW.PrintMore
set_option linter.unusedVariables false

/-- The bytes of a number, as they are written. -/
def numZ (z n : Int) : Array Value := #[.int .u8 (if 0 < z then n / 72057594037927936 else 0), .int .u8 (if 1 < z then n / 281474976710656 % 256 else 0), .int .u8 (if 2 < z then n / 1099511627776 % 256 else 0), .int .u8 (if 3 < z then n / 4294967296 % 256 else 0), .int .u8 (if 4 < z then n / 16777216 % 256 else 0), .int .u8 (if 5 < z then n / 65536 % 256 else 0), .int .u8 (if 6 < z then n / 256 % 256 else 0), .int .u8 (if 7 < z then n % 256 else 0)]
def numL (n : Int) : List Int := [n / 72057594037927936, n / 281474976710656 % 256, n / 1099511627776 % 256, n / 4294967296 % 256, n / 16777216 % 256, n / 65536 % 256, n / 256 % 256, n % 256]
def numB (n : Int) : ByteArray := strOfNums (numL n)
attribute [local irreducible] Sep rowT boxT
set_option maxHeartbeats 2000000 in
set_option maxRecDepth 100000 in
theorem number_S {w0 w : World} {ts : List Th} (S0 : SepT w0 w ts) (n : Int) (h0 : 0 ≤ n) (h1 : n < 18446744073709551616) :
    Calls Try.prog 70 #[.int .u64 n] w fun e w' => e = .returned (.string (numB n)) ∧ SepT w0 w' ts := by
  have S := Aside0.mk (S0.allocBox (numZ 0 n) 104)
  clear S0
  go_enter Try.func70, Try.ntmps70
  go_wp2
  generalize hb : w.heap.size = b at S ⊢
  have S1 := Aside0.mk (show SepT w0 (w.alloc (.cells #[.int .u8 0, .int .u8 0, .int .u8 0, .int .u8 0, .int .u8 0, .int .u8 0, .int .u8 0, .int .u8 0] 104)) _ from S.out)
  clear S hb
  generalize World.alloc _ _ = W at S1 ⊢
  go_loopw [5] (fun v5 wr => ∃ z : Int, 0 ≤ z ∧ z ≤ 8 ∧ v5 = .int .i64 z ∧ Aside0 (SepT w0 wr (boxT b (numZ z n) 104 :: ts))) (fun v5 _ => 8 - (intOf v5).toNat)
  case atStart => exact ⟨0, by omega, by omega, rfl, S1⟩
  case round =>
    clear S1
    obtain ⟨z, hz0, hz8, rfl, S⟩ := hrel
    have xg := (SepT.box S.out m0).1
    rcases (by omega : z = 0 ∨ z = 1 ∨ z = 2 ∨ z = 3 ∨ z = 4 ∨ z = 5 ∨ z = 6 ∨ z = 7 ∨ z = 8) with rfl | rfl | rfl | rfl | rfl | rfl | rfl | rfl | rfl
    · have y : wr.cell? ⟨b, 0, none⟩ = some (.int .u8 0) := (blk_cell xg 0).trans rfl
      have e := blk_frozen xg 0
      have S1 := Aside0.mk (show SepT w0 _ (boxT b (numZ 1 n) 104 :: ts) from (S.out.setBox 0 (.int .u8 (n / 72057594037927936))))
      clear xg S
      go_wp2
      clear y e
      go_roundw
      case rel => exact ⟨1, by omega, by omega, rfl, S1⟩
      case measure => simp [intOf]
    · have y : wr.cell? ⟨b, 1, none⟩ = some (.int .u8 0) := (blk_cell xg 1).trans rfl
      have e := blk_frozen xg 1
      have S1 := Aside0.mk (show SepT w0 _ (boxT b (numZ 2 n) 104 :: ts) from (S.out.setBox 1 (.int .u8 (n / 281474976710656 % 256))))
      clear xg S
      go_wp2
      clear y e
      go_roundw
      case rel => exact ⟨2, by omega, by omega, rfl, S1⟩
      case measure => simp [intOf]
    · have y : wr.cell? ⟨b, 2, none⟩ = some (.int .u8 0) := (blk_cell xg 2).trans rfl
      have e := blk_frozen xg 2
      have S1 := Aside0.mk (show SepT w0 _ (boxT b (numZ 3 n) 104 :: ts) from (S.out.setBox 2 (.int .u8 (n / 1099511627776 % 256))))
      clear xg S
      go_wp2
      clear y e
      go_roundw
      case rel => exact ⟨3, by omega, by omega, rfl, S1⟩
      case measure => simp [intOf]
    · have y : wr.cell? ⟨b, 3, none⟩ = some (.int .u8 0) := (blk_cell xg 3).trans rfl
      have e := blk_frozen xg 3
      have S1 := Aside0.mk (show SepT w0 _ (boxT b (numZ 4 n) 104 :: ts) from (S.out.setBox 3 (.int .u8 (n / 4294967296 % 256))))
      clear xg S
      go_wp2
      clear y e
      go_roundw
      case rel => exact ⟨4, by omega, by omega, rfl, S1⟩
      case measure => simp [intOf]
    · have y : wr.cell? ⟨b, 4, none⟩ = some (.int .u8 0) := (blk_cell xg 4).trans rfl
      have e := blk_frozen xg 4
      have S1 := Aside0.mk (show SepT w0 _ (boxT b (numZ 5 n) 104 :: ts) from (S.out.setBox 4 (.int .u8 (n / 16777216 % 256))))
      clear xg S
      go_wp2
      clear y e
      go_roundw
      case rel => exact ⟨5, by omega, by omega, rfl, S1⟩
      case measure => simp [intOf]
    · have y : wr.cell? ⟨b, 5, none⟩ = some (.int .u8 0) := (blk_cell xg 5).trans rfl
      have e := blk_frozen xg 5
      have S1 := Aside0.mk (show SepT w0 _ (boxT b (numZ 6 n) 104 :: ts) from (S.out.setBox 5 (.int .u8 (n / 65536 % 256))))
      clear xg S
      go_wp2
      clear y e
      go_roundw
      case rel => exact ⟨6, by omega, by omega, rfl, S1⟩
      case measure => simp [intOf]
    · have y : wr.cell? ⟨b, 6, none⟩ = some (.int .u8 0) := (blk_cell xg 6).trans rfl
      have e := blk_frozen xg 6
      have S1 := Aside0.mk (show SepT w0 _ (boxT b (numZ 7 n) 104 :: ts) from (S.out.setBox 6 (.int .u8 (n / 256 % 256))))
      clear xg S
      go_wp2
      clear y e
      go_roundw
      case rel => exact ⟨7, by omega, by omega, rfl, S1⟩
      case measure => simp [intOf]
    · have y : wr.cell? ⟨b, 7, none⟩ = some (.int .u8 0) := (blk_cell xg 7).trans rfl
      have e := blk_frozen xg 7
      have S1 := Aside0.mk (show SepT w0 _ (boxT b (numZ 8 n) 104 :: ts) from (S.out.setBox 7 (.int .u8 (n % 256))))
      clear xg S
      go_wp2
      clear y e
      go_roundw
      case rel => exact ⟨8, by omega, by omega, rfl, S1⟩
      case measure => simp [intOf]
    · have hr : ReadsInt wr .u8 (some ⟨b, 0, none⟩) 8 (numL n) := ⟨rfl, by omega, fun _ => ⟨⟨b, 0, none⟩, rfl, fun j hj => by
        have : j = 0 ∨ j = 1 ∨ j = 2 ∨ j = 3 ∨ j = 4 ∨ j = 5 ∨ j = 6 ∨ j = 7 := by omega
        rcases this with rfl | rfl | rfl | rfl | rfl | rfl | rfl | rfl
        all_goals exact (blk_cell xg _).trans rfl⟩⟩
      have hcv := string_of_reads (P := Try.prog) (src := 49) (dst := 9) (e := 5) (c := 8) Try.underlying49 Try.underlying5 Try.underlying9 hr
      clear hr xg
      go_wp2
      go_ret
      exact ⟨rfl, S.out.drop⟩
end Go.Proofs.Ytiafadmkkehdnaa.Sh
namespace Go.Proofs.Ytiafadmkkehdnaa.Sh
open Go.RowKit Go.Great Go.Proofs.YtiafadmkkehdnaaW.PrintWords Go.Proofs.YtiafadmkkehdnaaW.PrintMore
set_option linter.unusedVariables false

theorem h_cells {w0 V : World} {ts : List Th} {g : Nat} {s : H8} {r : ByteArray} {n : Int} (h : SepT w0 V ts) (hm : boxT g (hcells s r n) 94 ∈ ts) : V.cell? ⟨g, 0, none⟩ = some (.int .u32 s.a) ∧ V.cell? ⟨g, 1, none⟩ = some (.int .u32 s.b) ∧ V.cell? ⟨g, 2, none⟩ = some (.int .u32 s.c) ∧ V.cell? ⟨g, 3, none⟩ = some (.int .u32 s.d) ∧ V.cell? ⟨g, 4, none⟩ = some (.int .u32 s.e) ∧ V.cell? ⟨g, 5, none⟩ = some (.int .u32 s.f) ∧ V.cell? ⟨g, 6, none⟩ = some (.int .u32 s.g) ∧ V.cell? ⟨g, 7, none⟩ = some (.int .u32 s.h) ∧ V.cell? ⟨g, 8, none⟩ = some (.string r) ∧ V.cell? ⟨g, 9, none⟩ = some (.int .u64 n) := by
  have xb := (SepT.box h hm).1
  exact ⟨(blk_cell xb 0).trans rfl, (blk_cell xb 1).trans rfl, (blk_cell xb 2).trans rfl, (blk_cell xb 3).trans rfl, (blk_cell xb 4).trans rfl, (blk_cell xb 5).trans rfl, (blk_cell xb 6).trans rfl, (blk_cell xb 7).trans rfl, (blk_cell xb 8).trans rfl, (blk_cell xb 9).trans rfl⟩

/-- A whole literal appended onto a row of one's own. -/
theorem SepT.appendLit {P : Program} {ops : Array Oper} {rest : List Oper} {o : Oper} {a : Act} {Q : Exit → Act → World → Prop} {α : Type} {enc : α → Value} {h1 : ∀ x, (enc x).oneCell' = true} {w0 W : World} {ts : List Th} (hgd : o.guard = none) (s x : Operand) (t e : TypeId) (z : Value) (bytes : Nat)
    (ho : o.op = .call { callee := .builtin .append, args := #[s, x], argTypes := #[t, t] })
    (ht : P.underlying t = some (.slice e)) (hinfo : (P.info? e).map (fun i => (i.zero, i.size, i.bytes)) = some (some z, 1, bytes)) (hz : z.cells.size = 1) (hb0 : 0 < bytes)
    (v : Value) (xs ys : List α) (hy : ys.length ≤ 1000000000) (hs : a.eval s = v) (hx : a.eval x = .slice (some ⟨W.heap.size, 0, none⟩) ys.length ys.length)
    (S : SepT w0 W (rowT (Kd.scalar enc h1) e v xs :: ts)) (hl : (xs.length + ys.length) * bytes ≤ 140737488355328)
    (h : ∀ A c w1, SepT w0 w1 (rowT (Kd.scalar enc h1) e (.slice A (xs ++ ys).length c) (xs ++ ys) :: ts) → wpList P ops Q rest (a.put o.dst (.slice A (xs ++ ys).length c)) w1) :
    wpList P ops Q (o :: rest) a (W.alloc (.cells (ys.map enc).toArray e)) := by
  have S1 := (S.lit (enc := enc) (h1 := h1) e ys hy).swap
  obtain ⟨_, _, e0, _, hC⟩ := SepT.row S1.swap
  injection e0 with e1 e2 e3
  subst e1
  obtain ⟨ok, hR, h0, hk⟩ := S1.focus
  have hR' : Kd.R (Kd.scalar enc h1) e (W.alloc (.cells (ys.map enc).toArray e)) 0 ok v xs := hR
  refine Kd.R_append_rows (Kd.scalar enc h1) (w0 := W.alloc (.cells (ys.map enc).toArray e)) 0 hgd s x t e z bytes ho ht hinfo hz Nat.one_pos hb0 v xs ys _ _ _ (fun k => ok k ∨ (W.alloc (.cells (ys.map enc).toArray e)).heap.size ≤ k) (fun _ => False) hs hx (Kd.R_mono hR' (fun k hk => .inl hk)) hC (fun _ _ hk => hk) (fun _ hk => hk.elim) (fun k hk => .inr hk) (Below.refl _ _) (Nat.zero_le _) hl ?_
  intro v1 w1 h2 _ hg _
  obtain ⟨A, c, rfl⟩ := Kd.R_slice h2
  exact h A c w1 (SepT.drop (SepT.swap (hk w1 (rowT _ e _ (xs ++ ys)) ((Only.refl ok _).grown hg (fun k hk => .inl (hR'.1 k hk))) h2)))
theorem info5 : (Try.prog.info? 5).map (fun i => (i.zero, i.size, i.bytes)) = some (some (.int .u8 0), 1, 1) := by kernel_rfl
/-- The padding of what was written. -/
def zerosOf (b : ByteArray) : Nat := (119 - (restOf b).size) % 64
def padB (b : ByteArray) : ByteArray := (⟨#[128]⟩ : ByteArray) ++ ⟨(Lib.repeatL [0] (zerosOf b)).toArray⟩ ++ numB (8 * (b.size : Nat))
/-- The bytes of a state. -/
def digL (s : H8) : List Int := [s.a / 16777216 % 256, s.a / 65536 % 256, s.a / 256 % 256, s.a % 256, s.b / 16777216 % 256, s.b / 65536 % 256, s.b / 256 % 256, s.b % 256, s.c / 16777216 % 256, s.c / 65536 % 256, s.c / 256 % 256, s.c % 256, s.d / 16777216 % 256, s.d / 65536 % 256, s.d / 256 % 256, s.d % 256, s.e / 16777216 % 256, s.e / 65536 % 256, s.e / 256 % 256, s.e % 256, s.f / 16777216 % 256, s.f / 65536 % 256, s.f / 256 % 256, s.f % 256, s.g / 16777216 % 256, s.g / 65536 % 256, s.g / 256 % 256, s.g % 256, s.h / 16777216 % 256, s.h / 65536 % 256, s.h / 256 % 256, s.h % 256]
def sumB (b : ByteArray) : ByteArray := strOfNums (digL (stOf (b ++ padB b)))
theorem restOf_size (b : ByteArray) : (restOf b).size ≤ 63 := by
  unfold restOf
  rw [ByteArray.size_extract]
  omega
theorem padB_size (b : ByteArray) : (padB b).size ≤ 1000 := by
  unfold padB
  rw [ByteArray.size_append, ByteArray.size_append]
  have h1 : (numB (8 * (b.size : Nat))).size = 8 := by unfold numB; rw [strOfNums_size]; rfl
  have h2 : (⟨(Lib.repeatL [0] (zerosOf b)).toArray⟩ : ByteArray).size = zerosOf b := by
    show (Lib.repeatL [0] (zerosOf b)).toArray.size = _
    simp [Lib.repeatL_length]
  have h3 : (⟨#[128]⟩ : ByteArray).size = 1 := rfl
  have h4 : zerosOf b < 64 := by unfold zerosOf; omega
  omega
attribute [local irreducible] Sep rowT boxT
set_option maxRecDepth 100000 in
theorem Clone_S {w0 w : World} {ts : List Th} {g : Nat} {b : ByteArray} (S0 : SepT w0 w ts) (hm : hashT g b ∈ ts) :
    Calls Try.prog 39 #[.pointer (some ⟨g, 0, none⟩)] w fun e w' => ∃ g', e = .returned (.pointer (some ⟨g', 0, none⟩)) ∧ SepT w0 w' (hashT g' b :: ts) := by
  have S := Aside0.mk (S0.allocBox (hcells (stOf b) (restOf b) (b.size : Nat)) 94)
  obtain ⟨y0, y1, y2, y3, y4, y5, y6, y7, y8, y9⟩ := h_cells S0 hm
  clear S0
  go_enter Try.func39, Try.ntmps39
  go_wp2
  go_ret
  exact ⟨_, rfl, S.out⟩
theorem repeat_S {w0 w : World} {ts : List Th} (h : SepT w0 w ts) (c : Nat) (hc : c ≤ 1000) :
    Calls Try.prog 76 #[.string ⟨#[0]⟩, .int .i64 c] w fun e w' => e = .returned (.string ⟨(Lib.repeatL [0] c).toArray⟩) ∧ SepT w0 w' ts := by
  refine (Try.strings_Repeat ⟨#[0]⟩ c w (by omega) (by show 1 * c ≤ _; omega)).mono ?_
  rintro e w1 ⟨rfl, hb⟩
  exact ⟨rfl, h.below hb⟩
set_option maxHeartbeats 2000000 in
set_option maxRecDepth 100000 in
theorem Sum_S {w0 w : World} {ts : List Th} {g : Nat} {b : ByteArray} (S0 : SepT w0 w ts) (hm : hashT g b ∈ ts) (hn : b.size ≤ 100000000) :
    Calls Try.prog 40 #[.pointer (some ⟨g, 0, none⟩)] w fun e w' => e = .returned (.string (sumB b)) ∧ SepT w0 w' ts := by
  have S := Aside0.mk S0
  clear S0
  have hr := restOf_size b
  have hr' : ((restOf b).size : Int) ≤ 63 := by omega
  obtain ⟨zc, hzc⟩ : ∃ z, zerosOf b = z := ⟨_, rfl⟩
  have hz1 : (119 - ((restOf b).size : Int)) % 64 = (zc : Int) := by rw [← hzc]; unfold zerosOf; omega
  have hz2 : Int.tmod (119 - ((restOf b).size : Int)) 64 = (zc : Int) := by rw [Int.tmod_eq_emod_of_nonneg (by omega)]; exact hz1
  have hz3 : zc ≤ 1000 := by rw [← hzc]; unfold zerosOf; omega
  have hb0 : (b.size : Int) ≤ 100000000 := by omega
  have HZ := Aside0.mk hzc
  clear hzc hr
  go_enter Try.func40, Try.ntmps40
  go_upto_region 3 with (go_at_call 39; have hc := Clone_S S.out hm; go_fit hc; clear hc; rintro e w1 ⟨gc, rfl, hs⟩; clear S; have S := Aside0.mk hs; clear hs; obtain ⟨y0, y1, y2, y3, y4, y5, y6, y7, y8, y9⟩ := h_cells S.out m0)
  clear y0 y1 y2 y3 y4 y5 y6 y7 y8 y9
  go_cut [28] (fun v28 wx => v28 = .tuple #[] ∧ SepT w0 wx (hashT gc (b ++ padB b) :: ts))
  case first =>
    have HK : Aside0 (∀ (V : World) (t : Th), SepT w0 V (t :: ts) → V.cell? ⟨g, 9, none⟩ = some (.int .u64 (b.size : Nat))) := ⟨fun V t h => (h_cells (s := stOf b) (r := restOf b) h (List.mem_cons_of_mem _ hm)).2.2.2.2.2.2.2.2.2⟩
    have S1 := Aside0.mk S.out.drew
    clear S
    have S := S1
    clear S1
    have hps : (padB b).size ≤ 1000 := padB_size b
    have HP : Aside0 (b ++ ((⟨#[128]⟩ : ByteArray) ++ ⟨(Lib.repeatL [0] zc).toArray⟩ ++ numB (8 * (b.size : Nat))) = b ++ padB b ∧ b.size + ((⟨#[128]⟩ : ByteArray) ++ ⟨(Lib.repeatL [0] zc).toArray⟩ ++ numB (8 * (b.size : Nat))).size ≤ 140737488351232) := by
      have e : ((⟨#[128]⟩ : ByteArray) ++ ⟨(Lib.repeatL [0] zc).toArray⟩ ++ numB (8 * (b.size : Nat))) = padB b := by unfold padB; rw [HZ.out]
      rw [e]
      exact ⟨rfl, by omega⟩
    clear hps
    obtain ⟨Z, hZ⟩ : ∃ Z : ByteArray, (⟨(Lib.repeatL [0] zc).toArray⟩ : ByteArray) = Z := ⟨_, rfl⟩
    obtain ⟨N8, hN8⟩ : ∃ N8, numB (8 * ((b.size : Nat) : Int)) = N8 := ⟨_, rfl⟩
    have hZs : Z.size ≤ 1000 := by rw [← hZ]; show (Lib.repeatL [0] zc).toArray.size ≤ _; simp [Lib.repeatL_length]; exact hz3
    have hNs : N8.size ≤ 8 := by rw [← hN8]; unfold numB; rw [strOfNums_size]; exact Nat.le_refl 8
    rw [hZ, hN8] at HP
    have hw8 : IntKind.u64.wrap (8 * (b.size : Int)) = 8 * (b.size : Int) := by simp [IntKind.wrap, IntKind.bits, IntKind.signed]; omega
    have r1 : ∀ V : World, (Op.stringOp .add (⟨#[128]⟩ : ByteArray) Z).run Try.prog V = .ok (.string ((⟨#[128]⟩ : ByteArray) ++ Z)) V := fun V => run_string_add_sum V _ _ (by have : (⟨#[128]⟩ : ByteArray).size = 1 := rfl; omega)
    have r2 : ∀ V : World, (Op.stringOp .add ((⟨#[128]⟩ : ByteArray) ++ Z) N8).run Try.prog V = .ok (.string ((⟨#[128]⟩ : ByteArray) ++ Z ++ N8)) V := fun V => run_string_add_sum V _ _ (by rw [ByteArray.size_append]; have : (⟨#[128]⟩ : ByteArray).size = 1 := rfl; omega)
    have hZi : (Z.size : Int) ≤ 1000 := by omega
    have hNi : (N8.size : Int) ≤ 8 := by omega
    have HZ1 := Aside0.mk hZ
    have HN1 := Aside0.mk hN8
    clear hZ hN8
    go_region_held3 (fun V => V.cell? ⟨g, 9, none⟩ = some (.int .u64 (b.size : Nat))) (exact HK.out _ _ S.out)
      (first
        | (go_at_call 76; have hc := repeat_S S.out zc hz3; rw [HZ1.out] at hc; go_fit hc; clear hc; rintro e w2 ⟨rfl, hs⟩; clear S; have S := Aside0.mk hs; clear hs)
        | (go_at_call 70; go_loud (have hc := number_S S.out (8 * (b.size : Int)) (by omega) (by omega); rw [HN1.out] at hc; go_fit hc; clear hc; rintro e w3 ⟨rfl, hs⟩; clear S; have S := Aside0.mk hs; clear hs))
        | (go_at_call 38; have hc := Write_S S.out ((⟨#[128]⟩ : ByteArray) ++ Z ++ N8) HP.out.2; rw [HP.out.1] at hc; go_fit hc; clear hc; rintro e w4 ⟨rfl, hs⟩; clear S; have S := Aside0.mk hs; clear hs))
    all_goals
      go_wp2_with fail
      go_meet
      exact ⟨rfl, S.out⟩
  case rest =>
    obtain ⟨rfl, hs⟩ := hcut
    clear S hz1 hz2
    obtain ⟨s, hs8⟩ : ∃ s, stOf (b ++ padB b) = s := ⟨_, rfl⟩
    have hsum : sumB b = strOfNums (digL s) := by unfold sumB; rw [hs8]
    have HSUM := Aside0.mk hsum
    obtain ⟨y0, y1, y2, y3, y4, y5, y6, y7, y8, y9⟩ := h_cells (s := stOf (b ++ padB b)) (r := restOf (b ++ padB b)) (n := ((b ++ padB b).size : Nat)) hs m0
    rw [hs8] at y0 y1 y2 y3 y4 y5 y6 y7
    have S := Aside0.mk ((hs.drop).addRow (Below.refl _ _) (Kd.R_nil (Kd.int .u8) 5 _ _ (fun _ => True)))
    clear hs hs8 hsum
    go_wp2
    clear y0 y1 y2 y3 y4 y5 y6 y7 y8 y9
    go_loopw [5, 33] (fun v5 v33 wr => ∃ (z : Int) (B : Option Addr) (cb : Nat) (xs : List Int), 0 ≤ z ∧ z ≤ 8 ∧ v33 = .int .i64 z ∧ v5 = .slice B xs.length cb ∧ Aside0 (xs = (digL s).take (4 * z.toNat)) ∧ xs.length ≤ 4 * z.toNat ∧ Aside0 (SepT w0 wr (rowT (Kd.int .u8) 5 (.slice B xs.length cb) xs :: ts))) (fun _ v33 _ => 8 - (intOf v33).toNat)
    case atStart => exact ⟨0, none, 0, [], by omega, by omega, rfl, rfl, ⟨rfl⟩, by simp, S⟩
    case round =>
      clear S
      obtain ⟨z, B, cb, xs, hz0, hz8, rfl, rfl, HX, hxl, S⟩ := hrel
      have hxl32 : xs.length ≤ 32 := by omega
      clear hxl
      rcases (by omega : z = 0 ∨ z = 1 ∨ z = 2 ∨ z = 3 ∨ z = 4 ∨ z = 5 ∨ z = 6 ∨ z = 7 ∨ z = 8) with rfl | rfl | rfl | rfl | rfl | rfl | rfl | rfl | rfl
      · have hix : ∀ V : World, (Instr.index 92 (.agg #[.int .u32 s.a, .int .u32 s.b, .int .u32 s.c, .int .u32 s.d, .int .u32 s.e, .int .u32 s.f, .int .u32 s.g, .int .u32 s.h]) (.int .i64 0)).run Try.prog V = .ok (.int .u32 s.a) V := fun _ => by kernel_rfl
        have HX2 : Aside0 (xs ++ [s.a / 16777216 % 256, s.a / 65536 % 256, s.a / 256 % 256, s.a % 256] = (digL s).take (4 * (1 : Int).toNat)) := ⟨by rw [HX.out]; rfl⟩
        have hxl : (xs ++ [s.a / 16777216 % 256, s.a / 65536 % 256, s.a / 256 % 256, s.a % 256]).length = xs.length + 4 := by simp
        have HXL := Aside0.mk hxl
        clear hxl
        go_wp2_with ((with_reducible refine gate_builtin (b := .append) (xs := #[.tmp 36, .tmp 48]) rfl ?_); at_builtin; go_loud (refine SepT.appendLit (enc := Value.int .u8) (h1 := fun _ => rfl) rfl (.tmp 36) (.tmp 48) 49 5 (.int .u8 0) 1 rfl Try.underlying49 info5 rfl (by omega) (.slice B xs.length cb) xs [s.a / 16777216 % 256, s.a / 65536 % 256, s.a / 256 % 256, s.a % 256] (Nat.le_of_ble_eq_true rfl) rfl rfl S.out ?aL ?_; (case aL => show (xs.length + 4) * 1 ≤ _; omega); intro Bn cn w6 ho; have S4 := Aside0.mk ho; clear ho))
        clear S hix
        have hs4 := S4.out
        rw [HXL.out] at hs4
        have S5 := Aside0.mk hs4
        clear hs4 S4
        go_roundw
        case rel => exact ⟨1, Bn, cn, _, by omega, by omega, rfl, by rw [HXL.out], HX2, by rw [HX2.out, List.length_take]; omega, ⟨by rw [HXL.out]; exact S5.out⟩⟩
        case measure => simp [intOf]
      · have hix : ∀ V : World, (Instr.index 92 (.agg #[.int .u32 s.a, .int .u32 s.b, .int .u32 s.c, .int .u32 s.d, .int .u32 s.e, .int .u32 s.f, .int .u32 s.g, .int .u32 s.h]) (.int .i64 1)).run Try.prog V = .ok (.int .u32 s.b) V := fun _ => by kernel_rfl
        have HX2 : Aside0 (xs ++ [s.b / 16777216 % 256, s.b / 65536 % 256, s.b / 256 % 256, s.b % 256] = (digL s).take (4 * (2 : Int).toNat)) := ⟨by rw [HX.out]; rfl⟩
        have hxl : (xs ++ [s.b / 16777216 % 256, s.b / 65536 % 256, s.b / 256 % 256, s.b % 256]).length = xs.length + 4 := by simp
        have HXL := Aside0.mk hxl
        clear hxl
        go_wp2_with ((with_reducible refine gate_builtin (b := .append) (xs := #[.tmp 36, .tmp 48]) rfl ?_); at_builtin; go_loud (refine SepT.appendLit (enc := Value.int .u8) (h1 := fun _ => rfl) rfl (.tmp 36) (.tmp 48) 49 5 (.int .u8 0) 1 rfl Try.underlying49 info5 rfl (by omega) (.slice B xs.length cb) xs [s.b / 16777216 % 256, s.b / 65536 % 256, s.b / 256 % 256, s.b % 256] (Nat.le_of_ble_eq_true rfl) rfl rfl S.out ?aL ?_; (case aL => show (xs.length + 4) * 1 ≤ _; omega); intro Bn cn w6 ho; have S4 := Aside0.mk ho; clear ho))
        clear S hix
        have hs4 := S4.out
        rw [HXL.out] at hs4
        have S5 := Aside0.mk hs4
        clear hs4 S4
        go_roundw
        case rel => exact ⟨2, Bn, cn, _, by omega, by omega, rfl, by rw [HXL.out], HX2, by rw [HX2.out, List.length_take]; omega, ⟨by rw [HXL.out]; exact S5.out⟩⟩
        case measure => simp [intOf]
      · have hix : ∀ V : World, (Instr.index 92 (.agg #[.int .u32 s.a, .int .u32 s.b, .int .u32 s.c, .int .u32 s.d, .int .u32 s.e, .int .u32 s.f, .int .u32 s.g, .int .u32 s.h]) (.int .i64 2)).run Try.prog V = .ok (.int .u32 s.c) V := fun _ => by kernel_rfl
        have HX2 : Aside0 (xs ++ [s.c / 16777216 % 256, s.c / 65536 % 256, s.c / 256 % 256, s.c % 256] = (digL s).take (4 * (3 : Int).toNat)) := ⟨by rw [HX.out]; rfl⟩
        have hxl : (xs ++ [s.c / 16777216 % 256, s.c / 65536 % 256, s.c / 256 % 256, s.c % 256]).length = xs.length + 4 := by simp
        have HXL := Aside0.mk hxl
        clear hxl
        go_wp2_with ((with_reducible refine gate_builtin (b := .append) (xs := #[.tmp 36, .tmp 48]) rfl ?_); at_builtin; go_loud (refine SepT.appendLit (enc := Value.int .u8) (h1 := fun _ => rfl) rfl (.tmp 36) (.tmp 48) 49 5 (.int .u8 0) 1 rfl Try.underlying49 info5 rfl (by omega) (.slice B xs.length cb) xs [s.c / 16777216 % 256, s.c / 65536 % 256, s.c / 256 % 256, s.c % 256] (Nat.le_of_ble_eq_true rfl) rfl rfl S.out ?aL ?_; (case aL => show (xs.length + 4) * 1 ≤ _; omega); intro Bn cn w6 ho; have S4 := Aside0.mk ho; clear ho))
        clear S hix
        have hs4 := S4.out
        rw [HXL.out] at hs4
        have S5 := Aside0.mk hs4
        clear hs4 S4
        go_roundw
        case rel => exact ⟨3, Bn, cn, _, by omega, by omega, rfl, by rw [HXL.out], HX2, by rw [HX2.out, List.length_take]; omega, ⟨by rw [HXL.out]; exact S5.out⟩⟩
        case measure => simp [intOf]
      · have hix : ∀ V : World, (Instr.index 92 (.agg #[.int .u32 s.a, .int .u32 s.b, .int .u32 s.c, .int .u32 s.d, .int .u32 s.e, .int .u32 s.f, .int .u32 s.g, .int .u32 s.h]) (.int .i64 3)).run Try.prog V = .ok (.int .u32 s.d) V := fun _ => by kernel_rfl
        have HX2 : Aside0 (xs ++ [s.d / 16777216 % 256, s.d / 65536 % 256, s.d / 256 % 256, s.d % 256] = (digL s).take (4 * (4 : Int).toNat)) := ⟨by rw [HX.out]; rfl⟩
        have hxl : (xs ++ [s.d / 16777216 % 256, s.d / 65536 % 256, s.d / 256 % 256, s.d % 256]).length = xs.length + 4 := by simp
        have HXL := Aside0.mk hxl
        clear hxl
        go_wp2_with ((with_reducible refine gate_builtin (b := .append) (xs := #[.tmp 36, .tmp 48]) rfl ?_); at_builtin; go_loud (refine SepT.appendLit (enc := Value.int .u8) (h1 := fun _ => rfl) rfl (.tmp 36) (.tmp 48) 49 5 (.int .u8 0) 1 rfl Try.underlying49 info5 rfl (by omega) (.slice B xs.length cb) xs [s.d / 16777216 % 256, s.d / 65536 % 256, s.d / 256 % 256, s.d % 256] (Nat.le_of_ble_eq_true rfl) rfl rfl S.out ?aL ?_; (case aL => show (xs.length + 4) * 1 ≤ _; omega); intro Bn cn w6 ho; have S4 := Aside0.mk ho; clear ho))
        clear S hix
        have hs4 := S4.out
        rw [HXL.out] at hs4
        have S5 := Aside0.mk hs4
        clear hs4 S4
        go_roundw
        case rel => exact ⟨4, Bn, cn, _, by omega, by omega, rfl, by rw [HXL.out], HX2, by rw [HX2.out, List.length_take]; omega, ⟨by rw [HXL.out]; exact S5.out⟩⟩
        case measure => simp [intOf]
      · have hix : ∀ V : World, (Instr.index 92 (.agg #[.int .u32 s.a, .int .u32 s.b, .int .u32 s.c, .int .u32 s.d, .int .u32 s.e, .int .u32 s.f, .int .u32 s.g, .int .u32 s.h]) (.int .i64 4)).run Try.prog V = .ok (.int .u32 s.e) V := fun _ => by kernel_rfl
        have HX2 : Aside0 (xs ++ [s.e / 16777216 % 256, s.e / 65536 % 256, s.e / 256 % 256, s.e % 256] = (digL s).take (4 * (5 : Int).toNat)) := ⟨by rw [HX.out]; rfl⟩
        have hxl : (xs ++ [s.e / 16777216 % 256, s.e / 65536 % 256, s.e / 256 % 256, s.e % 256]).length = xs.length + 4 := by simp
        have HXL := Aside0.mk hxl
        clear hxl
        go_wp2_with ((with_reducible refine gate_builtin (b := .append) (xs := #[.tmp 36, .tmp 48]) rfl ?_); at_builtin; go_loud (refine SepT.appendLit (enc := Value.int .u8) (h1 := fun _ => rfl) rfl (.tmp 36) (.tmp 48) 49 5 (.int .u8 0) 1 rfl Try.underlying49 info5 rfl (by omega) (.slice B xs.length cb) xs [s.e / 16777216 % 256, s.e / 65536 % 256, s.e / 256 % 256, s.e % 256] (Nat.le_of_ble_eq_true rfl) rfl rfl S.out ?aL ?_; (case aL => show (xs.length + 4) * 1 ≤ _; omega); intro Bn cn w6 ho; have S4 := Aside0.mk ho; clear ho))
        clear S hix
        have hs4 := S4.out
        rw [HXL.out] at hs4
        have S5 := Aside0.mk hs4
        clear hs4 S4
        go_roundw
        case rel => exact ⟨5, Bn, cn, _, by omega, by omega, rfl, by rw [HXL.out], HX2, by rw [HX2.out, List.length_take]; omega, ⟨by rw [HXL.out]; exact S5.out⟩⟩
        case measure => simp [intOf]
      · have hix : ∀ V : World, (Instr.index 92 (.agg #[.int .u32 s.a, .int .u32 s.b, .int .u32 s.c, .int .u32 s.d, .int .u32 s.e, .int .u32 s.f, .int .u32 s.g, .int .u32 s.h]) (.int .i64 5)).run Try.prog V = .ok (.int .u32 s.f) V := fun _ => by kernel_rfl
        have HX2 : Aside0 (xs ++ [s.f / 16777216 % 256, s.f / 65536 % 256, s.f / 256 % 256, s.f % 256] = (digL s).take (4 * (6 : Int).toNat)) := ⟨by rw [HX.out]; rfl⟩
        have hxl : (xs ++ [s.f / 16777216 % 256, s.f / 65536 % 256, s.f / 256 % 256, s.f % 256]).length = xs.length + 4 := by simp
        have HXL := Aside0.mk hxl
        clear hxl
        go_wp2_with ((with_reducible refine gate_builtin (b := .append) (xs := #[.tmp 36, .tmp 48]) rfl ?_); at_builtin; go_loud (refine SepT.appendLit (enc := Value.int .u8) (h1 := fun _ => rfl) rfl (.tmp 36) (.tmp 48) 49 5 (.int .u8 0) 1 rfl Try.underlying49 info5 rfl (by omega) (.slice B xs.length cb) xs [s.f / 16777216 % 256, s.f / 65536 % 256, s.f / 256 % 256, s.f % 256] (Nat.le_of_ble_eq_true rfl) rfl rfl S.out ?aL ?_; (case aL => show (xs.length + 4) * 1 ≤ _; omega); intro Bn cn w6 ho; have S4 := Aside0.mk ho; clear ho))
        clear S hix
        have hs4 := S4.out
        rw [HXL.out] at hs4
        have S5 := Aside0.mk hs4
        clear hs4 S4
        go_roundw
        case rel => exact ⟨6, Bn, cn, _, by omega, by omega, rfl, by rw [HXL.out], HX2, by rw [HX2.out, List.length_take]; omega, ⟨by rw [HXL.out]; exact S5.out⟩⟩
        case measure => simp [intOf]
      · have hix : ∀ V : World, (Instr.index 92 (.agg #[.int .u32 s.a, .int .u32 s.b, .int .u32 s.c, .int .u32 s.d, .int .u32 s.e, .int .u32 s.f, .int .u32 s.g, .int .u32 s.h]) (.int .i64 6)).run Try.prog V = .ok (.int .u32 s.g) V := fun _ => by kernel_rfl
        have HX2 : Aside0 (xs ++ [s.g / 16777216 % 256, s.g / 65536 % 256, s.g / 256 % 256, s.g % 256] = (digL s).take (4 * (7 : Int).toNat)) := ⟨by rw [HX.out]; rfl⟩
        have hxl : (xs ++ [s.g / 16777216 % 256, s.g / 65536 % 256, s.g / 256 % 256, s.g % 256]).length = xs.length + 4 := by simp
        have HXL := Aside0.mk hxl
        clear hxl
        go_wp2_with ((with_reducible refine gate_builtin (b := .append) (xs := #[.tmp 36, .tmp 48]) rfl ?_); at_builtin; go_loud (refine SepT.appendLit (enc := Value.int .u8) (h1 := fun _ => rfl) rfl (.tmp 36) (.tmp 48) 49 5 (.int .u8 0) 1 rfl Try.underlying49 info5 rfl (by omega) (.slice B xs.length cb) xs [s.g / 16777216 % 256, s.g / 65536 % 256, s.g / 256 % 256, s.g % 256] (Nat.le_of_ble_eq_true rfl) rfl rfl S.out ?aL ?_; (case aL => show (xs.length + 4) * 1 ≤ _; omega); intro Bn cn w6 ho; have S4 := Aside0.mk ho; clear ho))
        clear S hix
        have hs4 := S4.out
        rw [HXL.out] at hs4
        have S5 := Aside0.mk hs4
        clear hs4 S4
        go_roundw
        case rel => exact ⟨7, Bn, cn, _, by omega, by omega, rfl, by rw [HXL.out], HX2, by rw [HX2.out, List.length_take]; omega, ⟨by rw [HXL.out]; exact S5.out⟩⟩
        case measure => simp [intOf]
      · have hix : ∀ V : World, (Instr.index 92 (.agg #[.int .u32 s.a, .int .u32 s.b, .int .u32 s.c, .int .u32 s.d, .int .u32 s.e, .int .u32 s.f, .int .u32 s.g, .int .u32 s.h]) (.int .i64 7)).run Try.prog V = .ok (.int .u32 s.h) V := fun _ => by kernel_rfl
        have HX2 : Aside0 (xs ++ [s.h / 16777216 % 256, s.h / 65536 % 256, s.h / 256 % 256, s.h % 256] = (digL s).take (4 * (8 : Int).toNat)) := ⟨by rw [HX.out]; rfl⟩
        have hxl : (xs ++ [s.h / 16777216 % 256, s.h / 65536 % 256, s.h / 256 % 256, s.h % 256]).length = xs.length + 4 := by simp
        have HXL := Aside0.mk hxl
        clear hxl
        go_wp2_with ((with_reducible refine gate_builtin (b := .append) (xs := #[.tmp 36, .tmp 48]) rfl ?_); at_builtin; go_loud (refine SepT.appendLit (enc := Value.int .u8) (h1 := fun _ => rfl) rfl (.tmp 36) (.tmp 48) 49 5 (.int .u8 0) 1 rfl Try.underlying49 info5 rfl (by omega) (.slice B xs.length cb) xs [s.h / 16777216 % 256, s.h / 65536 % 256, s.h / 256 % 256, s.h % 256] (Nat.le_of_ble_eq_true rfl) rfl rfl S.out ?aL ?_; (case aL => show (xs.length + 4) * 1 ≤ _; omega); intro Bn cn w6 ho; have S4 := Aside0.mk ho; clear ho))
        clear S hix
        have hs4 := S4.out
        rw [HXL.out] at hs4
        have S5 := Aside0.mk hs4
        clear hs4 S4
        go_roundw
        case rel => exact ⟨8, Bn, cn, _, by omega, by omega, rfl, by rw [HXL.out], HX2, by rw [HX2.out, List.length_take]; omega, ⟨by rw [HXL.out]; exact S5.out⟩⟩
        case measure => simp [intOf]
      · obtain ⟨ok, hR, _⟩ := SepT.get S.out m0
        have hR' : Kd.R (Kd.int .u8) 5 wr 0 ok (.slice B xs.length cb) xs := by unfold rowT at hR; exact hR
        have hxs : xs = digL s := by rw [HX.out]; rfl
        have hcv := Kd.C_string (P := Try.prog) (src := 49) (dst := 9) (e := 5) (c := cb) Try.underlying49 Try.underlying5 Try.underlying9 (Kd.R_reads' hR').2.2
        rw [hxs] at hcv
        have HXS := Aside0.mk hxs
        clear hR hR' hxs
        rw [HXS.out]
        go_wp2
        go_ret
        exact ⟨by rw [HSUM.out]; rfl, S.out.drop⟩
end Go.Proofs.Ytiafadmkkehdnaa.Sh
namespace Go.Proofs.Ytiafadmkkehdnaa.Sh
open Go.RowKit Go.Great Go.Proofs.YtiafadmkkehdnaaW.PrintWords Go.Proofs.YtiafadmkkehdnaaW.PrintMore
set_option linter.unusedVariables false

theorem str_at {w : World} {A : Option Addr} {n : Nat} {xs : List ByteArray} (h : Kd.C Kd.string w A n xs) (i : Int) (h0 : 0 ≤ i) (h1 : i < n) : ∃ ad, A = some ad ∧ w.cell? (ad.add i.toNat) = some (.string (xs.getD i.toNat ⟨#[]⟩)) := by
  obtain ⟨ad, c, e, _, hK, hc0⟩ := Kd.C_get h ⟨#[]⟩ i h0 h1
  obtain rfl : c = [.string (xs.getD i.toNat ⟨#[]⟩)] := hK
  have hc := hc0 0 _ rfl
  exact ⟨ad, e, by simpa [Kd.string, Kd.scalar] using hc⟩
theorem empty_append (s : ByteArray) : (⟨#[]⟩ : ByteArray) ++ s = s := by
  apply ByteArray.ext
  rw [ByteArray.data_append]
  simp
/-- A tag and its parts, each behind its length. -/
def catT : ByteArray → List ByteArray → ByteArray
  | b, [] => b
  | b, p :: l => catT (b ++ numB (p.size : Nat) ++ p) l
def tagB (tag : ByteArray) (l : List ByteArray) : ByteArray := catT (numB (tag.size : Nat) ++ tag) l
theorem catT_size : ∀ (l : List ByteArray) (b : ByteArray), b.size ≤ (catT b l).size
  | [], b => Nat.le_refl _
  | p :: l, b => by
    have h := catT_size l (b ++ numB (p.size : Nat) ++ p)
    rw [catT]
    rw [ByteArray.size_append, ByteArray.size_append] at h
    omega
theorem numB_size (n : Int) : (numB n).size = 8 := by unfold numB; rw [strOfNums_size]; rfl
attribute [local irreducible] Sep rowT boxT hashT
set_option maxRecDepth 100000 in
theorem SumF_S {w0 w : World} {ts : List Th} (S0 : SepT w0 w ts) (s : ByteArray) (hs : s.size ≤ 100000000) :
    Calls Try.prog 28 #[.string s] w fun e w' => e = .returned (.string (sumB s)) ∧ SepT w0 w' ts := by
  have S := Aside0.mk S0
  clear S0
  go_enter Try.func28, Try.ntmps28
  go_wp2_with (first
    | (go_at_call 37; have hc := New_S S.out; go_fit hc; clear hc; rintro e w1 ⟨g, rfl, hh⟩; clear S; have S := Aside0.mk hh; clear hh)
    | (go_at_call 38; have hc := Write_S S.out s (by show 0 + _ ≤ _; omega); rw [empty_append] at hc; go_fit hc; clear hc; rintro e w2 ⟨rfl, hh⟩; clear S; have S := Aside0.mk hh; clear hh)
    | (go_at_call 40; have hc := Sum_S S.out m0 hs; go_fit hc; clear hc; rintro e w3 ⟨rfl, hh⟩; clear S; have S := Aside0.mk hh; clear hh))
  go_ret
  exact ⟨rfl, S.out.drop⟩
set_option maxHeartbeats 2000000 in
set_option maxRecDepth 100000 in
theorem Tagged_S {w0 w : World} {ts : List Th} (S0 : SepT w0 w ts) (tag : ByteArray) (A : Option Addr) (c : Nat) (l : List ByteArray) (hC : Kd.C Kd.string w0 A l.length l) (hl : l.length < 1000000) (ht : (tagB tag l).size ≤ 100000000) :
    Calls Try.prog 31 #[.string tag, .slice A l.length c] w fun e w' => e = .returned (.string (sumB (tagB tag l))) ∧ SepT w0 w' ts := by
  have S := Aside0.mk S0
  have HC := Aside0.mk hC
  obtain ⟨T, hT⟩ : ∃ T, tagB tag l = T := ⟨_, rfl⟩
  have h1 : (numB (tag.size : Nat) ++ tag).size ≤ (tagB tag l).size := catT_size l _
  rw [ByteArray.size_append, numB_size] at h1
  rw [hT] at h1 ht ⊢
  have htg : (tag.size : Int) ≤ 100000000 := by omega
  have HT := Aside0.mk (show catT (numB (tag.size : Nat) ++ tag) l = T from hT)
  obtain ⟨N, hN⟩ : ∃ N, numB ((tag.size : Nat) : Int) = N := ⟨_, rfl⟩
  have hNs : N.size = 8 := by rw [← hN]; exact numB_size _
  have hNi : (N.size : Int) ≤ 8 := by omega
  have hsz : (⟨#[]⟩ : ByteArray).size + (N ++ tag).size ≤ 140737488351232 := by rw [ByteArray.size_append]; show 0 + _ ≤ _; omega
  have HN := Aside0.mk hN
  rw [hN] at HT
  clear S0 hC hT h1 hN hNs
  go_enter Try.func31, Try.ntmps31
  go_wp2_with (first
    | (go_at_call 37; have hc := New_S S.out; go_fit hc; clear hc; rintro e w1 ⟨g, rfl, hh⟩; clear S; have S := Aside0.mk hh; clear hh)
    | (go_at_call 70; have hc := number_S S.out (tag.size : Int) (by omega) (by omega); rw [HN.out] at hc; go_fit hc; clear hc; rintro e w2 ⟨rfl, hh⟩; clear S; have S := Aside0.mk hh; clear hh)
    | (go_at_call 38; have hc := Write_S S.out (N ++ tag) hsz; rw [empty_append] at hc; go_fit hc; clear hc; rintro e w3 ⟨rfl, hh⟩; clear S; have S := Aside0.mk hh; clear hh))
  go_loopw [19] (fun v19 wr => ∃ (k : Nat) (b : ByteArray), k ≤ l.length ∧ v19 = .int .i64 k ∧ Aside0 (catT b (l.drop k) = T) ∧ Aside0 (SepT w0 wr (hashT g b :: ts))) (fun v19 _ => l.length - (intOf v19).toNat)
  case atStart => exact ⟨0, N ++ tag, Nat.zero_le _, rfl, HT, S⟩
  case round =>
    clear S HT
    obtain ⟨k, b, hk, rfl, HT, S⟩ := hrel
    by_cases hlt : k < l.length
    · have hlt2 : (k : Int) < l.length := by omega
      obtain ⟨ad, hAd, d0⟩ := str_at HC.out k (by omega) (by omega)
      subst hAd
      have hB := Sep.base S.out
      replace d0 := pw_cell_below hB d0
      rw [Int.toNat_natCast] at d0
      have hdr : l.drop k = l.getD k ⟨#[]⟩ :: l.drop (k + 1) := by
        rw [List.drop_eq_getElem_cons hlt]; simp [List.getD, hlt]
      rw [hdr, catT] at HT
      clear hdr hB
      generalize l.getD k ⟨#[]⟩ = p at d0 HT
      have h1 : (b ++ numB (p.size : Nat) ++ p).size ≤ T.size := by rw [← HT.out]; exact catT_size _ _
      rw [ByteArray.size_append, ByteArray.size_append, numB_size] at h1
      obtain ⟨N2, hN2⟩ : ∃ N2, numB ((p.size : Nat) : Int) = N2 := ⟨_, rfl⟩
      have hNs2 : N2.size = 8 := by rw [← hN2]; exact numB_size _
      rw [hN2] at HT
      have HN2 := Aside0.mk hN2
      have hp1 : (p.size : Int) ≤ 100000000 := by omega
      have hw1 : b.size + N2.size ≤ 140737488351232 := by omega
      have hw2 : (b ++ N2).size + p.size ≤ 140737488351232 := by rw [ByteArray.size_append]; omega
      clear hN2 hNs2 h1
      go_wp2_with (first
        | (go_at_call 70; have hc := number_S S.out (p.size : Int) (by omega) (by omega); rw [HN2.out] at hc; go_fit hc; clear hc; rintro e w4 ⟨rfl, hh⟩; clear S; have S := Aside0.mk hh; clear hh)
        | (go_at_call 38; have hc := Write_S S.out N2 hw1; go_fit hc; clear hc; rintro e w5 ⟨rfl, hh⟩; clear S; have S := Aside0.mk hh; clear hh)
        | (go_at_call 38; have hc := Write_S S.out p hw2; go_fit hc; clear hc; rintro e w6 ⟨rfl, hh⟩; clear S; have S := Aside0.mk hh; clear hh))
      clear d0
      go_roundw
      case rel => exact ⟨k + 1, _, by omega, by go_num, HT, S⟩
      case measure => simp [intOf]; omega
    · obtain rfl : k = l.length := by omega
      have hb : b = T := by rw [← HT.out, List.drop_length]; rfl
      have hbs : b.size ≤ 100000000 := by rw [hb]; exact ht
      have HB := Aside0.mk hb
      clear hb
      go_wp2_with (go_at_call 40; have hc := Sum_S S.out m0 hbs; go_fit hc; clear hc; rintro e w7 ⟨rfl, hh⟩; clear S; have S := Aside0.mk hh; clear hh)
      go_ret
      exact ⟨by rw [HB.out]; rfl, S.out.drop⟩
end Go.Proofs.Ytiafadmkkehdnaa.Sh
namespace Go.Proofs.Ytiafadmkkehdnaa.Sh
open Go.RowKit Go.Great Go.Proofs.YtiafadmkkehdnaaW.PrintWords Go.Proofs.YtiafadmkkehdnaaW.PrintMore
set_option linter.unusedVariables false

theorem ix_str (V : World) (s : ByteArray) (k : IntKind) (i : Int) (h0 : 0 ≤ i) (h1 : i < s.size) : (Instr.index 9 (.string s) (.int k i)).run Try.prog V = .ok (.int .u8 (byteN s i.toNat)) V := by
  rw [run_index_string V 9 s k i Try.underlying9, dif_pos ⟨h0, h1⟩, byteN_get s i.toNat (by omega)]
def hexDig : ByteArray := ⟨#[48, 49, 50, 51, 52, 53, 54, 55, 56, 57, 97, 98, 99, 100, 101, 102]⟩
def hexD (x : Int) : Int := byteN hexDig x.toNat
/-- The digits of the first bytes. -/
def hexTo (s : ByteArray) : Nat → List Int
  | 0 => []
  | i + 1 => hexTo s i ++ [hexD (byteN s i / 16), hexD (byteN s i % 16)]
theorem hexTo_length (s : ByteArray) : ∀ i, (hexTo s i).length = 2 * i
  | 0 => rfl
  | i + 1 => by rw [hexTo, List.length_append, hexTo_length s i]; simp; omega
def hexB (s : ByteArray) : ByteArray := strOfNums (hexTo s s.size)
theorem and15 (x : Int) (h0 : 0 ≤ x) (h1 : x ≤ 255) : bits .and .u8 x 15 = x % 16 := by
  obtain ⟨n, rfl⟩ := Int.eq_ofNat_of_zero_le h0
  have hn : n ≤ 255 := by omega
  have : ∀ n : Nat, n < 256 → bits .and .u8 (n : Int) 15 = (n : Int) % 16 := by decide +kernel
  exact this n (by omega)
theorem SepT.room {w0 w : World} {ts : List Th} (h : SepT w0 w ts) {α : Type} {enc : α → Value} {h1 : ∀ x, (enc x).oneCell' = true} (e : Nat) (cs : Array Value) (hx : cs.size ≤ 1000000000) :
    SepT w0 (w.alloc (.cells cs e)) (rowT (Kd.scalar enc h1) e (.slice (some ⟨w.heap.size, 0, none⟩) 0 cs.size) ([] : List α) :: ts) := by
  refine h.addRow ((Below.refl _ w).alloc (Nat.le_refl _) _) (ok := fun k => True) (Kd.R_of_own ⟨by simp [encs], .inr ⟨w.heap.size, cs.size, _, rfl, Nat.le_refl _, heap_new w _, Nat.zero_le _, ?_, ?_, ?_⟩⟩ (fun _ _ => trivial))
  · have : (1000000000 : Nat) ≤ maxLen := by decide
    omega
  · simp
  · simp [encs]
/-- A whole literal appended onto a row of one's own, in a region that draws. -/
theorem SepT.appendLit_step {P : Program} {ops : Array Oper} {o : Oper} {a : Act} {Q : Exit → Act → World → Prop} {Kc : Act → World → Prop} {α : Type} {enc : α → Value} {h1 : ∀ x, (enc x).oneCell' = true} {w0 W : World} {ts : List Th} (hw : Region.wanted o (yielded ops a.tmps) = true) (s x : Operand) (t e : TypeId) (z : Value) (bytes : Nat)
    (ho : o.op = .call { callee := .builtin .append, args := #[s, x], argTypes := #[t, t] })
    (ht : P.underlying t = some (.slice e)) (hinfo : (P.info? e).map (fun i => (i.zero, i.size, i.bytes)) = some (some z, 1, bytes)) (hz : z.cells.size = 1) (hb0 : 0 < bytes)
    (v : Value) (xs ys : List α) (hy : ys.length ≤ 1000000000) (hs : a.eval s = v) (hx : a.eval x = .slice (some ⟨W.heap.size, 0, none⟩) ys.length ys.length)
    (S : SepT w0 W (rowT (Kd.scalar enc h1) e v xs :: ts)) (hl : (xs.length + ys.length) * bytes ≤ 140737488355328)
    (h : ∀ A c w1, SepT w0 w1 (rowT (Kd.scalar enc h1) e (.slice A (xs ++ ys).length c) (xs ++ ys) :: ts) → Kc (a.put o.dst (.slice A (xs ++ ys).length c)) w1) :
    if Region.wanted o (yielded ops a.tmps) = true then Oper.wp P o a (W.alloc (.cells (ys.map enc).toArray e)) Kc Q else Kc (a.put o.dst undef) (W.alloc (.cells (ys.map enc).toArray e)) := by
  have S1 := (S.lit (enc := enc) (h1 := h1) e ys hy).swap
  obtain ⟨_, _, e0, _, hC⟩ := SepT.row S1.swap
  injection e0 with e1 e2 e3
  subst e1
  obtain ⟨ok, hR, h0, hk⟩ := S1.focus
  have hR' : Kd.R (Kd.scalar enc h1) e (W.alloc (.cells (ys.map enc).toArray e)) 0 ok v xs := hR
  refine Kd.R_append_rows_step (Kd.scalar enc h1) (w0 := W.alloc (.cells (ys.map enc).toArray e)) 0 hw s x t e z bytes ho ht hinfo hz Nat.one_pos hb0 v xs ys _ _ _ (fun k => ok k ∨ (W.alloc (.cells (ys.map enc).toArray e)).heap.size ≤ k) (fun _ => False) hs hx (Kd.R_mono hR' (fun k hk => .inl hk)) hC (fun _ _ hk => hk) (fun _ hk => hk.elim) (fun k hk => .inr hk) (Below.refl _ _) (Nat.zero_le _) hl ?_
  intro v1 w1 h2 _ hg _
  obtain ⟨A, c, rfl⟩ := Kd.R_slice h2
  exact h A c w1 (SepT.drop (SepT.swap (hk w1 (rowT _ e _ (xs ++ ys)) ((Only.refl ok _).grown hg (fun k hk => .inl (hR'.1 k hk))) h2)))
theorem hexTo_zero (s : ByteArray) : hexTo s 0 = [] := rfl
theorem hexTo_succ (s : ByteArray) (i : Nat) : hexTo s (i + 1) = hexTo s i ++ [hexD (byteN s i / 16), hexD (byteN s i % 16)] := rfl
theorem ix_dig (V : World) (x : Int) (h0 : 0 ≤ x) (h1 : x < 16) : (Instr.index 9 (.string ⟨#[48, 49, 50, 51, 52, 53, 54, 55, 56, 57, 97, 98, 99, 100, 101, 102]⟩) (.int .u8 x)).run Try.prog V = .ok (.int .u8 (hexD x)) V := ix_str V hexDig .u8 x h0 h1
attribute [local irreducible] Sep rowT boxT hashT hexTo hexD
set_option maxHeartbeats 2000000 in
set_option maxRecDepth 100000 in
theorem Hex_S {w0 w : World} {ts : List Th} (S0 : SepT w0 w ts) (s : ByteArray) (hs : s.size ≤ 100000000) :
    Calls Try.prog 35 #[.string s] w fun e w' => e = .returned (.string (hexB s)) ∧ SepT w0 w' ts := by
  have S := Aside0.mk S0
  clear S0
  obtain ⟨ii, hii, hij⟩ := Option.map_eq_some_iff.1 info5
  simp only [Prod.mk.injEq] at hij
  have hsi : (s.size : Int) ≤ 100000000 := by omega
  obtain ⟨mc, hmc⟩ : ∃ mc, madeCells (Value.int .u8 0).cells (2 * s.size) = mc := ⟨_, rfl⟩
  have hms : mc.size = 2 * s.size := by rw [← hmc]; exact size_madeCells _ _
  have hmk : ∀ W : World, (Instr.makeSlice 49 (.int .i64 0) (.int .i64 (2 * (s.size : Int)))).run Try.prog W = .ok (.slice (some ⟨W.heap.size, 0, none⟩) 0 (2 * s.size)) (W.alloc (.cells mc 5)) := fun W => by
    have h := run_make (P := Try.prog) W 49 5 ii (.int .u8 0) Try.underlying49 hii hij.1 .i64 .i64 0 (2 * (s.size : Int)) (by omega) (by omega) (by rw [hij.2.2]; omega) (by omega)
    rw [hij.2.1] at h
    rw [show (2 * (s.size : Int)).toNat = 2 * s.size by omega, Nat.mul_one, hmc] at h
    exact h
  clear hii hij
  have hmw : IntKind.i64.wrap (2 * (s.size : Int)) = 2 * (s.size : Int) := IntWalk.i64_in _ (by omega)
  have S1 := Aside0.mk (S.out.room (enc := Value.int .u8) (h1 := fun _ => rfl) 5 mc (by omega))
  rw [hms] at S1
  clear S hmc hms
  go_enter Try.func35, Try.ntmps35
  go_wp2
  clear hmk hmw
  generalize World.alloc _ _ = W at S1 ⊢
  generalize hA : (some (⟨w.heap.size, 0, none⟩ : Addr)) = A at S1 ⊢
  clear hA
  go_loopw [3, 11] (fun v3 v11 wr => ∃ (i : Nat) (B : Option Addr) (cb : Nat), i ≤ s.size ∧ v11 = .int .i64 i ∧ v3 = .slice B (hexTo s i).length cb ∧ Aside0 (SepT w0 wr (rowT (Kd.int .u8) 5 (.slice B (hexTo s i).length cb) (hexTo s i) :: ts))) (fun _ v11 _ => s.size - (intOf v11).toNat)
  case atStart => exact ⟨0, A, 2 * s.size, Nat.zero_le _, rfl, by rw [hexTo_zero]; rfl, by rw [hexTo_zero]; exact S1⟩
  case round =>
    clear S1
    obtain ⟨i, B, cb, hi, rfl, rfl, S⟩ := hrel
    by_cases hlt : i < s.size
    · have hlt2 : (i : Int) < s.size := by omega
      obtain ⟨x, hx⟩ : ∃ x, byteN s i = x := ⟨_, rfl⟩
      have hxr := byteN_range s i
      rw [hx] at hxr
      have hl := hexTo_length s i
      have he : hexTo s (i + 1) = hexTo s i ++ [hexD (x / 16), hexD (bits .and .u8 x 15)] := by rw [and15 x hxr.1 hxr.2, ← hx]; exact hexTo_succ s i
      generalize hexTo s i = xs at S hl he ⊢
      have HE := Aside0.mk he
      have ix1 : ∀ V : World, (Instr.index 9 (.string s) (.int .i64 (i : Int))).run Try.prog V = .ok (.int .u8 x) V := fun V => by rw [ix_str V s .i64 i (by omega) hlt2, Int.toNat_natCast, hx]
      have ix2 : ∀ V : World, (Instr.index 9 (.string ⟨#[48, 49, 50, 51, 52, 53, 54, 55, 56, 57, 97, 98, 99, 100, 101, 102]⟩) (.int .u8 (x / 16))).run Try.prog V = .ok (.int .u8 (hexD (x / 16))) V := fun V => ix_dig V _ (by omega) (by omega)
      have ix3 : ∀ V : World, (Instr.index 9 (.string ⟨#[48, 49, 50, 51, 52, 53, 54, 55, 56, 57, 97, 98, 99, 100, 101, 102]⟩) (.int .u8 (bits .and .u8 x 15))).run Try.prog V = .ok (.int .u8 (hexD (bits .and .u8 x 15))) V := fun V => ix_dig V _ (by rw [and15 x hxr.1 hxr.2]; omega) (by rw [and15 x hxr.1 hxr.2]; omega)
      have hxl : (xs ++ [hexD (x / 16), hexD (bits .and .u8 x 15)]).length = xs.length + 2 := by simp
      have HXL := Aside0.mk hxl
      have HL := Aside0.mk hl
      have HX0 := Aside0.mk hxr
      have hlq : xs.length ≤ 200000000 := by omega
      clear hx hxr he hxl hl
      go_upto_region 5 with fail
      have S1 := Aside0.mk S.out.drew
      clear S
      go_region_law ((refine SepT.appendLit_step (enc := Value.int .u8) (h1 := fun _ => rfl) rfl (.tmp 14) (.tmp 25) 49 5 (.int .u8 0) 1 rfl Try.underlying49 info5 rfl (by omega) (.slice B xs.length cb) xs [hexD (x / 16), hexD (bits .and .u8 x 15)] (Nat.le_of_ble_eq_true rfl) rfl rfl S1.out (by show (xs.length + 2) * 1 ≤ _; omega) ?_); (intro An cn w6 ho; have S4 := Aside0.mk ho; clear ho))
      all_goals
        have hs4 := S4.out
        rw [HXL.out] at hs4
        have hel : (hexTo s (i + 1)).length = xs.length + 2 := by rw [HE.out]; exact HXL.out
        have S5 := Aside0.mk (show SepT w0 w6 (rowT (Kd.int .u8) 5 (.slice An (hexTo s (i + 1)).length cn) (hexTo s (i + 1)) :: ts) by rw [hel, HE.out]; exact hs4)
        have HEL := Aside0.mk hel
        clear S4 hs4 S1 ix1 ix2 ix3 hel
        go_wp2
        go_roundw
        case rel => exact ⟨i + 1, An, cn, by omega, by go_num, by rw [HEL.out], S5⟩
        case measure => simp [intOf]; omega
    · obtain rfl : i = s.size := by omega
      obtain ⟨ok, hR, _⟩ := SepT.get S.out m0
      have hR' : Kd.R (Kd.int .u8) 5 wr 0 ok (.slice B (hexTo s s.size).length cb) (hexTo s s.size) := by unfold rowT at hR; exact hR
      have hcv := Kd.C_string (P := Try.prog) (src := 49) (dst := 9) (e := 5) (c := cb) Try.underlying49 Try.underlying5 Try.underlying9 (Kd.R_reads' hR').2.2
      clear hR hR'
      go_wp2
      go_ret
      exact ⟨rfl, S.out.drop⟩
end Go.Proofs.Ytiafadmkkehdnaa.Sh
namespace Go.Proofs.Ytiafadmkkehdnaa.Sh
open Go.RowKit Go.Great Go.Proofs.YtiafadmkkehdnaaW.PrintWords Go.Proofs.YtiafadmkkehdnaaW.PrintMore
set_option linter.unusedVariables false

def nibV (x : Int) : Int := Lib.indexByte [48, 49, 50, 51, 52, 53, 54, 55, 56, 57, 97, 98, 99, 100, 101, 102] x.toNat.toUInt8
theorem nib_range (x : Int) : -1 ≤ nibV x ∧ nibV x ≤ 15 := by
  have h : ∀ c : UInt8, -1 ≤ Lib.indexByte [48, 49, 50, 51, 52, 53, 54, 55, 56, 57, 97, 98, 99, 100, 101, 102] c ∧ Lib.indexByte [48, 49, 50, 51, 52, 53, 54, 55, 56, 57, 97, 98, 99, 100, 101, 102] c ≤ 15 := by
    intro c
    have hc : c = UInt8.ofNat c.toNat := by simp
    rw [hc]
    have : ∀ n : Nat, n < 256 → -1 ≤ Lib.indexByte [48, 49, 50, 51, 52, 53, 54, 55, 56, 57, 97, 98, 99, 100, 101, 102] (UInt8.ofNat n) ∧ Lib.indexByte [48, 49, 50, 51, 52, 53, 54, 55, 56, 57, 97, 98, 99, 100, 101, 102] (UInt8.ofNat n) ≤ 15 := by decide +kernel
    exact this _ c.toNat_lt
  exact h _
/-- The bytes behind i digits. -/
def parTo (s : ByteArray) : Nat → List Int
  | 0 => List.replicate 32 0
  | i + 1 => (parTo s i).set (i / 2) (bits .or .u8 ((parTo s i).getD (i / 2) 0 * 16 % 256) (nibV (byteN s i)))
theorem parTo_length (s : ByteArray) : ∀ i, (parTo s i).length = 32
  | 0 => by simp [parTo]
  | i + 1 => by rw [parTo, List.length_set]; exact parTo_length s i
def parOk (s : ByteArray) : Bool := s.size == 64 && (List.range 64).all (fun i => decide (0 ≤ nibV (byteN s i)))
theorem parOk_size {s : ByteArray} (h : s.size ≠ 64) : parOk s = false := by simp [parOk, h]
theorem parOk_bad {s : ByteArray} {i : Nat} (h : i < 64) (hn : nibV (byteN s i) < 0) : parOk s = false := by
  unfold parOk
  rw [Bool.and_eq_false_iff]
  refine .inr ?_
  rw [List.all_eq_false]
  exact ⟨i, List.mem_range.2 h, by simp; omega⟩
theorem parOk_good {s : ByteArray} (hs : s.size = 64) (hn : ∀ i, i < 64 → 0 ≤ nibV (byteN s i)) : parOk s = true := by
  unfold parOk
  simp only [hs, beq_self_eq_true, Bool.true_and, List.all_eq_true, List.mem_range, decide_eq_true_eq]
  exact hn
/-- What Parse returns. -/
def parB (s : ByteArray) : ByteArray := if parOk s = true then strOfNums (parTo s 64) else ⟨#[]⟩
def parE (s : ByteArray) : Value := .tuple #[.string (parB s), .int .i64 (if parOk s = true then 0 else 3)]
theorem parE_bad {s : ByteArray} (h : parOk s = false) : parE s = .tuple #[.string ⟨#[]⟩, .int .i64 3] := by simp [parE, parB, h]
theorem parE_good {s : ByteArray} (h : parOk s = true) : parE s = .tuple #[.string (strOfNums (parTo s 64)), .int .i64 0] := by simp [parE, parB, h]
def zero32 : List Int := List.replicate 32 0
def bytesA (l : List Int) : Array Value := (l.map (Value.int .u8)).toArray
theorem bytesA_set (l : List Int) (j : Nat) (v : Int) : (bytesA l).setIfInBounds j (.int .u8 v) = bytesA (l.set j v) := by
  unfold bytesA
  simp [List.map_set]
theorem bytesA_get (l : List Int) (j : Nat) (h : j < l.length) : (bytesA l)[j]? = some (.int .u8 (l.getD j 0)) := by
  unfold bytesA
  simp [h, List.getD]
theorem indexByte_S {w : World} {ts : List Th} {w0 : World} (S : SepT w0 w ts) (x : Int) :
    Calls Try.prog 72 #[.string ⟨#[48, 49, 50, 51, 52, 53, 54, 55, 56, 57, 97, 98, 99, 100, 101, 102]⟩, .int .u8 x] w fun e w' => e = .returned (.int .i64 (nibV x)) ∧ w' = w :=
  Try.strings_IndexByte ⟨#[48, 49, 50, 51, 52, 53, 54, 55, 56, 57, 97, 98, 99, 100, 101, 102]⟩ x w
theorem parTo_zero (s : ByteArray) : parTo s 0 = zero32 := rfl
theorem parTo_succ (s : ByteArray) (i : Nat) : parTo s (i + 1) = (parTo s i).set (i / 2) (bits .or .u8 ((parTo s i).getD (i / 2) 0 * 16 % 256) (nibV (byteN s i))) := rfl
attribute [local irreducible] Sep rowT boxT hashT parTo nibV bytesA parOk parE zero32
set_option maxHeartbeats 2000000 in
set_option maxRecDepth 100000 in
theorem Parse_S {w0 w : World} {ts : List Th} (S0 : SepT w0 w ts) (s : ByteArray) (hs : s.size ≤ 100000000) :
    Calls Try.prog 33 #[.string s] w fun e w' => e = .returned (parE s) ∧ SepT w0 w' ts := by
  have S := Aside0.mk S0
  clear S0
  have hsi : (s.size : Int) ≤ 100000000 := by omega
  by_cases h64 : s.size = 64
  case neg =>
    have h64i : ¬ (s.size : Int) = 64 := by omega
    have hpk := Aside0.mk (parOk_size h64)
    clear h64
    go_enter Try.func33, Try.ntmps33
    go_wp2
    go_ret2
    exact ⟨by rw [parE_bad hpk.out]; rfl, S.out⟩
  case pos =>
    have h64i : (s.size : Int) = 64 := by omega
    have H64 := Aside0.mk h64
    clear h64
    have hmk : ∀ W : World, (Instr.makeSlice 49 (.int .i64 32) (.int .i64 32)).run Try.prog W = .ok (.slice (some ⟨W.heap.size, 0, none⟩) 32 32) (W.alloc (.cells (bytesA zero32) 5)) := fun W => by unfold bytesA zero32; kernel_rfl
    have S1 := Aside0.mk (S.out.allocBox (bytesA zero32) 5)
    clear S
    go_enter Try.func33, Try.ntmps33
    go_wp2
    clear hmk
    generalize hb : w.heap.size = b at S1 ⊢
    generalize World.alloc _ _ = W at S1 ⊢
    clear hb
    go_loopw [13] (fun v13 wr => ∃ i : Nat, i ≤ 64 ∧ v13 = .int .i64 i ∧ Aside0 (∀ k, k < i → 0 ≤ nibV (byteN s k)) ∧ Aside0 (SepT w0 wr (boxT b (bytesA (parTo s i)) 5 :: ts))) (fun v13 _ => 64 - (intOf v13).toNat)
    case atStart => exact ⟨0, Nat.zero_le _, rfl, ⟨fun k hk => absurd hk (Nat.not_lt_zero k)⟩, by rw [parTo_zero]; exact S1⟩
    case round =>
      clear S1
      obtain ⟨i, hi, rfl, HN, S⟩ := hrel
      by_cases hlt : i < 64
      · have hlt2 : (i : Int) < 64 := by omega
        have hsz2 : (i : Int) < s.size := by omega
        obtain ⟨x, hx⟩ : ∃ x, byteN s i = x := ⟨_, rfl⟩
        have ix1 : ∀ V : World, (Instr.index 9 (.string s) (.int .i64 (i : Int))).run Try.prog V = .ok (.int .u8 x) V := fun V => by rw [ix_str V s .i64 i (by omega) hsz2, Int.toNat_natCast, hx]
        have hst := parTo_succ s i
        have hln := parTo_length s i
        have hnr := nib_range x
        obtain ⟨v, hv⟩ : ∃ v, nibV x = v := ⟨_, rfl⟩
        rw [hx, hv] at hst
        rw [hv] at hnr
        have HV := Aside0.mk hv
        have HX := Aside0.mk hx
        by_cases hv0 : v < 0
        · have hpb := Aside0.mk (parOk_bad hlt (by rw [hx, hv]; exact hv0))
          clear hst hv hx
          go_wp2_with (go_at_call 72; have hc := indexByte_S S.out x; rw [HV.out] at hc; go_fit hc; clear hc; rintro e w1 ⟨rfl, rfl⟩)
          go_ret2
          exact ⟨by rw [parE_bad hpb.out]; rfl, S.out.drop⟩
        · obtain ⟨j, hj⟩ : ∃ j, i / 2 = j := ⟨_, rfl⟩
          have hj32 : j < 32 := by omega
          have hji : (i : Int) / 2 = (j : Int) := by omega
          have hjt : Int.tdiv (i : Int) 2 = (j : Int) := by rw [Int.tdiv_eq_ediv_of_nonneg (by omega)]; exact hji
          rw [hj] at hst
          obtain ⟨old, hold⟩ : ∃ o, (parTo s i).getD j 0 = o := ⟨_, rfl⟩
          rw [hold] at hst
          have xg := (SepT.box S.out m0).1
          have y : wr.cell? ⟨b, j, none⟩ = some (.int .u8 old) := (blk_cell xg j).trans (by rw [bytesA_get _ _ (by rw [hln]; exact hj32), hold])
          have e0 := blk_frozen xg j
          have hwv : IntKind.u8.wrap v = v := by rw [IntKind.wrap_u8]; omega
          have S1 := Aside0.mk (S.out.setBox j (.int .u8 (bits .or .u8 (old * 16 % 256) v)))
          rw [bytesA_set, ← hst] at S1
          have HN2 : Aside0 (∀ k, k < i + 1 → 0 ≤ nibV (byteN s k)) := ⟨fun k hk => by
            rcases Nat.lt_succ_iff_lt_or_eq.1 hk with h | h
            · exact HN.out k h
            · rw [h, hx, hv]; omega⟩
          have hv1 : 0 ≤ v := by omega
          have hv2 : v ≤ 15 := by omega
          clear hst hv hx hold hln hnr xg hv0 hj
          have hvm : v % 256 = v := by omega
          go_wp2_with (go_at_call 72; have hc := indexByte_S S.out x; rw [HV.out] at hc; go_fit hc; clear hc; rintro e w1 ⟨rfl, rfl⟩)
          clear y e0 hji hjt hwv hvm ix1 S
          go_roundw
          case rel => exact ⟨i + 1, by omega, by go_num, HN2, S1⟩
          case measure => simp [intOf]; omega
      · obtain rfl : i = 64 := by omega
        have hpg := Aside0.mk (parOk_good H64.out HN.out)
        have xg := (SepT.box S.out m0).1
        have hln := parTo_length s 64
        have hr : ReadsInt wr .u8 (some ⟨b, 0, none⟩) 32 (parTo s 64) := ⟨by rw [hln], by omega, fun _ => ⟨⟨b, 0, none⟩, rfl, fun j hj => by
          have e : (⟨b, 0, none⟩ : Addr).add j = ⟨b, j, none⟩ := by simp [Addr.add]; omega
          rw [e]
          exact (blk_cell xg j).trans (bytesA_get _ _ (by rw [hln]; exact hj))⟩⟩
        have hcv := string_of_reads (P := Try.prog) (src := 49) (dst := 9) (e := 5) (c := 32) Try.underlying49 Try.underlying5 Try.underlying9 hr
        clear hr xg hln
        go_wp2
        go_ret2
        exact ⟨by rw [parE_good hpg.out]; rfl, S.out.drop⟩
end Go.Proofs.Ytiafadmkkehdnaa.Sh
namespace Go.Proofs.Ytiafadmkkehdnaa.Sh
open Go.RowKit Go.Great Go.Proofs.YtiafadmkkehdnaaW.PrintWords Go.Proofs.YtiafadmkkehdnaaW.PrintMore
set_option linter.unusedVariables false

set_option maxRecDepth 1000000 in
theorem sum_empty : sumB ⟨#[]⟩ = ⟨#[227, 176, 196, 66, 152, 252, 28, 20, 154, 251, 244, 200, 153, 111, 185, 36, 39, 174, 65, 228, 100, 155, 147, 76, 164, 149, 153, 27, 120, 82, 184, 85]⟩ := by decide +kernel
set_option maxRecDepth 1000000 in
theorem par_lit : parOk ⟨#[101, 51, 98, 48, 99, 52, 52, 50, 57, 56, 102, 99, 49, 99, 49, 52, 57, 97, 102, 98, 102, 52, 99, 56, 57, 57, 54, 102, 98, 57, 50, 52, 50, 55, 97, 101, 52, 49, 101, 52, 54, 52, 57, 98, 57, 51, 52, 99, 97, 52, 57, 53, 57, 57, 49, 98, 55, 56, 53, 50, 98, 56, 53, 53]⟩ = true ∧ strOfNums (parTo ⟨#[101, 51, 98, 48, 99, 52, 52, 50, 57, 56, 102, 99, 49, 99, 49, 52, 57, 97, 102, 98, 102, 52, 99, 56, 57, 57, 54, 102, 98, 57, 50, 52, 50, 55, 97, 101, 52, 49, 101, 52, 54, 52, 57, 98, 57, 51, 52, 99, 97, 52, 57, 53, 57, 57, 49, 98, 55, 56, 53, 50, 98, 56, 53, 53]⟩ 64) = ⟨#[227, 176, 196, 66, 152, 252, 28, 20, 154, 251, 244, 200, 153, 111, 185, 36, 39, 174, 65, 228, 100, 155, 147, 76, 164, 149, 153, 27, 120, 82, 184, 85]⟩ := by decide +kernel
set_option maxRecDepth 1000000 in
theorem hex_lit : hexB (sumB ⟨#[97, 98, 99]⟩) = ⟨#[98, 97, 55, 56, 49, 54, 98, 102, 56, 102, 48, 49, 99, 102, 101, 97, 52, 49, 52, 49, 52, 48, 100, 101, 53, 100, 97, 101, 50, 50, 50, 51, 98, 48, 48, 51, 54, 49, 97, 51, 57, 54, 49, 55, 55, 97, 57, 99, 98, 52, 49, 48, 102, 102, 54, 49, 102, 50, 48, 48, 49, 53, 97, 100]⟩ := by decide +kernel
theorem tag_lit : tagB ⟨#[]⟩ [] = ⟨#[0, 0, 0, 0, 0, 0, 0, 0]⟩ := by decide +kernel
theorem par_E : parE ⟨#[101, 51, 98, 48, 99, 52, 52, 50, 57, 56, 102, 99, 49, 99, 49, 52, 57, 97, 102, 98, 102, 52, 99, 56, 57, 57, 54, 102, 98, 57, 50, 52, 50, 55, 97, 101, 52, 49, 101, 52, 54, 52, 57, 98, 57, 51, 52, 99, 97, 52, 57, 53, 57, 57, 49, 98, 55, 56, 53, 50, 98, 56, 53, 53]⟩ = .tuple #[.string (sumB ⟨#[]⟩), .int .i64 0] := by
  rw [parE_good par_lit.1, par_lit.2, sum_empty]
theorem app_ab : (⟨#[]⟩ : ByteArray) ++ ⟨#[97, 98]⟩ = ⟨#[97, 98]⟩ := by decide +kernel
theorem app_abc : (⟨#[97, 98]⟩ : ByteArray) ++ ⟨#[99]⟩ = ⟨#[97, 98, 99]⟩ := by decide +kernel
theorem strOfNums_len (l : List Int) : (strOfNums l).size = l.length := strOfNums_size l
theorem sumB_size (b : ByteArray) : (sumB b).size = 32 := by unfold sumB; rw [strOfNums_size]; rfl
theorem Tagged_none {w0 w : World} {ts : List Th} (S0 : SepT w0 w ts) : Calls Try.prog 31 #[.string ⟨#[]⟩, .slice none 0 0] w fun e w' => e = .returned (.string (sumB ⟨#[0, 0, 0, 0, 0, 0, 0, 0]⟩)) ∧ SepT w0 w' ts := by
  have h := Tagged_S S0 ⟨#[]⟩ none 0 [] (Kd.C_nil Kd.string w0) (by decide) (by rw [tag_lit]; decide)
  rw [tag_lit] at h
  exact h
attribute [local irreducible] Sep rowT boxT hashT sumB hexB parE tagB
set_option maxHeartbeats 2000000 in
set_option maxRecDepth 100000 in
theorem awake_core (w0 w : World) (ts : List Th) (S0 : SepT w0 w ts) (E D F : ByteArray) (hE : sumB ⟨#[]⟩ = E) (hD : sumB ⟨#[97, 98, 99]⟩ = D) (hF : sumB ⟨#[0, 0, 0, 0, 0, 0, 0, 0]⟩ = F) :
    Calls Try.prog 27 #[] w fun e w' => e = .returned (.bool true) ∧ SepT w0 w' ts := by
  have S := Aside0.mk S0
  have hH : hexB D = ⟨#[98, 97, 55, 56, 49, 54, 98, 102, 56, 102, 48, 49, 99, 102, 101, 97, 52, 49, 52, 49, 52, 48, 100, 101, 53, 100, 97, 101, 50, 50, 50, 51, 98, 48, 48, 51, 54, 49, 97, 51, 57, 54, 49, 55, 55, 97, 57, 99, 98, 52, 49, 48, 102, 102, 54, 49, 102, 50, 48, 48, 49, 53, 97, 100]⟩ := by rw [← hD]; exact hex_lit
  have hDs : D.size ≤ 100000000 := by rw [← hD, sumB_size]; decide
  have hP := par_E
  rw [hE] at hP
  have HE := Aside0.mk hE
  have HD := Aside0.mk hD
  have HF := Aside0.mk hF
  have HH := Aside0.mk hH
  have HP := Aside0.mk hP
  have k1 : (⟨#[]⟩ : ByteArray).size + (⟨#[97, 98]⟩ : ByteArray).size ≤ 140737488351232 := by decide
  have k2 : (⟨#[97, 98]⟩ : ByteArray).size + (⟨#[99]⟩ : ByteArray).size ≤ 140737488351232 := by decide
  have k3 : (⟨#[97, 98, 99]⟩ : ByteArray).size ≤ 100000000 := by decide
  have k4 : (⟨#[]⟩ : ByteArray).size ≤ 100000000 := by decide
  have k5 : (⟨#[0, 0, 0, 0, 0, 0, 0, 0]⟩ : ByteArray).size ≤ 100000000 := by decide
  have k6 : (⟨#[101, 51, 98, 48, 99, 52, 52, 50, 57, 56, 102, 99, 49, 99, 49, 52, 57, 97, 102, 98, 102, 52, 99, 56, 57, 57, 54, 102, 98, 57, 50, 52, 50, 55, 97, 101, 52, 49, 101, 52, 54, 52, 57, 98, 57, 51, 52, 99, 97, 52, 57, 53, 57, 57, 49, 98, 55, 56, 53, 50, 98, 56, 53, 53]⟩ : ByteArray).size ≤ 100000000 := by decide
  clear S0 hE hD hF hH hP
  go_enter Try.func27, Try.ntmps27
  go_wp2_with (first
    | (go_at_call 37; have hc := New_S S.out; go_fit hc; clear hc; rintro e w1 ⟨g, rfl, hh⟩; clear S; have S := Aside0.mk hh; clear hh)
    | (go_at_call 38; have hc := Write_S S.out ⟨#[97, 98]⟩ k1; rw [app_ab] at hc; go_fit hc; clear hc; rintro e w2 ⟨rfl, hh⟩; clear S; have S := Aside0.mk hh; clear hh)
    | (go_at_call 38; have hc := Write_S S.out ⟨#[99]⟩ k2; rw [app_abc] at hc; go_fit hc; clear hc; rintro e w3 ⟨rfl, hh⟩; clear S; have S := Aside0.mk hh; clear hh)
    | (go_at_call 33; have hc := Parse_S S.out ⟨#[101, 51, 98, 48, 99, 52, 52, 50, 57, 56, 102, 99, 49, 99, 49, 52, 57, 97, 102, 98, 102, 52, 99, 56, 57, 57, 54, 102, 98, 57, 50, 52, 50, 55, 97, 101, 52, 49, 101, 52, 54, 52, 57, 98, 57, 51, 52, 99, 97, 52, 57, 53, 57, 57, 49, 98, 55, 56, 53, 50, 98, 56, 53, 53]⟩ k6; rw [HP.out] at hc; go_fit hc; clear hc; rintro e w4 ⟨rfl, hh⟩; clear S; have S := Aside0.mk hh; clear hh)
    | (go_at_call 28; have hc := SumF_S S.out ⟨#[]⟩ k4; rw [HE.out] at hc; go_fit hc; clear hc; rintro e w5 ⟨rfl, hh⟩; clear S; have S := Aside0.mk hh; clear hh)
    | (go_at_call 40; have hc := Sum_S S.out (b := ⟨#[97, 98, 99]⟩) m0 k3; rw [HD.out] at hc; go_fit hc; clear hc; rintro e w6 ⟨rfl, hh⟩; clear S; have S := Aside0.mk hh; clear hh)
    | (go_at_call 35; have hc := Hex_S S.out D hDs; rw [HH.out] at hc; go_fit hc; clear hc; rintro e w7 ⟨rfl, hh⟩; clear S; have S := Aside0.mk hh; clear hh)
    | (go_at_call 31; have hc := Tagged_none S.out; rw [HF.out] at hc; go_fit hc; clear hc; rintro e w8 ⟨rfl, hh⟩; clear S; have S := Aside0.mk hh; clear hh)
    | (go_at_call 28; have hc := SumF_S S.out ⟨#[0, 0, 0, 0, 0, 0, 0, 0]⟩ k5; rw [HF.out] at hc; go_fit hc; clear hc; rintro e w9 ⟨rfl, hh⟩; clear S; have S := Aside0.mk hh; clear hh)
    | (go_at_call 39; have hc := Clone_S S.out (b := ⟨#[97, 98, 99]⟩) m0; go_fit hc; clear hc; rintro e w10 ⟨gc, rfl, hh⟩; clear S; have S := Aside0.mk hh.drop; clear hh))
  go_ret
  exact ⟨rfl, S.out.drop⟩
theorem awake_S {w0 w : World} {ts : List Th} (S0 : SepT w0 w ts) : Calls Try.prog 27 #[] w fun e w' => e = .returned (.bool true) ∧ SepT w0 w' ts := awake_core w0 w ts S0 _ _ _ rfl rfl rfl
end Go.Proofs.Ytiafadmkkehdnaa.Sh
