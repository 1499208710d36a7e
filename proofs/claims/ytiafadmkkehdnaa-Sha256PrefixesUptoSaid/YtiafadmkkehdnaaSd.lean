/-
  sha256's schedule.
-/
import Derived.Test.YtiafadmkkehdnaaSc
import Derived.BigRegion
namespace Go.Proofs.Ytiafadmkkehdnaa.Sh
open Go.RowKit Go.Great Go.Proofs.YtiafadmkkehdnaaW.PrintWords Go.Proofs.YtiafadmkkehdnaaW.PrintMore
set_option linter.unusedVariables false

theorem mixs_S {w0 w : World} {ts : List Th} (h : SepT w0 w ts) (x a b c : Int) (a1 : 1 ≤ a ∧ a ≤ 31 ∧ 1 ≤ b ∧ b ≤ 31 ∧ 1 ≤ c ∧ c ≤ 31) :
    Calls Try.prog 110 #[.int .u32 x, .int .i64 a, .int .i64 b, .int .i64 c] w fun e w' => e = .returned (.int .u32 (mixs x a b c)) ∧ SepT w0 w' ts := by
  refine (mixs_calls x a b c a1.1 a1.2.1 a1.2.2.1 a1.2.2.2.1 a1.2.2.2.2.1 a1.2.2.2.2.2 w).mono ?_
  rintro e w1 ⟨rfl, n, rfl⟩
  exact ⟨rfl, h.drewN n⟩
/-- What a cell holds. -/
def cellAt (V : World) (a : Addr) : Value := (V.cell? a).getD undef
theorem cellAt_of {V : World} {a : Addr} {v : Value} (h : V.cell? a = some v) : V.cell? a = some (cellAt V a) := by
  unfold cellAt; rw [h]; rfl
/-- The bytes of a block, as numbers. -/
def byteN (s : ByteArray) (i : Nat) : Int := ((s.data.getD i 0).toNat : Int)
/-- The first k bytes of word i. -/
def part (s : ByteArray) (i : Nat) : Nat → Int
  | 0 => 0
  | k + 1 => part s i k * 256 + byteN s (4 * i + k)
def nextW (l : List Int) (i : Nat) : Int :=
  IntKind.u32.wrap (IntKind.u32.wrap (IntKind.u32.wrap (mixs (l.getD (i - 2) 0) 17 19 10 + l.getD (i - 7) 0) + mixs (l.getD (i - 15) 0) 7 18 3) + l.getD (i - 16) 0)
def schedTo (s : ByteArray) : Nat → List Int
  | 0 => []
  | i + 1 => schedTo s i ++ [if i < 16 then part s i 4 else nextW (schedTo s i) i]
def sched (s : ByteArray) : List Int := schedTo s 64
theorem schedTo_length (s : ByteArray) : ∀ i, (schedTo s i).length = i
  | 0 => rfl
  | i + 1 => by rw [schedTo, List.length_append, schedTo_length s i]; rfl
theorem byteN_range (s : ByteArray) (i : Nat) : 0 ≤ byteN s i ∧ byteN s i ≤ 255 := by
  unfold byteN
  have := (s.data.getD i 0).toNat_lt
  omega
theorem part_range (s : ByteArray) (i : Nat) : ∀ k, k ≤ 4 → 0 ≤ part s i k ∧ part s i k < 256 ^ k
  | 0, _ => by simp [part]
  | k + 1, h => by
    have h1 := part_range s i k (by omega)
    have h2 := byteN_range s (4 * i + k)
    rw [part, Int.pow_succ]
    omega
theorem or_byte (x c : Int) (h0 : 0 ≤ x) (h1 : x < 16777216) (c0 : 0 ≤ c) (c1 : c ≤ 255) : bits .or .u32 (x * 256) (c % 4294967296) = x * 256 + c := by
  obtain ⟨n, rfl⟩ := Int.eq_ofNat_of_zero_le h0
  obtain ⟨m, rfl⟩ := Int.eq_ofNat_of_zero_le c0
  have e1 : (m : Int) % 4294967296 = (m : Int) := by omega
  have hw : ∀ k : Int, 0 ≤ k → k < 2 ^ 32 → IntKind.u32.wrap k = k := fun k h0 h1 => by
    have e : (2 : Int) ^ 32 = 4294967296 := by decide
    rw [e] at h1
    rw [IntKind.wrap_u32]
    omega
  have h := (bits_nat .u32 32 (by decide) hw (n * 256) m (by omega) (by omega)).2
  rw [e1]
  rw [show ((n : Int) * 256) = ((n * 256 : Nat) : Int) by omega, h]
  have h2 := Nat.shiftLeft_add_eq_or_of_lt (b := m) (i := 8) (by omega) n
  rw [Nat.shiftLeft_eq] at h2
  rw [← h2]
  omega
theorem byteN_get (s : ByteArray) (j : Nat) (h : j < s.size) : byteN s j = (s[j].toNat : Int) := by
  have h' : j < s.data.size := h
  unfold byteN
  have e : s.data.getD j 0 = s[j] := by
    unfold Array.getD
    rw [dif_pos h']
    rfl
  rw [e]
/-- The words done and the zeros behind them. -/
def rowI (l : List Int) (n : Nat) : Array Value := wordsA (l ++ List.replicate n 0)
def rowP (l : List Int) (x : Int) (n : Nat) : Array Value := wordsA (l ++ x :: List.replicate n 0)
theorem wordsA_one (l : List Int) : (wordsA l).all (·.oneCell') = true := by
  unfold wordsA
  simp [Value.oneCell']
theorem wordsA_get (l : List Int) (i : Nat) (h : i < l.length) : (wordsA l)[i]? = some (.int .u32 (l.getD i 0)) := by
  unfold wordsA
  simp [h, List.getD]
theorem wordsA_set (l : List Int) (i : Nat) (x : Int) : (wordsA l).setIfInBounds i (.int .u32 x) = wordsA (l.set i x) := by
  unfold wordsA
  simp [List.map_set]
theorem rowP_get (l : List Int) (x : Int) (n : Nat) : (rowP l x n)[l.length]? = some (.int .u32 x) := by
  unfold rowP
  rw [wordsA_get _ _ (by simp)]
  simp [List.getD]
theorem rowP_old (l : List Int) (x : Int) (n i : Nat) (h : i < l.length) : (rowP l x n)[i]? = some (.int .u32 (l.getD i 0)) := by
  unfold rowP
  rw [wordsA_get _ _ (by simp; omega)]
  simp [List.getD, List.getElem?_append_left h]
theorem rowP_set (l : List Int) (x y : Int) (n : Nat) : (rowP l x n).setIfInBounds l.length (.int .u32 y) = rowP l y n := by
  unfold rowP
  rw [wordsA_set]
  simp
theorem rowI_P (l : List Int) (n : Nat) : rowI l (n + 1) = rowP l 0 n := by
  unfold rowI rowP
  rw [List.replicate_succ]
theorem rowP_I (l : List Int) (x : Int) (n : Nat) : rowP l x n = rowI (l ++ [x]) n := by
  unfold rowI rowP
  simp
attribute [local irreducible] Sep rowT boxT wordsA rowI rowP cellAt
set_option maxHeartbeats 2000000 in
set_option maxRecDepth 100000 in
theorem schedule_calls (s : ByteArray) (hs : s.size = 64) (w : World) :
    Calls Try.prog 97 #[.string s] w fun e w' => e = .returned (.agg (wordsA (sched s))) ∧ Below w.heap.size w w' := by
  have S := Aside0.mk (((SepT.start w).allocBox wordsZ 106).allocBox wordsZ 106)
  simp only [World.size_alloc] at S
  have HS := Aside0.mk hs
  clear hs
  go_enter Try.func97, Try.ntmps97
  apply wp_seq_k; intro K0 hK0
  apply wp_region_lit
  refine wpList_allocTo rfl (some 2) rfl _ _ (new64 106 rfl _ _ rfl _) ?_
  apply wpList_nil
  refine hK0 _ _ ?_
  clear hK0 K0
  apply wp_seq_k; intro K0 hK0
  apply wp_region_lit
  refine wpList_allocTo rfl (some 3) rfl _ _ (new64 106 rfl _ _ rfl _) ?_
  apply wpList_nil
  refine hK0 _ _ ?_
  clear hK0 K0
  simp only [World.size_alloc]
  generalize hW : (w.alloc _).alloc _ = W at S ⊢
  generalize hb : w.heap.size = b at S ⊢
  have HBS := Aside0.mk hb
  clear hW hb
  have S1 := Aside0.mk (show SepT w W [boxT (b + 1) (rowI (schedTo s 0) 64) 106, boxT b wordsZ 106] by unfold rowI; exact S.out)
  clear S
  go_wp2
  go_loopw [7] (fun v7 wr => ∃ i : Nat, i ≤ 64 ∧ v7 = .int .i64 i ∧ Aside0 (SepT w wr [boxT (b + 1) (rowI (schedTo s i) (64 - i)) 106, boxT b wordsZ 106])) (fun v7 _ => 64 - (intOf v7).toNat)
  case atStart => exact ⟨0, by omega, rfl, S1⟩
  case round =>
    clear S1
    obtain ⟨i, hi, rfl, S⟩ := hrel
    by_cases hlt : i < 64
    · have hlt2 : (i : Int) < 64 := by omega
      obtain ⟨n, hn⟩ : ∃ n, 64 - i = n + 1 := ⟨63 - i, by omega⟩
      have hl := schedTo_length s i
      rw [hn, rowI_P] at S
      have HN := Aside0.mk hn
      have HL := Aside0.mk hl
      clear hn hl
      by_cases h16 : i < 16
      · have h16' : (i : Int) < 16 := by omega
        go_wp2
        go_loopw [12] (fun v12 wr => ∃ k : Nat, k ≤ 4 ∧ v12 = .int .i64 k ∧ Aside0 (SepT w wr [boxT (b + 1) (rowP (schedTo s i) (part s i k) n) 106, boxT b wordsZ 106])) (fun v12 _ => 4 - (intOf v12).toNat)
        case atStart => exact ⟨0, by omega, rfl, S⟩
        case round =>
          clear S
          obtain ⟨k, hk, rfl, S⟩ := hrel
          by_cases hk4 : k < 4
          · have hk5 : (k : Int) < 4 := by omega
            have xb := (SepT.box S.out m0).1
            have y0 := (blk_cell xb (schedTo s i).length).trans (rowP_get _ _ _)
            have e0 := blk_frozen xb (schedTo s i).length
            have hbl := blk_lt xb
            rw [HL.out] at y0 e0
            have hr := part_range s i k (by omega)
            have hp : (256 : Int) ^ k ≤ 16777216 := by
              have : k = 0 ∨ k = 1 ∨ k = 2 ∨ k = 3 := by omega
              rcases this with rfl | rfl | rfl | rfl <;> decide
            obtain ⟨x, hx⟩ : ∃ x, part s i k = x := ⟨_, rfl⟩
            rw [hx] at y0 hr
            have hx0 : 0 ≤ x := hr.1
            have hx1 : x < 16777216 := by omega
            have HX := Aside0.mk hx
            clear hr hp hx xb
            have hsz : 4 * (i : Int) + k < s.size := by have := HS.out; omega
            have hnn : 0 ≤ 4 * (i : Int) + k := by omega
            have hj : 4 * i + k < s.size := by have := HS.out; omega
            have HV : Aside0 (bits .or .u32 (x * 256) ((s[4 * i + k].toNat : Int) % 4294967296) = part s i (k + 1)) := ⟨by
              have := byteN_range s (4 * i + k)
              rw [byteN_get s _ hj] at this
              rw [or_byte x _ hx0 hx1 this.1 this.2, part, HX.out, byteN_get s _ hj]⟩
            have S1 := Aside0.mk (S.out.setBox (schedTo s i).length (.int .u32 (part s i (k + 1)))).drew
            rw [rowP_set, HL.out] at S1
            clear S
            go_wp2
            go_region
            rw [HV.out]
            clear y0 e0
            go_wp2
            go_roundw
            case rel => exact ⟨k + 1, by omega, by go_num, S1⟩
            case measure => simp [intOf]; omega
          · obtain rfl : k = 4 := by omega
            have hi1 : 64 - (i + 1) = n := by have := HN.out; omega
            have S1 := Aside0.mk (show SepT w wr [boxT (b + 1) (rowI (schedTo s (i + 1)) (64 - (i + 1))) 106, boxT b wordsZ 106] by
              rw [hi1, schedTo, if_pos h16, ← rowP_I]
              exact S.out)
            clear S hi1
            go_wp2
            go_roundw
            case rel => exact ⟨i + 1, by omega, by go_num, S1⟩
            case measure => simp [intOf]; omega
      · obtain ⟨j, hj⟩ : ∃ j, i = j + 16 := ⟨i - 16, by omega⟩
        have h16' : (16 : Int) ≤ i := by omega
        obtain ⟨x2, hx2⟩ : ∃ x, (schedTo s i).getD (i - 2) 0 = x := ⟨_, rfl⟩
        obtain ⟨x7, hx7⟩ : ∃ x, (schedTo s i).getD (i - 7) 0 = x := ⟨_, rfl⟩
        obtain ⟨x15, hx15⟩ : ∃ x, (schedTo s i).getD (i - 15) 0 = x := ⟨_, rfl⟩
        obtain ⟨x16, hx16⟩ : ∃ x, (schedTo s i).getD (i - 16) 0 = x := ⟨_, rfl⟩
        have HNX : Aside0 (schedTo s (i + 1) = schedTo s i ++ [IntKind.u32.wrap (IntKind.u32.wrap (IntKind.u32.wrap (mixs x2 17 19 10 + x7) + mixs x15 7 18 3) + x16)]) := ⟨by
          rw [schedTo, if_neg h16, nextW, hx2, hx7, hx15, hx16]⟩
        have HK : Aside0 (∀ (V : World) (ts : List Th) (x : Int), SepT w V ts → boxT (b + 1) (rowP (schedTo s i) x n) 106 ∈ ts → V.cell? ⟨b + 1, i - 2, none⟩ = some (.int .u32 x2) ∧ V.cell? ⟨b + 1, i - 7, none⟩ = some (.int .u32 x7) ∧ V.cell? ⟨b + 1, i - 15, none⟩ = some (.int .u32 x15) ∧ V.cell? ⟨b + 1, i - 16, none⟩ = some (.int .u32 x16) ∧ V.cell? ⟨b + 1, i, none⟩ = some (cellAt V ⟨b + 1, i, none⟩) ∧ V.frozen? ⟨b + 1, i, none⟩ = false) := ⟨fun V ts x h hm => by
          have xb := (SepT.box h hm).1
          have g := fun k (hk : k < i) => (blk_cell xb k).trans (rowP_old (schedTo s i) x n k (by rw [HL.out]; exact hk))
          refine ⟨by rw [← hx2]; exact g _ (by omega), by rw [← hx7]; exact g _ (by omega), by rw [← hx15]; exact g _ (by omega), by rw [← hx16]; exact g _ (by omega), ?_, blk_frozen xb i⟩
          have := (blk_cell xb (schedTo s i).length).trans (rowP_get _ _ _)
          rw [HL.out] at this
          exact cellAt_of this⟩
        have HST : Aside0 (∀ (V : World) (ts : List Th) (x y : Int), SepT w V (boxT (b + 1) (rowP (schedTo s i) x n) 106 :: ts) → SepT w (V.setCell ⟨b + 1, i, none⟩ (.int .u32 y)) (boxT (b + 1) (rowP (schedTo s i) y n) 106 :: ts)) := ⟨fun V ts x y h => by
          have h1 := h.setBox (schedTo s i).length (.int .u32 y)
          rw [rowP_set, HL.out] at h1
          exact h1⟩
        clear hx2 hx7 hx15 hx16 hj
        obtain ⟨i2, hi2⟩ : ∃ q, i - 2 = q := ⟨_, rfl⟩
        have w2 : IntKind.i64.wrap ((i : Int) - 2) = (i2 : Int) := by rw [IntWalk.i64_in _ (by omega)]; omega
        have v2 : (i2 : Int) < 64 := by omega
        have v2' : i2 < 64 := by omega
        rw [hi2] at HK
        obtain ⟨i7, hi7⟩ : ∃ q, i - 7 = q := ⟨_, rfl⟩
        have w7 : IntKind.i64.wrap ((i : Int) - 7) = (i7 : Int) := by rw [IntWalk.i64_in _ (by omega)]; omega
        have v7 : (i7 : Int) < 64 := by omega
        have v7' : i7 < 64 := by omega
        rw [hi7] at HK
        obtain ⟨i15, hi15⟩ : ∃ q, i - 15 = q := ⟨_, rfl⟩
        have w15 : IntKind.i64.wrap ((i : Int) - 15) = (i15 : Int) := by rw [IntWalk.i64_in _ (by omega)]; omega
        have v15 : (i15 : Int) < 64 := by omega
        have v15' : i15 < 64 := by omega
        rw [hi15] at HK
        obtain ⟨i16, hi16⟩ : ∃ q, i - 16 = q := ⟨_, rfl⟩
        have w16 : IntKind.i64.wrap ((i : Int) - 16) = (i16 : Int) := by rw [IntWalk.i64_in _ (by omega)]; omega
        have v16 : (i16 : Int) < 64 := by omega
        have v16' : i16 < 64 := by omega
        rw [hi16] at HK
        clear hi2 hi7 hi15 hi16
        go_upto_region 12 with fail
        have S1 := Aside0.mk S.out.drew
        clear S
        have S := S1
        clear S1
        go_region_held3 (fun V => V.cell? ⟨b + 1, i2, none⟩ = some (.int .u32 x2) ∧ V.cell? ⟨b + 1, i7, none⟩ = some (.int .u32 x7) ∧ V.cell? ⟨b + 1, i15, none⟩ = some (.int .u32 x15) ∧ V.cell? ⟨b + 1, i16, none⟩ = some (.int .u32 x16) ∧ V.cell? ⟨b + 1, i, none⟩ = some (cellAt V ⟨b + 1, i, none⟩) ∧ V.frozen? ⟨b + 1, i, none⟩ = false) (first | exact HK.out _ _ _ S.out m0 | exact HK.out _ _ _ (HST.out _ _ _ _ S.out) m0)
          (first
            | (go_at_call 110; have hc := mixs_S S.out x2 17 19 10 (by omega); go_fit hc; clear hc; rintro e V ⟨rfl, hs⟩; clear S; have S := Aside0.mk hs; clear hs)
            | (go_at_call 110; have hc := mixs_S S.out x15 7 18 3 (by omega); go_fit hc; clear hc; rintro e V2 ⟨rfl, hs⟩; clear S; have S := Aside0.mk hs; clear hs))
        have hi1 : 64 - (i + 1) = n := by have := HN.out; omega
        have S1 := Aside0.mk (show SepT w _ [boxT (b + 1) (rowI (schedTo s (i + 1)) (64 - (i + 1))) 106, boxT b wordsZ 106] by
          rw [hi1, HNX.out, ← rowP_I]
          exact HST.out _ _ _ (IntKind.u32.wrap (IntKind.u32.wrap (IntKind.u32.wrap (mixs x2 17 19 10 + x7) + mixs x15 7 18 3) + x16)) S.out)
        clear S hi1 w2 w7 w15 w16
        go_wp2
        go_roundw
        case rel => exact ⟨i + 1, by omega, by go_num, S1⟩
        case measure => simp [intOf]; omega
    · obtain rfl : i = 64 := by omega
      clear hlt
      go_upto_region 14 with fail
      have h3 := (SepT.box S.out m0).1
      have h2 := (SepT.box S.out m1).1
      have hr : rowI (schedTo s 64) (64 - 64) = wordsA (sched s) := by unfold rowI sched; simp
      rw [hr] at h3
      apply wp_region_lit
      have hsz : (wordsA (sched s)).size = 64 := by unfold wordsA sched; simp [schedTo_length]
      have hsz2 : wordsZ.size = 64 := by unfold wordsZ wordsA; simp
      refine wpList_load_row rfl _ _ rfl (b + 1) rfl 106 _ (0, 0) _ h3 Try.underlying106 rfl (by rw [hsz]; exact info106) ?_
      refine wpList_store_row rfl _ _ _ rfl b (wordsA (sched s)) rfl rfl 106 _ h2 (by rw [hsz]; exact info106) (by rw [hsz, hsz2]) (wordsA_one _) ?_
      apply wpList_nil
      have S1 := Aside0.mk (S.out.swap.setRow (wordsA (sched s)))
      clear S h2 h3
      go_wp2
      have hy := (SepT.box S1.out m0).1
      refine bodyPost_ret (results_cell_row rfl _ _ b 106 (wordsA (sched s)) (0, 0) _ rfl hy Try.underlying106 rfl (by rw [hsz]; exact info106)) rfl ?_
      have hbb := Sep.base S1.out
      rw [HBS.out] at hbb
      exact ⟨rfl, hbb⟩
end Go.Proofs.Ytiafadmkkehdnaa.Sh
