/-
  merkle's split, root, inclusion, consistency.
-/
import Derived.Test.YtiafadmkkehdnaaY1
namespace Go.Proofs.Ytiafadmkkehdnaa.Sh
open Go.RowKit Go.Great Go.Proofs.YtiafadmkkehdnaaW.PrintWords Go.Proofs.YtiafadmkkehdnaaW.PrintMore
set_option linter.unusedVariables false
/-- The greatest power of two that is less than a number (of at least 2). -/
def splitN (n : Nat) : Nat := 2 ^ (Lib.bitLen (n - 1) - 1)
theorem bitLen_zero (f : Nat) : Lib.bitLenAux f 0 = 0 := by cases f <;> simp [Lib.bitLenAux]
theorem bitLen_bounds : ∀ (f x : Nat), x < 2 ^ f → x ≠ 0 → 1 ≤ Lib.bitLenAux f x ∧ 2 ^ (Lib.bitLenAux f x - 1) ≤ x ∧ x < 2 ^ Lib.bitLenAux f x
  | 0, x, h, h0 => by simp at h; omega
  | f + 1, x, h, h0 => by
    rw [Lib.bitLenAux, if_neg h0]
    by_cases h2 : x / 2 = 0
    · rw [h2, bitLen_zero]
      have : x = 1 := by omega
      subst this
      simp
    · obtain ⟨a, b, c⟩ := bitLen_bounds f (x / 2) (by rw [Nat.pow_succ] at h; omega) h2
      generalize Lib.bitLenAux f (x / 2) = L at a b c ⊢
      obtain ⟨k, rfl⟩ : ∃ k, L = k + 1 := ⟨L - 1, by omega⟩
      simp only [Nat.add_sub_cancel] at b
      refine ⟨by omega, ?_, ?_⟩
      · rw [show 1 + (k + 1) - 1 = k + 1 by omega, Nat.pow_succ]; omega
      · rw [show 1 + (k + 1) = k + 1 + 1 by omega, Nat.pow_succ]; omega
theorem splitN_facts (n : Nat) (hn : n ≤ 4096) (h2 : 2 ≤ n) : 1 ≤ Lib.bitLen (n - 1) ∧ Lib.bitLen (n - 1) ≤ 12 ∧ 1 ≤ splitN n ∧ splitN n < n ∧ n ≤ 2 * splitN n := by
  have h := bitLen_bounds 64 (n - 1) (by omega) (by omega)
  have h1 := h.2.2
  have h3 := h.2.1
  have h4 := h.1
  unfold splitN
  change 1 ≤ Lib.bitLenAux 64 (n - 1) ∧ Lib.bitLenAux 64 (n - 1) ≤ 12 ∧ 1 ≤ 2 ^ (Lib.bitLenAux 64 (n - 1) - 1) ∧ 2 ^ (Lib.bitLenAux 64 (n - 1) - 1) < n ∧ n ≤ 2 * 2 ^ (Lib.bitLenAux 64 (n - 1) - 1)
  generalize Lib.bitLenAux 64 (n - 1) = b at *
  have hb2 : b ≤ 12 := by
    rcases Nat.lt_or_ge 12 b with h0 | h0
    · have : 2 ^ 12 ≤ 2 ^ (b - 1) := Nat.pow_le_pow_right (by decide) (by omega)
      omega
    · exact h0
  have e : 2 ^ b = 2 * 2 ^ (b - 1) := by rw [← Nat.pow_succ']; congr 1; omega
  have := Nat.two_pow_pos (b - 1)
  omega
attribute [local irreducible] Sep rowT boxT hashT sumB splitN
set_option maxRecDepth 100000 in
theorem split_S {w0 w : World} {ts : List Th} (S0 : SepT w0 w ts) (n : Nat) (h2 : 2 ≤ n) (hn : n ≤ 4096) :
    Calls Try.prog 90 #[.int .i64 n] w fun e w' => e = .returned (.int .i64 (splitN n : Nat)) ∧ SepT w0 w' ts := by
  have S := Aside0.mk S0
  have hf := splitN_facts n hn h2
  obtain ⟨b, hb⟩ : ∃ b, Lib.bitLen (n - 1) = b := ⟨_, rfl⟩
  have hs : splitN n = 2 ^ (b - 1) := by unfold splitN; rw [hb]
  rw [hb] at hf
  have hn1 : (2 : Int) ≤ n := by omega
  have hn2 : (n : Int) ≤ 4096 := by omega
  have hc0 := fun V => Try.bits_Len ((n : Int) - 1) V (by omega) (by omega)
  have hx : ((n : Int) - 1).toNat = n - 1 := by omega
  rw [hx, hb] at hc0
  have hq : b = 1 ∨ b = 2 ∨ b = 3 ∨ b = 4 ∨ b = 5 ∨ b = 6 ∨ b = 7 ∨ b = 8 ∨ b = 9 ∨ b = 10 ∨ b = 11 ∨ b = 12 := by omega
  have HS := Aside0.mk hs
  clear S0 hf hs hb hx
  rcases hq with rfl | rfl | rfl | rfl | rfl | rfl | rfl | rfl | rfl | rfl | rfl | rfl
  · have HC : Aside0 (∀ V : World, Calls Try.prog 108 #[.int .u64 ((n : Int) - 1)] V fun e w' => e = .returned (.int .i64 1) ∧ w' = V) := ⟨fun V => hc0 V⟩
    clear hc0
    go_enter Try.func90, Try.ntmps90
    go_wp2_with (go_at_call 108; have hc := HC.out w; go_fit hc; clear hc; rintro e w1 ⟨rfl, rfl⟩)
    go_ret
    exact ⟨by rw [HS.out]; rfl, S.out⟩
  · have HC : Aside0 (∀ V : World, Calls Try.prog 108 #[.int .u64 ((n : Int) - 1)] V fun e w' => e = .returned (.int .i64 2) ∧ w' = V) := ⟨fun V => hc0 V⟩
    clear hc0
    go_enter Try.func90, Try.ntmps90
    go_wp2_with (go_at_call 108; have hc := HC.out w; go_fit hc; clear hc; rintro e w1 ⟨rfl, rfl⟩)
    go_ret
    exact ⟨by rw [HS.out]; rfl, S.out⟩
  · have HC : Aside0 (∀ V : World, Calls Try.prog 108 #[.int .u64 ((n : Int) - 1)] V fun e w' => e = .returned (.int .i64 3) ∧ w' = V) := ⟨fun V => hc0 V⟩
    clear hc0
    go_enter Try.func90, Try.ntmps90
    go_wp2_with (go_at_call 108; have hc := HC.out w; go_fit hc; clear hc; rintro e w1 ⟨rfl, rfl⟩)
    go_ret
    exact ⟨by rw [HS.out]; rfl, S.out⟩
  · have HC : Aside0 (∀ V : World, Calls Try.prog 108 #[.int .u64 ((n : Int) - 1)] V fun e w' => e = .returned (.int .i64 4) ∧ w' = V) := ⟨fun V => hc0 V⟩
    clear hc0
    go_enter Try.func90, Try.ntmps90
    go_wp2_with (go_at_call 108; have hc := HC.out w; go_fit hc; clear hc; rintro e w1 ⟨rfl, rfl⟩)
    go_ret
    exact ⟨by rw [HS.out]; rfl, S.out⟩
  · have HC : Aside0 (∀ V : World, Calls Try.prog 108 #[.int .u64 ((n : Int) - 1)] V fun e w' => e = .returned (.int .i64 5) ∧ w' = V) := ⟨fun V => hc0 V⟩
    clear hc0
    go_enter Try.func90, Try.ntmps90
    go_wp2_with (go_at_call 108; have hc := HC.out w; go_fit hc; clear hc; rintro e w1 ⟨rfl, rfl⟩)
    go_ret
    exact ⟨by rw [HS.out]; rfl, S.out⟩
  · have HC : Aside0 (∀ V : World, Calls Try.prog 108 #[.int .u64 ((n : Int) - 1)] V fun e w' => e = .returned (.int .i64 6) ∧ w' = V) := ⟨fun V => hc0 V⟩
    clear hc0
    go_enter Try.func90, Try.ntmps90
    go_wp2_with (go_at_call 108; have hc := HC.out w; go_fit hc; clear hc; rintro e w1 ⟨rfl, rfl⟩)
    go_ret
    exact ⟨by rw [HS.out]; rfl, S.out⟩
  · have HC : Aside0 (∀ V : World, Calls Try.prog 108 #[.int .u64 ((n : Int) - 1)] V fun e w' => e = .returned (.int .i64 7) ∧ w' = V) := ⟨fun V => hc0 V⟩
    clear hc0
    go_enter Try.func90, Try.ntmps90
    go_wp2_with (go_at_call 108; have hc := HC.out w; go_fit hc; clear hc; rintro e w1 ⟨rfl, rfl⟩)
    go_ret
    exact ⟨by rw [HS.out]; rfl, S.out⟩
  · have HC : Aside0 (∀ V : World, Calls Try.prog 108 #[.int .u64 ((n : Int) - 1)] V fun e w' => e = .returned (.int .i64 8) ∧ w' = V) := ⟨fun V => hc0 V⟩
    clear hc0
    go_enter Try.func90, Try.ntmps90
    go_wp2_with (go_at_call 108; have hc := HC.out w; go_fit hc; clear hc; rintro e w1 ⟨rfl, rfl⟩)
    go_ret
    exact ⟨by rw [HS.out]; rfl, S.out⟩
  · have HC : Aside0 (∀ V : World, Calls Try.prog 108 #[.int .u64 ((n : Int) - 1)] V fun e w' => e = .returned (.int .i64 9) ∧ w' = V) := ⟨fun V => hc0 V⟩
    clear hc0
    go_enter Try.func90, Try.ntmps90
    go_wp2_with (go_at_call 108; have hc := HC.out w; go_fit hc; clear hc; rintro e w1 ⟨rfl, rfl⟩)
    go_ret
    exact ⟨by rw [HS.out]; rfl, S.out⟩
  · have HC : Aside0 (∀ V : World, Calls Try.prog 108 #[.int .u64 ((n : Int) - 1)] V fun e w' => e = .returned (.int .i64 10) ∧ w' = V) := ⟨fun V => hc0 V⟩
    clear hc0
    go_enter Try.func90, Try.ntmps90
    go_wp2_with (go_at_call 108; have hc := HC.out w; go_fit hc; clear hc; rintro e w1 ⟨rfl, rfl⟩)
    go_ret
    exact ⟨by rw [HS.out]; rfl, S.out⟩
  · have HC : Aside0 (∀ V : World, Calls Try.prog 108 #[.int .u64 ((n : Int) - 1)] V fun e w' => e = .returned (.int .i64 11) ∧ w' = V) := ⟨fun V => hc0 V⟩
    clear hc0
    go_enter Try.func90, Try.ntmps90
    go_wp2_with (go_at_call 108; have hc := HC.out w; go_fit hc; clear hc; rintro e w1 ⟨rfl, rfl⟩)
    go_ret
    exact ⟨by rw [HS.out]; rfl, S.out⟩
  · have HC : Aside0 (∀ V : World, Calls Try.prog 108 #[.int .u64 ((n : Int) - 1)] V fun e w' => e = .returned (.int .i64 12) ∧ w' = V) := ⟨fun V => hc0 V⟩
    clear hc0
    go_enter Try.func90, Try.ntmps90
    go_wp2_with (go_at_call 108; have hc := HC.out w; go_fit hc; clear hc; rintro e w1 ⟨rfl, rfl⟩)
    go_ret
    exact ⟨by rw [HS.out]; rfl, S.out⟩
end Go.Proofs.Ytiafadmkkehdnaa.Sh
namespace Go.Proofs.Ytiafadmkkehdnaa.Sh
open Go.RowKit Go.Great Go.Proofs.YtiafadmkkehdnaaW.PrintWords Go.Proofs.YtiafadmkkehdnaaW.PrintMore
set_option linter.unusedVariables false

theorem info9 : (Try.prog.info? 9).map (fun i => (i.zero, i.size, i.bytes)) = some (some (.string ⟨#[]⟩), 1, 16) := by kernel_rfl
def cutA (A : Option Addr) (c k : Nat) : Option Addr := if c = k then A else A.map (·.add (k * 1))
theorem slice_lo (A : Option Addr) (n c k : Nat) (hk : k ≤ n) (hc : n ≤ c) : ∀ V : World, (Instr.slice 22 (.slice A n c) none (some (.int .i64 (k : Int))) none).run Try.prog V = .ok (.slice A k c) V := fun V => by
  obtain ⟨i, hi, hij⟩ := Option.map_eq_some_iff.1 info9
  have h := cut_to (P := Try.prog) 22 9 .i64 Try.underlying22 hi A n c (k : Int) (by omega) (by omega) hc V
  rw [Int.toNat_natCast] at h
  exact h
theorem slice_hi (A : Option Addr) (n c k : Nat) (hk : k ≤ n) : ∀ V : World, (Instr.slice 22 (.slice A n c) (some (.int .i64 (k : Int))) none none).run Try.prog V = .ok (.slice (cutA A c k) (n - k) (c - k)) V := fun V => by
  obtain ⟨i, hi, hij⟩ := Option.map_eq_some_iff.1 info9
  simp only [Prod.mk.injEq] at hij
  have h := cut_from (P := Try.prog) 22 9 .i64 Try.underlying22 hi 1 hij.2.1 A n c (k : Int) (by omega) (by omega) V
  rw [Int.toNat_natCast] at h
  exact h
theorem C_lo {w : World} {A : Option Addr} {l : List ByteArray} {n k : Nat} (h : Kd.C Kd.string w A n l) (hk : k ≤ n) : Kd.C Kd.string w A k (l.take k) := by
  obtain rfl : l.length = n := h.1
  have h1 := Kd.C_take h hk
  rw [List.length_take, Nat.min_eq_left hk] at h1
  exact h1
theorem C_hi {w : World} {A : Option Addr} {l : List ByteArray} {n c k : Nat} (h : Kd.C Kd.string w A n l) (hk : k ≤ n) (hc : n ≤ c) : Kd.C Kd.string w (cutA A c k) (n - k) (l.drop k) := by
  obtain rfl : l.length = n := h.1
  have h1 := Kd.C_drop h hk hc
  rw [List.length_drop] at h1
  exact h1

/-! ### the root, plainly -/
def rootF : Nat → List ByteArray → ByteArray
  | 0, _ => ⟨#[]⟩
  | f + 1, l => if l.length = 0 then sumB ⟨#[]⟩ else if l.length = 1 then l.getD 0 ⟨#[]⟩ else nodeB (rootF f (l.take (splitN l.length))) (rootF f (l.drop (splitN l.length)))
theorem rootF_fuel : ∀ (f g : Nat) (l : List ByteArray), l.length ≤ 4096 → l.length < f → l.length < g → rootF f l = rootF g l
  | 0, _, _, _, h, _ => by omega
  | _, 0, _, _, _, h => by omega
  | f + 1, g + 1, l, hm, hf, hg => by
    rw [rootF, rootF]
    by_cases h0 : l.length = 0
    · rw [if_pos h0, if_pos h0]
    · rw [if_neg h0, if_neg h0]
      by_cases h1 : l.length = 1
      · rw [if_pos h1, if_pos h1]
      · rw [if_neg h1, if_neg h1]
        have hs := splitN_facts l.length hm (by omega)
        have e1 : (l.take (splitN l.length)).length = splitN l.length := by rw [List.length_take]; omega
        have e2 : (l.drop (splitN l.length)).length = l.length - splitN l.length := List.length_drop
        rw [rootF_fuel f g (l.take _) (by omega) (by omega) (by omega), rootF_fuel f g (l.drop _) (by omega) (by omega) (by omega)]
def rootB (l : List ByteArray) : ByteArray := rootF (l.length + 1) l
theorem rootB_nil : rootB [] = sumB ⟨#[]⟩ := rfl
theorem rootB_one (x : ByteArray) : rootB [x] = x := rfl
theorem rootB_split (l : List ByteArray) (h2 : 2 ≤ l.length) (hm : l.length ≤ 4096) : rootB l = nodeB (rootB (l.take (splitN l.length))) (rootB (l.drop (splitN l.length))) := by
  have hs := splitN_facts l.length hm h2
  have e1 : (l.take (splitN l.length)).length = splitN l.length := by rw [List.length_take]; omega
  have e2 : (l.drop (splitN l.length)).length = l.length - splitN l.length := List.length_drop
  unfold rootB
  rw [rootF, if_neg (by omega), if_neg (by omega), e1, e2, rootF_fuel l.length (splitN l.length + 1) _ (by omega) (by omega) (by omega), rootF_fuel l.length (l.length - splitN l.length + 1) _ (by omega) (by omega) (by omega)]
theorem nodeB_size (a b : ByteArray) : (nodeB a b).size = 32 := sumB_size _
theorem leafB_size (a : ByteArray) : (leafB a).size = 32 := sumB_size _
/-- All are digests. -/
def AllD (l : List ByteArray) : Prop := ∀ x ∈ l, x.size = 32
theorem AllD.take {l : List ByteArray} (h : AllD l) (k : Nat) : AllD (l.take k) := fun x hx => h x (List.mem_of_mem_take hx)
theorem AllD.drop {l : List ByteArray} (h : AllD l) (k : Nat) : AllD (l.drop k) := fun x hx => h x (List.mem_of_mem_drop hx)
theorem rootB_size (l : List ByteArray) (h : AllD l) (hm : l.length ≤ 4096) : (rootB l).size = 32 := by
  rcases l with _ | ⟨x, _ | ⟨y, l⟩⟩
  · exact sumB_size _
  · exact h x (by simp)
  · rw [rootB_split _ (by simp) hm]
    exact nodeB_size _ _
attribute [local irreducible] Sep rowT boxT hashT sumB splitN rootB nodeB cutA
set_option maxHeartbeats 2000000 in
set_option maxRecDepth 100000 in
theorem root_calls : ∀ (f n : Nat) (w : World) (A : Option Addr) (c : Nat) (l : List ByteArray), Kd.C Kd.string w A n l → n ≤ c → n < f → n ≤ 4096 → AllD l →
    Calls Try.prog 63 #[.slice A n c] w fun e w' => e = .returned (.string (rootB l)) ∧ Below w.heap.size w w'
  | 0, _, _, _, _, _, _, _, h, _, _ => by omega
  | f + 1, n, w, A, c, l, hC, hcn, hf, hm, hd => by
    have hln : l.length = n := hC.1
    have S := Aside0.mk (SepT.start w)
    rcases (by omega : n = 0 ∨ n = 1 ∨ 2 ≤ n) with rfl | rfl | h2
    · obtain rfl := List.eq_nil_of_length_eq_zero hln
      have h0 : (⟨#[]⟩ : ByteArray).size ≤ 100000000 := Nat.zero_le _
      clear hC hd hf
      go_enter Try.func63, Try.ntmps63
      go_wp2_with (go_at_call 28; have hc := SumF_S S.out ⟨#[]⟩ h0; go_fit hc; clear hc; rintro e w1 ⟨rfl, hh⟩; clear S; have S := Aside0.mk hh; clear hh)
      go_ret
      exact ⟨by rw [rootB_nil]; rfl, Sep.base S.out⟩
    · obtain ⟨x, rfl⟩ := List.length_eq_one_iff.1 hln
      obtain ⟨ad, hAd, d0⟩ := str_at hC 0 (by omega) (by omega)
      subst hAd
      have d1 : w.cell? ad = some (.string x) := by simpa [Addr.add] using d0
      clear hC hd hf d0
      go_enter Try.func63, Try.ntmps63
      go_wp2
      go_ret
      exact ⟨by rw [rootB_one]; rfl, Sep.base S.out⟩
    · have hs := splitN_facts n hm h2
      have hr := rootB_split l (by omega) (by omega)
      rw [hln] at hr
      have C1 := C_lo hC (k := splitN n) (by omega)
      have C2 := C_hi hC (k := splitN n) (by omega) hcn
      have z1 := rootB_size _ (hd.take (splitN n)) (by rw [List.length_take]; omega)
      have z2 := rootB_size _ (hd.drop (splitN n)) (by rw [List.length_drop]; omega)
      have d1 := hd.take (splitN n)
      have d2 := hd.drop (splitN n)
      generalize l.take (splitN n) = l1 at *
      generalize l.drop (splitN n) = l2 at *
      have s1 := slice_lo A n c (splitN n) (by omega) hcn
      have s2 := slice_hi A n c (splitN n) (by omega)
      have HSP : Aside0 (∀ V ts, SepT w V ts → Calls Try.prog 90 #[.int .i64 n] V fun e w' => e = .returned (.int .i64 (splitN n : Nat)) ∧ SepT w w' ts) := ⟨fun V ts h => split_S h n h2 hm⟩
      generalize splitN n = k at *
      generalize cutA A c k = A2 at *
      have I1 : Aside0 (∀ V, SepT w V [] → Calls Try.prog 63 #[.slice A k c] V fun e w' => e = .returned (.string (rootB l1)) ∧ SepT w w' []) := ⟨fun V h => (root_calls f k V A c l1 (Kd.C_below C1 (Sep.base h)) (by omega) (by omega) (by omega) d1).mono (fun _ _ q => ⟨q.1, h.below q.2⟩)⟩
      have I2 : Aside0 (∀ V, SepT w V [] → Calls Try.prog 63 #[.slice A2 (n - k) (c - k)] V fun e w' => e = .returned (.string (rootB l2)) ∧ SepT w w' []) := ⟨fun V h => (root_calls f (n - k) V A2 (c - k) l2 (Kd.C_below C2 (Sep.base h)) (by omega) (by omega) (by omega) d2).mono (fun _ _ q => ⟨q.1, h.below q.2⟩)⟩
      have HR := Aside0.mk hr
      generalize n - k = n2 at *
      generalize c - k = c2 at *
      generalize rootB l1 = r1 at *
      generalize rootB l2 = r2 at *
      have h2i : (2 : Int) ≤ n := by omega
      clear C1 C2 d1 d2 hr hs hC hd hf hln
      go_enter Try.func63, Try.ntmps63
      go_wp2_with (go_at_call 90; have hc := HSP.out _ _ S.out; go_fit hc; clear hc; rintro e w1 ⟨rfl, hh⟩; clear S; have S := Aside0.mk hh; clear hh)
      go_upto_region 7 with fail
      have S1 := Aside0.mk S.out.drew
      clear S
      have S := S1
      clear S1
      go_region_held3 (fun V => True) (trivial) (first
        | (go_at_call 63; have hc := I1.out _ S.out; go_fit hc; clear hc; rintro e w2 ⟨rfl, hh⟩; clear S; have S := Aside0.mk hh; clear hh)
        | (go_at_call 63; have hc := I2.out _ S.out; go_fit hc; clear hc; rintro e w3 ⟨rfl, hh⟩; clear S; have S := Aside0.mk hh; clear hh)
        | (go_at_call 49; have hc := Node_S S.out r1 r2 z1 z2; go_fit hc; clear hc; rintro e w4 ⟨rfl, hh⟩; clear S; have S := Aside0.mk hh; clear hh))
      all_goals
        go_wp2_with fail
        go_ret
        exact ⟨by rw [HR.out]; rfl, Sep.base S.out⟩
end Go.Proofs.Ytiafadmkkehdnaa.Sh
namespace Go.Proofs.Ytiafadmkkehdnaa.Sh
open Go.RowKit Go.Great Go.Proofs.YtiafadmkkehdnaaW.PrintWords Go.Proofs.YtiafadmkkehdnaaW.PrintMore
set_option linter.unusedVariables false

theorem SepT.lift {w0 w w1 : World} {ts : List Th} {t : Th} (S0 : SepT w0 w ts) (h : SepT w w1 [t]) : SepT w0 w1 (t :: ts) := by
  obtain ⟨ok, h1, h2, h3⟩ := h
  exact S0.add h3 t (t.stay h1 (fun _ _ _ => rfl) (fun k hk _ => (h2 k hk).1))
theorem SepT.nilRow {w0 w : World} {ts : List Th} (S0 : SepT w0 w ts) : SepT w0 w (rowT Kd.string 9 (.slice none 0 0) [] :: ts) :=
  S0.addRow (Below.refl _ _) (ok := fun _ => True) (Kd.R_nil Kd.string 9 _ _ _)

/-! ### the proofs, plainly -/
def inclF : Nat → List ByteArray → Nat → List ByteArray
  | 0, _, _ => []
  | f + 1, l, i => if l.length = 1 then [] else if i < splitN l.length then inclF f (l.take (splitN l.length)) i ++ [rootB (l.drop (splitN l.length))] else inclF f (l.drop (splitN l.length)) (i - splitN l.length) ++ [rootB (l.take (splitN l.length))]
theorem inclF_fuel : ∀ (f g : Nat) (l : List ByteArray) (i : Nat), l.length ≤ 4096 → i < l.length → l.length < f → l.length < g → inclF f l i = inclF g l i
  | 0, _, _, _, _, _, h, _ => by omega
  | _, 0, _, _, _, _, _, h => by omega
  | f + 1, g + 1, l, i, hm, hi, hf, hg => by
    rw [inclF, inclF]
    by_cases h1 : l.length = 1
    · rw [if_pos h1, if_pos h1]
    · rw [if_neg h1, if_neg h1]
      have hs := splitN_facts l.length hm (by omega)
      have e1 : (l.take (splitN l.length)).length = splitN l.length := by rw [List.length_take]; omega
      have e2 : (l.drop (splitN l.length)).length = l.length - splitN l.length := List.length_drop
      by_cases hk : i < splitN l.length
      · rw [if_pos hk, if_pos hk, inclF_fuel f g (l.take _) i (by omega) (by omega) (by omega) (by omega)]
      · rw [if_neg hk, if_neg hk, inclF_fuel f g (l.drop _) (i - splitN l.length) (by omega) (by omega) (by omega) (by omega)]
theorem inclF_length : ∀ (f : Nat) (l : List ByteArray) (i : Nat), (inclF f l i).length ≤ f
  | 0, _, _ => by simp [inclF]
  | f + 1, l, i => by
    rw [inclF]
    split
    · simp
    · split
      · have := inclF_length f (l.take (splitN l.length)) i
        simp; omega
      · have := inclF_length f (l.drop (splitN l.length)) (i - splitN l.length)
        simp; omega
def inclB (l : List ByteArray) (i : Nat) : List ByteArray := inclF (l.length + 1) l i
theorem inclB_one (x : ByteArray) (i : Nat) : inclB [x] i = [] := rfl
theorem inclB_lo (l : List ByteArray) (i : Nat) (h2 : 2 ≤ l.length) (hm : l.length ≤ 4096) (hi : i < splitN l.length) : inclB l i = inclB (l.take (splitN l.length)) i ++ [rootB (l.drop (splitN l.length))] := by
  have hs := splitN_facts l.length hm h2
  have e1 : (l.take (splitN l.length)).length = splitN l.length := by rw [List.length_take]; omega
  unfold inclB
  rw [inclF, if_neg (by omega), if_pos hi, e1, inclF_fuel l.length (splitN l.length + 1) _ i (by omega) (by omega) (by omega) (by omega)]
theorem inclB_hi (l : List ByteArray) (i : Nat) (h2 : 2 ≤ l.length) (hm : l.length ≤ 4096) (hi : ¬ i < splitN l.length) (hl : i < l.length) : inclB l i = inclB (l.drop (splitN l.length)) (i - splitN l.length) ++ [rootB (l.take (splitN l.length))] := by
  have hs := splitN_facts l.length hm h2
  have e2 : (l.drop (splitN l.length)).length = l.length - splitN l.length := List.length_drop
  unfold inclB
  rw [inclF, if_neg (by omega), if_neg hi, e2, inclF_fuel l.length (l.length - splitN l.length + 1) _ (i - splitN l.length) (by omega) (by omega) (by omega) (by omega)]
theorem inclB_length (l : List ByteArray) (i : Nat) : (inclB l i).length ≤ l.length + 1 := inclF_length _ _ _

def consF : Nat → List ByteArray → Nat → Bool → List ByteArray
  | 0, _, _, _ => []
  | f + 1, l, m, b => if m = l.length then (if b = true then [] else [rootB l]) else if m ≤ splitN l.length then consF f (l.take (splitN l.length)) m b ++ [rootB (l.drop (splitN l.length))] else consF f (l.drop (splitN l.length)) (m - splitN l.length) false ++ [rootB (l.take (splitN l.length))]
theorem consF_fuel : ∀ (f g : Nat) (l : List ByteArray) (m : Nat) (b : Bool), l.length ≤ 4096 → 1 ≤ m → m ≤ l.length → l.length < f → l.length < g → consF f l m b = consF g l m b
  | 0, _, _, _, _, _, _, _, h, _ => by omega
  | _, 0, _, _, _, _, _, _, _, h => by omega
  | f + 1, g + 1, l, m, b, hm, h1, hl, hf, hg => by
    rw [consF, consF]
    by_cases he : m = l.length
    · rw [if_pos he, if_pos he]
    · rw [if_neg he, if_neg he]
      have hs := splitN_facts l.length hm (by omega)
      have e1 : (l.take (splitN l.length)).length = splitN l.length := by rw [List.length_take]; omega
      have e2 : (l.drop (splitN l.length)).length = l.length - splitN l.length := List.length_drop
      by_cases hk : m ≤ splitN l.length
      · rw [if_pos hk, if_pos hk, consF_fuel f g (l.take _) m b (by omega) (by omega) (by omega) (by omega) (by omega)]
      · rw [if_neg hk, if_neg hk, consF_fuel f g (l.drop _) (m - splitN l.length) false (by omega) (by omega) (by omega) (by omega) (by omega)]
theorem consF_length : ∀ (f : Nat) (l : List ByteArray) (m : Nat) (b : Bool), (consF f l m b).length ≤ f
  | 0, _, _, _ => by simp [consF]
  | f + 1, l, m, b => by
    rw [consF]
    split
    · split <;> simp
    · split
      · have := consF_length f (l.take (splitN l.length)) m b
        simp; omega
      · have := consF_length f (l.drop (splitN l.length)) (m - splitN l.length) false
        simp; omega
def consB (l : List ByteArray) (m : Nat) (b : Bool) : List ByteArray := consF (l.length + 1) l m b
theorem consB_whole (l : List ByteArray) : consB l l.length true = [] := by unfold consB; rw [consF, if_pos rfl, if_pos rfl]
theorem consB_part (l : List ByteArray) : consB l l.length false = [rootB l] := by unfold consB; rw [consF, if_pos rfl, if_neg (by decide)]
theorem consB_lo (l : List ByteArray) (m : Nat) (b : Bool) (h0 : 1 ≤ m) (hl : m < l.length) (hm : l.length ≤ 4096) (hk : m ≤ splitN l.length) : consB l m b = consB (l.take (splitN l.length)) m b ++ [rootB (l.drop (splitN l.length))] := by
  have hs := splitN_facts l.length hm (by omega)
  have e1 : (l.take (splitN l.length)).length = splitN l.length := by rw [List.length_take]; omega
  unfold consB
  rw [consF, if_neg (by omega), if_pos hk, e1, consF_fuel l.length (splitN l.length + 1) _ m b (by omega) (by omega) (by omega) (by omega) (by omega)]
theorem consB_hi (l : List ByteArray) (m : Nat) (b : Bool) (h0 : 1 ≤ m) (hl : m < l.length) (hm : l.length ≤ 4096) (hk : ¬ m ≤ splitN l.length) : consB l m b = consB (l.drop (splitN l.length)) (m - splitN l.length) false ++ [rootB (l.take (splitN l.length))] := by
  have hs := splitN_facts l.length hm (by omega)
  have e2 : (l.drop (splitN l.length)).length = l.length - splitN l.length := List.length_drop
  unfold consB
  rw [consF, if_neg (by omega), if_neg hk, e2, consF_fuel l.length (l.length - splitN l.length + 1) _ (m - splitN l.length) false (by omega) (by omega) (by omega) (by omega) (by omega)]
theorem consB_length (l : List ByteArray) (m : Nat) (b : Bool) : (consB l m b).length ≤ l.length + 1 := consF_length _ _ _ _

attribute [local irreducible] Sep rowT boxT hashT sumB splitN rootB nodeB cutA inclB consB
set_option maxHeartbeats 4000000 in
set_option maxRecDepth 100000 in
theorem incl_calls : ∀ (f n : Nat) (w : World) (A : Option Addr) (c : Nat) (l : List ByteArray) (i : Nat), Kd.C Kd.string w A n l → n ≤ c → n < f → n ≤ 4096 → AllD l → i < n →
    Calls Try.prog 64 #[.slice A n c, .int .i64 i] w fun e w' => ∃ B cb, e = .returned (.slice B (inclB l i).length cb) ∧ SepT w w' [rowT Kd.string 9 (.slice B (inclB l i).length cb) (inclB l i)]
  | 0, _, _, _, _, _, _, _, _, h, _, _, _ => by omega
  | f + 1, n, w, A, c, l, i, hC, hcn, hf, hm, hd, hi => by
    have hln : l.length = n := hC.1
    have S := Aside0.mk (SepT.start w)
    rcases (by omega : n = 1 ∨ 2 ≤ n) with rfl | h2
    · obtain ⟨x, rfl⟩ := List.length_eq_one_iff.1 hln
      clear hC hd hf
      go_enter Try.func64, Try.ntmps64
      go_wp2
      go_ret
      exact ⟨none, 0, by rw [inclB_one]; rfl, by rw [inclB_one]; exact S.out.nilRow⟩
    · have hs := splitN_facts n hm h2
      have C1 := C_lo hC (k := splitN n) (by omega)
      have C2 := C_hi hC (k := splitN n) (by omega) hcn
      have d1 := hd.take (splitN n)
      have d2 := hd.drop (splitN n)
      have hlo := inclB_lo l i (by omega) (by omega)
      have hhi := inclB_hi l i (by omega) (by omega)
      rw [hln] at hlo hhi
      have s1 := slice_lo A n c (splitN n) (by omega) hcn
      have s2 := slice_hi A n c (splitN n) (by omega)
      have HSP : Aside0 (∀ V ts, SepT w V ts → Calls Try.prog 90 #[.int .i64 n] V fun e w' => e = .returned (.int .i64 (splitN n : Nat)) ∧ SepT w w' ts) := ⟨fun V ts h => split_S h n h2 hm⟩
      generalize splitN n = k at *
      have hl1 : (l.take k).length ≤ 4096 := by rw [List.length_take]; omega
      have hl2 : (l.drop k).length ≤ 4096 := by rw [List.length_drop]; omega
      generalize l.take k = l1 at *
      generalize l.drop k = l2 at *
      generalize cutA A c k = A2 at *
      obtain ⟨n2, hn2⟩ : ∃ n2, n - k = n2 := ⟨_, rfl⟩
      obtain ⟨c2, hc2⟩ : ∃ c2, c - k = c2 := ⟨_, rfl⟩
      rw [hn2, hc2] at s2
      rw [hn2] at C2
      have h2i : (2 : Int) ≤ n := by omega
      have hri : ∀ V (ts : List Th), SepT w V ts → Below w.heap.size w V := fun V ts h => Sep.base h
      by_cases hk : i < k
      · have hki : (i : Int) < (k : Int) := by omega
        have hr := hlo hk
        have hxl := inclB_length l1 i
        have I1 : Aside0 (∀ V, SepT w V [] → Calls Try.prog 64 #[.slice A k c, .int .i64 i] V fun e w' => ∃ B cb, e = .returned (.slice B (inclB l1 i).length cb) ∧ SepT w w' [rowT Kd.string 9 (.slice B (inclB l1 i).length cb) (inclB l1 i)]) := ⟨fun V h => (incl_calls f k V A c l1 i (Kd.C_below C1 (Sep.base h)) (by omega) (by omega) (by omega) d1 hk).mono (fun _ _ ⟨B, cb, q1, q2⟩ => ⟨B, cb, q1, h.lift q2⟩)⟩
        have I2 : Aside0 (∀ V ts, SepT w V ts → Calls Try.prog 63 #[.slice A2 n2 c2] V fun e w' => e = .returned (.string (rootB l2)) ∧ SepT w w' ts) := ⟨fun V ts h => (root_calls (n2 + 1) n2 V A2 c2 l2 (Kd.C_below C2 (Sep.base h)) (by omega) (by omega) (by omega) d2).mono (fun _ _ q => ⟨q.1, h.below q.2⟩)⟩
        have HR := Aside0.mk hr
        generalize inclB l1 i = xs at *
        generalize rootB l2 = r2 at *
        have hxs : xs.length ≤ 5000 := by omega
        have h11 : [r2].length ≤ 1000000000 := by simp
        have hxr : (xs.length + [r2].length) * 16 ≤ 140737488355328 := by simp; omega
        clear C1 C2 d1 d2 hr hs hC hd hf hln hlo hhi hri hxl
        go_enter Try.func64, Try.ntmps64
        go_wp2_with (go_at_call 90; have hc := HSP.out _ _ S.out; go_fit hc; clear hc; rintro e w1 ⟨rfl, hh⟩; clear S; have S := Aside0.mk hh; clear hh)
        go_upto_region 5 with fail
        have S1 := Aside0.mk S.out.drew
        clear S
        have S := S1
        clear S1
        go_region_held3 (fun V => True) (trivial) (first
          | (go_at_call 64; have hc := I1.out _ S.out; go_fit hc; clear hc; rintro e w2 ⟨B, cb, rfl, hh⟩; clear S; have S := Aside0.mk hh; clear hh)
          | (go_at_call 63; have hc := I2.out _ _ S.out; go_fit hc; clear hc; rintro e w3 ⟨rfl, hh⟩; clear S; have S := Aside0.mk hh; clear hh)
          | (refine SepT.appendLit_step (enc := Value.string) (h1 := fun _ => rfl) rfl (.tmp 19) (.tmp 24) 22 9 (.string ⟨#[]⟩) 16 rfl Try.underlying22 info9 rfl (by decide) (.slice B xs.length cb) xs [r2] h11 rfl rfl S.out hxr ?_; intro An cn w6 ho; clear S; have S := Aside0.mk ho; clear ho))
        all_goals
          go_wp2_with fail
          go_ret
          exact ⟨An, cn, by rw [HR.out, List.length_append]; rfl, by rw [HR.out]; exact S.out⟩
      · have hki : ¬ (i : Int) < (k : Int) := by omega
        have hr := hhi hk (by omega)
        obtain ⟨j, hj⟩ : ∃ j, i - k = j := ⟨_, rfl⟩
        rw [hj] at hr
        have hw : IntKind.i64.wrap ((i : Int) - (k : Int)) = (j : Int) := by rw [IntWalk.i64_in _ (by omega)]; omega
        have hxl := inclB_length l2 j
        have I1 : Aside0 (∀ V, SepT w V [] → Calls Try.prog 64 #[.slice A2 n2 c2, .int .i64 j] V fun e w' => ∃ B cb, e = .returned (.slice B (inclB l2 j).length cb) ∧ SepT w w' [rowT Kd.string 9 (.slice B (inclB l2 j).length cb) (inclB l2 j)]) := ⟨fun V h => (incl_calls f n2 V A2 c2 l2 j (Kd.C_below C2 (Sep.base h)) (by omega) (by omega) (by omega) d2 (by omega)).mono (fun _ _ ⟨B, cb, q1, q2⟩ => ⟨B, cb, q1, h.lift q2⟩)⟩
        have I2 : Aside0 (∀ V ts, SepT w V ts → Calls Try.prog 63 #[.slice A k c] V fun e w' => e = .returned (.string (rootB l1)) ∧ SepT w w' ts) := ⟨fun V ts h => (root_calls (k + 1) k V A c l1 (Kd.C_below C1 (Sep.base h)) (by omega) (by omega) (by omega) d1).mono (fun _ _ q => ⟨q.1, h.below q.2⟩)⟩
        have HR := Aside0.mk hr
        generalize inclB l2 j = xs at *
        generalize rootB l1 = r2 at *
        have hxs : xs.length ≤ 5000 := by omega
        have h11 : [r2].length ≤ 1000000000 := by simp
        have hxr : (xs.length + [r2].length) * 16 ≤ 140737488355328 := by simp; omega
        clear C1 C2 d1 d2 hr hs hC hd hf hln hlo hhi hri hxl hj
        go_enter Try.func64, Try.ntmps64
        go_wp2_with (go_at_call 90; have hc := HSP.out _ _ S.out; go_fit hc; clear hc; rintro e w1 ⟨rfl, hh⟩; clear S; have S := Aside0.mk hh; clear hh)
        go_upto_region 6 with fail
        have S1 := Aside0.mk S.out.drew
        clear S
        have S := S1
        clear S1
        go_region_held3 (fun V => True) (trivial) (first
          | (go_at_call 64; have hc := I1.out _ S.out; go_fit hc; clear hc; rintro e w2 ⟨B, cb, rfl, hh⟩; clear S; have S := Aside0.mk hh; clear hh)
          | (go_at_call 63; have hc := I2.out _ _ S.out; go_fit hc; clear hc; rintro e w3 ⟨rfl, hh⟩; clear S; have S := Aside0.mk hh; clear hh)
          | (refine SepT.appendLit_step (enc := Value.string) (h1 := fun _ => rfl) rfl (.tmp 32) (.tmp 37) 22 9 (.string ⟨#[]⟩) 16 rfl Try.underlying22 info9 rfl (by decide) (.slice B xs.length cb) xs [r2] h11 rfl rfl S.out hxr ?_; intro An cn w6 ho; clear S; have S := Aside0.mk ho; clear ho))
        all_goals
          go_wp2_with fail
          go_ret
          exact ⟨An, cn, by rw [HR.out, List.length_append]; rfl, by rw [HR.out]; exact S.out⟩
end Go.Proofs.Ytiafadmkkehdnaa.Sh
namespace Go.Proofs.Ytiafadmkkehdnaa.Sh
open Go.RowKit Go.Great Go.Proofs.YtiafadmkkehdnaaW.PrintWords Go.Proofs.YtiafadmkkehdnaaW.PrintMore
set_option linter.unusedVariables false
attribute [local irreducible] Sep rowT boxT hashT sumB splitN rootB nodeB cutA inclB consB
set_option maxHeartbeats 4000000 in
set_option maxRecDepth 100000 in
theorem cons_calls : ∀ (f n : Nat) (w : World) (A : Option Addr) (c : Nat) (l : List ByteArray) (m : Nat) (b : Bool), Kd.C Kd.string w A n l → n ≤ c → n < f → n ≤ 4096 → AllD l → 1 ≤ m → m ≤ n →
    Calls Try.prog 65 #[.slice A n c, .int .i64 m, .bool b] w fun e w' => ∃ B cb, e = .returned (.slice B (consB l m b).length cb) ∧ SepT w w' [rowT Kd.string 9 (.slice B (consB l m b).length cb) (consB l m b)]
  | 0, _, _, _, _, _, _, _, _, _, h, _, _, _, _ => by omega
  | f + 1, n, w, A, c, l, m, b, hC, hcn, hf, hm, hd, hm1, hmn => by
    have hln : l.length = n := hC.1
    have S := Aside0.mk (SepT.start w)
    rcases (by omega : m = n ∨ m < n) with rfl | hlt
    · cases b with
      | true =>
        have hr := consB_whole l
        rw [hln] at hr
        have HR := Aside0.mk hr
        clear hr hC hd hf hln
        go_enter Try.func65, Try.ntmps65
        go_wp2
        go_ret
        exact ⟨none, 0, by rw [HR.out]; rfl, by rw [HR.out]; exact S.out.nilRow⟩
      | false =>
        have hr := consB_part l
        rw [hln] at hr
        have HR := Aside0.mk hr
        have I2 : Aside0 (∀ V ts, SepT w V ts → Calls Try.prog 63 #[.slice A m c] V fun e w' => e = .returned (.string (rootB l)) ∧ SepT w w' ts) := ⟨fun V ts h => (root_calls (m + 1) m V A c l (Kd.C_below hC (Sep.base h)) hcn (by omega) (by omega) hd).mono (fun _ _ q => ⟨q.1, h.below q.2⟩)⟩
        generalize rootB l = r2 at *
        have h11 : [r2].length ≤ 1000000000 := by simp
        clear hr hC hd hf hln
        go_enter Try.func65, Try.ntmps65
        go_wp2_with (go_at_call 63; have hc := I2.out _ _ S.out; go_fit hc; clear hc; rintro e w3 ⟨rfl, hh⟩; clear S; have S := Aside0.mk hh; clear hh)
        go_ret
        exact ⟨_, 1, by rw [HR.out]; rfl, by rw [HR.out]; exact SepT.lit (enc := Value.string) (h1 := fun _ => rfl) S.out 9 [r2] h11⟩
    · have h2 : 2 ≤ n := by omega
      have hs := splitN_facts n hm h2
      have C1 := C_lo hC (k := splitN n) (by omega)
      have C2 := C_hi hC (k := splitN n) (by omega) hcn
      have d1 := hd.take (splitN n)
      have d2 := hd.drop (splitN n)
      have hlo := consB_lo l m b hm1 (by omega) (by omega)
      have hhi := consB_hi l m b hm1 (by omega) (by omega)
      rw [hln] at hlo hhi
      have s1 := slice_lo A n c (splitN n) (by omega) hcn
      have s2 := slice_hi A n c (splitN n) (by omega)
      have HSP : Aside0 (∀ V ts, SepT w V ts → Calls Try.prog 90 #[.int .i64 n] V fun e w' => e = .returned (.int .i64 (splitN n : Nat)) ∧ SepT w w' ts) := ⟨fun V ts h => split_S h n h2 hm⟩
      generalize splitN n = k at *
      have hl1 : (l.take k).length ≤ 4096 := by rw [List.length_take]; omega
      have hl2 : (l.drop k).length ≤ 4096 := by rw [List.length_drop]; omega
      generalize l.take k = l1 at *
      generalize l.drop k = l2 at *
      generalize cutA A c k = A2 at *
      obtain ⟨n2, hn2⟩ : ∃ n2, n - k = n2 := ⟨_, rfl⟩
      obtain ⟨c2, hc2⟩ : ∃ c2, c - k = c2 := ⟨_, rfl⟩
      rw [hn2, hc2] at s2
      rw [hn2] at C2
      have h2i : (m : Int) < n := by omega
      have hne : ((m : Int) == (n : Int)) = false := by rw [beq_eq_false_iff_ne]; omega
      by_cases hk : m ≤ k
      · have hki : (m : Int) ≤ (k : Int) := by omega
        have hr := hlo hk
        have hxl := consB_length l1 m b
        have I1 : Aside0 (∀ V, SepT w V [] → Calls Try.prog 65 #[.slice A k c, .int .i64 m, .bool b] V fun e w' => ∃ B cb, e = .returned (.slice B (consB l1 m b).length cb) ∧ SepT w w' [rowT Kd.string 9 (.slice B (consB l1 m b).length cb) (consB l1 m b)]) := ⟨fun V h => (cons_calls f k V A c l1 m b (Kd.C_below C1 (Sep.base h)) (by omega) (by omega) (by omega) d1 hm1 hk).mono (fun _ _ ⟨B, cb, q1, q2⟩ => ⟨B, cb, q1, h.lift q2⟩)⟩
        have I2 : Aside0 (∀ V ts, SepT w V ts → Calls Try.prog 63 #[.slice A2 n2 c2] V fun e w' => e = .returned (.string (rootB l2)) ∧ SepT w w' ts) := ⟨fun V ts h => (root_calls (n2 + 1) n2 V A2 c2 l2 (Kd.C_below C2 (Sep.base h)) (by omega) (by omega) (by omega) d2).mono (fun _ _ q => ⟨q.1, h.below q.2⟩)⟩
        have HR := Aside0.mk hr
        generalize consB l1 m b = xs at *
        generalize rootB l2 = r2 at *
        have hxs : xs.length ≤ 5000 := by omega
        have h11 : [r2].length ≤ 1000000000 := by simp
        have hxr : (xs.length + [r2].length) * 16 ≤ 140737488355328 := by simp; omega
        clear C1 C2 d1 d2 hr hs hC hd hf hln hlo hhi hxl
        go_enter Try.func65, Try.ntmps65
        go_wp2_with (go_at_call 90; have hc := HSP.out _ _ S.out; go_fit hc; clear hc; rintro e w1 ⟨rfl, hh⟩; clear S; have S := Aside0.mk hh; clear hh)
        go_upto_region 8 with fail
        have S1 := Aside0.mk S.out.drew
        clear S
        have S := S1
        clear S1
        go_region_held3 (fun V => True) (trivial) (first
          | (go_at_call 65; have hc := I1.out _ S.out; go_fit hc; clear hc; rintro e w2 ⟨B, cb, rfl, hh⟩; clear S; have S := Aside0.mk hh; clear hh)
          | (go_at_call 63; have hc := I2.out _ _ S.out; go_fit hc; clear hc; rintro e w3 ⟨rfl, hh⟩; clear S; have S := Aside0.mk hh; clear hh)
          | (refine SepT.appendLit_step (enc := Value.string) (h1 := fun _ => rfl) rfl (.tmp 28) (.tmp 33) 22 9 (.string ⟨#[]⟩) 16 rfl Try.underlying22 info9 rfl (by decide) (.slice B xs.length cb) xs [r2] h11 rfl rfl S.out hxr ?_; intro An cn w6 ho; clear S; have S := Aside0.mk ho; clear ho))
        all_goals
          go_wp2_with fail
          go_ret
          exact ⟨An, cn, by rw [HR.out, List.length_append]; rfl, by rw [HR.out]; exact S.out⟩
      · have hki : ¬ (m : Int) ≤ (k : Int) := by omega
        have hr := hhi hk
        obtain ⟨j, hj⟩ : ∃ j, m - k = j := ⟨_, rfl⟩
        rw [hj] at hr
        have hw : IntKind.i64.wrap ((m : Int) - (k : Int)) = (j : Int) := by rw [IntWalk.i64_in _ (by omega)]; omega
        have hxl := consB_length l2 j false
        have I1 : Aside0 (∀ V, SepT w V [] → Calls Try.prog 65 #[.slice A2 n2 c2, .int .i64 j, .bool false] V fun e w' => ∃ B cb, e = .returned (.slice B (consB l2 j false).length cb) ∧ SepT w w' [rowT Kd.string 9 (.slice B (consB l2 j false).length cb) (consB l2 j false)]) := ⟨fun V h => (cons_calls f n2 V A2 c2 l2 j false (Kd.C_below C2 (Sep.base h)) (by omega) (by omega) (by omega) d2 (by omega) (by omega)).mono (fun _ _ ⟨B, cb, q1, q2⟩ => ⟨B, cb, q1, h.lift q2⟩)⟩
        have I2 : Aside0 (∀ V ts, SepT w V ts → Calls Try.prog 63 #[.slice A k c] V fun e w' => e = .returned (.string (rootB l1)) ∧ SepT w w' ts) := ⟨fun V ts h => (root_calls (k + 1) k V A c l1 (Kd.C_below C1 (Sep.base h)) (by omega) (by omega) (by omega) d1).mono (fun _ _ q => ⟨q.1, h.below q.2⟩)⟩
        have HR := Aside0.mk hr
        generalize consB l2 j false = xs at *
        generalize rootB l1 = r2 at *
        have hxs : xs.length ≤ 5000 := by omega
        have h11 : [r2].length ≤ 1000000000 := by simp
        have hxr : (xs.length + [r2].length) * 16 ≤ 140737488355328 := by simp; omega
        clear C1 C2 d1 d2 hr hs hC hd hf hln hlo hhi hxl hj
        go_enter Try.func65, Try.ntmps65
        go_wp2_with (go_at_call 90; have hc := HSP.out _ _ S.out; go_fit hc; clear hc; rintro e w1 ⟨rfl, hh⟩; clear S; have S := Aside0.mk hh; clear hh)
        go_upto_region 9 with fail
        have S1 := Aside0.mk S.out.drew
        clear S
        have S := S1
        clear S1
        go_region_held3 (fun V => True) (trivial) (first
          | (go_at_call 65; have hc := I1.out _ S.out; go_fit hc; clear hc; rintro e w2 ⟨B, cb, rfl, hh⟩; clear S; have S := Aside0.mk hh; clear hh)
          | (go_at_call 63; have hc := I2.out _ _ S.out; go_fit hc; clear hc; rintro e w3 ⟨rfl, hh⟩; clear S; have S := Aside0.mk hh; clear hh)
          | (refine SepT.appendLit_step (enc := Value.string) (h1 := fun _ => rfl) rfl (.tmp 41) (.tmp 46) 22 9 (.string ⟨#[]⟩) 16 rfl Try.underlying22 info9 rfl (by decide) (.slice B xs.length cb) xs [r2] h11 rfl rfl S.out hxr ?_; intro An cn w6 ho; clear S; have S := Aside0.mk ho; clear ho))
        all_goals
          go_wp2_with fail
          go_ret
          exact ⟨An, cn, by rw [HR.out, List.length_append]; rfl, by rw [HR.out]; exact S.out⟩
end Go.Proofs.Ytiafadmkkehdnaa.Sh
namespace Go.Proofs.Ytiafadmkkehdnaa.Sh
open Go.RowKit Go.Great Go.Proofs.YtiafadmkkehdnaaW.PrintWords Go.Proofs.YtiafadmkkehdnaaW.PrintMore
set_option linter.unusedVariables false
theorem validB_iff (l : List ByteArray) : validB l = true ↔ l.length ≤ 4096 ∧ AllD l := by
  unfold validB AllD badD
  simp only [Bool.and_eq_true, decide_eq_true_eq, Bool.not_eq_true', List.any_eq_false]
  constructor
  · rintro ⟨h1, h2⟩
    refine ⟨h1, fun x hx => ?_⟩
    have := h2 x hx
    simp at this
    omega
  · rintro ⟨h1, h2⟩
    refine ⟨h1, fun x hx => ?_⟩
    have := h2 x hx
    simp
    omega
def splitG (n : Int) : Option Int := if 2 ≤ n ∧ n ≤ 4096 then some ((splitN n.toNat : Nat) : Int) else none
theorem splitG_calls (a0 r : Int) (w : World) (h : splitG a0 = some r) : Calls Try.prog 90 #[.int .i64 a0] w fun e w' => e = .returned (.int .i64 r) ∧ Below w.heap.size w w' := by
  unfold splitG at h
  split at h
  · rename_i hh
    obtain rfl := Option.some.inj h
    obtain ⟨n, rfl⟩ := Int.eq_ofNat_of_zero_le (show 0 ≤ a0 by omega)
    exact (split_S (SepT.start w) n (by omega) (by omega)).mono (fun _ _ h => ⟨h.1, Sep.base h.2⟩)
  · cases h
def rootG (l : List ByteArray) : Option ByteArray := if validB l = true then some (rootB l) else none
theorem rootG_calls (A0 : Option Addr) (c0 : Nat) (l0 : List ByteArray) (r : ByteArray) (w : World) (hr0 : Kd.C Kd.string w A0 l0.length l0) (hc0 : l0.length ≤ c0) (h : rootG l0 = some r) :
    Calls Try.prog 63 #[.slice A0 l0.length c0] w fun e w' => e = .returned (.string r) ∧ Below w.heap.size w w' := by
  unfold rootG at h
  split at h
  · rename_i hh
    obtain rfl := Option.some.inj h
    have hv := (validB_iff l0).1 hh
    exact root_calls (l0.length + 1) l0.length w A0 c0 l0 hr0 hc0 (by omega) hv.1 hv.2
  · cases h
def inclG (l : List ByteArray) (i : Int) : Option (List ByteArray) := if validB l = true ∧ 0 ≤ i ∧ i < l.length then some (inclB l i.toNat) else none
theorem SepT.toR {w w' : World} {v : Value} {xs : List ByteArray} (h : SepT w w' [rowT Kd.string 9 v xs]) : Kd.R Kd.string 9 w' w.heap.size (fun _ => True) v xs ∧ Below w.heap.size w w' := by
  obtain ⟨ok, hR, h2, h3⟩ := h
  have hR' : Kd.R Kd.string 9 w' 0 ok v xs := hR
  refine ⟨?_, h3⟩
  obtain ⟨h1, inner, hown, hr⟩ := hR'
  refine ⟨fun _ _ => trivial, inner, ?_, ?_⟩
  · obtain ⟨o1, o2⟩ := hown
    refine ⟨o1, ?_⟩
    rcases o2 with o2 | ⟨g, cap, cur, rfl, hg, hh, r⟩
    · exact .inl o2
    · exact .inr ⟨g, cap, cur, rfl, (h2 g (h1 g (by simp [Value.ownBlock]))).1, hh, r⟩
  · exact hr.imp_ (fun p c hp => hp)
theorem inclG_calls (A0 : Option Addr) (c0 : Nat) (l0 : List ByteArray) (a1 : Int) (r : List ByteArray) (w : World) (hr0 : Kd.C Kd.string w A0 l0.length l0) (hc0 : l0.length ≤ c0) (h : inclG l0 a1 = some r) :
    Calls Try.prog 64 #[.slice A0 l0.length c0, .int .i64 a1] w fun e w' => ∃ v0_ : Value, e = .returned (v0_) ∧ Kd.R Kd.string 9 w' w.heap.size (fun _ => True) v0_ r ∧ Below w.heap.size w w' := by
  unfold inclG at h
  split at h
  · rename_i hh
    obtain rfl := Option.some.inj h
    have hv := (validB_iff l0).1 hh.1
    obtain ⟨i, rfl⟩ := Int.eq_ofNat_of_zero_le hh.2.1
    refine (incl_calls (l0.length + 1) l0.length w A0 c0 l0 i hr0 hc0 (by omega) hv.1 hv.2 (by omega)).mono ?_
    rintro e w1 ⟨B, cb, rfl, hs⟩
    exact ⟨_, rfl, hs.toR⟩
  · cases h
def consG (l : List ByteArray) (m : Int) (b : Bool) : Option (List ByteArray) := if validB l = true ∧ 1 ≤ m ∧ m ≤ l.length then some (consB l m.toNat b) else none
theorem consG_calls (A0 : Option Addr) (c0 : Nat) (l0 : List ByteArray) (a1 : Int) (a2 : Bool) (r : List ByteArray) (w : World) (hr0 : Kd.C Kd.string w A0 l0.length l0) (hc0 : l0.length ≤ c0) (h : consG l0 a1 a2 = some r) :
    Calls Try.prog 65 #[.slice A0 l0.length c0, .int .i64 a1, .bool a2] w fun e w' => ∃ v0_ : Value, e = .returned (v0_) ∧ Kd.R Kd.string 9 w' w.heap.size (fun _ => True) v0_ r ∧ Below w.heap.size w w' := by
  unfold consG at h
  split at h
  · rename_i hh
    obtain rfl := Option.some.inj h
    have hv := (validB_iff l0).1 hh.1
    obtain ⟨i, rfl⟩ := Int.eq_ofNat_of_zero_le (show 0 ≤ a1 by omega)
    refine (cons_calls (l0.length + 1) l0.length w A0 c0 l0 i a2 hr0 hc0 (by omega) hv.1 hv.2 (by omega) (by omega)).mono ?_
    rintro e w1 ⟨B, cb, rfl, hs⟩
    exact ⟨_, rfl, hs.toR⟩
  · cases h
end Go.Proofs.Ytiafadmkkehdnaa.Sh
