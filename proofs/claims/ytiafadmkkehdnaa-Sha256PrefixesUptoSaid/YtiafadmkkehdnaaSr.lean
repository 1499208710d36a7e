/-
  Plain: what Hex writes is parsed as the bytes it came from, and a changed digit is not.
-/
import Derived.Test.YtiafadmkkehdnaaSq
namespace Go.Proofs.Ytiafadmkkehdnaa.Sh
open Go.RowKit Go.Great Go.Proofs.YtiafadmkkehdnaaW.PrintWords Go.Proofs.YtiafadmkkehdnaaW.PrintMore
set_option linter.unusedVariables false

theorem hexD_range (x : Int) : 0 ≤ hexD x ∧ hexD x ≤ 255 := byteN_range _ _
theorem nib_hexD (x : Int) (h0 : 0 ≤ x) (h1 : x ≤ 15) : nibV (hexD x) = x := by
  obtain ⟨n, rfl⟩ := Int.eq_ofNat_of_zero_le h0
  have : ∀ n : Nat, n < 16 → nibV (hexD (n : Int)) = (n : Int) := by decide +kernel
  exact this n (by omega)
theorem nib_inj (x y : Int) (hx : 0 ≤ x ∧ x ≤ 255) (hy : 0 ≤ y ∧ y ≤ 255) (h : nibV x = nibV y) (h0 : 0 ≤ nibV x) : x = y := by
  have k : ∀ n : Nat, n < 256 → 0 ≤ nibV (n : Int) → hexD (nibV (n : Int)) = (n : Int) := by decide +kernel
  obtain ⟨a, rfl⟩ := Int.eq_ofNat_of_zero_le hx.1
  obtain ⟨b, rfl⟩ := Int.eq_ofNat_of_zero_le hy.1
  have e1 := k a (by omega) h0
  have e2 := k b (by omega) (by rw [← h]; exact h0)
  rw [← e1, ← e2, h]
/-- A string's byte out of the list it was built of. -/
theorem byteN_nums (l : List Int) (hl : ∀ x ∈ l, 0 ≤ x ∧ x ≤ 255) (i : Nat) (h : i < l.length) : byteN (strOfNums l) i = l.getD i 0 := by
  have hr := hl l[i] (List.getElem_mem h)
  have e : (strOfNums l).data = (l.map fun n => UInt8.ofNat n.toNat).toArray := rfl
  unfold byteN
  rw [e]
  simp only [Array.getD, List.size_toArray, List.length_map, h, List.getD_eq_getElem?_getD, List.getElem?_eq_getElem, Option.getD_some, dite_true]
  simp only [Array.getInternal_eq_getElem, List.getElem_toArray, List.getElem_map, UInt8.toNat_ofNat']
  omega
theorem hexTo_range (s : ByteArray) : ∀ i, ∀ x ∈ hexTo s i, 0 ≤ x ∧ x ≤ 255
  | 0 => by simp [hexTo]
  | i + 1 => by
    intro x hx
    rw [hexTo_succ] at hx
    rcases List.mem_append.1 hx with h | h
    · exact hexTo_range s i x h
    · simp at h
      rcases h with rfl | rfl
      · exact hexD_range _
      · exact hexD_range _
theorem hexB_size (s : ByteArray) : (hexB s).size = 2 * s.size := by
  unfold hexB
  rw [strOfNums_size, hexTo_length]
theorem hexTo_pre (s : ByteArray) (j : Nat) : ∀ n i, j < i → i + n ≤ s.size → (hexTo s (i + n)).getD (2 * j) 0 = (hexTo s i).getD (2 * j) 0 ∧ (hexTo s (i + n)).getD (2 * j + 1) 0 = (hexTo s i).getD (2 * j + 1) 0
  | 0, i, _, _ => ⟨rfl, rfl⟩
  | n + 1, i, h, h2 => by
    have ih := hexTo_pre s j n i h (by omega)
    have hl := hexTo_length s (i + n)
    rw [← ih.1, ← ih.2, show i + (n + 1) = i + n + 1 from rfl, hexTo_succ]
    constructor
    · simp only [List.getD_eq_getElem?_getD]
      rw [List.getElem?_append_left (by omega)]
    · simp only [List.getD_eq_getElem?_getD]
      rw [List.getElem?_append_left (by omega)]
theorem hexB_at (s : ByteArray) (j : Nat) (h : j < s.size) : byteN (hexB s) (2 * j) = hexD (byteN s j / 16) ∧ byteN (hexB s) (2 * j + 1) = hexD (byteN s j % 16) := by
  have hl := hexTo_length s s.size
  have hl2 := hexTo_length s j
  have hp := hexTo_pre s j (s.size - (j + 1)) (j + 1) (by omega) (by omega)
  rw [show j + 1 + (s.size - (j + 1)) = s.size by omega, hexTo_succ] at hp
  unfold hexB
  rw [byteN_nums _ (hexTo_range s _) _ (by omega), byteN_nums _ (hexTo_range s _) _ (by omega), hp.1, hp.2]
  simp only [List.getD_eq_getElem?_getD]
  rw [List.getElem?_append_right (by omega), List.getElem?_append_right (by omega), hl2, show 2 * j - 2 * j = 0 by omega, show 2 * j + 1 - 2 * j = 1 by omega]
  exact ⟨rfl, rfl⟩
/-- A string's bytes as numbers. -/
theorem bytes_at (s : ByteArray) (i : Nat) (h : i < s.size) : (bytesOf s)[i]? = some (byteN s i) := by
  have h' : i < s.data.toList.length := by rw [data_length]; exact h
  unfold bytesOf
  rw [List.getElem?_map, List.getElem?_eq_getElem h', byteN_get s i h]
  rfl
theorem refPar_take (y : ByteArray) (s : ByteArray) (h : ∀ k, k < y.size → 16 * nibV (byteN s (2 * k)) + nibV (byteN s (2 * k + 1)) = byteN y k) : ∀ j, j ≤ y.size → refPar s j = (bytesOf y).take j
  | 0, _ => by simp [refPar]
  | j + 1, hj => by
    have hb := bytes_at y j (by omega)
    have hlt : j < (bytesOf y).length := by rw [bytesOf_length]; omega
    rw [refPar, refPar_take y s h j (by omega), h j (by omega), List.take_add_one, hb]
    rfl
theorem strOf_bytesOf (y : ByteArray) : strOfNums (bytesOf y) = y := by
  apply ByteArray.ext
  apply Array.toList_inj.1
  rw [strOfNums_data]
  unfold bytesOf
  rw [List.map_map]
  conv => rhs; rw [← List.map_id y.data.toList]
  apply List.map_congr_left
  intro a _
  simp
theorem ret_parse (y : ByteArray) (hy : y.size = 32) : parOk (hexB y) = true ∧ parB (hexB y) = y := by
  have hs : (hexB y).size = 64 := by rw [hexB_size]; omega
  have hat := fun j (h : j < 32) => hexB_at y j (by omega)
  have hnib : ∀ j, j < 32 → nibV (byteN (hexB y) (2 * j)) = byteN y j / 16 ∧ nibV (byteN (hexB y) (2 * j + 1)) = byteN y j % 16 := fun j h => by
    have hr := byteN_range y j
    rw [(hat j h).1, (hat j h).2, nib_hexD _ (by omega) (by omega), nib_hexD _ (by omega) (by omega)]
    exact ⟨rfl, rfl⟩
  have hn : ∀ i, i < 64 → 0 ≤ nibV (byteN (hexB y) i) := fun i hi => by
    obtain ⟨j, hj | hj⟩ : ∃ j, i = 2 * j ∨ i = 2 * j + 1 := ⟨i / 2, by omega⟩
    · have hr := byteN_range y j
      rw [hj, (hnib j (by omega)).1]; omega
    · have hr := byteN_range y j
      rw [hj, (hnib j (by omega)).2]; omega
  obtain ⟨h1, h2⟩ := parOk_iff _ hs hn
  refine ⟨h2, ?_⟩
  rw [h1, refPar_take y (hexB y) (fun k hk => by have hr := byteN_range y k; rw [(hnib k (by omega)).1, (hnib k (by omega)).2]; omega) 32 (by omega)]
  rw [List.take_of_length_le (by rw [bytesOf_length]; omega), strOf_bytesOf]
theorem parOk_all {s : ByteArray} (h : parOk s = true) : s.size = 64 ∧ ∀ i, i < 64 → 0 ≤ nibV (byteN s i) := by
  unfold parOk at h
  simp only [Bool.and_eq_true, beq_iff_eq, List.all_eq_true, List.mem_range, decide_eq_true_eq] at h
  exact h
theorem refPar_range (s : ByteArray) (hn : ∀ i, i < 64 → 0 ≤ nibV (byteN s i)) : ∀ j, j ≤ 32 → ∀ x ∈ refPar s j, 0 ≤ x ∧ x ≤ 255
  | 0, _ => by simp [refPar]
  | j + 1, h => by
    intro x hx
    rw [refPar] at hx
    rcases List.mem_append.1 hx with h' | h'
    · exact refPar_range s hn j (by omega) x h'
    · simp at h'
      have g1 := nib_range (byteN s (2 * j))
      have g2 := nib_range (byteN s (2 * j + 1))
      have n1 := hn (2 * j) (by omega)
      have n2 := hn (2 * j + 1) (by omega)
      omega
theorem refPar_get (s : ByteArray) (k : Nat) : ∀ n j, k < j → (refPar s (j + n)).getD k 0 = (refPar s j).getD k 0
  | 0, j, _ => rfl
  | n + 1, j, h => by
    rw [← refPar_get s k n j h, show j + (n + 1) = j + n + 1 from rfl, refPar]
    simp only [List.getD_eq_getElem?_getD]
    rw [List.getElem?_append_left (by rw [refPar_length]; omega)]
theorem refPar_at (s : ByteArray) (k : Nat) (h : k < 32) : (refPar s 32).getD k 0 = 16 * nibV (byteN s (2 * k)) + nibV (byteN s (2 * k + 1)) := by
  have := refPar_get s k (32 - (k + 1)) (k + 1) (by omega)
  rw [show k + 1 + (32 - (k + 1)) = 32 by omega] at this
  rw [this, refPar]
  simp only [List.getD_eq_getElem?_getD]
  rw [List.getElem?_append_right (by rw [refPar_length]; omega), refPar_length, Nat.sub_self]
  rfl
/-- Two strings of digits that are parsed alike are alike. -/
theorem par_inj (s t : ByteArray) (hs : parOk s = true) (ht : parOk t = true) (h : parB s = parB t) (i : Nat) (hi : i < 64) : byteN s i = byteN t i := by
  obtain ⟨s1, s2⟩ := parOk_all hs
  obtain ⟨t1, t2⟩ := parOk_all ht
  rw [(parOk_iff s s1 s2).1, (parOk_iff t t1 t2).1] at h
  obtain ⟨k, hk⟩ : ∃ k, i = 2 * k ∨ i = 2 * k + 1 := ⟨i / 2, by omega⟩
  have e1 := byteN_nums _ (refPar_range s s2 32 (Nat.le_refl _)) k (by rw [refPar_length]; omega)
  have e2 := byteN_nums _ (refPar_range t t2 32 (Nat.le_refl _)) k (by rw [refPar_length]; omega)
  rw [h, e2, refPar_at s k (by omega), refPar_at t k (by omega)] at e1
  have a1 := nib_range (byteN s (2 * k))
  have a2 := nib_range (byteN s (2 * k + 1))
  have b1 := nib_range (byteN t (2 * k))
  have b2 := nib_range (byteN t (2 * k + 1))
  have c1 := s2 (2 * k) (by omega)
  have c2 := s2 (2 * k + 1) (by omega)
  have d1 := t2 (2 * k) (by omega)
  have d2 := t2 (2 * k + 1) (by omega)
  rcases hk with rfl | rfl
  · exact nib_inj _ _ (byteN_range _ _) (byteN_range _ _) (by omega) c1
  · exact nib_inj _ _ (byteN_range _ _) (byteN_range _ _) (by omega) c2
theorem par_size (s : ByteArray) (h : parOk s = true) : (parB s).size = 32 := by
  obtain ⟨s1, s2⟩ := parOk_all h
  rw [(parOk_iff s s1 s2).1, strOfNums_size, refPar_length]
/-- A string with one byte changed. -/
def withByte (x : ByteArray) (p : Nat) (v : Int) : ByteArray := strOfNums ((bytesOf x).set p v)
theorem withByte_size (x : ByteArray) (p : Nat) (v : Int) : (withByte x p v).size = x.size := by
  unfold withByte
  rw [strOfNums_size, List.length_set, bytesOf_length]
theorem withByte_at (x : ByteArray) (p : Nat) (v : Int) (hp : p < x.size) (hv : 0 ≤ v ∧ v ≤ 255) : byteN (withByte x p v) p = v := by
  unfold withByte
  rw [byteN_nums _ (fun y hy => ?_) p (by rw [List.length_set, bytesOf_length]; exact hp)]
  · simp only [List.getD_eq_getElem?_getD]
    rw [List.getElem?_set_self (by rw [bytesOf_length]; exact hp)]
    rfl
  · rcases List.mem_or_eq_of_mem_set hy with h | rfl
    · unfold bytesOf at h
      obtain ⟨b, _, rfl⟩ := List.mem_map.1 h
      have := b.toNat_lt
      omega
    · exact hv
theorem ret_other (y : ByteArray) (hy : y.size = 32) (p : Nat) (hp : p < 64) (v : Int) (hv : 0 ≤ v ∧ v ≤ 255) (hne : v ≠ byteN (hexB y) p) (hok : parOk (withByte (hexB y) p v) = true) : parB (withByte (hexB y) p v) ≠ y := by
  intro h
  obtain ⟨h1, h2⟩ := ret_parse y hy
  have e := par_inj _ _ hok h1 (h.trans h2.symm) p hp
  rw [withByte_at _ _ _ (by rw [hexB_size]; omega) hv] at e
  exact hne e
theorem xor_ne (a b : Int) (ha : 0 ≤ a ∧ a ≤ 255) (hb : 0 ≤ b ∧ b ≤ 255) (h0 : b ≠ 0) : bits .xor .u8 a b ≠ a ∧ 0 ≤ bits .xor .u8 a b ∧ bits .xor .u8 a b ≤ 255 := by
  obtain ⟨a, rfl⟩ := Int.eq_ofNat_of_zero_le ha.1
  obtain ⟨b, rfl⟩ := Int.eq_ofNat_of_zero_le hb.1
  have hw : ∀ k : Int, 0 ≤ k → k < 2 ^ 8 → IntKind.u8.wrap k = k := fun k h0 h1 => by
    have e : (2 : Int) ^ 8 = 256 := by decide
    rw [e] at h1
    rw [IntKind.wrap_u8]
    omega
  have h : bits .xor .u8 (a : Int) (b : Int) = ((a ^^^ b : Nat) : Int) := by
    have hk : IntKind.bits .u8 = 8 := rfl
    have ha' : a % 2 ^ IntKind.bits .u8 = a := Nat.mod_eq_of_lt (by rw [hk]; omega)
    have hb' : b % 2 ^ IntKind.bits .u8 = b := Nat.mod_eq_of_lt (by rw [hk]; omega)
    simp only [bits, BitVec.ofInt_natCast, BitVec.toNat_xor, BitVec.toNat_ofNat, ha', hb']
    refine hw _ (Int.natCast_nonneg _) ?_
    have := @Nat.xor_lt_two_pow a b 8 (by omega) (by omega)
    have e : (2 : Int) ^ 8 = 256 := by decide
    rw [e]
    omega
  have hlt := @Nat.xor_lt_two_pow a b 8 (by omega) (by omega)
  rw [h]
  refine ⟨fun he => ?_, by omega, by omega⟩
  have he2 : a ^^^ b = a := by omega
  have h3 : a ^^^ (a ^^^ b) = a ^^^ a := by rw [he2]
  rw [← Nat.xor_assoc, Nat.xor_self, Nat.zero_xor] at h3
  omega
end Go.Proofs.Ytiafadmkkehdnaa.Sh
