/-
  Plain laws: what the reference of sha256 computes, in the words of the program's contracts.
-/
import Derived.Test.YtiafadmkkehdnaaSj
import Derived.Test.YtiafadmkkehdnaaRef1
import Derived.Test.YtiafadmkkehdnaaRef2
namespace Go.Proofs.Ytiafadmkkehdnaa.Sh
open Go.RowKit Go.Great Go.Proofs.YtiafadmkkehdnaaW.PrintWords Go.Proofs.YtiafadmkkehdnaaW.PrintMore Go.Proofs.Ytiafadmkkehdnaa.Ref
set_option linter.unusedVariables false

theorem bits_or_comm (k : IntKind) (a b : Int) : bits .or k a b = bits .or k b a := by
  unfold bits
  simp only [BitVec.or_comm]
theorem rotr_f (x n : Int) (h1 : 1 ≤ n) (h2 : n ≤ 31) : modcertref01_rotr.f x n = some (rotr x n) := by
  have hw : wrap64 (32 - n) = 32 - n := by unfold wrap64; omega
  unfold modcertref01_rotr.f rotr
  rw [hw, if_pos (by omega), if_pos (by omega)]
  have e1 : shr .u32 x n = x / 2 ^ n.toNat := by
    unfold shr
    rw [Nat.min_eq_left (by show n.toNat ≤ 32; omega)]
  have e2 : shl .u32 x (32 - n) = IntKind.u32.wrap (x * 2 ^ (32 - n).toNat) := by
    unfold shl
    rw [Nat.min_eq_left (by show (32 - n).toNat ≤ 32; omega)]
  rw [e1, e2, bits_or_comm]
theorem bt_byteN (s : ByteArray) (i : Nat) (h : i < s.size) : bt s (i : Int) = byteN s i := by
  rw [byteN_get s i h]
  exact (bt_at s (i : Int) h).symm
theorem or_mul (k n m : Nat) (hk : k ≤ 32) (hm : m < 2 ^ k) (hn : n * 2 ^ k + m < 4294967296) : bits .or .u32 ((n * 2 ^ k : Nat) : Int) (m : Int) = ((n * 2 ^ k + m : Nat) : Int) := by
  have hw : ∀ k : Int, 0 ≤ k → k < 2 ^ 32 → IntKind.u32.wrap k = k := fun k h0 h1 => by
    have e : (2 : Int) ^ 32 = 4294967296 := by decide
    rw [e] at h1
    rw [IntKind.wrap_u32]
    omega
  have h := (bits_nat .u32 32 (by decide) hw (n * 2 ^ k) m (by omega) (by omega)).2
  rw [h]
  have h2 := Nat.shiftLeft_add_eq_or_of_lt hm n
  rw [Nat.shiftLeft_eq] at h2
  rw [← h2]
/-- The four bytes of a word. -/
theorem word_or (a b c d : Int) (ha : 0 ≤ a ∧ a ≤ 255) (hb : 0 ≤ b ∧ b ≤ 255) (hc : 0 ≤ c ∧ c ≤ 255) (hd : 0 ≤ d ∧ d ≤ 255) :
    bits .or .u32 (bits .or .u32 (bits .or .u32 (((a % 4294967296) * 16777216) % 4294967296) (((b % 4294967296) * 65536) % 4294967296)) (((c % 4294967296) * 256) % 4294967296)) (d % 4294967296) = ((a * 256 + b) * 256 + c) * 256 + d := by
  obtain ⟨a, rfl⟩ := Int.eq_ofNat_of_zero_le ha.1
  obtain ⟨b, rfl⟩ := Int.eq_ofNat_of_zero_le hb.1
  obtain ⟨c, rfl⟩ := Int.eq_ofNat_of_zero_le hc.1
  obtain ⟨d, rfl⟩ := Int.eq_ofNat_of_zero_le hd.1
  have e1 := or_mul 24 a (b * 65536) (by omega) (by omega) (by omega)
  have e2 := or_mul 16 (a * 256 + b) (c * 256) (by omega) (by omega) (by omega)
  have e3 := or_mul 8 ((a * 256 + b) * 256 + c) d (by omega) (by omega) (by omega)
  rw [show (((a : Int) % 4294967296) * 16777216) % 4294967296 = ((a * 2 ^ 24 : Nat) : Int) by omega, show (((b : Int) % 4294967296) * 65536) % 4294967296 = ((b * 65536 : Nat) : Int) by omega, e1]
  rw [show ((a * 2 ^ 24 + b * 65536 : Nat) : Int) = (((a * 256 + b) * 2 ^ 16 : Nat) : Int) by omega, show (((c : Int) % 4294967296) * 256) % 4294967296 = ((c * 256 : Nat) : Int) by omega, e2]
  rw [show (((a * 256 + b) * 2 ^ 16 + c * 256 : Nat) : Int) = ((((a * 256 + b) * 256 + c) * 2 ^ 8 : Nat) : Int) by omega, show ((d : Int) % 4294967296) = (d : Int) by omega, e3]
  omega
theorem part4 (s : ByteArray) (i : Nat) : part s i 4 = ((byteN s (4 * i) * 256 + byteN s (4 * i + 1)) * 256 + byteN s (4 * i + 2)) * 256 + byteN s (4 * i + 3) := by
  simp [part]
theorem mixs10 (x : Int) : mixs x 17 19 10 = bits .xor .u32 (bits .xor .u32 (rotr x 17) (rotr x 19)) (x / 1024) := by
  unfold mixs
  rw [show (2 : Int) ^ (10 : Int).toNat = 1024 by decide]
theorem mixs3 (x : Int) : mixs x 7 18 3 = bits .xor .u32 (bits .xor .u32 (rotr x 7) (rotr x 18)) (x / 8) := by
  unfold mixs
  rw [show (2 : Int) ^ (3 : Int).toNat = 8 by decide]
attribute [local irreducible] rotr bits mixs part sched
theorem next_eq (s : ByteArray) (i : Nat) (h16 : 16 ≤ i) : schedTo s (i + 1) = schedTo s i ++ [((((((Go.bits .xor .u32 (Go.bits .xor .u32 (rotr (rd (schedTo s i) ((i - 2 : Nat) : Int)) 17) (rotr (rd (schedTo s i) ((i - 2 : Nat) : Int)) 19)) ((rd (schedTo s i) ((i - 2 : Nat) : Int)) / 1024)) + (rd (schedTo s i) ((i - 7 : Nat) : Int))) % 4294967296) + (Go.bits .xor .u32 (Go.bits .xor .u32 (rotr (rd (schedTo s i) ((i - 15 : Nat) : Int)) 7) (rotr (rd (schedTo s i) ((i - 15 : Nat) : Int)) 18)) ((rd (schedTo s i) ((i - 15 : Nat) : Int)) / 8))) % 4294967296) + (rd (schedTo s i) ((i - 16 : Nat) : Int))) % 4294967296] := by
  show schedTo s i ++ [if i < 16 then part s i 4 else nextW (schedTo s i) i] = _
  rw [if_neg (by omega), nextW, mixs10, mixs3]
  unfold rd
  simp only [Int.toNat_natCast, IntKind.wrap_u32]
set_option maxRecDepth 100000 in
theorem sched_l1 (s : ByteArray) : ∀ (n i : Nat), i + n = 64 → 16 ≤ i → modcertref01_schedule.l1 (n + 1) (schedTo s i) (i : Int) = some (sched s)
  | 0, i, h, _ => by
    obtain rfl : i = 64 := by omega
    rw [modcertref01_schedule.l1, if_neg (by omega)]
    unfold sched
    rfl
  | n + 1, i, h, h16 => by
    have hl := schedTo_length s i
    have a0 : (i : Int) < 64 := by omega
    have p15 : 0 ≤ ((i - 15 : Nat) : Int) ∧ ((i - 15 : Nat) : Int) < ((schedTo s i).length : Int) := by omega
    have p2 : 0 ≤ ((i - 2 : Nat) : Int) ∧ ((i - 2 : Nat) : Int) < ((schedTo s i).length : Int) := by omega
    have p7 : 0 ≤ ((i - 7 : Nat) : Int) ∧ ((i - 7 : Nat) : Int) < ((schedTo s i).length : Int) := by omega
    have p16 : 0 ≤ ((i - 16 : Nat) : Int) ∧ ((i - 16 : Nat) : Int) < ((schedTo s i).length : Int) := by omega
    have pl : (schedTo s i).length < 35184372088832 := by omega
    have ih := sched_l1 s n (i + 1) (by omega) (by omega)
    have w1 : wrap64 ((i : Int) - 15) = ((i - 15 : Nat) : Int) := by unfold wrap64; omega
    have w2 : wrap64 ((i : Int) - 2) = ((i - 2 : Nat) : Int) := by clear w1; unfold wrap64; omega
    have w3 : wrap64 ((i : Int) - 7) = ((i - 7 : Nat) : Int) := by clear w1 w2; unfold wrap64; omega
    have w4 : wrap64 ((i : Int) - 16) = ((i - 16 : Nat) : Int) := by clear w1 w2 w3; unfold wrap64; omega
    have w5 : wrap64 ((i : Int) + 1) = ((i + 1 : Nat) : Int) := by clear w1 w2 w3 w4; unfold wrap64; omega
    rw [modcertref01_schedule.l1, if_pos a0, w1, w2, w3, w4, w5, if_pos p15.1, if_pos p15.2, if_pos p2.1, if_pos p2.2]
    rw [rotr_f _ 7 (by decide) (by decide), Option.bind_some, rotr_f _ 18 (by decide) (by decide), Option.bind_some, rotr_f _ 17 (by decide) (by decide), Option.bind_some, rotr_f _ 19 (by decide) (by decide), Option.bind_some]
    rw [if_pos p7.1, if_pos p7.2, if_pos p16.1, if_pos p16.2, if_pos pl]
    have e := next_eq s i h16
    rw [e] at ih
    exact ih
set_option maxRecDepth 100000 in
theorem sched_l0 (s : ByteArray) (hs : s.size = 64) : ∀ (n i : Nat), i + n = 16 → modcertref01_schedule.l0 (n + 50) s (schedTo s i) ((4 * i : Nat) : Int) = some (sched s)
  | 0, i, h => by
    obtain rfl : i = 16 := by omega
    rw [show 0 + 50 = 49 + 1 from rfl, modcertref01_schedule.l0, if_neg (by omega)]
    exact sched_l1 s 48 16 (by omega) (by omega)
  | n + 1, i, h => by
    have hl := schedTo_length s i
    have a0 : ((4 * i : Nat) : Int) < 64 := by omega
    have p0 : 0 ≤ ((4 * i : Nat) : Int) ∧ ((4 * i : Nat) : Int) < (s.size : Int) := by omega
    have p1 : 0 ≤ ((4 * i + 1 : Nat) : Int) ∧ ((4 * i + 1 : Nat) : Int) < (s.size : Int) := by omega
    have p2 : 0 ≤ ((4 * i + 2 : Nat) : Int) ∧ ((4 * i + 2 : Nat) : Int) < (s.size : Int) := by omega
    have p3 : 0 ≤ ((4 * i + 3 : Nat) : Int) ∧ ((4 * i + 3 : Nat) : Int) < (s.size : Int) := by omega
    have pl : (schedTo s i).length < 35184372088832 := by omega
    have b0 := bt_byteN s (4 * i) (by omega)
    have b1 := bt_byteN s (4 * i + 1) (by omega)
    have b2 := bt_byteN s (4 * i + 2) (by omega)
    have b3 := bt_byteN s (4 * i + 3) (by omega)
    have ih := sched_l0 s hs n (i + 1) (by omega)
    have e0 : n + 1 + 50 = (n + 50) + 1 := by omega
    have hi16 : i < 16 := by omega
    have w1 : wrap64 (((4 * i : Nat) : Int) + 1) = ((4 * i + 1 : Nat) : Int) := by unfold wrap64; omega
    have w2 : wrap64 (((4 * i : Nat) : Int) + 2) = ((4 * i + 2 : Nat) : Int) := by clear w1; unfold wrap64; omega
    have w3 : wrap64 (((4 * i : Nat) : Int) + 3) = ((4 * i + 3 : Nat) : Int) := by clear w1 w2; unfold wrap64; omega
    have w4 : wrap64 (((4 * i : Nat) : Int) + 4) = ((4 * (i + 1) : Nat) : Int) := by clear w1 w2 w3; unfold wrap64; omega
    rw [e0, modcertref01_schedule.l0, w1, w2, w3, w4, if_pos a0, if_pos p0.1, if_pos p0.2, if_pos p1.1, if_pos p1.2, if_pos p2.1, if_pos p2.2, if_pos p3.1, if_pos p3.2, if_pos pl]
    clear w1 w2 w3 w4
    rw [b0, b1, b2, b3]
    rw [word_or _ _ _ _ (byteN_range _ _) (byteN_range _ _) (byteN_range _ _) (byteN_range _ _)]
    have e : schedTo s (i + 1) = schedTo s i ++ [((byteN s (4 * i) * 256 + byteN s (4 * i + 1)) * 256 + byteN s (4 * i + 2)) * 256 + byteN s (4 * i + 3)] := by
      show schedTo s i ++ [if i < 16 then part s i 4 else nextW (schedTo s i) i] = _
      rw [if_pos hi16, part4]
    rw [e] at ih
    exact ih
theorem schedule_f (s : ByteArray) (hs : s.size = 64) : modcertref01_schedule.f 66 s = some (sched s) := by
  unfold modcertref01_schedule.f
  exact sched_l0 s hs 16 0 (by omega)
end Go.Proofs.Ytiafadmkkehdnaa.Sh
