/-
  sha256's states, by the bytes that were written: New, number, Clone.
-/
import Derived.Test.YtiafadmkkehdnaaSe
import Derived.Test.YtiafadmkkehdnaaSh
namespace Go.Proofs.Ytiafadmkkehdnaa.Sh
open Go.RowKit Go.Great Go.Proofs.YtiafadmkkehdnaaW.PrintWords Go.Proofs.YtiafadmkkehdnaaW.PrintMore
set_option linter.unusedVariables false

def iv : H8 := ⟨1779033703, 3144134277, 1013904242, 2773480762, 1359893119, 2600822924, 528734635, 1541459225⟩
theorem extract_pre (a s : ByteArray) (i j : Nat) (h : j ≤ a.size) : (a ++ s).extract i j = a.extract i j := by
  rw [ByteArray.extract_append, show j - a.size = 0 by omega]
  have e : s.extract (i - a.size) 0 = ByteArray.empty := ByteArray.extract_eq_empty_iff.2 (by omega)
  rw [e]
  simp
theorem extract_suf (a s : ByteArray) (i : Nat) (h : i ≤ a.size) : (a ++ s).extract i (a ++ s).size = a.extract i a.size ++ s := by
  rw [ByteArray.extract_append, ByteArray.size_append]
  apply ByteArray.ext
  simp only [ByteArray.data_append, ByteArray.data_extract]
  have e1 : a.data.extract i (a.size + s.size) = a.data.extract i a.size := by
    apply Array.ext
    · simp only [Array.size_extract]
      show min (a.size + s.size) a.size - i = min a.size a.size - i
      omega
    · intro k h1 h2
      simp
  have e2 : s.data.extract (i - a.size) (a.size + s.size - a.size) = s.data := by
    rw [show i - a.size = 0 by omega, show a.size + s.size - a.size = s.size by omega]
    exact Array.extract_size
  rw [e1, e2]
/-- The state behind i blocks. -/
def stAt (b : ByteArray) : Nat → H8
  | 0 => iv
  | i + 1 => compress (stAt b i) (b.extract (64 * i) (64 * i + 64))
def stOf (b : ByteArray) : H8 := stAt b (b.size / 64)
def restOf (b : ByteArray) : ByteArray := b.extract (64 * (b.size / 64)) b.size
/-- A state to which the bytes b were written. -/
def hashT (g : Nat) (b : ByteArray) : Th := boxT g (hcells (stOf b) (restOf b) (b.size : Nat)) 94
theorem stAt_pre (a s : ByteArray) : ∀ i, 64 * i ≤ a.size → stAt (a ++ s) i = stAt a i
  | 0, _ => rfl
  | i + 1, h => by
    rw [stAt, stAt, stAt_pre a s i (by omega)]
    congr 1
    exact extract_pre a s _ _ (by omega)
theorem hash_new : hcells iv ⟨#[]⟩ 0 = hcells (stOf ⟨#[]⟩) (restOf ⟨#[]⟩) ((⟨#[]⟩ : ByteArray).size : Nat) := by
  rfl
attribute [local irreducible] Sep rowT boxT wordsA cellAt ks sched wordsZ
set_option maxRecDepth 100000 in
theorem New_S {w0 w : World} {ts : List Th} (S0 : SepT w0 w ts) :
    Calls Try.prog 37 #[] w fun e w' => ∃ g, e = .returned (.pointer (some ⟨g, 0, none⟩)) ∧ SepT w0 w' (hashT g ⟨#[]⟩ :: ts) := by
  have S := Aside0.mk S0
  clear S0
  go_enter Try.func37, Try.ntmps37
  go_wp2
  have S1 := Aside0.mk (S.out.allocBox (hcells iv ⟨#[]⟩ 0) 94)
  go_ret
  refine ⟨_, rfl, ?_⟩
  unfold hashT
  rw [← hash_new]
  exact S1.out
theorem strclone_S {w0 w : World} {ts : List Th} (h : SepT w0 w ts) (s : ByteArray) (hs : s.size ≤ 140737488351232) :
    Calls Try.prog 75 #[.string s] w fun e w' => e = .returned (.string s) ∧ SepT w0 w' ts := by
  have S := Aside0.mk h
  clear h
  go_enter Try.func75, Try.ntmps75
  go_wp2_with (go_at_call 99; (with_reducible refine (Try.stringslite_Clone s _ (by omega)).mono ?_); rintro e w1 ⟨rfl, hb⟩; have S1 := Aside0.mk (S.out.below hb); clear S hb)
  go_ret
  exact ⟨rfl, S1.out⟩
set_option maxHeartbeats 2000000 in
set_option maxRecDepth 100000 in
theorem Write_S {w0 w : World} {ts : List Th} {g : Nat} {b : ByteArray} (S0 : SepT w0 w (hashT g b :: ts)) (s : ByteArray) (hn : b.size + s.size ≤ 140737488351232) :
    Calls Try.prog 38 #[.pointer (some ⟨g, 0, none⟩), .string s] w fun e w' => e = .returned (.tuple #[]) ∧ SepT w0 w' (hashT g (b ++ s) :: ts) := by
  obtain ⟨c, hc⟩ : ∃ c, b ++ s = c := ⟨_, rfl⟩
  rw [hc]
  obtain ⟨n, hcn⟩ : ∃ n, c.size = n := ⟨_, rfl⟩
  have hcs : c.size = b.size + s.size := by rw [← hc, ByteArray.size_append]
  obtain ⟨m, hm⟩ : ∃ m, b.size / 64 = m := ⟨_, rfl⟩
  have hst : stOf b = stAt c m := by
    unfold stOf
    rw [hm, ← hc, stAt_pre b s m (by omega)]
  have hrs : restOf b ++ s = c.extract (64 * m) n := by
    unfold restOf
    rw [hm, ← hcn, ← hc, extract_suf b s (64 * m) (by omega)]
  have S1 : SepT w0 w (boxT g (hcells (stAt c m) (restOf b) (b.size : Nat)) 94 :: ts) := by
    rw [← hst]
    exact S0
  clear S0
  have S := Aside0.mk S1
  clear S1
  have xg := (SepT.box S.out m0).1
  have z8 : w.cell? ⟨g, 8, none⟩ = some (.string (restOf b)) := (blk_cell xg 8).trans rfl
  have z9 : w.cell? ⟨g, 9, none⟩ = some (.int .u64 (b.size : Nat)) := (blk_cell xg 9).trans rfl
  have f9 := blk_frozen xg 9
  clear xg
  have hbs : (b.size : Int) + s.size ≤ 140737488351232 := by omega
  have S1 := Aside0.mk (S.out.setBox 9 (.int .u64 ((b.size : Int) + s.size)))
  clear S
  have S := Aside0.mk (show SepT w0 _ (boxT g (hcells (stAt c m) (restOf b) ((b.size : Int) + s.size)) 94 :: ts) from S1.out)
  clear S1
  have HC := Aside0.mk (And.intro hcs (And.intro hcn (And.intro hm hrs)))
  have hrsz : (restOf b).size ≤ 64 := by unfold restOf; rw [ByteArray.size_extract]; omega
  clear hcs hcn hm hrs hst hc
  go_enter Try.func38, Try.ntmps38
  go_wp2
  clear z8 z9 f9
  rw [HC.out.2.2.2]
  generalize World.setCell _ _ _ = W at S ⊢
  go_loopw [1] (fun v1 wr => ∃ (i : Nat) (X : ByteArray), m ≤ i ∧ 64 * i ≤ n ∧ v1 = .string X ∧ Aside0 (X = c.extract (64 * i) n) ∧ Aside0 (SepT w0 wr (boxT g (hcells (stAt c i) (restOf b) ((b.size : Int) + s.size)) 94 :: ts))) (fun v1 _ => match v1 with | .string X => X.size | _ => 0)
  case atStart => exact ⟨m, _, Nat.le_refl _, by have := HC.out; omega, rfl, ⟨rfl⟩, S⟩
  case round =>
    clear S
    obtain ⟨i, X, hmi, hin, rfl, HX, S⟩ := hrel
    have hXs : X.size = n - 64 * i := by rw [HX.out, ByteArray.size_extract]; have := HC.out; omega
    by_cases hlt : 64 * (i + 1) ≤ n
    · have h64 : (64 : Int) ≤ X.size := by omega
      have hX1 : (X.extract 0 64).size = 64 := by rw [ByteArray.size_extract]; omega
      have HE : Aside0 (compress (stAt c i) (X.extract 0 64) = stAt c (i + 1)) := ⟨by
        rw [stAt, HX.out, ByteArray.extract_extract]
        congr 2
        omega⟩
      have HX2 : Aside0 (X.extract 64 X.size = c.extract (64 * (i + 1)) n) := ⟨by
        rw [hXs, HX.out, ByteArray.extract_extract]
        congr 1 <;> omega⟩
      have HXS := Aside0.mk hXs
      clear hXs
      go_wp2_with (go_at_call 74; have hc := add_S S.out (X.extract 0 64) hX1; rw [HE.out] at hc; go_fit hc; clear hc; rintro e w1 ⟨rfl, hs⟩; clear S; have S := Aside0.mk hs; clear hs)
      go_roundw
      case rel => exact ⟨i + 1, _, by omega, by omega, rfl, HX2, S⟩
      case measure => simp [ByteArray.size_extract]; omega
    · have h64 : (X.size : Int) < 64 := by omega
      have hr : X = restOf c := by
        rw [HX.out]
        unfold restOf
        have := HC.out
        rw [this.2.1, show n / 64 = i by omega]
      have hst : stAt c i = stOf c := by
        unfold stOf
        have := HC.out
        rw [this.2.1, show n / 64 = i by omega]
      have hT : ((b.size : Int) + s.size) = (c.size : Nat) := by have := HC.out; omega
      have HF : Aside0 (∀ V ts, SepT w0 V (boxT g (hcells (stAt c i) X ((b.size : Int) + s.size)) 94 :: ts) → SepT w0 V (hashT g c :: ts)) := ⟨fun V ts h => by
        unfold hashT
        rw [hr, hst, hT] at h
        exact h⟩
      have hX47 : X.size ≤ 140737488351232 := by omega
      clear hlt hr hst hT hXs
      go_wp2_with (go_at_call 75; have hc := strclone_S S.out X hX47; go_fit hc; clear hc; rintro e w1 ⟨rfl, hs⟩; clear S; have S := Aside0.mk hs; clear hs; have xg := (SepT.box S.out m0).1; have z8 : w1.cell? ⟨g, 8, none⟩ = some (.string (restOf b)) := (blk_cell xg 8).trans rfl; have f8 := blk_frozen xg 8; clear xg)
      go_end0
      exact ⟨rfl, HF.out _ _ (S.out.setBox 8 (.string X))⟩
end Go.Proofs.Ytiafadmkkehdnaa.Sh
