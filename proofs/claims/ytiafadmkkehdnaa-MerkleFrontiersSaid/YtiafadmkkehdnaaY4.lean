/-
  merkle's laws: leaves, Few; whole.
-/
import Derived.Test.YtiafadmkkehdnaaY3
import Derived.Test.YtiafadmkkehdnaaGs1
import Derived.Test.YtiafadmkkehdnaaGs2
import Derived.BigQuiet
namespace Go.Proofs.Ytiafadmkkehdnaa.Sh
open Go.RowKit Go.Great Go.Proofs.YtiafadmkkehdnaaW.PrintWords Go.Proofs.YtiafadmkkehdnaaW.PrintMore
set_option linter.unusedVariables false

def tot2 : List ByteArray → Nat
  | [] => 0
  | p :: l => p.size + tot2 l
theorem tot2_append : ∀ (l m : List ByteArray), tot2 (l ++ m) = tot2 l + tot2 m
  | [], m => by simp [tot2]
  | p :: l, m => by simp [tot2, tot2_append l m]; omega
theorem tot2_mem : ∀ {l : List ByteArray} {x : ByteArray}, x ∈ l → x.size ≤ tot2 l
  | p :: l, x, h => by
    rcases List.mem_cons.1 h with rfl | h
    · simp [tot2]
    · have := tot2_mem h; simp [tot2]; omega
theorem tot2_le (l : List ByteArray) (b : Nat) (h : ∀ x ∈ l, x.size ≤ b) : tot2 l ≤ l.length * b := by
  induction l with
  | nil => simp [tot2]
  | cons p l ih =>
    have h1 := h p (by simp)
    have h2 := ih (fun x hx => h x (by simp [hx]))
    rw [tot2, List.length_cons, Nat.add_mul, Nat.one_mul]
    omega
/-- The laws' guard. -/
def FewB (l : List ByteArray) : Bool := decide (l.length ≤ 70) && decide (tot2 l ≤ 20000)
theorem few2_l0 (l : List ByteArray) (hb : ∀ x ∈ l, x.size ≤ 140737488351232) (hl : l.length ≤ 70) : ∀ n i : Nat, i + n = l.length → Gs.modcertref46_Few.l0 (n + 1) l ((tot2 (l.take i) : Nat) : Int) (i : Int) = some (FewB l)
  | 0, i, h => by
    obtain rfl : i = l.length := by omega
    rw [Gs.modcertref46_Few.l0, if_neg (by omega), List.take_length, if_pos (by omega)]
    unfold FewB
    rw [decide_eq_true hl, Bool.true_and]
    congr 1
    exact decide_eq_decide.2 (by omega)
  | n + 1, i, h => by
    have hi : i < l.length := by omega
    have hi2 : (i : Int) < (l.length : Int) := by omega
    rw [Gs.modcertref46_Few.l0, if_pos hi2, if_pos (by omega)]
    have e1 : rdOf ByteArray.empty l (i : Int) = l[i] := by
      unfold rdOf
      simp [List.getD, hi]
    have e2 : l.take (i + 1) = l.take i ++ [l[i]] := by simp
    have e3 : tot2 (l.take (i + 1)) = tot2 (l.take i) + l[i].size := by rw [e2, tot2_append]; simp [tot2]
    have e4 := tot2_le (l.take (i + 1)) _ (fun x hx => hb x (List.mem_of_mem_take hx))
    have e5 : (l.take (i + 1)).length ≤ 70 := by rw [List.length_take]; omega
    have e6 : (l.take (i + 1)).length * 140737488351232 ≤ 70 * 140737488351232 := Nat.mul_le_mul_right _ e5
    have ih := few2_l0 l hb hl n (i + 1) (by omega)
    rw [e1]
    have w1 : wrap64 (((tot2 (l.take i) : Nat) : Int) + (l[i].size : Int)) = ((tot2 (l.take (i + 1)) : Nat) : Int) := by unfold wrap64; omega
    have w2 : wrap64 ((i : Int) + 1) = ((i + 1 : Nat) : Int) := by clear w1 e1; unfold wrap64; omega
    rw [w1, w2]
    exact ih
theorem few2_long (l : List ByteArray) (hl : 70 < l.length) (hm : l.length ≤ 9223372036854775807) : ∀ (n i : Nat) (x : Int), i + n = l.length → Gs.modcertref46_Few.l0 (n + 1) l x (i : Int) = some (FewB l)
  | 0, i, x, h => by
    obtain rfl : i = l.length := by omega
    rw [Gs.modcertref46_Few.l0, if_neg (by omega), if_neg (by omega)]
    unfold FewB
    rw [decide_eq_false (by omega)]
    rfl
  | n + 1, i, x, h => by
    have hi2 : (i : Int) < (l.length : Int) := by omega
    rw [Gs.modcertref46_Few.l0, if_pos hi2, if_pos (by omega)]
    have w2 : wrap64 ((i : Int) + 1) = ((i + 1 : Nat) : Int) := by unfold wrap64; omega
    rw [w2]
    exact few2_long l hl hm n (i + 1) _ (by omega)
theorem few2_f (l : List ByteArray) (hb : ∀ x ∈ l, x.size ≤ 140737488351232) (hm : l.length ≤ 9223372036854775807) : Gs.modcertref46_Few.f (l.length + 1) l = some (FewB l) := by
  unfold Gs.modcertref46_Few.f
  rcases Nat.lt_or_ge 70 l.length with h | h
  · exact few2_long l h hm l.length 0 0 (by omega)
  · have := few2_l0 l hb h l.length 0 (by omega)
    simpa [tot2] using this
theorem Few2_S {w0 w : World} {ts : List Th} (S0 : SepT w0 w ts) (A : Option Addr) (c : Nat) (l : List ByteArray) (hC : Kd.C Kd.string w A l.length l) (hc : l.length ≤ c) (hb : ∀ x ∈ l, x.size ≤ 140737488351232) :
    Calls Try.prog 17 #[.slice A l.length c] w fun e w' => e = .returned (.bool (FewB l)) ∧ SepT w0 w' ts := by
  refine (Gs.modcertref46_Few.calls (l.length + 1) A c l _ w hC hc (few2_f l hb hC.2.1)).mono ?_
  rintro e w1 ⟨rfl, hd⟩
  refine ⟨rfl, ?_⟩
  obtain ⟨n, rfl⟩ := hd
  exact S0.drewN n
theorem FewB_true {l : List ByteArray} (h : FewB l = true) : l.length ≤ 70 ∧ tot2 l ≤ 20000 := by
  unfold FewB at h
  simpa using h
theorem leaves_all (l : List ByteArray) : AllD (l.map leafB) := by
  intro x hx
  obtain ⟨a, _, rfl⟩ := List.mem_map.1 hx
  exact leafB_size a
theorem leaves_valid (l : List ByteArray) (h : l.length ≤ 4096) : validB (l.map leafB) = true := (validB_iff _).2 ⟨by simpa using h, leaves_all l⟩
attribute [local irreducible] Sep rowT boxT hashT sumB leafB
set_option maxHeartbeats 2000000 in
set_option maxRecDepth 100000 in
theorem leaves_calls (w : World) (A : Option Addr) (c : Nat) (l : List ByteArray) (hC : Kd.C Kd.string w A l.length l) (hl : l.length ≤ 5000) (hb : ∀ x ∈ l, x.size ≤ 10000000) :
    Calls Try.prog 18 #[.slice A l.length c] w fun e w' => ∃ B cb, e = .returned (.slice B l.length cb) ∧ SepT w w' [rowT Kd.string 9 (.slice B l.length cb) (l.map leafB)] := by
  have S := Aside0.mk (SepT.start w).nilRow
  have HC := Aside0.mk hC
  have HB := Aside0.mk hb
  clear hC hb
  go_enter Try.func18, Try.ntmps18
  go_wp2
  go_loopw [3, 8] (fun v3 v8 wr => ∃ (k : Nat) (B : Option Addr) (cb : Nat) (xs : List ByteArray), k ≤ l.length ∧ v8 = .int .i64 k ∧ v3 = .slice B k cb ∧ Aside0 (k = xs.length ∧ xs = (l.take k).map leafB) ∧ Aside0 (SepT w wr [rowT Kd.string 9 (.slice B k cb) xs])) (fun _ v8 _ => l.length - (intOf v8).toNat)
  case atStart => exact ⟨0, none, 0, [], Nat.zero_le _, rfl, rfl, ⟨rfl, rfl⟩, S⟩
  case round =>
    clear S
    obtain ⟨k, B, cb, xs, hk, rfl, rfl, HX, S⟩ := hrel
    by_cases hlt : k < l.length
    · have hlt2 : (k : Int) < l.length := by omega
      obtain ⟨ad, hAd, d0⟩ := str_at HC.out k (by omega) (by omega)
      subst hAd
      rw [Int.toNat_natCast] at d0
      have hmem : l.getD k ⟨#[]⟩ ∈ l := by simp [List.getD, hlt]
      have hys := HB.out _ hmem
      have hts : (l.take (k + 1)).map leafB = (l.take k).map leafB ++ [leafB (l.getD k ⟨#[]⟩)] := by rw [List.take_succ_eq_append_getElem hlt, List.map_append]; simp [List.getD, hlt]
      rw [← HX.out.2] at hts
      generalize l.getD k ⟨#[]⟩ = y at *
      have hB := Sep.base S.out
      replace d0 := pw_cell_below hB d0
      obtain ⟨z, hz⟩ : ∃ z, leafB y = z := ⟨_, rfl⟩
      have HZ := Aside0.mk hz
      rw [hz] at hts
      have HTS := Aside0.mk hts
      have hxk := HX.out.1
      have HS : Aside0 (∀ (V : World) (ts : List Th), SepT w V ts → Calls Try.prog 47 #[.string y] V fun e w' => e = .returned (.string z) ∧ SepT w w' ts) := ⟨fun V ts h => by rw [← HZ.out]; exact Leaf_S h y hys⟩
      have haL : (xs.length + 1) * 16 ≤ 140737488355328 := by omega
      have S1 := Aside0.mk (show SepT w wr [rowT Kd.string 9 (.slice B k cb) xs] from S.out)
      have HLN : Aside0 ((xs ++ [z]).length = k + 1) := ⟨by rw [List.length_append, ← hxk]; rfl⟩
      clear hmem hts hB hz hxk S hys
      go_wp2_with (first
        | (go_at_call 47; have hc := HS.out _ _ S1.out; go_fit hc; clear hc; rintro e w1 ⟨rfl, hs⟩; clear S1; have S := Aside0.mk hs; clear hs)
        | ((with_reducible refine gate_builtin (b := .append) (xs := #[.tmp 12, .tmp 15]) rfl ?_); at_builtin; go_loud (refine SepT.appends Kd.string rfl (.tmp 12) (.tmp 15) 22 9 (.string ⟨#[]⟩) 16 rfl Try.underlying22 info9 rfl (by decide) (by decide) (.slice B k cb) xs z [.string z] rfl rfl ?aP S.out haL ?_; (case aP => exact rfl); intro Bn cn w6 ho; rw [HLN.out] at ho ⊢; have S4 := Aside0.mk ho; clear ho)))
      clear d0
      go_roundw
      case rel => exact ⟨k + 1, Bn, cn, xs ++ [z], by omega, by go_num, rfl, ⟨HLN.out.symm, HTS.out.symm⟩, S4⟩
      case measure => simp [intOf]; omega
    · obtain rfl : k = l.length := by omega
      go_wp2
      go_ret
      exact ⟨B, cb, rfl, by have := HX.out.2; rw [List.take_length] at this; rw [← this]; exact S.out⟩
end Go.Proofs.Ytiafadmkkehdnaa.Sh
namespace Go.Proofs.Ytiafadmkkehdnaa.Sh
open Go.RowKit Go.Great Go.Proofs.YtiafadmkkehdnaaW.PrintWords Go.Proofs.YtiafadmkkehdnaaW.PrintMore
set_option linter.unusedVariables false

def popF : Nat → Nat → Nat
  | 0, _ => 0
  | f + 1, n => n % 2 + popF f (n / 2)
/-- How many ones a number below 8192 has. -/
def popN (n : Nat) : Nat := popF 13 n
theorem ones_dec : ∀ a < 65, ∀ b < 64, Gs.bits_OnesCount.f ((64 * a + b : Nat) : Int) = some ((popN (64 * a + b) : Nat) : Int) := by decide +kernel
theorem ones_f (n : Nat) (h : n ≤ 4096) : Gs.bits_OnesCount.f (n : Int) = some ((popN n : Nat) : Int) := by
  have := ones_dec (n / 64) (by omega) (n % 64) (by omega)
  rw [show 64 * (n / 64) + n % 64 = n by omega] at this
  exact this
theorem Ones_S {w0 w : World} {ts : List Th} (S0 : SepT w0 w ts) (n : Nat) (h : n ≤ 4096) :
    Calls Try.prog 20 #[.int .u64 n] w fun e w' => e = .returned (.int .i64 (popN n : Nat)) ∧ SepT w0 w' ts := by
  refine (Gs.bits_OnesCount.calls (n : Int) _ w (ones_f n h)).mono ?_
  rintro e w1 ⟨rfl, hd⟩
  refine ⟨rfl, ?_⟩
  obtain ⟨n, rfl⟩ := hd
  exact S0.drewN n
def wholeB (n : Int) (l : List ByteArray) : Bool := decide (0 ≤ n) && (decide (n ≤ 4096) && (decide (l.length = popN n.toNat) && validB l))
attribute [local irreducible] Sep rowT boxT hashT sumB splitN rootB nodeB nodeP cutA inclB consB validB givR readR popN
set_option maxHeartbeats 2000000 in
set_option maxRecDepth 100000 in
theorem whole_true (w : World) (k : Nat) (A : Option Addr) (c : Nat) (l : List ByteArray) (hC : Kd.C Kd.string w A l.length l) (hk : k ≤ 4096) (h2 : l.length = popN k) :
    Calls Try.prog 58 #[.agg #[.int .i64 k, .slice A l.length c]] w fun e w' => e = .returned (.bool (validB l)) ∧ Below w.heap.size w w' := by
  have S := Aside0.mk ((SepT.start w).allocBox #[.int .i64 k, .slice A l.length c] 26)
  have HC := Aside0.mk hC
  have HK : Aside0 (∀ (V : World) (ts : List Th), SepT w V (boxT w.heap.size #[.int .i64 k, .slice A l.length c] 26 :: ts) → V.cell? ⟨w.heap.size, 0, none⟩ = some (.int .i64 k) ∧ V.cell? ⟨w.heap.size, 1, none⟩ = some (.slice A l.length c)) := ⟨fun V ts h => by
    have xg := (SepT.box h m0).1
    exact ⟨(blk_cell xg 0).trans rfl, (blk_cell xg 1).trans rfl⟩⟩
  clear hC
  have hkw : IntKind.u64.wrap (k : Int) = (k : Int) := by simp [IntKind.wrap, IntKind.bits, IntKind.signed]; omega
  have HO : Aside0 (∀ V ts, SepT w V ts → Calls Try.prog 20 #[.int .u64 k] V fun e w' => e = .returned (.int .i64 (popN k : Nat)) ∧ SepT w w' ts) := ⟨fun V ts h => Ones_S h k hk⟩
  have h3 : ((l.length : Int) == ((popN k : Nat) : Int)) = true := by rw [h2]; simp
  generalize popN k = z at *
  have d0 : decide ((0 : Int) ≤ k) = true := decide_eq_true (by omega)
  have d1 : decide ((k : Int) ≤ 4096) = true := decide_eq_true (by omega)
  clear h2
  go_enter Try.func58, Try.ntmps58
  go_upto_region 1 with fail
  have S1 := Aside0.mk S.out.drew
  clear S
  have S := S1
  clear S1
  go_region_held3 (fun V => V.cell? ⟨w.heap.size, 0, none⟩ = some (.int .i64 k) ∧ V.cell? ⟨w.heap.size, 1, none⟩ = some (.slice A l.length c)) (exact HK.out _ _ S.out) (first
    | (go_at_call 20; have hc := HO.out _ _ S.out; go_fit hc; clear hc; rintro e w1 ⟨rfl, hh⟩; clear S; have S := Aside0.mk hh; clear hh)
    | (go_at_call 62; have hc := valid_S S.out A c l HC.out; go_fit hc; clear hc; rintro e w3 ⟨rfl, hh⟩; clear S; have S := Aside0.mk hh; clear hh))
  all_goals
    go_wp2_with fail
    go_ret
    exact ⟨rfl, Sep.base S.out⟩
end Go.Proofs.Ytiafadmkkehdnaa.Sh
namespace Go.Proofs.Ytiafadmkkehdnaa.Sh
open Go.RowKit Go.Great Go.Proofs.YtiafadmkkehdnaaW.PrintWords Go.Proofs.YtiafadmkkehdnaaW.PrintMore
set_option linter.unusedVariables false
attribute [local irreducible] Sep rowT boxT hashT sumB splitN rootB nodeB nodeP cutA inclB consB validB givR readR popN
set_option maxHeartbeats 2000000 in
set_option maxRecDepth 100000 in
theorem whole_neg (w : World) (n : Int) (A : Option Addr) (m c : Nat) (h0 : ¬ 0 ≤ n) :
    Calls Try.prog 58 #[.agg #[.int .i64 n, .slice A m c]] w fun e w' => e = .returned (.bool false) ∧ Below w.heap.size w w' := by
  have S := Aside0.mk ((SepT.start w).allocBox #[.int .i64 n, .slice A m c] 26)
  have d0 : decide ((0 : Int) ≤ n) = false := decide_eq_false h0
  go_enter Try.func58, Try.ntmps58
  go_upto_region 1 with fail
  go_quiet (fail)
  all_goals
    go_wp2_with fail
    go_ret
    exact ⟨rfl, Sep.base (S.out.drewN _)⟩
set_option maxHeartbeats 2000000 in
set_option maxRecDepth 100000 in
theorem whole_big (w : World) (n : Int) (A : Option Addr) (m c : Nat) (h0 : 0 ≤ n) (h1 : ¬ n ≤ 4096) :
    Calls Try.prog 58 #[.agg #[.int .i64 n, .slice A m c]] w fun e w' => e = .returned (.bool false) ∧ Below w.heap.size w w' := by
  have S := Aside0.mk ((SepT.start w).allocBox #[.int .i64 n, .slice A m c] 26)
  have d0 : decide ((0 : Int) ≤ n) = true := decide_eq_true h0
  have d1 : decide (n ≤ 4096) = false := decide_eq_false h1
  go_enter Try.func58, Try.ntmps58
  go_upto_region 1 with fail
  go_quiet (fail)
  all_goals
    go_wp2_with fail
    go_ret
    exact ⟨rfl, Sep.base (S.out.drewN _)⟩
set_option maxHeartbeats 2000000 in
set_option maxRecDepth 100000 in
theorem whole_ne (w : World) (k : Nat) (A : Option Addr) (m c : Nat) (hk : k ≤ 4096) (h2 : m ≠ popN k) :
    Calls Try.prog 58 #[.agg #[.int .i64 k, .slice A m c]] w fun e w' => e = .returned (.bool false) ∧ Below w.heap.size w w' := by
  have S := Aside0.mk ((SepT.start w).allocBox #[.int .i64 k, .slice A m c] 26)
  have hkw : IntKind.u64.wrap (k : Int) = (k : Int) := by simp [IntKind.wrap, IntKind.bits, IntKind.signed]; omega
  have HO : Aside0 (∀ V, Calls Try.prog 20 #[.int .u64 k] V fun e w' => e = .returned (.int .i64 (popN k : Nat)) ∧ ∃ m, w' = V.drewN m) := ⟨fun V => by
    refine (Gs.bits_OnesCount.calls (k : Int) _ V (ones_f k hk)).mono ?_
    rintro e w1 ⟨rfl, hd⟩
    exact ⟨rfl, hd.out⟩⟩
  have h3 : ((m : Int) == ((popN k : Nat) : Int)) = false := by rw [beq_eq_false_iff_ne]; omega
  have h4 : ¬ (m : Int) = ((popN k : Nat) : Int) := by omega
  generalize popN k = z at *
  have d0 : decide ((0 : Int) ≤ k) = true := decide_eq_true (by omega)
  have d1 : decide ((k : Int) ≤ 4096) = true := decide_eq_true (by omega)
  go_enter Try.func58, Try.ntmps58
  go_upto_region 1 with fail
  go_quiet ((go_at_call 20; exact Calls.quiet_of (HO.out _)))
  all_goals
    go_wp2_with fail
    go_ret
    exact ⟨rfl, Sep.base (S.out.drewN _)⟩
theorem whole_calls (w : World) (n : Int) (A : Option Addr) (c : Nat) (l : List ByteArray) (hC : Kd.C Kd.string w A l.length l) :
    Calls Try.prog 58 #[.agg #[.int .i64 n, .slice A l.length c]] w fun e w' => e = .returned (.bool (wholeB n l)) ∧ Below w.heap.size w w' := by
  have hwh : wholeB n l = (decide (0 ≤ n) && (decide (n ≤ 4096) && (decide (l.length = popN n.toNat) && validB l))) := rfl
  by_cases h0 : 0 ≤ n
  · by_cases h1 : n ≤ 4096
    · obtain ⟨k, rfl⟩ := Int.eq_ofNat_of_zero_le h0
      rw [Int.toNat_natCast, decide_eq_true h0, decide_eq_true h1] at hwh
      by_cases h2 : l.length = popN k
      · rw [hwh, decide_eq_true h2]
        exact whole_true w k A c l hC (by omega) h2
      · rw [hwh, decide_eq_false h2]
        exact whole_ne w k A l.length c (by omega) h2
    · rw [hwh, decide_eq_false h1, Bool.false_and, Bool.and_false]
      exact whole_big w n A l.length c h0 h1
  · rw [hwh, decide_eq_false h0, Bool.false_and]
    exact whole_neg w n A l.length c h0
def wholeG (n : Int) (l : List ByteArray) : Option Bool := some (wholeB n l)
theorem wholeG_calls (a0_0 : Int) (A0_1 : Option Addr) (c0_1 : Nat) (l0_1 : List ByteArray) (r : Bool) (w : World) (hr0_1 : Kd.C Kd.string w A0_1 l0_1.length l0_1) (hc0_1 : l0_1.length ≤ c0_1) (h : wholeG a0_0 l0_1 = some r) :
    Calls Try.prog 58 #[.agg #[.int .i64 a0_0, .slice A0_1 l0_1.length c0_1]] w fun e w' => e = .returned (.bool r) ∧ Below w.heap.size w w' := by
  obtain rfl := Option.some.inj h
  exact whole_calls w a0_0 A0_1 c0_1 l0_1 hr0_1
end Go.Proofs.Ytiafadmkkehdnaa.Sh
