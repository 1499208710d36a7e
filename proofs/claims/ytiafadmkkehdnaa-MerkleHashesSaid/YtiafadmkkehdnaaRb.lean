/-
  The reference of chapter 46: root, inclusion, consistency, Root, Inclusion, Consistency.
-/
import Derived.Test.YtiafadmkkehdnaaRa
namespace Go.Proofs.Ytiafadmkkehdnaa.Sh
open Go.RowKit Go.Great Go.Proofs.YtiafadmkkehdnaaW.PrintWords Go.Proofs.YtiafadmkkehdnaaW.PrintMore
set_option linter.unusedVariables false
attribute [local irreducible] Sep rowT boxT hashT sumB splitN rootB nodeB nodeP cutA inclB consB validB
set_option maxHeartbeats 2000000 in
set_option maxRecDepth 100000 in
theorem rroot_calls : ∀ (f n : Nat) (w : World) (A : Option Addr) (c : Nat) (l : List ByteArray), Kd.C Kd.string w A n l → n ≤ c → n < f → n ≤ 4096 → AllD l →
    Calls Try.prog 84 #[.slice A n c] w fun e w' => e = .returned (.string (rootB l)) ∧ Below w.heap.size w w'
  | 0, _, _, _, _, _, _, _, h, _, _ => by omega
  | f + 1, n, w, A, c, l, hC, hcn, hf, hm, hd => by
    have hln : l.length = n := hC.1
    have S := Aside0.mk (SepT.start w)
    rcases (by omega : n = 0 ∨ n = 1 ∨ 2 ≤ n) with rfl | rfl | h2
    · obtain rfl := List.eq_nil_of_length_eq_zero hln
      have h0 : (⟨#[]⟩ : ByteArray).size ≤ 100000000 := Nat.zero_le _
      clear hC hd hf
      go_enter Try.func84, Try.ntmps84
      go_wp2_with (go_at_call 29; have hc := RefSum_S S.out ⟨#[]⟩ h0; go_fit hc; clear hc; rintro e w1 ⟨rfl, hh⟩; clear S; have S := Aside0.mk hh; clear hh)
      go_ret
      exact ⟨by rw [rootB_nil]; rfl, Sep.base S.out⟩
    · obtain ⟨x, rfl⟩ := List.length_eq_one_iff.1 hln
      obtain ⟨ad, hAd, d0⟩ := str_at hC 0 (by omega) (by omega)
      subst hAd
      have d1 : w.cell? ad = some (.string x) := by simpa [Addr.add] using d0
      clear hC hd hf d0
      go_enter Try.func84, Try.ntmps84
      go_wp2
      go_ret
      exact ⟨by rw [rootB_one]; rfl, Sep.base S.out⟩
    · have hs := splitN_facts n hm h2
      have hr := rootB_split l (by omega) (by omega)
      rw [hln] at hr
      have C1 := C_lo hC (k := splitN n) (by omega)
      have C2 := C_hi hC (k := splitN n) (by omega) hcn
      have z1 := rootB_size _ (hd.take (splitN n)) (by rw [List.length_take]; omega)
      have z2 := rootB_size _ (hd.drop (splitN n)) (by rw [List.length_drop]; omega)
      have d1 := hd.take (splitN n)
      have d2 := hd.drop (splitN n)
      generalize l.take (splitN n) = l1 at *
      generalize l.drop (splitN n) = l2 at *
      have s1 := slice_lo A n c (splitN n) (by omega) hcn
      have s2 := slice_hi A n c (splitN n) (by omega)
      have HSP : Aside0 (∀ V ts, SepT w V ts → Calls Try.prog 105 #[.int .i64 n] V fun e w' => e = .returned (.int .i64 (splitN n : Nat)) ∧ SepT w w' ts) := ⟨fun V ts h => RefSplit_S h n h2 hm⟩
      generalize splitN n = k at *
      generalize cutA A c k = A2 at *
      have I1 : Aside0 (∀ V, SepT w V [] → Calls Try.prog 84 #[.slice A k c] V fun e w' => e = .returned (.string (rootB l1)) ∧ SepT w w' []) := ⟨fun V h => (rroot_calls f k V A c l1 (Kd.C_below C1 (Sep.base h)) (by omega) (by omega) (by omega) d1).mono (fun _ _ q => ⟨q.1, h.below q.2⟩)⟩
      have I2 : Aside0 (∀ V, SepT w V [] → Calls Try.prog 84 #[.slice A2 (n - k) (c - k)] V fun e w' => e = .returned (.string (rootB l2)) ∧ SepT w w' []) := ⟨fun V h => (rroot_calls f (n - k) V A2 (c - k) l2 (Kd.C_below C2 (Sep.base h)) (by omega) (by omega) (by omega) d2).mono (fun _ _ q => ⟨q.1, h.below q.2⟩)⟩
      have HR := Aside0.mk hr
      generalize n - k = n2 at *
      generalize c - k = c2 at *
      generalize rootB l1 = r1 at *
      generalize rootB l2 = r2 at *
      have h2i : (2 : Int) ≤ n := by omega
      clear C1 C2 d1 d2 hr hs hC hd hf hln
      go_enter Try.func84, Try.ntmps84
      go_wp2_with (go_at_call 105; have hc := HSP.out _ _ S.out; go_fit hc; clear hc; rintro e w1 ⟨rfl, hh⟩; clear S; have S := Aside0.mk hh; clear hh)
      go_upto_region 6 with fail
      have S1 := Aside0.mk S.out.drew
      clear S
      have S := S1
      clear S1
      go_region_held3 (fun V => True) (trivial) (first
        | (go_at_call 84; have hc := I1.out _ S.out; go_fit hc; clear hc; rintro e w2 ⟨rfl, hh⟩; clear S; have S := Aside0.mk hh; clear hh)
        | (go_at_call 84; have hc := I2.out _ S.out; go_fit hc; clear hc; rintro e w3 ⟨rfl, hh⟩; clear S; have S := Aside0.mk hh; clear hh)
        | (go_at_call 50; have hc := RefNode_S S.out r1 r2 z1 z2; go_fit hc; clear hc; rintro e w4 ⟨rfl, hh⟩; clear S; have S := Aside0.mk hh; clear hh))
      all_goals
        go_wp2_with fail
        go_ret
        exact ⟨by rw [HR.out]; rfl, Sep.base S.out⟩
set_option maxHeartbeats 4000000 in
set_option maxRecDepth 100000 in
theorem rincl_calls : ∀ (f n : Nat) (w : World) (A : Option Addr) (c : Nat) (l : List ByteArray) (i : Nat), Kd.C Kd.string w A n l → n ≤ c → n < f → n ≤ 4096 → AllD l → i < n →
    Calls Try.prog 80 #[.slice A n c, .int .i64 i] w fun e w' => ∃ B cb, e = .returned (.slice B (inclB l i).length cb) ∧ SepT w w' [rowT Kd.string 9 (.slice B (inclB l i).length cb) (inclB l i)]
  | 0, _, _, _, _, _, _, _, _, h, _, _, _ => by omega
  | f + 1, n, w, A, c, l, i, hC, hcn, hf, hm, hd, hi => by
    have hln : l.length = n := hC.1
    have S := Aside0.mk (SepT.start w)
    rcases (by omega : n = 1 ∨ 2 ≤ n) with rfl | h2
    · obtain ⟨x, rfl⟩ := List.length_eq_one_iff.1 hln
      clear hC hd hf
      go_enter Try.func80, Try.ntmps80
      go_wp2
      go_ret
      exact ⟨none, 0, by rw [inclB_one]; rfl, by rw [inclB_one]; exact S.out.nilRow⟩
    · have hs := splitN_facts n hm h2
      have C1 := C_lo hC (k := splitN n) (by omega)
      have C2 := C_hi hC (k := splitN n) (by omega) hcn
      have d1 := hd.take (splitN n)
      have d2 := hd.drop (splitN n)
      have hlo := inclB_lo l i (by omega) (by omega)
      have hhi := inclB_hi l i (by omega) (by omega)
      rw [hln] at hlo hhi
      have s1 := slice_lo A n c (splitN n) (by omega) hcn
      have s2 := slice_hi A n c (splitN n) (by omega)
      have HSP : Aside0 (∀ V ts, SepT w V ts → Calls Try.prog 105 #[.int .i64 n] V fun e w' => e = .returned (.int .i64 (splitN n : Nat)) ∧ SepT w w' ts) := ⟨fun V ts h => RefSplit_S h n h2 hm⟩
      generalize splitN n = k at *
      have hl1 : (l.take k).length ≤ 4096 := by rw [List.length_take]; omega
      have hl2 : (l.drop k).length ≤ 4096 := by rw [List.length_drop]; omega
      generalize l.take k = l1 at *
      generalize l.drop k = l2 at *
      generalize cutA A c k = A2 at *
      obtain ⟨n2, hn2⟩ : ∃ n2, n - k = n2 := ⟨_, rfl⟩
      obtain ⟨c2, hc2⟩ : ∃ c2, c - k = c2 := ⟨_, rfl⟩
      rw [hn2, hc2] at s2
      rw [hn2] at C2
      have h2i : (2 : Int) ≤ n := by omega
      have hri : ∀ V (ts : List Th), SepT w V ts → Below w.heap.size w V := fun V ts h => Sep.base h
      by_cases hk : i < k
      · have hki : (i : Int) < (k : Int) := by omega
        have hr := hlo hk
        have hxl := inclB_length l1 i
        have I1 : Aside0 (∀ V, SepT w V [] → Calls Try.prog 80 #[.slice A k c, .int .i64 i] V fun e w' => ∃ B cb, e = .returned (.slice B (inclB l1 i).length cb) ∧ SepT w w' [rowT Kd.string 9 (.slice B (inclB l1 i).length cb) (inclB l1 i)]) := ⟨fun V h => (rincl_calls f k V A c l1 i (Kd.C_below C1 (Sep.base h)) (by omega) (by omega) (by omega) d1 hk).mono (fun _ _ ⟨B, cb, q1, q2⟩ => ⟨B, cb, q1, h.lift q2⟩)⟩
        have I2 : Aside0 (∀ V ts, SepT w V ts → Calls Try.prog 84 #[.slice A2 n2 c2] V fun e w' => e = .returned (.string (rootB l2)) ∧ SepT w w' ts) := ⟨fun V ts h => (rroot_calls (n2 + 1) n2 V A2 c2 l2 (Kd.C_below C2 (Sep.base h)) (by omega) (by omega) (by omega) d2).mono (fun _ _ q => ⟨q.1, h.below q.2⟩)⟩
        have HR := Aside0.mk hr
        generalize inclB l1 i = xs at *
        generalize rootB l2 = r2 at *
        have hxs : xs.length ≤ 5000 := by omega
        have h11 : [r2].length ≤ 1000000000 := by simp
        have hxr : (xs.length + [r2].length) * 16 ≤ 140737488355328 := by simp; omega
        clear C1 C2 d1 d2 hr hs hC hd hf hln hlo hhi hri hxl
        go_enter Try.func80, Try.ntmps80
        go_wp2_with (go_at_call 105; have hc := HSP.out _ _ S.out; go_fit hc; clear hc; rintro e w1 ⟨rfl, hh⟩; clear S; have S := Aside0.mk hh; clear hh)
        go_upto_region 5 with fail
        have S1 := Aside0.mk S.out.drew
        clear S
        have S := S1
        clear S1
        go_region_held3 (fun V => True) (trivial) (first
          | (go_at_call 80; have hc := I1.out _ S.out; go_fit hc; clear hc; rintro e w2 ⟨B, cb, rfl, hh⟩; clear S; have S := Aside0.mk hh; clear hh)
          | (go_at_call 84; have hc := I2.out _ _ S.out; go_fit hc; clear hc; rintro e w3 ⟨rfl, hh⟩; clear S; have S := Aside0.mk hh; clear hh)
          | (refine SepT.appendLit_step (enc := Value.string) (h1 := fun _ => rfl) rfl (.tmp 19) (.tmp 24) 22 9 (.string ⟨#[]⟩) 16 rfl Try.underlying22 info9 rfl (by decide) (.slice B xs.length cb) xs [r2] h11 rfl rfl S.out hxr ?_; intro An cn w6 ho; clear S; have S := Aside0.mk ho; clear ho))
        all_goals
          go_wp2_with fail
          go_ret
          exact ⟨An, cn, by rw [HR.out, List.length_append]; rfl, by rw [HR.out]; exact S.out⟩
      · have hki : ¬ (i : Int) < (k : Int) := by omega
        have hr := hhi hk (by omega)
        obtain ⟨j, hj⟩ : ∃ j, i - k = j := ⟨_, rfl⟩
        rw [hj] at hr
        have hw : IntKind.i64.wrap ((i : Int) - (k : Int)) = (j : Int) := by rw [IntWalk.i64_in _ (by omega)]; omega
        have hxl := inclB_length l2 j
        have I1 : Aside0 (∀ V, SepT w V [] → Calls Try.prog 80 #[.slice A2 n2 c2, .int .i64 j] V fun e w' => ∃ B cb, e = .returned (.slice B (inclB l2 j).length cb) ∧ SepT w w' [rowT Kd.string 9 (.slice B (inclB l2 j).length cb) (inclB l2 j)]) := ⟨fun V h => (rincl_calls f n2 V A2 c2 l2 j (Kd.C_below C2 (Sep.base h)) (by omega) (by omega) (by omega) d2 (by omega)).mono (fun _ _ ⟨B, cb, q1, q2⟩ => ⟨B, cb, q1, h.lift q2⟩)⟩
        have I2 : Aside0 (∀ V ts, SepT w V ts → Calls Try.prog 84 #[.slice A k c] V fun e w' => e = .returned (.string (rootB l1)) ∧ SepT w w' ts) := ⟨fun V ts h => (rroot_calls (k + 1) k V A c l1 (Kd.C_below C1 (Sep.base h)) (by omega) (by omega) (by omega) d1).mono (fun _ _ q => ⟨q.1, h.below q.2⟩)⟩
        have HR := Aside0.mk hr
        generalize inclB l2 j = xs at *
        generalize rootB l1 = r2 at *
        have hxs : xs.length ≤ 5000 := by omega
        have h11 : [r2].length ≤ 1000000000 := by simp
        have hxr : (xs.length + [r2].length) * 16 ≤ 140737488355328 := by simp; omega
        clear C1 C2 d1 d2 hr hs hC hd hf hln hlo hhi hri hxl hj
        go_enter Try.func80, Try.ntmps80
        go_wp2_with (go_at_call 105; have hc := HSP.out _ _ S.out; go_fit hc; clear hc; rintro e w1 ⟨rfl, hh⟩; clear S; have S := Aside0.mk hh; clear hh)
        go_upto_region 6 with fail
        have S1 := Aside0.mk S.out.drew
        clear S
        have S := S1
        clear S1
        go_region_held3 (fun V => True) (trivial) (first
          | (go_at_call 80; have hc := I1.out _ S.out; go_fit hc; clear hc; rintro e w2 ⟨B, cb, rfl, hh⟩; clear S; have S := Aside0.mk hh; clear hh)
          | (go_at_call 84; have hc := I2.out _ _ S.out; go_fit hc; clear hc; rintro e w3 ⟨rfl, hh⟩; clear S; have S := Aside0.mk hh; clear hh)
          | (refine SepT.appendLit_step (enc := Value.string) (h1 := fun _ => rfl) rfl (.tmp 32) (.tmp 37) 22 9 (.string ⟨#[]⟩) 16 rfl Try.underlying22 info9 rfl (by decide) (.slice B xs.length cb) xs [r2] h11 rfl rfl S.out hxr ?_; intro An cn w6 ho; clear S; have S := Aside0.mk ho; clear ho))
        all_goals
          go_wp2_with fail
          go_ret
          exact ⟨An, cn, by rw [HR.out, List.length_append]; rfl, by rw [HR.out]; exact S.out⟩
set_option maxHeartbeats 4000000 in
set_option maxRecDepth 100000 in
theorem rcons_calls : ∀ (f n : Nat) (w : World) (A : Option Addr) (c : Nat) (l : List ByteArray) (m : Nat) (b : Bool), Kd.C Kd.string w A n l → n ≤ c → n < f → n ≤ 4096 → AllD l → 1 ≤ m → m ≤ n →
    Calls Try.prog 81 #[.int .i64 m, .slice A n c, .bool b] w fun e w' => ∃ B cb, e = .returned (.slice B (consB l m b).length cb) ∧ SepT w w' [rowT Kd.string 9 (.slice B (consB l m b).length cb) (consB l m b)]
  | 0, _, _, _, _, _, _, _, _, _, h, _, _, _, _ => by omega
  | f + 1, n, w, A, c, l, m, b, hC, hcn, hf, hm, hd, hm1, hmn => by
    have hln : l.length = n := hC.1
    have S := Aside0.mk (SepT.start w)
    rcases (by omega : m = n ∨ m < n) with rfl | hlt
    · cases b with
      | true =>
        have hr := consB_whole l
        rw [hln] at hr
        have HR := Aside0.mk hr
        clear hr hC hd hf hln
        go_enter Try.func81, Try.ntmps81
        go_wp2
        go_ret
        exact ⟨none, 0, by rw [HR.out]; rfl, by rw [HR.out]; exact S.out.nilRow⟩
      | false =>
        have hr := consB_part l
        rw [hln] at hr
        have HR := Aside0.mk hr
        have I2 : Aside0 (∀ V ts, SepT w V ts → Calls Try.prog 84 #[.slice A m c] V fun e w' => e = .returned (.string (rootB l)) ∧ SepT w w' ts) := ⟨fun V ts h => (rroot_calls (m + 1) m V A c l (Kd.C_below hC (Sep.base h)) hcn (by omega) (by omega) hd).mono (fun _ _ q => ⟨q.1, h.below q.2⟩)⟩
        generalize rootB l = r2 at *
        have h11 : [r2].length ≤ 1000000000 := by simp
        clear hr hC hd hf hln
        go_enter Try.func81, Try.ntmps81
        go_wp2_with (go_at_call 84; have hc := I2.out _ _ S.out; go_fit hc; clear hc; rintro e w3 ⟨rfl, hh⟩; clear S; have S := Aside0.mk hh; clear hh)
        go_ret
        exact ⟨_, 1, by rw [HR.out]; rfl, by rw [HR.out]; exact SepT.lit (enc := Value.string) (h1 := fun _ => rfl) S.out 9 [r2] h11⟩
    · have h2 : 2 ≤ n := by omega
      have hs := splitN_facts n hm h2
      have C1 := C_lo hC (k := splitN n) (by omega)
      have C2 := C_hi hC (k := splitN n) (by omega) hcn
      have d1 := hd.take (splitN n)
      have d2 := hd.drop (splitN n)
      have hlo := consB_lo l m b hm1 (by omega) (by omega)
      have hhi := consB_hi l m b hm1 (by omega) (by omega)
      rw [hln] at hlo hhi
      have s1 := slice_lo A n c (splitN n) (by omega) hcn
      have s2 := slice_hi A n c (splitN n) (by omega)
      have HSP : Aside0 (∀ V ts, SepT w V ts → Calls Try.prog 105 #[.int .i64 n] V fun e w' => e = .returned (.int .i64 (splitN n : Nat)) ∧ SepT w w' ts) := ⟨fun V ts h => RefSplit_S h n h2 hm⟩
      generalize splitN n = k at *
      have hl1 : (l.take k).length ≤ 4096 := by rw [List.length_take]; omega
      have hl2 : (l.drop k).length ≤ 4096 := by rw [List.length_drop]; omega
      generalize l.take k = l1 at *
      generalize l.drop k = l2 at *
      generalize cutA A c k = A2 at *
      obtain ⟨n2, hn2⟩ : ∃ n2, n - k = n2 := ⟨_, rfl⟩
      obtain ⟨c2, hc2⟩ : ∃ c2, c - k = c2 := ⟨_, rfl⟩
      rw [hn2, hc2] at s2
      rw [hn2] at C2
      have h2i : (m : Int) < n := by omega
      have hne : ((m : Int) == (n : Int)) = false := by rw [beq_eq_false_iff_ne]; omega
      by_cases hk : m ≤ k
      · have hki : (m : Int) ≤ (k : Int) := by omega
        have hr := hlo hk
        have hxl := consB_length l1 m b
        have I1 : Aside0 (∀ V, SepT w V [] → Calls Try.prog 81 #[.int .i64 m, .slice A k c, .bool b] V fun e w' => ∃ B cb, e = .returned (.slice B (consB l1 m b).length cb) ∧ SepT w w' [rowT Kd.string 9 (.slice B (consB l1 m b).length cb) (consB l1 m b)]) := ⟨fun V h => (rcons_calls f k V A c l1 m b (Kd.C_below C1 (Sep.base h)) (by omega) (by omega) (by omega) d1 hm1 hk).mono (fun _ _ ⟨B, cb, q1, q2⟩ => ⟨B, cb, q1, h.lift q2⟩)⟩
        have I2 : Aside0 (∀ V ts, SepT w V ts → Calls Try.prog 84 #[.slice A2 n2 c2] V fun e w' => e = .returned (.string (rootB l2)) ∧ SepT w w' ts) := ⟨fun V ts h => (rroot_calls (n2 + 1) n2 V A2 c2 l2 (Kd.C_below C2 (Sep.base h)) (by omega) (by omega) (by omega) d2).mono (fun _ _ q => ⟨q.1, h.below q.2⟩)⟩
        have HR := Aside0.mk hr
        generalize consB l1 m b = xs at *
        generalize rootB l2 = r2 at *
        have hxs : xs.length ≤ 5000 := by omega
        have h11 : [r2].length ≤ 1000000000 := by simp
        have hxr : (xs.length + [r2].length) * 16 ≤ 140737488355328 := by simp; omega
        clear C1 C2 d1 d2 hr hs hC hd hf hln hlo hhi hxl
        go_enter Try.func81, Try.ntmps81
        go_wp2_with (go_at_call 105; have hc := HSP.out _ _ S.out; go_fit hc; clear hc; rintro e w1 ⟨rfl, hh⟩; clear S; have S := Aside0.mk hh; clear hh)
        go_upto_region 8 with fail
        have S1 := Aside0.mk S.out.drew
        clear S
        have S := S1
        clear S1
        go_region_held3 (fun V => True) (trivial) (first
          | (go_at_call 81; have hc := I1.out _ S.out; go_fit hc; clear hc; rintro e w2 ⟨B, cb, rfl, hh⟩; clear S; have S := Aside0.mk hh; clear hh)
          | (go_at_call 84; have hc := I2.out _ _ S.out; go_fit hc; clear hc; rintro e w3 ⟨rfl, hh⟩; clear S; have S := Aside0.mk hh; clear hh)
          | (refine SepT.appendLit_step (enc := Value.string) (h1 := fun _ => rfl) rfl (.tmp 28) (.tmp 33) 22 9 (.string ⟨#[]⟩) 16 rfl Try.underlying22 info9 rfl (by decide) (.slice B xs.length cb) xs [r2] h11 rfl rfl S.out hxr ?_; intro An cn w6 ho; clear S; have S := Aside0.mk ho; clear ho))
        all_goals
          go_wp2_with fail
          go_ret
          exact ⟨An, cn, by rw [HR.out, List.length_append]; rfl, by rw [HR.out]; exact S.out⟩
      · have hki : ¬ (m : Int) ≤ (k : Int) := by omega
        have hr := hhi hk
        obtain ⟨j, hj⟩ : ∃ j, m - k = j := ⟨_, rfl⟩
        rw [hj] at hr
        have hw : IntKind.i64.wrap ((m : Int) - (k : Int)) = (j : Int) := by rw [IntWalk.i64_in _ (by omega)]; omega
        have hxl := consB_length l2 j false
        have I1 : Aside0 (∀ V, SepT w V [] → Calls Try.prog 81 #[.int .i64 j, .slice A2 n2 c2, .bool false] V fun e w' => ∃ B cb, e = .returned (.slice B (consB l2 j false).length cb) ∧ SepT w w' [rowT Kd.string 9 (.slice B (consB l2 j false).length cb) (consB l2 j false)]) := ⟨fun V h => (rcons_calls f n2 V A2 c2 l2 j false (Kd.C_below C2 (Sep.base h)) (by omega) (by omega) (by omega) d2 (by omega) (by omega)).mono (fun _ _ ⟨B, cb, q1, q2⟩ => ⟨B, cb, q1, h.lift q2⟩)⟩
        have I2 : Aside0 (∀ V ts, SepT w V ts → Calls Try.prog 84 #[.slice A k c] V fun e w' => e = .returned (.string (rootB l1)) ∧ SepT w w' ts) := ⟨fun V ts h => (rroot_calls (k + 1) k V A c l1 (Kd.C_below C1 (Sep.base h)) (by omega) (by omega) (by omega) d1).mono (fun _ _ q => ⟨q.1, h.below q.2⟩)⟩
        have HR := Aside0.mk hr
        generalize consB l2 j false = xs at *
        generalize rootB l1 = r2 at *
        have hxs : xs.length ≤ 5000 := by omega
        have h11 : [r2].length ≤ 1000000000 := by simp
        have hxr : (xs.length + [r2].length) * 16 ≤ 140737488355328 := by simp; omega
        clear C1 C2 d1 d2 hr hs hC hd hf hln hlo hhi hxl hj
        go_enter Try.func81, Try.ntmps81
        go_wp2_with (go_at_call 105; have hc := HSP.out _ _ S.out; go_fit hc; clear hc; rintro e w1 ⟨rfl, hh⟩; clear S; have S := Aside0.mk hh; clear hh)
        go_upto_region 9 with fail
        have S1 := Aside0.mk S.out.drew
        clear S
        have S := S1
        clear S1
        go_region_held3 (fun V => True) (trivial) (first
          | (go_at_call 81; have hc := I1.out _ S.out; go_fit hc; clear hc; rintro e w2 ⟨B, cb, rfl, hh⟩; clear S; have S := Aside0.mk hh; clear hh)
          | (go_at_call 84; have hc := I2.out _ _ S.out; go_fit hc; clear hc; rintro e w3 ⟨rfl, hh⟩; clear S; have S := Aside0.mk hh; clear hh)
          | (refine SepT.appendLit_step (enc := Value.string) (h1 := fun _ => rfl) rfl (.tmp 41) (.tmp 46) 22 9 (.string ⟨#[]⟩) 16 rfl Try.underlying22 info9 rfl (by decide) (.slice B xs.length cb) xs [r2] h11 rfl rfl S.out hxr ?_; intro An cn w6 ho; clear S; have S := Aside0.mk ho; clear ho))
        all_goals
          go_wp2_with fail
          go_ret
          exact ⟨An, cn, by rw [HR.out, List.length_append]; rfl, by rw [HR.out]; exact S.out⟩
set_option maxRecDepth 100000 in
theorem RefRoot_calls (w : World) (A : Option Addr) (c : Nat) (l : List ByteArray) (hC : Kd.C Kd.string w A l.length l) (hcn : l.length ≤ c) :
    Calls Try.prog 51 #[.slice A l.length c] w fun e w' => e = .returned (.string (RootB l)) ∧ Below w.heap.size w w' := by
  have S := Aside0.mk (SepT.start w)
  have HC := Aside0.mk hC
  by_cases hv : validB l = true
  · have hr : RootB l = rootB l := by unfold RootB; rw [if_pos hv]
    have HR := Aside0.mk hr
    have hva := (validB_iff l).1 hv
    have I2 : Aside0 (∀ V ts, SepT w V ts → Calls Try.prog 84 #[.slice A l.length c] V fun e w' => e = .returned (.string (rootB l)) ∧ SepT w w' ts) := ⟨fun V ts h => (rroot_calls (l.length + 1) l.length V A c l (Kd.C_below hC (Sep.base h)) hcn (by omega) hva.1 hva.2).mono (fun _ _ q => ⟨q.1, h.below q.2⟩)⟩
    have HV := Aside0.mk hv
    clear hv hva hr hC
    go_enter Try.func51, Try.ntmps51
    go_wp2_with (first
      | (go_at_call 79; have hc := RefValid_S S.out A c l (Kd.C_below HC.out (Sep.base S.out)) hcn; rw [HV.out] at hc; go_fit hc; clear hc; rintro e w3 ⟨rfl, hh⟩; clear S; have S := Aside0.mk hh; clear hh)
      | (go_at_call 84; have hc := I2.out _ _ S.out; go_fit hc; clear hc; rintro e w3 ⟨rfl, hh⟩; clear S; have S := Aside0.mk hh; clear hh))
    go_ret
    exact ⟨by rw [HR.out]; rfl, Sep.base S.out⟩
  · have hr : RootB l = ⟨#[]⟩ := by unfold RootB; rw [if_neg hv]
    have HR := Aside0.mk hr
    have HV := Aside0.mk (show validB l = false by simpa using hv)
    clear hv hr hC
    go_enter Try.func51, Try.ntmps51
    go_wp2_with (go_at_call 79; have hc := RefValid_S S.out A c l (Kd.C_below HC.out (Sep.base S.out)) hcn; rw [HV.out] at hc; go_fit hc; clear hc; rintro e w3 ⟨rfl, hh⟩; clear S; have S := Aside0.mk hh; clear hh)
    go_ret
    exact ⟨by rw [HR.out]; rfl, Sep.base S.out⟩
set_option maxRecDepth 100000 in
theorem RefInclusion_calls (w : World) (A : Option Addr) (c : Nat) (l : List ByteArray) (i : Int) (hC : Kd.C Kd.string w A l.length l) (hcn : l.length ≤ c) :
    Calls Try.prog 45 #[.slice A l.length c, .int .i64 i] w fun e w' => ∃ B cb, e = .returned (.tuple #[.slice B (InclR l i).1.length cb, .int .i64 (InclR l i).2]) ∧ SepT w w' [rowT Kd.string 9 (.slice B (InclR l i).1.length cb) (InclR l i).1] := by
  have S := Aside0.mk (SepT.start w)
  have HC := Aside0.mk hC
  by_cases hv : validB l = true
  · have hva := (validB_iff l).1 hv
    by_cases hi : 0 ≤ i ∧ i < l.length
    · have hr : InclR l i = (inclB l i.toNat, 0) := by unfold InclR; rw [if_pos hv, if_pos hi]
      have HR := Aside0.mk hr
      obtain ⟨j, rfl⟩ := Int.eq_ofNat_of_zero_le hi.1
      have hj : j < l.length := by omega
      rw [Int.toNat_natCast] at HR
      have I2 : Aside0 (∀ V, SepT w V [] → Calls Try.prog 80 #[.slice A l.length c, .int .i64 j] V fun e w' => ∃ B cb, e = .returned (.slice B (inclB l j).length cb) ∧ SepT w w' [rowT Kd.string 9 (.slice B (inclB l j).length cb) (inclB l j)]) := ⟨fun V h => (rincl_calls (l.length + 1) l.length V A c l j (Kd.C_below hC (Sep.base h)) hcn (by omega) hva.1 hva.2 hj).mono (fun _ _ ⟨B, cb, q1, q2⟩ => ⟨B, cb, q1, h.lift q2⟩)⟩
      generalize inclB l j = xs at *
      have HV := Aside0.mk hv
      have hj2 : (j : Int) < l.length := hi.2
      clear hv hva hr hC hi
      go_enter Try.func45, Try.ntmps45
      go_wp2_with (first
        | (go_at_call 79; have hc := RefValid_S S.out A c l (Kd.C_below HC.out (Sep.base S.out)) hcn; rw [HV.out] at hc; go_fit hc; clear hc; rintro e w3 ⟨rfl, hh⟩; clear S; have S := Aside0.mk hh; clear hh)
        | (go_at_call 80; have hc := I2.out _ S.out; go_fit hc; clear hc; rintro e w3 ⟨B, cb, rfl, hh⟩; clear S; have S := Aside0.mk hh; clear hh))
      go_ret2
      exact ⟨B, cb, by rw [HR.out]; rfl, by rw [HR.out]; exact S.out⟩
    · have hr : InclR l i = ([], 2) := by unfold InclR; rw [if_pos hv, if_neg hi]
      have HR := Aside0.mk hr
      have HV := Aside0.mk hv
      rcases (by omega : i < 0 ∨ (¬ i < 0 ∧ (l.length : Int) ≤ i)) with h0 | ⟨h0, h1⟩
      · clear hv hva hr hC hi
        go_enter Try.func45, Try.ntmps45
        go_wp2_with (go_at_call 79; have hc := RefValid_S S.out A c l (Kd.C_below HC.out (Sep.base S.out)) hcn; rw [HV.out] at hc; go_fit hc; clear hc; rintro e w3 ⟨rfl, hh⟩; clear S; have S := Aside0.mk hh; clear hh)
        go_ret2
        exact ⟨none, 0, by rw [HR.out]; rfl, by rw [HR.out]; exact S.out.nilRow⟩
      · clear hv hva hr hC hi
        go_enter Try.func45, Try.ntmps45
        go_wp2_with (go_at_call 79; have hc := RefValid_S S.out A c l (Kd.C_below HC.out (Sep.base S.out)) hcn; rw [HV.out] at hc; go_fit hc; clear hc; rintro e w3 ⟨rfl, hh⟩; clear S; have S := Aside0.mk hh; clear hh)
        go_ret2
        exact ⟨none, 0, by rw [HR.out]; rfl, by rw [HR.out]; exact S.out.nilRow⟩
  · have hr : InclR l i = ([], 1) := by unfold InclR; rw [if_neg hv]
    have HR := Aside0.mk hr
    have HV := Aside0.mk (show validB l = false by simpa using hv)
    clear hv hr hC
    go_enter Try.func45, Try.ntmps45
    go_wp2_with (go_at_call 79; have hc := RefValid_S S.out A c l (Kd.C_below HC.out (Sep.base S.out)) hcn; rw [HV.out] at hc; go_fit hc; clear hc; rintro e w3 ⟨rfl, hh⟩; clear S; have S := Aside0.mk hh; clear hh)
    go_ret2
    exact ⟨none, 0, by rw [HR.out]; rfl, by rw [HR.out]; exact S.out.nilRow⟩
set_option maxRecDepth 100000 in
theorem RefConsistency_calls (w : World) (A : Option Addr) (c : Nat) (l : List ByteArray) (i : Int) (hC : Kd.C Kd.string w A l.length l) (hcn : l.length ≤ c) :
    Calls Try.prog 46 #[.slice A l.length c, .int .i64 i] w fun e w' => ∃ B cb, e = .returned (.tuple #[.slice B (ConsR l i).1.length cb, .int .i64 (ConsR l i).2]) ∧ SepT w w' [rowT Kd.string 9 (.slice B (ConsR l i).1.length cb) (ConsR l i).1] := by
  have S := Aside0.mk (SepT.start w)
  have HC := Aside0.mk hC
  by_cases hv : validB l = true
  · have hva := (validB_iff l).1 hv
    by_cases hi : i < 0 ∨ (l.length : Int) < i
    · have hr : ConsR l i = ([], 2) := by unfold ConsR; rw [if_pos hv, if_pos hi]
      have HR := Aside0.mk hr
      have HV := Aside0.mk hv
      rcases (by omega : i < 0 ∨ (¬ i < 0 ∧ (l.length : Int) < i)) with h0 | ⟨h0, h1⟩
      · clear hv hva hr hC hi
        go_enter Try.func46, Try.ntmps46
        go_wp2_with (go_at_call 79; have hc := RefValid_S S.out A c l (Kd.C_below HC.out (Sep.base S.out)) hcn; rw [HV.out] at hc; go_fit hc; clear hc; rintro e w3 ⟨rfl, hh⟩; clear S; have S := Aside0.mk hh; clear hh)
        go_ret2
        exact ⟨none, 0, by rw [HR.out]; rfl, by rw [HR.out]; exact S.out.nilRow⟩
      · clear hv hva hr hC hi
        go_enter Try.func46, Try.ntmps46
        go_wp2_with (go_at_call 79; have hc := RefValid_S S.out A c l (Kd.C_below HC.out (Sep.base S.out)) hcn; rw [HV.out] at hc; go_fit hc; clear hc; rintro e w3 ⟨rfl, hh⟩; clear S; have S := Aside0.mk hh; clear hh)
        go_ret2
        exact ⟨none, 0, by rw [HR.out]; rfl, by rw [HR.out]; exact S.out.nilRow⟩
    · by_cases h0 : i = 0
      · have hr : ConsR l i = ([], 0) := by unfold ConsR; rw [if_pos hv, if_neg hi, if_pos h0]
        have HR := Aside0.mk hr
        have HV := Aside0.mk hv
        have h1 : ¬ (l.length : Int) < 0 := by omega
        subst h0
        clear hv hva hr hC hi
        go_enter Try.func46, Try.ntmps46
        go_wp2_with (go_at_call 79; have hc := RefValid_S S.out A c l (Kd.C_below HC.out (Sep.base S.out)) hcn; rw [HV.out] at hc; go_fit hc; clear hc; rintro e w3 ⟨rfl, hh⟩; clear S; have S := Aside0.mk hh; clear hh)
        go_ret2
        exact ⟨none, 0, by rw [HR.out]; rfl, by rw [HR.out]; exact S.out.nilRow⟩
      · have hr : ConsR l i = (consB l i.toNat true, 0) := by unfold ConsR; rw [if_pos hv, if_neg hi, if_neg h0]
        have HR := Aside0.mk hr
        obtain ⟨j, rfl⟩ := Int.eq_ofNat_of_zero_le (show 0 ≤ i by omega)
        have hj : j ≤ l.length := by omega
        rw [Int.toNat_natCast] at HR
        have I2 : Aside0 (∀ V, SepT w V [] → Calls Try.prog 81 #[.int .i64 j, .slice A l.length c, .bool true] V fun e w' => ∃ B cb, e = .returned (.slice B (consB l j true).length cb) ∧ SepT w w' [rowT Kd.string 9 (.slice B (consB l j true).length cb) (consB l j true)]) := ⟨fun V h => (rcons_calls (l.length + 1) l.length V A c l j true (Kd.C_below hC (Sep.base h)) hcn (by omega) hva.1 hva.2 (by omega) hj).mono (fun _ _ ⟨B, cb, q1, q2⟩ => ⟨B, cb, q1, h.lift q2⟩)⟩
        generalize consB l j true = xs at *
        have HV := Aside0.mk hv
        have hj2 : ¬ (l.length : Int) < j := by omega
        have hj3 : ((j : Int) == 0) = false := by rw [beq_eq_false_iff_ne]; exact h0
        clear hv hva hr hC hi h0
        go_enter Try.func46, Try.ntmps46
        go_wp2_with (first
          | (go_at_call 79; have hc := RefValid_S S.out A c l (Kd.C_below HC.out (Sep.base S.out)) hcn; rw [HV.out] at hc; go_fit hc; clear hc; rintro e w3 ⟨rfl, hh⟩; clear S; have S := Aside0.mk hh; clear hh)
          | (go_at_call 81; have hc := I2.out _ S.out; go_fit hc; clear hc; rintro e w3 ⟨B, cb, rfl, hh⟩; clear S; have S := Aside0.mk hh; clear hh))
        go_ret2
        exact ⟨B, cb, by rw [HR.out]; rfl, by rw [HR.out]; exact S.out⟩
  · have hr : ConsR l i = ([], 1) := by unfold ConsR; rw [if_neg hv]
    have HR := Aside0.mk hr
    have HV := Aside0.mk (show validB l = false by simpa using hv)
    clear hv hr hC
    go_enter Try.func46, Try.ntmps46
    go_wp2_with (go_at_call 79; have hc := RefValid_S S.out A c l (Kd.C_below HC.out (Sep.base S.out)) hcn; rw [HV.out] at hc; go_fit hc; clear hc; rintro e w3 ⟨rfl, hh⟩; clear S; have S := Aside0.mk hh; clear hh)
    go_ret2
    exact ⟨none, 0, by rw [HR.out]; rfl, by rw [HR.out]; exact S.out.nilRow⟩
end Go.Proofs.Ytiafadmkkehdnaa.Sh
