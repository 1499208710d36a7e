/-
  The law Sha256Streams, walked, for arguments that are no longer than a bound.
-/
import Derived.Test.YtiafadmkkehdnaaSo
namespace Go.Proofs.Ytiafadmkkehdnaa.Sh
open Go.RowKit Go.Great Go.Proofs.YtiafadmkkehdnaaW.PrintWords Go.Proofs.YtiafadmkkehdnaaW.PrintMore
set_option linter.unusedVariables false
/-- Strings, one behind the other. -/
def catS : ByteArray → List ByteArray → ByteArray
  | b, [] => b
  | b, p :: l => catS (b ++ p) l
theorem catS_size : ∀ (l : List ByteArray) (b : ByteArray), (catS b l).size = b.size + tot l
  | [], b => by simp [catS, tot]
  | p :: l, b => by
    rw [catS, catS_size l, ByteArray.size_append, tot]
    omega
theorem catS_append : ∀ (l : List ByteArray) (b p : ByteArray), catS b (l ++ [p]) = catS b l ++ p
  | [], b, p => rfl
  | q :: l, b, p => by rw [List.cons_append, catS, catS, catS_append l]
theorem catS_data : ∀ (l : List ByteArray) (b : ByteArray), (catS b l).data.toList = b.data.toList ++ (l.map (·.data.toList)).flatten
  | [], b => by simp [catS]
  | p :: l, b => by
    rw [catS, catS_data l, ByteArray.data_append, Array.toList_append]
    simp
theorem inter_nil {α : Type} : ∀ (L : List (List α)), (List.intersperse [] L).flatten = L.flatten
  | [] => rfl
  | [a] => by simp
  | a :: b :: L => by
    have h := inter_nil (b :: L)
    simp only [List.intersperse, List.flatten_cons, List.nil_append] at h ⊢
    rw [h]
theorem joinAll (l : List ByteArray) : (⟨(Lib.join (l.map (·.data.toList)) ([] : List UInt8)).toArray⟩ : ByteArray) = catS ⟨#[]⟩ l := by
  apply ByteArray.ext
  apply Array.toList_inj.1
  rw [catS_data]
  simp [Lib.join, List.intercalate, inter_nil]
theorem spot_none' {w : World} {ad : Addr} {v : Value} (h : w.cell? ad = some v) : ad = ⟨ad.block, ad.off, none⟩ := by
  obtain ⟨b, o, s⟩ := ad
  cases s with
  | none => rfl
  | some k =>
    unfold World.cell? at h
    split at h <;> simp at h
theorem JoinAll_S {w0 w : World} {ts : List Th} (S0 : SepT w0 w ts) (A : Option Addr) (c : Nat) (l : List ByteArray) (hC : Kd.C Kd.string w A l.length l) (hc : l.length ≤ c) (hs : l.length + tot l ≤ 100000000) :
    Calls Try.prog 44 #[.slice A l.length c, .string ⟨#[]⟩] w fun e w' => e = .returned (.string (catS ⟨#[]⟩ l)) ∧ SepT w0 w' ts := by
  rcases Nat.eq_zero_or_pos l.length with h0 | h0
  · obtain rfl := List.eq_nil_of_length_eq_zero h0
    refine (Try.strings_Join_none A c ⟨#[]⟩ w).mono ?_
    rintro e w1 ⟨rfl, rfl⟩
    exact ⟨rfl, S0⟩
  · obtain ⟨ad, rfl, hcell⟩ := str_at hC 0 (by omega) (by omega)
    have hsp : ad = ⟨ad.block, ad.off, none⟩ := spot_none' (ad := ad) (by simpa [Addr.add] using hcell)
    have hcells : ∀ (j : Nat) x, l[j]? = some x → w.cell? ⟨ad.block, ad.off + j, none⟩ = some (.string x) := fun j x hj => by
      have hlt := (List.getElem?_eq_some_iff.1 hj).1
      obtain ⟨ad2, e, hc2⟩ := str_at hC (j : Int) (by omega) (by omega)
      injection e with e
      subst e
      rw [Int.toNat_natCast] at hc2
      have e2 : ad.add j = ⟨ad.block, ad.off + j, none⟩ := by
        generalize ad.block = ab at hsp
        generalize ad.off = ao at hsp
        subst hsp
        exact Addr.add_lit _ _ _
      rw [← e2, hc2]
      simp [List.getD, hj]
    have hbk : ad.block < w.heap.size := by
      have := hcells 0 l[0] (by simp)
      rcases Nat.lt_or_ge ad.block w.heap.size with h1 | h1
      · exact h1
      · unfold World.cell? at this
        simp [Array.getElem?_eq_none h1] at this
    have hlen : (Lib.join (l.map (·.data.toList)) ([] : List UInt8)).length ≤ 140737488355328 := by
      have e : (catS ⟨#[]⟩ l).size = (Lib.join (l.map (·.data.toList)) ([] : List UInt8)).length := by rw [← joinAll]; rfl
      have e2 := catS_size l ⟨#[]⟩
      have e3 : (⟨#[]⟩ : ByteArray).size = 0 := rfl
      omega
    have h := Try.strings_Join ad.block ad.off c l ⟨#[]⟩ w hcells hbk (by omega) hc hlen
    rw [← hsp] at h
    refine h.mono ?_
    rintro e w1 ⟨rfl, hb⟩
    refine ⟨?_, S0.below hb⟩
    rw [← joinAll]
theorem bool_at {w : World} {A : Option Addr} {n : Nat} {xs : List Bool} (h : Kd.C Kd.bool w A n xs) (i : Nat) (h1 : i < n) : ∃ ad, A = some ad ∧ w.cell? (ad.add i) = some (.bool (xs.getD i false)) := by
  obtain ⟨ad, c, e, _, hK, hc0⟩ := Kd.C_get h false (i : Int) (by omega) (by omega)
  rw [Int.toNat_natCast] at hK hc0
  obtain rfl : c = [.bool (xs.getD i false)] := hK
  have hc := hc0 0 _ rfl
  exact ⟨ad, e, by simpa [Kd.bool, Kd.scalar] using hc⟩
attribute [local irreducible] Sep rowT boxT hashT sumB catS
set_option maxHeartbeats 4000000 in
set_option maxRecDepth 100000 in
theorem Streams_main (w : World) (A : Option Addr) (c : Nat) (l : List ByteArray) (hC : Kd.C Kd.string w A l.length l) (hc : l.length ≤ c) (A2 : Option Addr) (c2 m : Nat) (ask : List Bool) (hC2 : Kd.C Kd.bool w A2 m ask) (hc2 : m ≤ c2) (hb : l.length + tot l ≤ 4000000) (q : Bool) (hq : decide (((l.length + tot l : Nat) : Int) ≤ 2000) = q) :
    Calls Try.prog 11 #[.slice A l.length c, .slice A2 m c2] w fun e w' => e = .returned (.bool true) ∧ Below w.heap.size w w' := by
  have S := Aside0.mk (SepT.start w)
  have HC := Aside0.mk hC
  have HC2 := Aside0.mk hC2
  have HF : Aside0 (∀ V ts, SepT w V ts → Calls Try.prog 30 #[.slice A l.length c, .int .i64 2000] V fun e w' => e = .returned (.bool q) ∧ SepT w w' ts) := ⟨fun V ts h => by
    have hc := Few_S h A c l (Kd.C_below hC (Sep.base h)) hc (by omega)
    rw [hq] at hc
    exact hc⟩
  obtain ⟨T, hT⟩ : ∃ T, catS ⟨#[]⟩ l = T := ⟨_, rfl⟩
  have hTs : T.size = tot l := by
    have e3 : (⟨#[]⟩ : ByteArray).size = 0 := rfl
    rw [← hT, catS_size, e3]
    omega
  have H44 : Aside0 (∀ V ts, SepT w V ts → Calls Try.prog 44 #[.slice A l.length c, .string ⟨#[]⟩] V fun e w' => e = .returned (.string T) ∧ SepT w w' ts) := ⟨fun V ts h => by rw [← hT]; exact JoinAll_S h A c l (Kd.C_below hC (Sep.base h)) hc (by omega)⟩
  have HT := Aside0.mk hT
  have HTS := Aside0.mk hTs
  have HBD := Aside0.mk hb
  have hll : (l.length : Int) ≤ 4000000 := by omega
  clear hC hC2 hc hc2 hb hq hT hTs
  cases q with
  | false =>
    go_enter Try.func11, Try.ntmps11
    go_wp2_with (first
      | (go_at_call 27; have hc := awake_S S.out; go_fit hc; clear hc; rintro e w1 ⟨rfl, hh⟩; clear S; have S := Aside0.mk hh; clear hh)
      | (go_at_call 30; have hc := HF.out _ _ S.out; go_fit hc; clear hc; rintro e w2 ⟨rfl, hh⟩; clear S; have S := Aside0.mk hh; clear hh))
    go_ret
    exact ⟨rfl, Sep.base S.out⟩
  | true =>
    go_enter Try.func11, Try.ntmps11
    go_wp2_with (first
      | (go_at_call 27; have hc := awake_S S.out; go_fit hc; clear hc; rintro e w1 ⟨rfl, hh⟩; clear S; have S := Aside0.mk hh; clear hh)
      | (go_at_call 30; have hc := HF.out _ _ S.out; go_fit hc; clear hc; rintro e w2 ⟨rfl, hh⟩; clear S; have S := Aside0.mk hh; clear hh)
      | (go_at_call 37; have hc := New_S S.out; go_fit hc; clear hc; rintro e w3 ⟨g, rfl, hh⟩; clear S; have S := Aside0.mk hh; clear hh))
    go_loopw [6, 19] (fun v6 v19 wr => ∃ (k : Nat) (b : ByteArray), k ≤ l.length ∧ v19 = .int .i64 k ∧ v6 = .string b ∧ Aside0 (b = catS ⟨#[]⟩ (l.take k)) ∧ Aside0 (SepT w wr [hashT g b])) (fun _ v19 _ => l.length - (intOf v19).toNat)
    case atStart => exact ⟨0, ⟨#[]⟩, Nat.zero_le _, rfl, rfl, ⟨by rw [List.take_zero]; unfold catS; rfl⟩, S⟩
    case round =>
      clear S
      obtain ⟨k, b, hk, rfl, rfl, HB, S⟩ := hrel
      have hbs : b.size ≤ tot l := by
        have e3 : (⟨#[]⟩ : ByteArray).size = 0 := rfl
        have e4 := tot_append (l.take k) (l.drop k)
        rw [List.take_append_drop] at e4
        rw [HB.out, catS_size, e3]
        omega
      have hbd := HBD.out
      by_cases hlt : k < l.length
      · have hlt2 : (k : Int) < l.length := by omega
        obtain ⟨ad, hAd, d0⟩ := str_at HC.out k (by omega) (by omega)
        subst hAd
        rw [Int.toNat_natCast] at d0
        have hts : l.take (k + 1) = l.take k ++ [l.getD k ⟨#[]⟩] := by rw [List.take_succ_eq_append_getElem hlt]; simp [List.getD, hlt]
        have hps : (l.getD k ⟨#[]⟩).size ≤ tot l := by
          have e4 := tot_append (l.take (k + 1)) (l.drop (k + 1))
          rw [List.take_append_drop, hts, tot_append] at e4
          simp only [tot] at e4
          omega
        generalize l.getD k ⟨#[]⟩ = p at *
        replace d0 := pw_cell_below (Sep.base S.out) d0
        have HB2 : Aside0 (b ++ p = catS ⟨#[]⟩ (l.take (k + 1))) := ⟨by rw [hts, catS_append, ← HB.out]⟩
        have hw : b.size + p.size ≤ 140737488351232 := by omega
        have r1 : ∀ V : World, (Op.stringOp .add b p).run Try.prog V = .ok (.string (b ++ p)) V := fun V => run_string_add_sum V _ _ (by omega)
        have hbp : (b ++ p).size ≤ 100000000 := by rw [ByteArray.size_append]; omega
        generalize hbpe : b ++ p = b2 at *
        have HW : Aside0 (∀ V ts, SepT w V (hashT g b :: ts) → Calls Try.prog 38 #[.pointer (some ⟨g, 0, none⟩), .string p] V fun e w' => e = .returned (.tuple #[]) ∧ SepT w w' (hashT g b2 :: ts)) := ⟨fun V ts h => by
          have := Write_S h p hw
          rw [hbpe] at this
          exact this⟩
        clear hts hps hbs hbd hw hbpe
        by_cases hkm : k < m
        · obtain ⟨ad2, hAd2, e0⟩ := bool_at HC2.out k hkm
          subst hAd2
          have HE : Aside0 (∀ V ts, SepT w V ts → V.cell? (ad2.add k) = some (.bool (ask.getD k false))) := ⟨fun V ts h => pw_cell_below (Sep.base h) e0⟩
          clear e0
          have hkm2 : (k : Int) < m := by omega
          have hk0 : (0 : Int) ≤ k := by omega
          generalize ask.getD k false = v at *
          cases v with
          | false =>
            go_wp2_with (go_at_call 38; have hc := HW.out _ _ S.out; go_fit hc; clear hc; rintro e w4 ⟨rfl, hh⟩; clear S; have S := Aside0.mk hh; clear hh; have e1 := HE.out _ _ S.out)
            clear e1 d0
            go_roundw
            case rel => exact ⟨k + 1, b2, by omega, by go_num, rfl, HB2, S⟩
            case measure => simp [intOf]; omega
          | true =>
            go_wp2_with (first
              | (go_at_call 38; have hc := HW.out _ _ S.out; go_fit hc; clear hc; rintro e w4 ⟨rfl, hh⟩; clear S; have S := Aside0.mk hh; clear hh; have e1 := HE.out _ _ S.out)
              | (go_at_call 40; have hc := Sum_S S.out (b := b2) m0 hbp; go_fit hc; clear hc; rintro e w5 ⟨rfl, hh⟩; clear S; have S := Aside0.mk hh; clear hh)
              | (go_at_call 28; have hc := SumF_S S.out b2 hbp; go_fit hc; clear hc; rintro e w6 ⟨rfl, hh⟩; clear S; have S := Aside0.mk hh; clear hh))
            clear e1 d0
            go_roundw
            case rel => exact ⟨k + 1, b2, by omega, by go_num, rfl, HB2, S⟩
            case measure => simp [intOf]; omega
        · have hkm2 : ¬ (k : Int) < m := by omega
          go_wp2_with (go_at_call 38; have hc := HW.out _ _ S.out; go_fit hc; clear hc; rintro e w4 ⟨rfl, hh⟩; clear S; have S := Aside0.mk hh; clear hh)
          clear d0
          go_roundw
          case rel => exact ⟨k + 1, b2, by omega, by go_num, rfl, HB2, S⟩
          case measure => simp [intOf]; omega
      · obtain rfl : k = l.length := by omega
        have hbT : b = T := by rw [HB.out, List.take_length, HT.out]
        subst hbT
        have hbp : b.size ≤ 100000000 := by omega
        clear hbs hbd
        go_wp2_with (first
          | (go_at_call 40; have hc := Sum_S S.out (b := b) m0 hbp; go_fit hc; clear hc; rintro e w5 ⟨rfl, hh⟩; clear S; have S := Aside0.mk hh; clear hh)
          | (go_at_call 28; have hc := SumF_S S.out b hbp; go_fit hc; clear hc; rintro e w6 ⟨rfl, hh⟩; clear S; have S := Aside0.mk hh; clear hh)
          | (go_at_call 44; have hc := H44.out _ _ S.out; go_fit hc; clear hc; rintro e w7 ⟨rfl, hh⟩; clear S; have S := Aside0.mk hh; clear hh))
        go_ret
        exact ⟨by first | rfl | simp, Sep.base S.out⟩
theorem Sha256Streams_law (w : World) (A : Option Addr) (c : Nat) (l : List ByteArray) (hC : Kd.C Kd.string w A l.length l) (hc : l.length ≤ c) (A2 : Option Addr) (c2 : Nat) (ask : List Bool) (hC2 : Kd.C Kd.bool w A2 ask.length ask) (hc2 : ask.length ≤ c2) (hb : l.length + tot l ≤ 1048576) :
    Calls Try.prog 11 #[.slice A l.length c, .slice A2 ask.length c2] w fun e w' => e = .returned (.bool true) ∧ Below w.heap.size w w' :=
  Streams_main w A c l hC hc A2 c2 ask.length ask hC2 hc2 (by omega) _ rfl
end Go.Proofs.Ytiafadmkkehdnaa.Sh
