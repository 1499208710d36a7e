/-
  The reference's Tagged; append of what came in onto a row of one's own; Few over such a row.
-/
import Derived.Test.YtiafadmkkehdnaaTc
import Derived.Test.YtiafadmkkehdnaaSo
namespace Go.Proofs.Ytiafadmkkehdnaa.Sh
open Go.RowKit Go.Great Go.Proofs.YtiafadmkkehdnaaW.PrintWords Go.Proofs.YtiafadmkkehdnaaW.PrintMore Go.Proofs.Ytiafadmkkehdnaa.Ref
set_option linter.unusedVariables false

theorem Length_S {w0 w : World} {ts : List Th} (S0 : SepT w0 w ts) (n : Int) (h0 : 0 ≤ n) (h1 : n ≤ 4611686018427387904) :
    Calls Try.prog 71 #[.int .i64 n] w fun e w' => e = .returned (.string (numB n)) ∧ SepT w0 w' ts := by
  refine (modcertref01_Length.calls 10 n (numB n) w (length_f n h0 h1)).mono ?_
  rintro e w1 ⟨rfl, hb⟩
  exact ⟨rfl, S0.below hb⟩
/-- append of what came in, onto a row of one's own. -/
theorem SepT.appendCame {P : Program} {ops : Array Oper} {rest : List Oper} {o : Oper} {a : Act} {Q : Exit → Act → World → Prop} {α : Type} (d : Kd α) {w0 W : World} {ts : List Th} (hgd : o.guard = none) (s x : Operand) (t e : TypeId) (z : Value) (bytes : Nat)
    (ho : o.op = .call { callee := .builtin .append, args := #[s, x], argTypes := #[t, t] })
    (ht : P.underlying t = some (.slice e)) (hinfo : (P.info? e).map (fun i => (i.zero, i.size, i.bytes)) = some (some z, d.sz, bytes)) (hz : z.cells.size = d.sz) (hs0 : 0 < d.sz) (hb0 : 0 < bytes)
    (v : Value) (xs ys : List α) (A : Option Addr) (m c : Nat) (hs : a.eval s = v) (hx : a.eval x = .slice A m c) (hKM : ∀ x cs, d.K W x cs → d.M W 0 (fun _ => False) x cs)
    (S : SepT w0 W (rowT d e v xs :: ts)) (HR : d.C w0 A m ys) (hl : (xs.length + m) * bytes ≤ 140737488355328)
    (h : ∀ A c w1, SepT w0 w1 (rowT d e (.slice A (xs ++ ys).length c) (xs ++ ys) :: ts) → wpList P ops Q rest (a.put o.dst (.slice A (xs ++ ys).length c)) w1) :
    wpList P ops Q (o :: rest) a W := by
  have hC : d.C W A m ys := Kd.C_below HR (Sep.base S)
  obtain ⟨ok, hR, h0, hk⟩ := S.focus
  have hR' : Kd.R d e W 0 ok v xs := hR
  refine Kd.R_append_rows d (w0 := W) 0 hgd s x t e z bytes ho ht hinfo hz hs0 hb0 v xs ys A m c (fun k => ok k ∨ W.heap.size ≤ k) (fun _ => False) hs hx (Kd.R_mono hR' (fun k hk => .inl hk)) hC hKM (fun _ hk => hk.elim) (fun k hk => .inr hk) (Below.refl _ _) (Nat.zero_le _) hl ?_
  intro v1 w1 h1 _ hg _
  obtain ⟨A, c, rfl⟩ := Kd.R_slice h1
  exact h A c w1 (hk w1 (rowT d e _ (xs ++ ys)) ((Only.refl ok W).grown hg (fun k hk => .inl (hR'.1 k hk))) h1)
theorem FewR_S {w0 w : World} {ts : List Th} {A : Option Addr} {n c : Nat} {xs : List ByteArray} (S0 : SepT w0 w (rowT Kd.string 9 (.slice A n c) xs :: ts)) (hb : xs.length + tot xs ≤ 4611686018427387904) (q : Bool) (hq : decide (((xs.length + tot xs : Nat) : Int) ≤ 2000) = q) :
    Calls Try.prog 30 #[.slice A n c, .int .i64 2000] w fun e w' => e = .returned (.bool q) ∧ SepT w0 w' ts := by
  obtain ⟨A', c', e, hc, hC⟩ := SepT.row S0
  injection e with e1 e2 e3
  subst e1
  subst e2
  subst e3
  have h := Few_S S0.drop A c xs hC hc hb
  rw [hq] at h
  exact h
attribute [local irreducible] Sep rowT boxT hashT sumB
set_option maxHeartbeats 2000000 in
set_option maxRecDepth 100000 in
theorem RefTagged_S {w0 w : World} {ts : List Th} (S0 : SepT w0 w ts) (tag : ByteArray) (A : Option Addr) (c : Nat) (l : List ByteArray) (hC : Kd.C Kd.string w0 A l.length l) (hl : l.length < 1000000) (ht : (tagB tag l).size ≤ 100000000) :
    Calls Try.prog 32 #[.string tag, .slice A l.length c] w fun e w' => e = .returned (.string (sumB (tagB tag l))) ∧ SepT w0 w' ts := by
  have S := Aside0.mk S0
  have HC := Aside0.mk hC
  obtain ⟨T, hT⟩ : ∃ T, tagB tag l = T := ⟨_, rfl⟩
  have h1 : (numB (tag.size : Nat) ++ tag).size ≤ (tagB tag l).size := catT_size l _
  rw [ByteArray.size_append, numB_size] at h1
  rw [hT] at h1 ht ⊢
  have htg : (tag.size : Int) ≤ 100000000 := by omega
  have HT := Aside0.mk (show catT (numB (tag.size : Nat) ++ tag) l = T from hT)
  obtain ⟨N, hN⟩ : ∃ N, numB ((tag.size : Nat) : Int) = N := ⟨_, rfl⟩
  have hNs : N.size = 8 := by rw [← hN]; exact numB_size _
  have hNi : (N.size : Int) ≤ 8 := by omega
  have HN := Aside0.mk hN
  have r0 : ∀ V : World, (Op.stringOp .add N tag).run Try.prog V = .ok (.string (N ++ tag)) V := fun V => run_string_add_sum V _ _ (by omega)
  rw [hN] at HT
  clear S0 hC hT h1 hN hNs
  go_enter Try.func32, Try.ntmps32
  go_wp2_with (go_at_call 71; have hc := Length_S S.out (tag.size : Int) (by omega) (by omega); rw [HN.out] at hc; go_fit hc; clear hc; rintro e w2 ⟨rfl, hh⟩; clear S; have S := Aside0.mk hh; clear hh)
  clear r0
  go_loopw [5, 6] (fun v5 v6 wr => ∃ (k : Nat) (b : ByteArray), k ≤ l.length ∧ v6 = .int .i64 k ∧ v5 = .string b ∧ Aside0 (catT b (l.drop k) = T) ∧ Aside0 (SepT w0 wr ts)) (fun _ v6 _ => l.length - (intOf v6).toNat)
  case atStart => exact ⟨0, N ++ tag, Nat.zero_le _, rfl, rfl, HT, S⟩
  case round =>
    clear S HT
    obtain ⟨k, b, hk, rfl, rfl, HT, S⟩ := hrel
    by_cases hlt : k < l.length
    · have hlt2 : (k : Int) < l.length := by omega
      obtain ⟨ad, hAd, d0⟩ := str_at HC.out k (by omega) (by omega)
      subst hAd
      rw [Int.toNat_natCast] at d0
      have hdr : l.drop k = l.getD k ⟨#[]⟩ :: l.drop (k + 1) := by
        rw [List.drop_eq_getElem_cons hlt]; simp [List.getD, hlt]
      rw [hdr, catT] at HT
      clear hdr
      generalize l.getD k ⟨#[]⟩ = p at d0 HT
      have HK : Aside0 (∀ (V : World) (ts : List Th), SepT w0 V ts → V.cell? (ad.add k) = some (.string p)) := ⟨fun V ts h => pw_cell_below (Sep.base h) d0⟩
      clear d0
      have h1 : (b ++ numB (p.size : Nat) ++ p).size ≤ T.size := by rw [← HT.out]; exact catT_size _ _
      rw [ByteArray.size_append, ByteArray.size_append, numB_size] at h1
      obtain ⟨N2, hN2⟩ : ∃ N2, numB ((p.size : Nat) : Int) = N2 := ⟨_, rfl⟩
      have hNs2 : N2.size = 8 := by rw [← hN2]; exact numB_size _
      rw [hN2] at HT
      have HN2 := Aside0.mk hN2
      have hp1 : (p.size : Int) ≤ 100000000 := by omega
      have r1 : ∀ V : World, (Op.stringOp .add b N2).run Try.prog V = .ok (.string (b ++ N2)) V := fun V => run_string_add_sum V _ _ (by omega)
      have r2 : ∀ V : World, (Op.stringOp .add (b ++ N2) p).run Try.prog V = .ok (.string (b ++ N2 ++ p)) V := fun V => run_string_add_sum V _ _ (by rw [ByteArray.size_append]; omega)
      clear hN2 hNs2 h1
      go_upto_region 5 with fail
      have S1 := Aside0.mk S.out.drew
      clear S
      have S := S1
      clear S1
      go_region_held3 (fun V => V.cell? (ad.add k) = some (.string p)) (exact HK.out _ _ S.out)
        (first
          | (go_at_call 71; have hc := Length_S S.out (p.size : Int) (by omega) (by omega); rw [HN2.out] at hc; go_fit hc; clear hc; rintro e w4 ⟨rfl, hh⟩; clear S; have S := Aside0.mk hh; clear hh))
      all_goals
        go_wp2_with fail
        go_roundw
        case rel => exact ⟨k + 1, _, by omega, by go_num, rfl, HT, S⟩
        case measure => simp [intOf]; omega
    · obtain rfl : k = l.length := by omega
      have hb : b = T := by rw [← HT.out, List.drop_length]; rfl
      have hbs : b.size ≤ 100000000 := by rw [hb]; exact ht
      have HB := Aside0.mk hb
      clear hb
      go_wp2_with (go_at_call 29; have hc := RefSum_S S.out b hbs; go_fit hc; clear hc; rintro e w7 ⟨rfl, hh⟩; clear S; have S := Aside0.mk hh; clear hh)
      go_ret
      exact ⟨by rw [HB.out]; rfl, S.out⟩
end Go.Proofs.Ytiafadmkkehdnaa.Sh
