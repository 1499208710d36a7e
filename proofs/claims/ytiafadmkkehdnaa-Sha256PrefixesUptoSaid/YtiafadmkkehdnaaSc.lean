/-
  sha256's constants.
-/
import Derived.Test.YtiafadmkkehdnaaSb
import Derived.Great.Walk
namespace Go.Proofs.Ytiafadmkkehdnaa.Sh
open Go.RowKit Go.Great Go.Proofs.YtiafadmkkehdnaaW.PrintWords Go.Proofs.YtiafadmkkehdnaaW.PrintMore
set_option linter.unusedVariables false

/-- The constants of the steps. -/
def ks : List Int := [1116352408, 1899447441, 3049323471, 3921009573, 961987163, 1508970993, 2453635748, 2870763221, 3624381080, 310598401, 607225278, 1426881987, 1925078388, 2162078206, 2614888103, 3248222580, 3835390401, 4022224774, 264347078, 604807628, 770255983, 1249150122, 1555081692, 1996064986, 2554220882, 2821834349, 2952996808, 3210313671, 3336571891, 3584528711, 113926993, 338241895, 666307205, 773529912, 1294757372, 1396182291, 1695183700, 1986661051, 2177026350, 2456956037, 2730485921, 2820302411, 3259730800, 3345764771, 3516065817, 3600352804, 4094571909, 275423344, 430227734, 506948616, 659060556, 883997877, 958139571, 1322822218, 1537002063, 1747873779, 1955562222, 2024104815, 2227730452, 2361852424, 2428436474, 2756734187, 3204031479, 3329325298]
/-- A row of words. -/
def wordsA (l : List Int) : Array Value := (l.map (Value.int .u32)).toArray
theorem info106 : (Try.prog.info? 106).map (·.size) = some 64 := by kernel_rfl
theorem info92 : (Try.prog.info? 92).map (·.size) = some 8 := by kernel_rfl
def wordsZ : Array Value := wordsA (List.replicate 64 0)
theorem new64 (t : TypeId) (ht : t = 106) (ρ : Operand → Value) (o : Oper) (ho : o.op = .alloc t) (w : World) : (execOp ρ o).run Try.prog w = .ok (.value (.pointer (some ⟨w.heap.size, 0, none⟩))) (w.alloc (.cells wordsZ 106)) := by
  subst ht
  obtain ⟨d, op, ty, pos, af, gd⟩ := o
  simp only at ho
  subst ho
  kernel_rfl
set_option maxRecDepth 100000 in
theorem constants_calls (w : World) :
    Calls Try.prog 98 #[] w fun e w' => e = .returned (.agg (wordsA ks)) ∧ Below w.heap.size w w' := by
  have S := Aside0.mk ((SepT.start w).allocBox wordsZ 106)
  go_enter Try.func98, Try.ntmps98
  apply wp_seq_k; intro K0 hK0
  apply wp_region_lit
  refine wpList_allocTo rfl (some 0) rfl _ _ (new64 106 rfl _ _ rfl _) ?_
  apply wpList_nil
  refine hK0 _ _ ?_
  clear hK0 K0
  apply wp_seq_k; intro K0 hK0
  apply wp_region_lit
  refine wpList_build rfl _ _ rfl (by kernel_rfl) ?_
  have hx := (SepT.box S.out m0).1
  refine wpList_store_row rfl _ _ _ rfl w.heap.size (wordsA ks) rfl (by kernel_rfl) 106 _ hx info106 (by kernel_rfl) (by kernel_rfl) ?_
  apply wpList_nil
  refine hK0 _ _ ?_
  have S1 := Aside0.mk (S.out.setRow (wordsA ks))
  clear hK0 K0
  go_wp2
  have hy := (SepT.box S1.out m0).1
  refine bodyPost_ret (results_cell_row rfl _ _ w.heap.size 106 (wordsA ks) (0, 0) _ rfl hy Try.underlying106 rfl info106) rfl ?_
  exact ⟨rfl, Sep.base S1.out⟩
end Go.Proofs.Ytiafadmkkehdnaa.Sh
