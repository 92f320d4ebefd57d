/-
  Walks of layer 18. Printed by wip/gen/dom.py.
-/
import Derived.Test.YtlkpkinmmjcbcaaD11
namespace Go.Proofs.Ytlkpkinmmjcbcaa
open Go.Mor

set_option maxRecDepth 10000 in
theorem above_c (nm wk pa va : Value) (A : Option Addr) (c : Nat) (bs : List SB) (w : World) (hm : bs.length ≤ 1000000) (hA : RO noS w (.blocks A bs)) :
    Calls Try.prog 13 #[(.agg #[nm, wk, pa, va, (.slice A bs.length c)])] w (Ret fun v w' => ∃ A' c', v = .slice A' (raboveL bs).length c' ∧ Mem noS w w' [.row 3 1 A' (raboveL bs).length c' (ints (raboveL bs))]) := by
  refine enter (N := 11) (vs := [(.agg #[nm, wk, pa, va, (.slice A bs.length c)])]) Try.func13 (by kernel_rfl) (by kernel_rfl) (by kernel_rfl) ?_
  intro a hF
  have hM := Mem.init w
  refine W_seq (by kernel_rfl) ?_
  refine W_region (by kernel_rfl) ?_   -- region 0
  refine From_box (by kernel_rfl : coreAt _ 0 = some (some 1, (Go.Op.box 24 (Go.Operand.tmp 0)), 0, none)) hF (by kernel_rfl) (by kernel_rfl) (k' := 1) rfl (v := (.agg #[nm, wk, pa, va, (.slice A bs.length c)])) (cs := [nm, wk, pa, va, (.slice A bs.length c)]) (by kernel_rfl) rfl hM ?_
  intro b1 w2 hb1 _ hM3 _ a4 ea hF5; clear ea hF a
  change Mem noS w w2 [.blk b1 24 [nm, wk, pa, va, (.slice A bs.length c)]] at hM3
  clear hM
  replace hF5 : Fr a4 11 [(1, (.pointer (some ⟨b1, 0, none⟩)))] := hF5.keep (keep := [1]) (by kernel_rfl)
  refine From_pure 1 2 [1] hF5 (env' := [(1, (.pointer (some ⟨b1, 0, none⟩)))]) (by kernel_rfl) rfl ?_
  intro a6 hF7; clear hF5 a4
  refine From_end (by kernel_rfl) ?_
  refine W_seq (by kernel_rfl) ?_
  refine W_region (by kernel_rfl) ?_   -- region 1
  refine From_loadS (by kernel_rfl : coreAt _ 0 = some (some 6, (Go.Op.load 24 (Go.Operand.tmp 1)), 24, none)) hF7 (by kernel_rfl) (by kernel_rfl) (k' := 1) rfl (ad := ⟨b1, 0, none⟩) (vs := [nm, wk, pa, va, (.slice A bs.length c)]) (by kernel_rfl) (by kernel_rfl) (blk_cells (hM3.get 0 rfl)) ?_
  intro a8 ea hF9; clear ea hF7 a6
  replace hF9 : Fr a8 11 [(6, (.agg #[nm, wk, pa, va, (.slice A bs.length c)]))] := hF9.keep (keep := [6]) (by kernel_rfl)
  refine From_call (by kernel_rfl : coreAt _ 1 = some (some 7, (Go.Op.call { callee := (Go.Callee.value (Go.Operand.func 29)), args := #[(Go.Operand.tmp 6)], argTypes := #[24] }), 54, none)) hF9 (by kernel_rfl) (by kernel_rfl) (k' := 2) rfl (f := 29) (vs := [(.agg #[nm, wk, pa, va, (.slice A bs.length c)])]) (cap := []) (by kernel_rfl) (by kernel_rfl) (by kernel_rfl) (tree_c _ _ _ _ A c bs w2 hm (hA.at_ hM3)) ?_
  rintro _ w14 ⟨A10, c11, A12, c13, rfl, hfin, hM15x⟩ a16 ea hF17; clear ea hF9 a8
  have hM15 : Mem noS w w14 [.blk b1 24 [nm, wk, pa, va, (.slice A bs.length c)], .row 3 1 A10 bs.length c11 (ints (raboveL bs)), .row 3 1 A12 bs.length c13 (ints (atL bs))] := hM3.call hM15x
  clear hM15x hM3
  replace hF17 : Fr a16 11 [(7, (.tuple #[(.slice A10 bs.length c11), (.slice A12 bs.length c13)]))] := hF17.keep (keep := [7]) (by kernel_rfl)
  refine From_pure 5 7 [3] hF17 (env' := [(3, (.slice A10 bs.length c11))]) (by kernel_rfl) rfl ?_
  intro a18 hF19; clear hF17 a16
  refine From_end (by kernel_rfl) ?_
  refine W_seq (by kernel_rfl) ?_
  refine W_region (by kernel_rfl) ?_   -- region 2
  refine From_pure 2 2 [2] hF19 (env' := [(2, (.slice A10 bs.length c11))]) (by kernel_rfl) rfl ?_
  intro a20 hF21; clear hF19 a18
  refine From_end (by kernel_rfl) ?_
  refine W_ret (by kernel_rfl) ?_
  refine out1 (v := (.slice A10 bs.length c11)) hF21 rfl (by kernel_rfl) ?_
  refine ⟨_, rfl, ?_⟩
  have hM22 : Mem noS w w14 [.row 3 1 A10 bs.length c11 (ints (raboveL bs))] := ((hM15.front 1 rfl).pick [true, false, false] rfl)
  clear hM15
  exact row_ret hM22 rfl (raboveL_len bs).symm

end Go.Proofs.Ytlkpkinmmjcbcaa
