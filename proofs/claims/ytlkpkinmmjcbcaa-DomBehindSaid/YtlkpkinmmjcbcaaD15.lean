/-
  Walks of layer 18. Printed by wip/gen/dom.py.
-/
import Derived.Test.YtlkpkinmmjcbcaaD14
namespace Go.Proofs.Ytlkpkinmmjcbcaa
open Go.Mor

set_option maxRecDepth 10000 in
theorem diamond_c (w : World) :
    Calls Try.prog 23 #[] w (Ret fun v w' => ∃ A, v = .agg #[.string ⟨#[]⟩, .bool false, .int .i64 0, .int .i64 0, .slice A dia.length 4] ∧ Mem noS w w' [.row 38 6 A dia.length 4 (dia.flatMap SB.cells)]) := by
  refine enter (N := 7) (vs := []) Try.func23 (by kernel_rfl) (by kernel_rfl) (by kernel_rfl) ?_
  intro a hF
  have hM := Mem.init w
  refine W_seq (by kernel_rfl) ?_
  refine W_region (by kernel_rfl) ?_   -- region 0
  refine From_alloc (by kernel_rfl : coreAt _ 0 = some (some 0, (Go.Op.alloc 24), 0, none)) hF (by kernel_rfl) (by kernel_rfl) (k' := 1) rfl (cs := [(.string ⟨#[]⟩), (.bool false), (.int .i64 0), (.int .i64 0), (.slice none 0 0)]) (by kernel_rfl) hM ?_
  intro b1 w2 hb1 _ hM3 _ a4 ea hF5; clear ea hF a
  change Mem noS w w2 [.blk b1 24 [(.string ⟨#[]⟩), (.bool false), (.int .i64 0), (.int .i64 0), (.slice none 0 0)]] at hM3
  clear hM
  replace hF5 : Fr a4 7 [(0, (.pointer (some ⟨b1, 0, none⟩)))] := hF5.keep (keep := [0]) (by kernel_rfl)
  refine From_end (by kernel_rfl) ?_
  refine W_seq (by kernel_rfl) ?_
  refine W_region (by kernel_rfl) ?_   -- region 1
  refine From_pure 4 4 [0, 1, 2, 3, 4] hF5 (env' := [(0, (.pointer (some ⟨b1, 0, none⟩))), (1, (.agg #[(.slice none 0 0), (.slice none 0 0), (.int .i64 1), (.int .i64 0), (.int .i64 1), (.int .i64 2)])), (2, (.agg #[(.slice none 0 0), (.slice none 0 0), (.int .i64 0), (.int .i64 0), (.int .i64 3), (.int .i64 0)])), (3, (.agg #[(.slice none 0 0), (.slice none 0 0), (.int .i64 0), (.int .i64 0), (.int .i64 3), (.int .i64 0)])), (4, (.agg #[(.slice none 0 0), (.slice none 0 0), (.int .i64 2), (.int .i64 0), (.int .i64 0), (.int .i64 0)]))]) (by kernel_rfl) rfl ?_
  intro a6 hF7; clear hF5 a4
  refine From_buildSlice (by kernel_rfl : coreAt _ 4 = some (some 5, (Go.Op.buildSlice 22 4 #[(0, (Go.Operand.tmp 1)), (1, (Go.Operand.tmp 2)), (2, (Go.Operand.tmp 3)), (3, (Go.Operand.tmp 4))]), 22, none)) hF7 (by kernel_rfl) (by kernel_rfl) (k' := 5) rfl (e := 38) (size := 6) (zs := [(.slice none 0 0), (.slice none 0 0), (.int .i64 0), (.int .i64 0), (.int .i64 0), (.int .i64 0)]) (vs := [(0, (.agg #[(.slice none 0 0), (.slice none 0 0), (.int .i64 1), (.int .i64 0), (.int .i64 1), (.int .i64 2)])), (1, (.agg #[(.slice none 0 0), (.slice none 0 0), (.int .i64 0), (.int .i64 0), (.int .i64 3), (.int .i64 0)])), (2, (.agg #[(.slice none 0 0), (.slice none 0 0), (.int .i64 0), (.int .i64 0), (.int .i64 3), (.int .i64 0)])), (3, (.agg #[(.slice none 0 0), (.slice none 0 0), (.int .i64 2), (.int .i64 0), (.int .i64 0), (.int .i64 0)]))]) (cs := [(.slice none 0 0), (.slice none 0 0), (.int .i64 1), (.int .i64 0), (.int .i64 1), (.int .i64 2), (.slice none 0 0), (.slice none 0 0), (.int .i64 0), (.int .i64 0), (.int .i64 3), (.int .i64 0), (.slice none 0 0), (.slice none 0 0), (.int .i64 0), (.int .i64 0), (.int .i64 3), (.int .i64 0), (.slice none 0 0), (.slice none 0 0), (.int .i64 2), (.int .i64 0), (.int .i64 0), (.int .i64 0)]) (by kernel_rfl) (by kernel_rfl) (by kernel_rfl) (by kernel_rfl) (by kernel_rfl) (by kernel_rfl) hM3 ?_
  intro b8 w9 hb8 _ hM10 _ a11 ea hF12; clear ea hF7 a6
  change Mem noS w w9 [.blk b1 24 [(.string ⟨#[]⟩), (.bool false), (.int .i64 0), (.int .i64 0), (.slice none 0 0)], .row 38 6 (some ⟨b8, 0, none⟩) 4 4 [(.slice none 0 0), (.slice none 0 0), (.int .i64 1), (.int .i64 0), (.int .i64 1), (.int .i64 2), (.slice none 0 0), (.slice none 0 0), (.int .i64 0), (.int .i64 0), (.int .i64 3), (.int .i64 0), (.slice none 0 0), (.slice none 0 0), (.int .i64 0), (.int .i64 0), (.int .i64 3), (.int .i64 0), (.slice none 0 0), (.slice none 0 0), (.int .i64 2), (.int .i64 0), (.int .i64 0), (.int .i64 0)]] at hM10
  clear hM3
  replace hF12 : Fr a11 7 [(0, (.pointer (some ⟨b1, 0, none⟩))), (5, (.slice (some ⟨b8, 0, none⟩) 4 4))] := hF12.keep (keep := [0, 5]) (by kernel_rfl)
  refine From_pure 1 6 [0, 6] hF12 (env' := [(0, (.pointer (some ⟨b1, 0, none⟩))), (6, (.agg #[(.string ⟨#[]⟩), (.bool false), (.int .i64 0), (.int .i64 0), (.slice (some ⟨b8, 0, none⟩) 4 4)]))]) (by kernel_rfl) rfl ?_
  intro a13 hF14; clear hF12 a11
  refine From_storeS_blk (by kernel_rfl : coreAt _ 6 = some (none, (Go.Op.store 24 (Go.Operand.tmp 0) (Go.Operand.tmp 6)), 0, none)) hF14 (by kernel_rfl) (by kernel_rfl) (k' := 7) rfl (b := b1) (t0 := 24) (vs := [(.string ⟨#[]⟩), (.bool false), (.int .i64 0), (.int .i64 0), (.slice (some ⟨b8, 0, none⟩) 4 4)]) (cs := [(.string ⟨#[]⟩), (.bool false), (.int .i64 0), (.int .i64 0), (.slice none 0 0)]) (by kernel_rfl) (by kernel_rfl) (by kernel_rfl) (by simp only [List.mem_cons, List.not_mem_nil, or_false]; intro v hv; rcases hv with rfl | rfl | rfl | rfl | rfl <;> first | rfl | assumption) hM10 0 rfl rfl ?_
  intro w15 hM16 _ a17 ea hF18; clear ea hF14 a13
  change Mem noS w w15 [.blk b1 24 [(.string ⟨#[]⟩), (.bool false), (.int .i64 0), (.int .i64 0), (.slice (some ⟨b8, 0, none⟩) 4 4)], .row 38 6 (some ⟨b8, 0, none⟩) 4 4 [(.slice none 0 0), (.slice none 0 0), (.int .i64 1), (.int .i64 0), (.int .i64 1), (.int .i64 2), (.slice none 0 0), (.slice none 0 0), (.int .i64 0), (.int .i64 0), (.int .i64 3), (.int .i64 0), (.slice none 0 0), (.slice none 0 0), (.int .i64 0), (.int .i64 0), (.int .i64 3), (.int .i64 0), (.slice none 0 0), (.slice none 0 0), (.int .i64 2), (.int .i64 0), (.int .i64 0), (.int .i64 0)]] at hM16
  clear hM10
  replace hF18 : Fr a17 7 [(0, (.pointer (some ⟨b1, 0, none⟩)))] := hF18.keep (keep := [0]) (by kernel_rfl)
  refine From_end (by kernel_rfl) ?_
  refine W_ret (by kernel_rfl) ?_
  refine outC (ad := ⟨b1, 0, none⟩) (vs := [(.string ⟨#[]⟩), (.bool false), (.int .i64 0), (.int .i64 0), (.slice (some ⟨b8, 0, none⟩) 4 4)]) hF18 rfl (by kernel_rfl) (by kernel_rfl) (blk_cells (hM16.get 0 rfl)) ?_
  refine ⟨_, rfl, ?_⟩
  have hM19 : Mem noS w w15 [.row 38 6 (some ⟨b8, 0, none⟩) 4 4 [(.slice none 0 0), (.slice none 0 0), (.int .i64 1), (.int .i64 0), (.int .i64 1), (.int .i64 2), (.slice none 0 0), (.slice none 0 0), (.int .i64 0), (.int .i64 0), (.int .i64 3), (.int .i64 0), (.slice none 0 0), (.slice none 0 0), (.int .i64 0), (.int .i64 0), (.int .i64 3), (.int .i64 0), (.slice none 0 0), (.slice none 0 0), (.int .i64 2), (.int .i64 0), (.int .i64 0), (.int .i64 0)]] := ((hM16.front 1 rfl).pick [true, false] rfl)
  clear hM16
  exact ⟨_, rfl, hM19⟩

end Go.Proofs.Ytlkpkinmmjcbcaa
