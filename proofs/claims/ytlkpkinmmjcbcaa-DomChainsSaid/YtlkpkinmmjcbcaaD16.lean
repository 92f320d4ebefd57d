/-
  Walks of layer 18. Printed by wip/gen/dom.py.
-/
import Derived.Test.YtlkpkinmmjcbcaaD15
namespace Go.Proofs.Ytlkpkinmmjcbcaa
open Go.Mor

set_option maxRecDepth 10000 in
theorem awake_c (w : World) :
    Calls Try.prog 9 #[] w (Ret fun v w' => v = .bool true ∧ Mem noS w w' []) := by
  refine enter (N := 21) (vs := []) Try.func9 (by kernel_rfl) (by kernel_rfl) (by kernel_rfl) ?_
  intro a hF
  have hM := Mem.init w
  refine W_seq (by kernel_rfl) ?_
  refine W_region (by kernel_rfl) ?_   -- region 0
  refine From_pure 1 1 [] hF (env' := []) (by kernel_rfl) rfl ?_
  intro a1 hF2; clear hF a
  refine From_end (by kernel_rfl) ?_
  refine W_seq (by kernel_rfl) ?_
  refine W_region (by kernel_rfl) ?_   -- region 1
  refine From_call (by kernel_rfl : coreAt _ 0 = some (some 2, (Go.Op.call { callee := (Go.Callee.value (Go.Operand.func 23)), args := #[], argTypes := #[] }), 24, none)) hF2 (by kernel_rfl) (by kernel_rfl) (k' := 1) rfl (f := 23) (vs := []) (cap := []) (by kernel_rfl) (by kernel_rfl) (by kernel_rfl) (diamond_c w) ?_
  rintro _ w4 ⟨A3, rfl, hM5x⟩ a6 ea hF7; clear ea hF2 a1
  have hM5 : Mem noS w w4 [.row 38 6 A3 dia.length 4 (dia.flatMap SB.cells)] := hM.call hM5x
  clear hM5x hM
  replace hF7 : Fr a6 21 [(2, (.agg #[(.string ⟨#[]⟩), (.bool false), (.int .i64 0), (.int .i64 0), (.slice A3 dia.length 4)]))] := hF7.keep (keep := [2]) (by kernel_rfl)
  refine From_alloc (by kernel_rfl : coreAt _ 1 = some (some 1, (Go.Op.alloc 24), 0, none)) hF7 (by kernel_rfl) (by kernel_rfl) (k' := 2) rfl (cs := [(.string ⟨#[]⟩), (.bool false), (.int .i64 0), (.int .i64 0), (.slice none 0 0)]) (by kernel_rfl) hM5 ?_
  intro b8 w9 hb8 _ hM10 _ a11 ea hF12; clear ea hF7 a6
  change Mem noS w w9 [.row 38 6 A3 dia.length 4 (dia.flatMap SB.cells), .blk b8 24 [(.string ⟨#[]⟩), (.bool false), (.int .i64 0), (.int .i64 0), (.slice none 0 0)]] at hM10
  clear hM5
  replace hF12 : Fr a11 21 [(1, (.pointer (some ⟨b8, 0, none⟩))), (2, (.agg #[(.string ⟨#[]⟩), (.bool false), (.int .i64 0), (.int .i64 0), (.slice A3 dia.length 4)]))] := hF12.keep (keep := [1, 2]) (by kernel_rfl)
  refine From_storeS_blk (by kernel_rfl : coreAt _ 2 = some (none, (Go.Op.store 24 (Go.Operand.tmp 1) (Go.Operand.tmp 2)), 0, none)) hF12 (by kernel_rfl) (by kernel_rfl) (k' := 3) rfl (b := b8) (t0 := 24) (vs := [(.string ⟨#[]⟩), (.bool false), (.int .i64 0), (.int .i64 0), (.slice A3 dia.length 4)]) (cs := [(.string ⟨#[]⟩), (.bool false), (.int .i64 0), (.int .i64 0), (.slice none 0 0)]) (by kernel_rfl) (by kernel_rfl) (by kernel_rfl) (by simp only [List.mem_cons, List.not_mem_nil, or_false]; intro v hv; rcases hv with rfl | rfl | rfl | rfl | rfl <;> first | rfl | assumption) hM10 1 rfl rfl ?_
  intro w13 hM14 _ a15 ea hF16; clear ea hF12 a11
  change Mem noS w w13 [.row 38 6 A3 dia.length 4 (dia.flatMap SB.cells), .blk b8 24 [(.string ⟨#[]⟩), (.bool false), (.int .i64 0), (.int .i64 0), (.slice A3 dia.length 4)]] at hM14
  clear hM10
  replace hF16 : Fr a15 21 [(1, (.pointer (some ⟨b8, 0, none⟩)))] := hF16.keep (keep := [1]) (by kernel_rfl)
  refine From_end (by kernel_rfl) ?_
  refine W_seq (by kernel_rfl) ?_
  refine W_region (by kernel_rfl) ?_   -- region 2
  refine From_loadS (by kernel_rfl : coreAt _ 0 = some (some 3, (Go.Op.load 24 (Go.Operand.tmp 1)), 24, none)) hF16 (by kernel_rfl) (by kernel_rfl) (k' := 1) rfl (ad := ⟨b8, 0, none⟩) (vs := [(.string ⟨#[]⟩), (.bool false), (.int .i64 0), (.int .i64 0), (.slice A3 dia.length 4)]) (by kernel_rfl) (by kernel_rfl) (blk_cells (hM14.get 1 rfl)) ?_
  intro a17 ea hF18; clear ea hF16 a15
  replace hF18 : Fr a17 21 [(1, (.pointer (some ⟨b8, 0, none⟩))), (3, (.agg #[(.string ⟨#[]⟩), (.bool false), (.int .i64 0), (.int .i64 0), (.slice A3 dia.length 4)]))] := hF18.keep (keep := [1, 3]) (by kernel_rfl)
  refine From_call (by kernel_rfl : coreAt _ 1 = some (some 4, (Go.Op.call { callee := (Go.Callee.value (Go.Operand.func 11)), args := #[(Go.Operand.tmp 3)], argTypes := #[24] }), 27, none)) hF18 (by kernel_rfl) (by kernel_rfl) (k' := 2) rfl (f := 11) (vs := [(.agg #[(.string ⟨#[]⟩), (.bool false), (.int .i64 0), (.int .i64 0), (.slice A3 dia.length 4)])]) (cap := []) (by kernel_rfl) (by kernel_rfl) (by kernel_rfl) (order_c _ _ _ _ A3 4 dia w13 (by decide) (RO.of (row_blocks (hM14.get 0 rfl)))) ?_
  rintro _ w21 ⟨A19, c20, rfl, hM22x⟩ a23 ea hF24; clear ea hF18 a17
  have hM22 : Mem noS w w21 [.row 38 6 A3 dia.length 4 (dia.flatMap SB.cells), .blk b8 24 [(.string ⟨#[]⟩), (.bool false), (.int .i64 0), (.int .i64 0), (.slice A3 dia.length 4)], .row 3 1 A19 ((orderL dia).length) c20 (ints (orderL dia))] := hM14.call hM22x
  clear hM22x hM14
  replace hF24 : Fr a23 21 [(1, (.pointer (some ⟨b8, 0, none⟩))), (4, (.slice A19 ((orderL dia).length) c20))] := hF24.keep (keep := [1, 4]) (by kernel_rfl)
  refine From_buildSlice (by kernel_rfl : coreAt _ 2 = some (some 5, (Go.Op.buildSlice 27 4 #[(0, (Go.Operand.const (Go.Value.int Go.IntKind.i64 0))), (1, (Go.Operand.const (Go.Value.int Go.IntKind.i64 2))), (2, (Go.Operand.const (Go.Value.int Go.IntKind.i64 1))), (3, (Go.Operand.const (Go.Value.int Go.IntKind.i64 3)))]), 27, none)) hF24 (by kernel_rfl) (by kernel_rfl) (k' := 3) rfl (e := 3) (size := 1) (zs := [(.int .i64 0)]) (vs := [(0, (.int .i64 0)), (1, (.int .i64 2)), (2, (.int .i64 1)), (3, (.int .i64 3))]) (cs := [(.int .i64 0), (.int .i64 2), (.int .i64 1), (.int .i64 3)]) (by kernel_rfl) (by kernel_rfl) (by kernel_rfl) (by kernel_rfl) (by kernel_rfl) (by kernel_rfl) hM22 ?_
  intro b25 w26 hb25 _ hM27 _ a28 ea hF29; clear ea hF24 a23
  change Mem noS w w26 [.row 38 6 A3 dia.length 4 (dia.flatMap SB.cells), .blk b8 24 [(.string ⟨#[]⟩), (.bool false), (.int .i64 0), (.int .i64 0), (.slice A3 dia.length 4)], .row 3 1 A19 ((orderL dia).length) c20 (ints (orderL dia)), .row 3 1 (some ⟨b25, 0, none⟩) 4 4 [(.int .i64 0), (.int .i64 2), (.int .i64 1), (.int .i64 3)]] at hM27
  clear hM22
  replace hF29 : Fr a28 21 [(1, (.pointer (some ⟨b8, 0, none⟩))), (4, (.slice A19 ((orderL dia).length) c20)), (5, (.slice (some ⟨b25, 0, none⟩) 4 4))] := hF29.keep (keep := [1, 4, 5]) (by kernel_rfl)
  refine From_call (by kernel_rfl : coreAt _ 3 = some (some 6, (Go.Op.call { callee := (Go.Callee.value (Go.Operand.func 10)), args := #[(Go.Operand.tmp 4), (Go.Operand.tmp 5)], argTypes := #[27, 27] }), 4, none)) hF29 (by kernel_rfl) (by kernel_rfl) (k' := 4) rfl (f := 10) (vs := [(.slice A19 ((orderL dia).length) c20), (.slice (some ⟨b25, 0, none⟩) 4 4)]) (cap := []) (by kernel_rfl) (by kernel_rfl) (by kernel_rfl) (same_c (orderL dia) [0, 2, 1, 3] A19 (some ⟨b25, 0, none⟩) c20 4 w26 (Nat.le_trans (orderL_len dia) (by decide)) (RO.row_rd (hM27.own_ro 2 rfl)) (RO.row_rd (hM27.own_ro 3 rfl))) ?_
  rintro _ w30 ⟨rfl, hM31x⟩ a32 ea hF33; clear ea hF29 a28
  have hM31 : Mem noS w w30 [.row 38 6 A3 dia.length 4 (dia.flatMap SB.cells), .blk b8 24 [(.string ⟨#[]⟩), (.bool false), (.int .i64 0), (.int .i64 0), (.slice A3 dia.length 4)], .row 3 1 A19 ((orderL dia).length) c20 (ints (orderL dia)), .row 3 1 (some ⟨b25, 0, none⟩) 4 4 [(.int .i64 0), (.int .i64 2), (.int .i64 1), (.int .i64 3)]] := hM27.call hM31x
  clear hM31x hM27
  replace hF33 : Fr a32 21 (putE [(1, (.pointer (some ⟨b8, 0, none⟩))), (4, (.slice A19 ((orderL dia).length) c20)), (5, (.slice (some ⟨b25, 0, none⟩) 4 4))] (some 6) (.bool (decide (orderL dia = [0, 2, 1, 3])))) := hF33
  obtain ⟨Ba, hBa⟩ : ∃ B, B = decide (orderL dia = [0, 2, 1, 3]) := ⟨_, rfl⟩
  rw [← hBa] at hF33
  obtain rfl : Ba = true := by rw [hBa]; exact dia_order
  clear hBa
  replace hF33 : Fr a32 21 [(1, (.pointer (some ⟨b8, 0, none⟩))), (6, (.bool true))] := hF33.keep (keep := [1, 6]) (by kernel_rfl)
  refine From_pure 1 5 [1, 7] hF33 (env' := [(1, (.pointer (some ⟨b8, 0, none⟩))), (7, (.bool true))]) (by kernel_rfl) rfl ?_
  intro a34 hF35; clear hF33 a32
  refine From_loadS (by kernel_rfl : coreAt _ 5 = some (some 8, (Go.Op.load 24 (Go.Operand.tmp 1)), 24, some (4, true))) hF35 (by kernel_rfl) (by kernel_rfl) (k' := 6) rfl (ad := ⟨b8, 0, none⟩) (vs := [(.string ⟨#[]⟩), (.bool false), (.int .i64 0), (.int .i64 0), (.slice A3 dia.length 4)]) (by kernel_rfl) (by kernel_rfl) (blk_cells (hM31.get 1 rfl)) ?_
  intro a36 ea hF37; clear ea hF35 a34
  replace hF37 : Fr a36 21 [(1, (.pointer (some ⟨b8, 0, none⟩))), (7, (.bool true)), (8, (.agg #[(.string ⟨#[]⟩), (.bool false), (.int .i64 0), (.int .i64 0), (.slice A3 dia.length 4)]))] := hF37.keep (keep := [1, 7, 8]) (by kernel_rfl)
  refine From_call (by kernel_rfl : coreAt _ 6 = some (some 9, (Go.Op.call { callee := (Go.Callee.value (Go.Operand.func 13)), args := #[(Go.Operand.tmp 8)], argTypes := #[24] }), 27, some (4, true))) hF37 (by kernel_rfl) (by kernel_rfl) (k' := 7) rfl (f := 13) (vs := [(.agg #[(.string ⟨#[]⟩), (.bool false), (.int .i64 0), (.int .i64 0), (.slice A3 dia.length 4)])]) (cap := []) (by kernel_rfl) (by kernel_rfl) (by kernel_rfl) (above_c _ _ _ _ A3 4 dia w30 (by decide) (RO.of (row_blocks (hM31.get 0 rfl)))) ?_
  rintro _ w40 ⟨A38, c39, rfl, hM41x⟩ a42 ea hF43; clear ea hF37 a36
  have hM41 : Mem noS w w40 [.row 38 6 A3 dia.length 4 (dia.flatMap SB.cells), .blk b8 24 [(.string ⟨#[]⟩), (.bool false), (.int .i64 0), (.int .i64 0), (.slice A3 dia.length 4)], .row 3 1 A19 ((orderL dia).length) c20 (ints (orderL dia)), .row 3 1 (some ⟨b25, 0, none⟩) 4 4 [(.int .i64 0), (.int .i64 2), (.int .i64 1), (.int .i64 3)], .row 3 1 A38 ((raboveL dia).length) c39 (ints (raboveL dia))] := hM31.call hM41x
  clear hM41x hM31
  replace hF43 : Fr a42 21 [(1, (.pointer (some ⟨b8, 0, none⟩))), (7, (.bool true)), (9, (.slice A38 ((raboveL dia).length) c39))] := hF43.keep (keep := [1, 7, 9]) (by kernel_rfl)
  refine From_buildSlice (by kernel_rfl : coreAt _ 7 = some (some 10, (Go.Op.buildSlice 27 4 #[(0, (Go.Operand.const (Go.Value.int Go.IntKind.i64 (-1)))), (1, (Go.Operand.const (Go.Value.int Go.IntKind.i64 0))), (2, (Go.Operand.const (Go.Value.int Go.IntKind.i64 0))), (3, (Go.Operand.const (Go.Value.int Go.IntKind.i64 0)))]), 27, some (4, true))) hF43 (by kernel_rfl) (by kernel_rfl) (k' := 8) rfl (e := 3) (size := 1) (zs := [(.int .i64 0)]) (vs := [(0, (.int .i64 (-1))), (1, (.int .i64 0)), (2, (.int .i64 0)), (3, (.int .i64 0))]) (cs := [(.int .i64 (-1)), (.int .i64 0), (.int .i64 0), (.int .i64 0)]) (by kernel_rfl) (by kernel_rfl) (by kernel_rfl) (by kernel_rfl) (by kernel_rfl) (by kernel_rfl) hM41 ?_
  intro b44 w45 hb44 _ hM46 _ a47 ea hF48; clear ea hF43 a42
  change Mem noS w w45 [.row 38 6 A3 dia.length 4 (dia.flatMap SB.cells), .blk b8 24 [(.string ⟨#[]⟩), (.bool false), (.int .i64 0), (.int .i64 0), (.slice A3 dia.length 4)], .row 3 1 A19 ((orderL dia).length) c20 (ints (orderL dia)), .row 3 1 (some ⟨b25, 0, none⟩) 4 4 [(.int .i64 0), (.int .i64 2), (.int .i64 1), (.int .i64 3)], .row 3 1 A38 ((raboveL dia).length) c39 (ints (raboveL dia)), .row 3 1 (some ⟨b44, 0, none⟩) 4 4 [(.int .i64 (-1)), (.int .i64 0), (.int .i64 0), (.int .i64 0)]] at hM46
  clear hM41
  replace hF48 : Fr a47 21 [(1, (.pointer (some ⟨b8, 0, none⟩))), (7, (.bool true)), (9, (.slice A38 ((raboveL dia).length) c39)), (10, (.slice (some ⟨b44, 0, none⟩) 4 4))] := hF48.keep (keep := [1, 7, 9, 10]) (by kernel_rfl)
  refine From_call (by kernel_rfl : coreAt _ 8 = some (some 11, (Go.Op.call { callee := (Go.Callee.value (Go.Operand.func 10)), args := #[(Go.Operand.tmp 9), (Go.Operand.tmp 10)], argTypes := #[27, 27] }), 4, some (4, true))) hF48 (by kernel_rfl) (by kernel_rfl) (k' := 9) rfl (f := 10) (vs := [(.slice A38 ((raboveL dia).length) c39), (.slice (some ⟨b44, 0, none⟩) 4 4)]) (cap := []) (by kernel_rfl) (by kernel_rfl) (by kernel_rfl) (same_c (raboveL dia) [-1, 0, 0, 0] A38 (some ⟨b44, 0, none⟩) c39 4 w45 (by rw [raboveL_len]; decide) (RO.row_rd (hM46.own_ro 4 rfl)) (RO.row_rd (hM46.own_ro 5 rfl))) ?_
  rintro _ w49 ⟨rfl, hM50x⟩ a51 ea hF52; clear ea hF48 a47
  have hM50 : Mem noS w w49 [.row 38 6 A3 dia.length 4 (dia.flatMap SB.cells), .blk b8 24 [(.string ⟨#[]⟩), (.bool false), (.int .i64 0), (.int .i64 0), (.slice A3 dia.length 4)], .row 3 1 A19 ((orderL dia).length) c20 (ints (orderL dia)), .row 3 1 (some ⟨b25, 0, none⟩) 4 4 [(.int .i64 0), (.int .i64 2), (.int .i64 1), (.int .i64 3)], .row 3 1 A38 ((raboveL dia).length) c39 (ints (raboveL dia)), .row 3 1 (some ⟨b44, 0, none⟩) 4 4 [(.int .i64 (-1)), (.int .i64 0), (.int .i64 0), (.int .i64 0)]] := hM46.call hM50x
  clear hM50x hM46
  replace hF52 : Fr a51 21 (putE [(1, (.pointer (some ⟨b8, 0, none⟩))), (7, (.bool true)), (9, (.slice A38 ((raboveL dia).length) c39)), (10, (.slice (some ⟨b44, 0, none⟩) 4 4))] (some 11) (.bool (decide (raboveL dia = [-1, 0, 0, 0])))) := hF52
  obtain ⟨Bb, hBb⟩ : ∃ B, B = decide (raboveL dia = [-1, 0, 0, 0]) := ⟨_, rfl⟩
  rw [← hBb] at hF52
  obtain rfl : Bb = true := by rw [hBb]; exact dia_above
  clear hBb
  replace hF52 : Fr a51 21 [(1, (.pointer (some ⟨b8, 0, none⟩))), (7, (.bool true)), (11, (.bool true))] := hF52.keep (keep := [1, 7, 11]) (by kernel_rfl)
  refine From_pure 2 11 [1, 13] hF52 (env' := [(1, (.pointer (some ⟨b8, 0, none⟩))), (13, (.bool true))]) (by kernel_rfl) rfl ?_
  intro a53 hF54; clear hF52 a51
  refine From_loadS (by kernel_rfl : coreAt _ 11 = some (some 14, (Go.Op.load 24 (Go.Operand.tmp 1)), 24, some (10, true))) hF54 (by kernel_rfl) (by kernel_rfl) (k' := 12) rfl (ad := ⟨b8, 0, none⟩) (vs := [(.string ⟨#[]⟩), (.bool false), (.int .i64 0), (.int .i64 0), (.slice A3 dia.length 4)]) (by kernel_rfl) (by kernel_rfl) (blk_cells (hM50.get 1 rfl)) ?_
  intro a55 ea hF56; clear ea hF54 a53
  replace hF56 : Fr a55 21 [(13, (.bool true)), (14, (.agg #[(.string ⟨#[]⟩), (.bool false), (.int .i64 0), (.int .i64 0), (.slice A3 dia.length 4)]))] := hF56.keep (keep := [13, 14]) (by kernel_rfl)
  refine From_call (by kernel_rfl : coreAt _ 12 = some (some 15, (Go.Op.call { callee := (Go.Callee.value (Go.Operand.func 16)), args := #[(Go.Operand.tmp 14)], argTypes := #[24] }), 31, some (10, true))) hF56 (by kernel_rfl) (by kernel_rfl) (k' := 13) rfl (f := 16) (vs := [(.agg #[(.string ⟨#[]⟩), (.bool false), (.int .i64 0), (.int .i64 0), (.slice A3 dia.length 4)])]) (cap := []) (by kernel_rfl) (by kernel_rfl) (by kernel_rfl) (edge_c _ _ _ _ A3 4 dia w49 (by decide) (RO.of (row_blocks (hM50.get 0 rfl)))) ?_
  rintro _ w60 ⟨A57, c58, rows59, rfl, hfrows59, hM61x⟩ a62 ea hF63; clear ea hF56 a55
  have hM61 : Mem noS w w60 [.row 38 6 A3 dia.length 4 (dia.flatMap SB.cells), .blk b8 24 [(.string ⟨#[]⟩), (.bool false), (.int .i64 0), (.int .i64 0), (.slice A3 dia.length 4)], .row 3 1 A19 ((orderL dia).length) c20 (ints (orderL dia)), .row 3 1 (some ⟨b25, 0, none⟩) 4 4 [(.int .i64 0), (.int .i64 2), (.int .i64 1), (.int .i64 3)], .row 3 1 A38 ((raboveL dia).length) c39 (ints (raboveL dia)), .row 3 1 (some ⟨b44, 0, none⟩) 4 4 [(.int .i64 (-1)), (.int .i64 0), (.int .i64 0), (.int .i64 0)], .fam 3 rows59, .row 27 1 A57 dia.length c58 (slv rows59)] := hM50.call hM61x
  clear hM61x hM50
  replace hF63 : Fr a62 21 [(13, (.bool true)), (15, (.slice A57 dia.length c58))] := hF63.keep (keep := [13, 15]) (by kernel_rfl)
  refine From_buildSlice (by kernel_rfl : coreAt _ 13 = some (some 16, (Go.Op.buildSlice 27 1 #[(0, (Go.Operand.const (Go.Value.int Go.IntKind.i64 3)))]), 27, some (10, true))) hF63 (by kernel_rfl) (by kernel_rfl) (k' := 14) rfl (e := 3) (size := 1) (zs := [(.int .i64 0)]) (vs := [(0, (.int .i64 3))]) (cs := [(.int .i64 3)]) (by kernel_rfl) (by kernel_rfl) (by kernel_rfl) (by kernel_rfl) (by kernel_rfl) (by kernel_rfl) hM61 ?_
  intro b64 w65 hb64 _ hM66 _ a67 ea hF68; clear ea hF63 a62
  change Mem noS w w65 [.row 38 6 A3 dia.length 4 (dia.flatMap SB.cells), .blk b8 24 [(.string ⟨#[]⟩), (.bool false), (.int .i64 0), (.int .i64 0), (.slice A3 dia.length 4)], .row 3 1 A19 ((orderL dia).length) c20 (ints (orderL dia)), .row 3 1 (some ⟨b25, 0, none⟩) 4 4 [(.int .i64 0), (.int .i64 2), (.int .i64 1), (.int .i64 3)], .row 3 1 A38 ((raboveL dia).length) c39 (ints (raboveL dia)), .row 3 1 (some ⟨b44, 0, none⟩) 4 4 [(.int .i64 (-1)), (.int .i64 0), (.int .i64 0), (.int .i64 0)], .fam 3 rows59, .row 27 1 A57 dia.length c58 (slv rows59), .row 3 1 (some ⟨b64, 0, none⟩) 1 1 [(.int .i64 3)]] at hM66
  clear hM61
  replace hF68 : Fr a67 21 [(13, (.bool true)), (15, (.slice A57 dia.length c58)), (16, (.slice (some ⟨b64, 0, none⟩) 1 1))] := hF68.keep (keep := [13, 15, 16]) (by kernel_rfl)
  refine From_buildSlice (by kernel_rfl : coreAt _ 14 = some (some 17, (Go.Op.buildSlice 27 1 #[(0, (Go.Operand.const (Go.Value.int Go.IntKind.i64 3)))]), 27, some (10, true))) hF68 (by kernel_rfl) (by kernel_rfl) (k' := 15) rfl (e := 3) (size := 1) (zs := [(.int .i64 0)]) (vs := [(0, (.int .i64 3))]) (cs := [(.int .i64 3)]) (by kernel_rfl) (by kernel_rfl) (by kernel_rfl) (by kernel_rfl) (by kernel_rfl) (by kernel_rfl) hM66 ?_
  intro b69 w70 hb69 _ hM71 _ a72 ea hF73; clear ea hF68 a67
  change Mem noS w w70 [.row 38 6 A3 dia.length 4 (dia.flatMap SB.cells), .blk b8 24 [(.string ⟨#[]⟩), (.bool false), (.int .i64 0), (.int .i64 0), (.slice A3 dia.length 4)], .row 3 1 A19 ((orderL dia).length) c20 (ints (orderL dia)), .row 3 1 (some ⟨b25, 0, none⟩) 4 4 [(.int .i64 0), (.int .i64 2), (.int .i64 1), (.int .i64 3)], .row 3 1 A38 ((raboveL dia).length) c39 (ints (raboveL dia)), .row 3 1 (some ⟨b44, 0, none⟩) 4 4 [(.int .i64 (-1)), (.int .i64 0), (.int .i64 0), (.int .i64 0)], .fam 3 rows59, .row 27 1 A57 dia.length c58 (slv rows59), .row 3 1 (some ⟨b64, 0, none⟩) 1 1 [(.int .i64 3)], .row 3 1 (some ⟨b69, 0, none⟩) 1 1 [(.int .i64 3)]] at hM71
  clear hM66
  replace hF73 : Fr a72 21 [(13, (.bool true)), (15, (.slice A57 dia.length c58)), (16, (.slice (some ⟨b64, 0, none⟩) 1 1)), (17, (.slice (some ⟨b69, 0, none⟩) 1 1))] := hF73.keep (keep := [13, 15, 16, 17]) (by kernel_rfl)
  refine From_buildSlice (by kernel_rfl : coreAt _ 15 = some (some 18, (Go.Op.buildSlice 31 4 #[(0, (Go.Operand.const (Go.Value.slice none 0 0))), (1, (Go.Operand.tmp 16)), (2, (Go.Operand.tmp 17)), (3, (Go.Operand.const (Go.Value.slice none 0 0)))]), 31, some (10, true))) hF73 (by kernel_rfl) (by kernel_rfl) (k' := 16) rfl (e := 27) (size := 1) (zs := [(.slice none 0 0)]) (vs := [(0, (.slice none 0 0)), (1, (.slice (some ⟨b64, 0, none⟩) 1 1)), (2, (.slice (some ⟨b69, 0, none⟩) 1 1)), (3, (.slice none 0 0))]) (cs := [(.slice none 0 0), (.slice (some ⟨b64, 0, none⟩) 1 1), (.slice (some ⟨b69, 0, none⟩) 1 1), (.slice none 0 0)]) (by kernel_rfl) (by kernel_rfl) (by kernel_rfl) (by kernel_rfl) (by kernel_rfl) (by kernel_rfl) hM71 ?_
  intro b74 w75 hb74 _ hM76 _ a77 ea hF78; clear ea hF73 a72
  change Mem noS w w75 [.row 38 6 A3 dia.length 4 (dia.flatMap SB.cells), .blk b8 24 [(.string ⟨#[]⟩), (.bool false), (.int .i64 0), (.int .i64 0), (.slice A3 dia.length 4)], .row 3 1 A19 ((orderL dia).length) c20 (ints (orderL dia)), .row 3 1 (some ⟨b25, 0, none⟩) 4 4 [(.int .i64 0), (.int .i64 2), (.int .i64 1), (.int .i64 3)], .row 3 1 A38 ((raboveL dia).length) c39 (ints (raboveL dia)), .row 3 1 (some ⟨b44, 0, none⟩) 4 4 [(.int .i64 (-1)), (.int .i64 0), (.int .i64 0), (.int .i64 0)], .fam 3 rows59, .row 27 1 A57 dia.length c58 (slv rows59), .row 3 1 (some ⟨b64, 0, none⟩) 1 1 [(.int .i64 3)], .row 3 1 (some ⟨b69, 0, none⟩) 1 1 [(.int .i64 3)], .row 27 1 (some ⟨b74, 0, none⟩) 4 4 [(.slice none 0 0), (.slice (some ⟨b64, 0, none⟩) 1 1), (.slice (some ⟨b69, 0, none⟩) 1 1), (.slice none 0 0)]] at hM76
  clear hM71
  replace hF78 : Fr a77 21 [(13, (.bool true)), (15, (.slice A57 dia.length c58)), (18, (.slice (some ⟨b74, 0, none⟩) 4 4))] := hF78.keep (keep := [13, 15, 18]) (by kernel_rfl)
  have hM79 : Mem noS w w75 [.row 3 1 (some ⟨b64, 0, none⟩) 1 1 [(.int .i64 3)], .row 3 1 (some ⟨b69, 0, none⟩) 1 1 [(.int .i64 3)], .row 38 6 A3 dia.length 4 (dia.flatMap SB.cells), .blk b8 24 [(.string ⟨#[]⟩), (.bool false), (.int .i64 0), (.int .i64 0), (.slice A3 dia.length 4)], .row 3 1 A19 ((orderL dia).length) c20 (ints (orderL dia)), .row 3 1 (some ⟨b25, 0, none⟩) 4 4 [(.int .i64 0), (.int .i64 2), (.int .i64 1), (.int .i64 3)], .row 3 1 A38 ((raboveL dia).length) c39 (ints (raboveL dia)), .row 3 1 (some ⟨b44, 0, none⟩) 4 4 [(.int .i64 (-1)), (.int .i64 0), (.int .i64 0), (.int .i64 0)], .fam 3 rows59, .row 27 1 A57 dia.length c58 (slv rows59), .row 27 1 (some ⟨b74, 0, none⟩) 4 4 [(.slice none 0 0), (.slice (some ⟨b64, 0, none⟩) 1 1), (.slice (some ⟨b69, 0, none⟩) 1 1), (.slice none 0 0)]] := (((((((((((hM76.front 10 rfl).front 8 rfl).front 8 rfl).front 8 rfl).front 8 rfl).front 8 rfl).front 8 rfl).front 8 rfl).front 8 rfl).front 10 rfl).front 10 rfl)
  clear hM76
  have hM80 : Mem noS w w75 [.fam 3 (List.replicate 1 nilV), .row 3 1 (some ⟨b64, 0, none⟩) 1 1 [(.int .i64 3)], .row 3 1 (some ⟨b69, 0, none⟩) 1 1 [(.int .i64 3)], .row 38 6 A3 dia.length 4 (dia.flatMap SB.cells), .blk b8 24 [(.string ⟨#[]⟩), (.bool false), (.int .i64 0), (.int .i64 0), (.slice A3 dia.length 4)], .row 3 1 A19 ((orderL dia).length) c20 (ints (orderL dia)), .row 3 1 (some ⟨b25, 0, none⟩) 4 4 [(.int .i64 0), (.int .i64 2), (.int .i64 1), (.int .i64 3)], .row 3 1 A38 ((raboveL dia).length) c39 (ints (raboveL dia)), .row 3 1 (some ⟨b44, 0, none⟩) 4 4 [(.int .i64 (-1)), (.int .i64 0), (.int .i64 0), (.int .i64 0)], .fam 3 rows59, .row 27 1 A57 dia.length c58 (slv rows59), .row 27 1 (some ⟨b74, 0, none⟩) 4 4 [(.slice none 0 0), (.slice (some ⟨b64, 0, none⟩) 1 1), (.slice (some ⟨b69, 0, none⟩) 1 1), (.slice none 0 0)]] := (hM79.call (Mem.nilfam _ 3 1)).front 11 rfl
  clear hM79
  have hM81 : Mem noS w w75 [.fam 3 ((List.replicate 1 nilV) ++ [⟨(some ⟨b64, 0, none⟩), 1, 1, [(.int .i64 3)]⟩]), .row 3 1 (some ⟨b69, 0, none⟩) 1 1 [(.int .i64 3)], .row 38 6 A3 dia.length 4 (dia.flatMap SB.cells), .blk b8 24 [(.string ⟨#[]⟩), (.bool false), (.int .i64 0), (.int .i64 0), (.slice A3 dia.length 4)], .row 3 1 A19 ((orderL dia).length) c20 (ints (orderL dia)), .row 3 1 (some ⟨b25, 0, none⟩) 4 4 [(.int .i64 0), (.int .i64 2), (.int .i64 1), (.int .i64 3)], .row 3 1 A38 ((raboveL dia).length) c39 (ints (raboveL dia)), .row 3 1 (some ⟨b44, 0, none⟩) 4 4 [(.int .i64 (-1)), (.int .i64 0), (.int .i64 0), (.int .i64 0)], .fam 3 rows59, .row 27 1 A57 dia.length c58 (slv rows59), .row 27 1 (some ⟨b74, 0, none⟩) 4 4 [(.slice none 0 0), (.slice (some ⟨b64, 0, none⟩) 1 1), (.slice (some ⟨b69, 0, none⟩) 1 1), (.slice none 0 0)]] := hM80.push
  clear hM80
  have hM82 : Mem noS w w75 [.fam 3 (((List.replicate 1 nilV) ++ [⟨(some ⟨b64, 0, none⟩), 1, 1, [(.int .i64 3)]⟩]) ++ [⟨(some ⟨b69, 0, none⟩), 1, 1, [(.int .i64 3)]⟩]), .row 38 6 A3 dia.length 4 (dia.flatMap SB.cells), .blk b8 24 [(.string ⟨#[]⟩), (.bool false), (.int .i64 0), (.int .i64 0), (.slice A3 dia.length 4)], .row 3 1 A19 ((orderL dia).length) c20 (ints (orderL dia)), .row 3 1 (some ⟨b25, 0, none⟩) 4 4 [(.int .i64 0), (.int .i64 2), (.int .i64 1), (.int .i64 3)], .row 3 1 A38 ((raboveL dia).length) c39 (ints (raboveL dia)), .row 3 1 (some ⟨b44, 0, none⟩) 4 4 [(.int .i64 (-1)), (.int .i64 0), (.int .i64 0), (.int .i64 0)], .fam 3 rows59, .row 27 1 A57 dia.length c58 (slv rows59), .row 27 1 (some ⟨b74, 0, none⟩) 4 4 [(.slice none 0 0), (.slice (some ⟨b64, 0, none⟩) 1 1), (.slice (some ⟨b69, 0, none⟩) 1 1), (.slice none 0 0)]] := hM81.push
  clear hM81
  have hM83 : Mem noS w w75 [.fam 3 (((List.replicate 1 nilV) ++ [⟨(some ⟨b64, 0, none⟩), 1, 1, [(.int .i64 3)]⟩]) ++ [⟨(some ⟨b69, 0, none⟩), 1, 1, [(.int .i64 3)]⟩]), .row 3 1 none 0 0 [], .row 38 6 A3 dia.length 4 (dia.flatMap SB.cells), .blk b8 24 [(.string ⟨#[]⟩), (.bool false), (.int .i64 0), (.int .i64 0), (.slice A3 dia.length 4)], .row 3 1 A19 ((orderL dia).length) c20 (ints (orderL dia)), .row 3 1 (some ⟨b25, 0, none⟩) 4 4 [(.int .i64 0), (.int .i64 2), (.int .i64 1), (.int .i64 3)], .row 3 1 A38 ((raboveL dia).length) c39 (ints (raboveL dia)), .row 3 1 (some ⟨b44, 0, none⟩) 4 4 [(.int .i64 (-1)), (.int .i64 0), (.int .i64 0), (.int .i64 0)], .fam 3 rows59, .row 27 1 A57 dia.length c58 (slv rows59), .row 27 1 (some ⟨b74, 0, none⟩) 4 4 [(.slice none 0 0), (.slice (some ⟨b64, 0, none⟩) 1 1), (.slice (some ⟨b69, 0, none⟩) 1 1), (.slice none 0 0)]] := ((hM82.call (Mem.nilrow _ 3 1)).front 10 rfl).front 1 rfl
  clear hM82
  have hM84 : Mem noS w w75 [.fam 3 ((((List.replicate 1 nilV) ++ [⟨(some ⟨b64, 0, none⟩), 1, 1, [(.int .i64 3)]⟩]) ++ [⟨(some ⟨b69, 0, none⟩), 1, 1, [(.int .i64 3)]⟩]) ++ [⟨none, 0, 0, []⟩]), .row 38 6 A3 dia.length 4 (dia.flatMap SB.cells), .blk b8 24 [(.string ⟨#[]⟩), (.bool false), (.int .i64 0), (.int .i64 0), (.slice A3 dia.length 4)], .row 3 1 A19 ((orderL dia).length) c20 (ints (orderL dia)), .row 3 1 (some ⟨b25, 0, none⟩) 4 4 [(.int .i64 0), (.int .i64 2), (.int .i64 1), (.int .i64 3)], .row 3 1 A38 ((raboveL dia).length) c39 (ints (raboveL dia)), .row 3 1 (some ⟨b44, 0, none⟩) 4 4 [(.int .i64 (-1)), (.int .i64 0), (.int .i64 0), (.int .i64 0)], .fam 3 rows59, .row 27 1 A57 dia.length c58 (slv rows59), .row 27 1 (some ⟨b74, 0, none⟩) 4 4 [(.slice none 0 0), (.slice (some ⟨b64, 0, none⟩) 1 1), (.slice (some ⟨b69, 0, none⟩) 1 1), (.slice none 0 0)]] := hM83.push
  clear hM83
  refine From_call (by kernel_rfl : coreAt _ 16 = some (some 19, (Go.Op.call { callee := (Go.Callee.value (Go.Operand.func 15)), args := #[(Go.Operand.tmp 15), (Go.Operand.tmp 18)], argTypes := #[31, 31] }), 4, some (10, true))) hF78 (by kernel_rfl) (by kernel_rfl) (k' := 17) rfl (f := 15) (vs := [(.slice A57 dia.length c58), (.slice (some ⟨b74, 0, none⟩) 4 4)]) (cap := []) (by kernel_rfl) (by kernel_rfl) (by kernel_rfl) (lists_c (redgeL dia) [[], [3], [3], []] rows59 ((((List.replicate 1 nilV) ++ [⟨(some ⟨b64, 0, none⟩), 1, 1, [(.int .i64 3)]⟩]) ++ [⟨(some ⟨b69, 0, none⟩), 1, 1, [(.int .i64 3)]⟩]) ++ [⟨none, 0, 0, []⟩]) A57 (some ⟨b74, 0, none⟩) dia.length 4 c58 4 w75 (by rw [redgeL_len]) rfl (by rw [redgeL_len]; decide) redge_small hfrows59 fam4 (RO.row_rd (hM84.own_ro 8 rfl)) (RO.row_rd (hM84.own_ro 9 rfl)) (hM84.own_ro 7 rfl) (hM84.own_ro 0 rfl)) ?_
  rintro _ w85 ⟨rfl, hM86x⟩ a87 ea hF88; clear ea hF78 a77
  have hM86 : Mem noS w w85 [.fam 3 ((((List.replicate 1 nilV) ++ [⟨(some ⟨b64, 0, none⟩), 1, 1, [(.int .i64 3)]⟩]) ++ [⟨(some ⟨b69, 0, none⟩), 1, 1, [(.int .i64 3)]⟩]) ++ [⟨none, 0, 0, []⟩]), .row 38 6 A3 dia.length 4 (dia.flatMap SB.cells), .blk b8 24 [(.string ⟨#[]⟩), (.bool false), (.int .i64 0), (.int .i64 0), (.slice A3 dia.length 4)], .row 3 1 A19 ((orderL dia).length) c20 (ints (orderL dia)), .row 3 1 (some ⟨b25, 0, none⟩) 4 4 [(.int .i64 0), (.int .i64 2), (.int .i64 1), (.int .i64 3)], .row 3 1 A38 ((raboveL dia).length) c39 (ints (raboveL dia)), .row 3 1 (some ⟨b44, 0, none⟩) 4 4 [(.int .i64 (-1)), (.int .i64 0), (.int .i64 0), (.int .i64 0)], .fam 3 rows59, .row 27 1 A57 dia.length c58 (slv rows59), .row 27 1 (some ⟨b74, 0, none⟩) 4 4 [(.slice none 0 0), (.slice (some ⟨b64, 0, none⟩) 1 1), (.slice (some ⟨b69, 0, none⟩) 1 1), (.slice none 0 0)]] := hM84.call hM86x
  clear hM86x hM84
  replace hF88 : Fr a87 21 (putE [(13, (.bool true)), (15, (.slice A57 dia.length c58)), (18, (.slice (some ⟨b74, 0, none⟩) 4 4))] (some 19) (.bool (decide (redgeL dia = [[], [3], [3], []])))) := hF88
  obtain ⟨Bc, hBc⟩ : ∃ B, B = decide (redgeL dia = [[], [3], [3], []]) := ⟨_, rfl⟩
  rw [← hBc] at hF88
  obtain rfl : Bc = true := by rw [hBc]; exact dia_edge
  clear hBc
  replace hF88 : Fr a87 21 [(13, (.bool true)), (19, (.bool true))] := hF88.keep (keep := [13, 19]) (by kernel_rfl)
  refine From_pure 2 19 [0] hF88 (env' := [(0, (.bool true))]) (by kernel_rfl) rfl ?_
  intro a89 hF90; clear hF88 a87
  refine From_end (by kernel_rfl) ?_
  refine W_ret (by kernel_rfl) ?_
  refine out1 (v := (.bool true)) hF90 rfl (by kernel_rfl) ?_
  refine ⟨_, rfl, ?_⟩
  replace hM86 : Mem noS w w85 [] := hM86.pick [false, false, false, false, false, false, false, false, false, false] rfl
  exact ⟨rfl, hM86⟩

end Go.Proofs.Ytlkpkinmmjcbcaa
