/-
  Walks of layer 18. Printed by wip/gen/dom.py.
-/
import Derived.Test.YtlkpkinmmjcbcaaD17
import Derived.Test.YtlkpkinmmjcbcaaM14
import Derived.Test.YtlkpkinmmjcbcaaL15
namespace Go.Proofs.Ytlkpkinmmjcbcaa
open Go.Mor

set_option maxRecDepth 10000 in
theorem domChains_c (x : Int) (w : World) (hx0 : 0 ≤ x) (hx1 : x ≤ 255) :
    Calls Try.prog 7 #[(.int .u8 x)] w (Ret fun v w' => v = .bool true ∧ Mem noS w w' []) := by
  refine enter (N := 107) (vs := [(.int .u8 x)]) Try.func7 (by kernel_rfl) (by kernel_rfl) (by kernel_rfl) ?_
  intro a hF
  have hM := Mem.init w
  refine W_seq (by kernel_rfl) ?_
  refine W_region (by kernel_rfl) ?_   -- region 0
  refine From_pure 1 1 [0] hF (env' := [(0, (.int .u8 x))]) (by kernel_rfl) rfl ?_
  intro a1 hF2; clear hF a
  refine From_end (by kernel_rfl) ?_
  refine W_seq (by kernel_rfl) ?_
  refine W_region (by kernel_rfl) ?_   -- region 1
  obtain ⟨n, rfl⟩ := Int.eq_ofNat_of_zero_le hx0
  obtain ⟨k, hk⟩ : ∃ k : Nat, k = 1 + n % 30 := ⟨_, rfl⟩
  have hk30 : k ≤ 30 := by omega
  refine From_pure 1 1 [10] hF2 (env' := [(10, (.int .u8 (n : Int)))]) (by kernel_rfl) rfl ?_
  intro a3 hF4; clear hF2 a1
  refine From_conv (by kernel_rfl : coreAt _ 1 = some (some 11, (Go.Op.convert 5 3 (Go.Operand.tmp 10)), 3, none)) hF4 (by kernel_rfl) (by kernel_rfl) (k' := 2) rfl (kd := .u8) (kd' := .i64) (i := (n : Int)) (z := (n : Int)) (by kernel_rfl) Try.underlying5 Try.underlying3 (IntWalk.i64_in _ (by omega)) ?_
  intro a5 ea hF6; clear ea hF4 a3
  replace hF6 : Fr a5 107 [(11, (.int .i64 (n : Int)))] := hF6.keep (keep := [11]) (by kernel_rfl)
  refine From_binI (by kernel_rfl : coreAt _ 2 = some (some 12, (Go.Op.binOp Go.BinOp.rem 3 (Go.Operand.tmp 11) (Go.Operand.const (Go.Value.int Go.IntKind.i64 30)) 3), 3, none)) hF6 (by kernel_rfl) (by kernel_rfl) (k' := 3) rfl (kd := .i64) (kd' := .i64) (i := (n : Int)) (j := 30) (z := .int .i64 ((n % 30 : Nat) : Int)) (by kernel_rfl) (by kernel_rfl) (fun w => bin_remN 30 (by decide) w) ?_
  intro a7 ea hF8; clear ea hF6 a5
  replace hF8 : Fr a7 107 [(12, (.int .i64 ((n % 30 : Nat) : Int)))] := hF8.keep (keep := [12]) (by kernel_rfl)
  refine From_arith (by kernel_rfl : coreAt _ 3 = some (some 13, (Go.Op.binOp Go.BinOp.add 3 (Go.Operand.const (Go.Value.int Go.IntKind.i64 1)) (Go.Operand.tmp 12) 3), 3, none)) hF8 (by kernel_rfl) (by kernel_rfl) (k' := 4) rfl (i := 1) (j := ((n % 30 : Nat) : Int)) (z := (k : Int)) (by kernel_rfl) (by kernel_rfl) (congrArg some (by omega)) (by omega) (by omega) ?_
  intro a9 ea hF10; clear ea hF8 a7
  replace hF10 : Fr a9 107 [(13, (.int .i64 (k : Int)))] := hF10.keep (keep := [13]) (by kernel_rfl)
  refine From_pure 1 5 [3] hF10 (env' := [(3, (.int .i64 (k : Int)))]) (by kernel_rfl) rfl ?_
  intro a11 hF12; clear hF10 a9
  refine From_end (by kernel_rfl) ?_
  refine W_seq (by kernel_rfl) ?_
  refine W_region (by kernel_rfl) ?_   -- region 2
  refine From_pure 1 1 [3, 14] hF12 (env' := [(3, (.int .i64 (k : Int))), (14, (.agg #[(.string ⟨#[]⟩), (.bool false), (.int .i64 0), (.int .i64 0), (.slice none 0 0)]))]) (by kernel_rfl) rfl ?_
  intro a13 hF14; clear hF12 a11
  refine From_alloc (by kernel_rfl : coreAt _ 1 = some (some 4, (Go.Op.alloc 24), 0, none)) hF14 (by kernel_rfl) (by kernel_rfl) (k' := 2) rfl (cs := [(.string ⟨#[]⟩), (.bool false), (.int .i64 0), (.int .i64 0), (.slice none 0 0)]) (by kernel_rfl) hM ?_
  intro b15 w16 hb15 _ hM17 _ a18 ea hF19; clear ea hF14 a13
  change Mem noS w w16 [.blk b15 24 [(.string ⟨#[]⟩), (.bool false), (.int .i64 0), (.int .i64 0), (.slice none 0 0)]] at hM17
  clear hM
  replace hF19 : Fr a18 107 [(3, (.int .i64 (k : Int))), (4, (.pointer (some ⟨b15, 0, none⟩))), (14, (.agg #[(.string ⟨#[]⟩), (.bool false), (.int .i64 0), (.int .i64 0), (.slice none 0 0)]))] := hF19.keep (keep := [3, 4, 14]) (by kernel_rfl)
  refine From_storeS_blk (by kernel_rfl : coreAt _ 2 = some (none, (Go.Op.store 24 (Go.Operand.tmp 4) (Go.Operand.tmp 14)), 0, none)) hF19 (by kernel_rfl) (by kernel_rfl) (k' := 3) rfl (b := b15) (t0 := 24) (vs := [(.string ⟨#[]⟩), (.bool false), (.int .i64 0), (.int .i64 0), (.slice none 0 0)]) (cs := [(.string ⟨#[]⟩), (.bool false), (.int .i64 0), (.int .i64 0), (.slice none 0 0)]) (by kernel_rfl) (by kernel_rfl) (by kernel_rfl) (by simp only [List.mem_cons, List.not_mem_nil, or_false]; intro v hv; rcases hv with rfl | rfl | rfl | rfl | rfl <;> first | rfl | assumption) hM17 0 rfl rfl ?_
  intro w20 hM21 _ a22 ea hF23; clear ea hF19 a18
  change Mem noS w w20 [.blk b15 24 [(.string ⟨#[]⟩), (.bool false), (.int .i64 0), (.int .i64 0), (.slice none 0 0)]] at hM21
  clear hM17
  replace hF23 : Fr a22 107 [(3, (.int .i64 (k : Int))), (4, (.pointer (some ⟨b15, 0, none⟩)))] := hF23.keep (keep := [3, 4]) (by kernel_rfl)
  refine From_end (by kernel_rfl) ?_
  refine W_seq (by kernel_rfl) ?_
  refine W_seq (by kernel_rfl) ?_
  refine W_region (by kernel_rfl) ?_   -- region 3
  refine From_pure 1 1 [3, 4, 5] hF23 (env' := [(3, (.int .i64 (k : Int))), (4, (.pointer (some ⟨b15, 0, none⟩))), (5, (.int .i64 0))]) (by kernel_rfl) rfl ?_
  intro a24 hF25; clear hF23 a22
  refine From_end (by kernel_rfl) ?_
  refine W_block (id := 0) (by kernel_rfl) ?_
  refine W_loop (by kernel_rfl) (fun n_ a_ w_ => ∃ (i : Nat) (A2 : Option Addr) (c2 : Nat), n_ = k - i ∧ Fr a_ 107 [(3, (.int .i64 (k : Int))), (4, (.pointer (some ⟨b15, 0, none⟩))), (5, (.int .i64 (i : Int)))] ∧ Mem noS w w_ [.blk b15 24 [(.string ⟨#[]⟩), (.bool false), (.int .i64 0), (.int .i64 0), (.slice A2 i c2)], .row 38 6 A2 i c2 ((lnks i).flatMap SB.cells)] ∧ (i ≤ k)) (n := _) ⟨0, none, 0, rfl, hF25.keep (keep := [3, 4, 5]) (by kernel_rfl), (hM21.call (Mem.nilrow _ 38 6)), by omega⟩ ?_
  clear hF25 a24 hM21; rintro n a28 w26 ⟨i, A2, c2, rfl, hF29, hM27, hi⟩
  refine W_seq (by kernel_rfl) ?_
  refine W_seq (by kernel_rfl) ?_
  refine W_region (by kernel_rfl) ?_   -- region 4
  refine From_pure 2 2 [3, 4, 5, 15, 16] hF29 (env' := [(3, (.int .i64 (k : Int))), (4, (.pointer (some ⟨b15, 0, none⟩))), (5, (.int .i64 (i : Int))), (15, (.int .i64 (i : Int))), (16, (.int .i64 (k : Int)))]) (by kernel_rfl) rfl ?_
  intro a30 hF31; clear hF29 a28
  refine From_cmp (by kernel_rfl : coreAt _ 2 = some (some 17, (Go.Op.binOp Go.BinOp.lss 3 (Go.Operand.tmp 15) (Go.Operand.tmp 16) 3), 4, none)) hF31 (by kernel_rfl) (by kernel_rfl) (k' := 3) rfl (kd := .i64) (i := (i : Int)) (j := (k : Int)) (by kernel_rfl) (by kernel_rfl) rfl ?_
  intro Bi hBi a32 ea hF33; clear ea hF31 a30
  replace hF33 : Fr a32 107 [(3, (.int .i64 (k : Int))), (4, (.pointer (some ⟨b15, 0, none⟩))), (5, (.int .i64 (i : Int))), (17, (.bool Bi))] := hF33.keep (keep := [3, 4, 5, 17]) (by kernel_rfl)
  refine From_end (by kernel_rfl) ?_
  cases Bi
  · have ci : ¬ ((i : Int) < (k : Int)) := by first | exact of_decide_eq_true hBi.symm | exact of_decide_eq_false hBi.symm | exact beq_iff_eq.1 hBi.symm | exact bne_iff_ne.1 hBi.symm | exact (fun e => Bool.false_ne_true (hBi.trans (beq_iff_eq.2 e))) | exact (fun e => Bool.false_ne_true (hBi.trans (bne_iff_ne.2 e)))
    refine W_cond (t := 17) (B := false) (by kernel_rfl) hF33 (by kernel_rfl) (fun t => Bool.noConfusion t) (fun _ => ?_)
    refine W_exit (id := 0) (by kernel_rfl) ?_
    refine inB_hit rfl ?_
    refine W_seq (by kernel_rfl) ?_
    refine W_region (by kernel_rfl) ?_   -- region 7
    refine From_pure 1 1 [3, 4, 29] hF33 (env' := [(3, (.int .i64 (k : Int))), (4, (.pointer (some ⟨b15, 0, none⟩))), (29, (.pointer (some ⟨b15, 4, none⟩)))]) (by kernel_rfl) rfl ?_
    intro a34 hF35; clear hF33 a32
    refine From_load1 (by kernel_rfl : coreAt _ 1 = some (some 30, (Go.Op.load 22 (Go.Operand.tmp 29)), 22, none)) hF35 (by kernel_rfl) (by kernel_rfl) (k' := 2) rfl (ad := ⟨b15, 4, none⟩) (v := (.slice A2 i c2)) (by kernel_rfl) (by kernel_rfl) (blk_cell (hM27.get 0 rfl) rfl) ?_
    intro a36 ea hF37; clear ea hF35 a34
    replace hF37 : Fr a36 107 [(3, (.int .i64 (k : Int))), (4, (.pointer (some ⟨b15, 0, none⟩))), (30, (.slice A2 i c2))] := hF37.keep (keep := [3, 4, 30]) (by kernel_rfl)
    refine From_pure 1 3 [3, 4, 30, 31] hF37 (env' := [(3, (.int .i64 (k : Int))), (4, (.pointer (some ⟨b15, 0, none⟩))), (30, (.slice A2 i c2)), (31, (.agg #[(.slice none 0 0), (.slice none 0 0), (.int .i64 2), (.int .i64 0), (.int .i64 0), (.int .i64 0)]))]) (by kernel_rfl) rfl ?_
    intro a38 hF39; clear hF37 a36
    refine From_buildSlice (by kernel_rfl : coreAt _ 3 = some (some 32, (Go.Op.buildSlice 22 1 #[(0, (Go.Operand.tmp 31))]), 22, none)) hF39 (by kernel_rfl) (by kernel_rfl) (k' := 4) rfl (e := 38) (size := 6) (zs := [(.slice none 0 0), (.slice none 0 0), (.int .i64 0), (.int .i64 0), (.int .i64 0), (.int .i64 0)]) (vs := [(0, (.agg #[(.slice none 0 0), (.slice none 0 0), (.int .i64 2), (.int .i64 0), (.int .i64 0), (.int .i64 0)]))]) (cs := [(.slice none 0 0), (.slice none 0 0), (.int .i64 2), (.int .i64 0), (.int .i64 0), (.int .i64 0)]) (by kernel_rfl) (by kernel_rfl) (by kernel_rfl) (by kernel_rfl) (by kernel_rfl) (by kernel_rfl) hM27 ?_
    intro b40 w41 hb40 _ hM42 _ a43 ea hF44; clear ea hF39 a38
    change Mem noS w w41 [.blk b15 24 [(.string ⟨#[]⟩), (.bool false), (.int .i64 0), (.int .i64 0), (.slice A2 i c2)], .row 38 6 A2 i c2 ((lnks i).flatMap SB.cells), .row 38 6 (some ⟨b40, 0, none⟩) 1 1 [(.slice none 0 0), (.slice none 0 0), (.int .i64 2), (.int .i64 0), (.int .i64 0), (.int .i64 0)]] at hM42
    clear hM27
    replace hF44 : Fr a43 107 [(3, (.int .i64 (k : Int))), (4, (.pointer (some ⟨b15, 0, none⟩))), (30, (.slice A2 i c2)), (32, (.slice (some ⟨b40, 0, none⟩) 1 1))] := hF44.keep (keep := [3, 4, 30, 32]) (by kernel_rfl)
    refine From_append (by kernel_rfl : coreAt _ 4 = some (some 33, (Go.Op.call { callee := (Go.Callee.builtin Go.Builtin.append), args := #[(Go.Operand.tmp 30), (Go.Operand.tmp 32)], argTypes := #[22, 22] }), 22, none)) hF44 (by kernel_rfl) (by kernel_rfl) (k' := 5) rfl (e := 38) (size := 6) (bytes := 80) (z := (.agg #[(.slice none 0 0), (.slice none 0 0), (.int .i64 0), (.int .i64 0), (.int .i64 0), (.int .i64 0)])) (by kernel_rfl) (by kernel_rfl) (by kernel_rfl) (by kernel_rfl) (A := A2) (B := (some ⟨b40, 0, none⟩)) (n := i) (cap := c2) (m := 1) (cap' := 1) (xs := ((lnks i).flatMap SB.cells)) (news := [(.slice none 0 0), (.slice none 0 0), (.int .i64 2), (.int .i64 0), (.int .i64 0), (.int .i64 0)]) (by kernel_rfl) (by kernel_rfl) hM42 1 rfl (row_rd (hM42.get 2 rfl)) rfl (by simp [Value.oneCell']) (by omega) (by simp only [maxLen]; omega) ?_
    intro A45 c46 w47 hM48 _ a49 ea hF50; clear ea hF44 a43
    change Mem noS w w47 [.blk b15 24 [(.string ⟨#[]⟩), (.bool false), (.int .i64 0), (.int .i64 0), (.slice A2 i c2)], .row 38 6 A45 (i + 1) c46 (((lnks i).flatMap SB.cells) ++ [(.slice none 0 0), (.slice none 0 0), (.int .i64 2), (.int .i64 0), (.int .i64 0), (.int .i64 0)]), .row 38 6 (some ⟨b40, 0, none⟩) 1 1 [(.slice none 0 0), (.slice none 0 0), (.int .i64 2), (.int .i64 0), (.int .i64 0), (.int .i64 0)]] at hM48
    clear hM42
    replace hM48 : Mem noS w w47 [.blk b15 24 [(.string ⟨#[]⟩), (.bool false), (.int .i64 0), (.int .i64 0), (.slice A2 i c2)], .row 38 6 A45 (i + 1) c46 (((lnks i).flatMap SB.cells) ++ [(.slice none 0 0), (.slice none 0 0), (.int .i64 2), (.int .i64 0), (.int .i64 0), (.int .i64 0)])] := hM48.pick [true, true, false] rfl
    replace hF50 : Fr a49 107 [(3, (.int .i64 (k : Int))), (4, (.pointer (some ⟨b15, 0, none⟩))), (33, (.slice A45 (i + 1) c46))] := hF50.keep (keep := [3, 4, 33]) (by kernel_rfl)
    refine From_pure 1 6 [3, 4, 33, 34] hF50 (env' := [(3, (.int .i64 (k : Int))), (4, (.pointer (some ⟨b15, 0, none⟩))), (33, (.slice A45 (i + 1) c46)), (34, (.pointer (some ⟨b15, 4, none⟩)))]) (by kernel_rfl) rfl ?_
    intro a51 hF52; clear hF50 a49
    refine From_store_blk (by kernel_rfl : coreAt _ 6 = some (none, (Go.Op.store 22 (Go.Operand.tmp 34) (Go.Operand.tmp 33)), 0, none)) hF52 (by kernel_rfl) (by kernel_rfl) (k' := 7) rfl (b := b15) (off := 4) (t0 := 24) (v := (.slice A45 (i + 1) c46)) (cs := [(.string ⟨#[]⟩), (.bool false), (.int .i64 0), (.int .i64 0), (.slice A2 i c2)]) (by kernel_rfl) (by kernel_rfl) (by kernel_rfl) rfl hM48 0 rfl (by simp) ?_
    intro w53 hM54 _ a55 ea hF56; clear ea hF52 a51
    change Mem noS w w53 [.blk b15 24 [(.string ⟨#[]⟩), (.bool false), (.int .i64 0), (.int .i64 0), (.slice A45 (i + 1) c46)], .row 38 6 A45 (i + 1) c46 (((lnks i).flatMap SB.cells) ++ [(.slice none 0 0), (.slice none 0 0), (.int .i64 2), (.int .i64 0), (.int .i64 0), (.int .i64 0)])] at hM54
    clear hM48
    replace hF56 : Fr a55 107 [(3, (.int .i64 (k : Int))), (4, (.pointer (some ⟨b15, 0, none⟩)))] := hF56.keep (keep := [3, 4]) (by kernel_rfl)
    refine From_end (by kernel_rfl) ?_
    refine W_seq (by kernel_rfl) ?_
    obtain rfl : i = k := by omega
    have hcl := chain_len i
    have hM57 : Mem noS w w53 [.blk b15 24 [(.string ⟨#[]⟩), (.bool false), (.int .i64 0), (.int .i64 0), (.slice A45 ((chain i).length) c46)], .row 38 6 A45 ((chain i).length) c46 ((chain i).flatMap SB.cells)] := hM54.cast (by rw [← chain_flat, hcl]; rfl)
    clear hM54
    have hm : (chain i).length ≤ 1000000 := by omega
    refine W_drawJ (N := 107) (env0 := [(3, (.int .i64 (i : Int))), (4, (.pointer (some ⟨b15, 0, none⟩)))]) (by kernel_rfl) (by kernel_rfl) (specAt [.det (.agg #[(.string ⟨#[]⟩), (.bool false), (.int .i64 0), (.int .i64 0), (.slice A45 ((chain i).length) c46)]), Spec.free, .det (.agg #[(.string ⟨#[]⟩), (.bool false), (.int .i64 0), (.int .i64 0), (.slice A45 ((chain i).length) c46)]), Spec.free, .det (.agg #[(.string ⟨#[]⟩), (.bool false), (.int .i64 0), (.int .i64 0), (.slice A45 ((chain i).length) c46)]), Spec.free, Spec.free, Spec.free, Spec.free]) (fun ls vs w_ => match ls 8 with | true => (∃ (A58 : Option Addr) (c59 : Nat) (A60 : Option Addr) (c61 : Nat) (rows62 : List RowV) (A63 : Option Addr) (c64 : Nat), vs 1 = (.slice A58 ((raboveL (chain i)).length) c59) ∧ vs 3 = (.slice A60 ((chain i).length) c61) ∧ vs 5 = (.slice A63 ((orderL (chain i)).length) c64) ∧ vs 6 = (.slice A58 ((raboveL (chain i)).length) c59) ∧ vs 7 = (.slice A60 ((chain i).length) c61) ∧ vs 8 = (.slice A63 ((orderL (chain i)).length) c64) ∧ (FamOf (Value.int .i64) rows62 (redgeL (chain i))) ∧ Mem noS w w_ [.blk b15 24 [(.string ⟨#[]⟩), (.bool false), (.int .i64 0), (.int .i64 0), (.slice A45 ((chain i).length) c46)], .row 38 6 A45 ((chain i).length) c46 ((chain i).flatMap SB.cells), .row 3 1 A58 ((raboveL (chain i)).length) c59 (ints (raboveL (chain i))), .fam 3 rows62, .row 27 1 A60 ((chain i).length) c61 (slv rows62), .row 3 1 A63 ((orderL (chain i)).length) c64 (ints (orderL (chain i)))]) | false => (match ls 7 with | true => (∃ (A58 : Option Addr) (c59 : Nat) (A60 : Option Addr) (c61 : Nat) (rows62 : List RowV) (A63 : Option Addr) (c64 : Nat), vs 1 = (.slice A58 ((raboveL (chain i)).length) c59) ∧ vs 3 = (.slice A60 ((chain i).length) c61) ∧ vs 5 = (.slice A63 ((orderL (chain i)).length) c64) ∧ vs 6 = (.slice A58 ((raboveL (chain i)).length) c59) ∧ vs 7 = (.slice A60 ((chain i).length) c61) ∧ (FamOf (Value.int .i64) rows62 (redgeL (chain i))) ∧ Mem noS w w_ [.blk b15 24 [(.string ⟨#[]⟩), (.bool false), (.int .i64 0), (.int .i64 0), (.slice A45 ((chain i).length) c46)], .row 38 6 A45 ((chain i).length) c46 ((chain i).flatMap SB.cells), .row 3 1 A58 ((raboveL (chain i)).length) c59 (ints (raboveL (chain i))), .fam 3 rows62, .row 27 1 A60 ((chain i).length) c61 (slv rows62), .row 3 1 A63 ((orderL (chain i)).length) c64 (ints (orderL (chain i)))]) | false => (match ls 6 with | true => (∃ (A58 : Option Addr) (c59 : Nat) (A60 : Option Addr) (c61 : Nat) (rows62 : List RowV) (A63 : Option Addr) (c64 : Nat), vs 1 = (.slice A58 ((raboveL (chain i)).length) c59) ∧ vs 3 = (.slice A60 ((chain i).length) c61) ∧ vs 5 = (.slice A63 ((orderL (chain i)).length) c64) ∧ vs 6 = (.slice A58 ((raboveL (chain i)).length) c59) ∧ (FamOf (Value.int .i64) rows62 (redgeL (chain i))) ∧ Mem noS w w_ [.blk b15 24 [(.string ⟨#[]⟩), (.bool false), (.int .i64 0), (.int .i64 0), (.slice A45 ((chain i).length) c46)], .row 38 6 A45 ((chain i).length) c46 ((chain i).flatMap SB.cells), .row 3 1 A58 ((raboveL (chain i)).length) c59 (ints (raboveL (chain i))), .fam 3 rows62, .row 27 1 A60 ((chain i).length) c61 (slv rows62), .row 3 1 A63 ((orderL (chain i)).length) c64 (ints (orderL (chain i)))]) | false => (match ls 5 with | true => (∃ (A58 : Option Addr) (c59 : Nat) (A60 : Option Addr) (c61 : Nat) (rows62 : List RowV) (A63 : Option Addr) (c64 : Nat), vs 1 = (.slice A58 ((raboveL (chain i)).length) c59) ∧ vs 3 = (.slice A60 ((chain i).length) c61) ∧ vs 5 = (.slice A63 ((orderL (chain i)).length) c64) ∧ (FamOf (Value.int .i64) rows62 (redgeL (chain i))) ∧ Mem noS w w_ [.blk b15 24 [(.string ⟨#[]⟩), (.bool false), (.int .i64 0), (.int .i64 0), (.slice A45 ((chain i).length) c46)], .row 38 6 A45 ((chain i).length) c46 ((chain i).flatMap SB.cells), .row 3 1 A58 ((raboveL (chain i)).length) c59 (ints (raboveL (chain i))), .fam 3 rows62, .row 27 1 A60 ((chain i).length) c61 (slv rows62), .row 3 1 A63 ((orderL (chain i)).length) c64 (ints (orderL (chain i)))]) | false => (match ls 3 with | true => (∃ (A58 : Option Addr) (c59 : Nat) (A60 : Option Addr) (c61 : Nat) (rows62 : List RowV), vs 1 = (.slice A58 ((raboveL (chain i)).length) c59) ∧ vs 3 = (.slice A60 ((chain i).length) c61) ∧ (FamOf (Value.int .i64) rows62 (redgeL (chain i))) ∧ Mem noS w w_ [.blk b15 24 [(.string ⟨#[]⟩), (.bool false), (.int .i64 0), (.int .i64 0), (.slice A45 ((chain i).length) c46)], .row 38 6 A45 ((chain i).length) c46 ((chain i).flatMap SB.cells), .row 3 1 A58 ((raboveL (chain i)).length) c59 (ints (raboveL (chain i))), .fam 3 rows62, .row 27 1 A60 ((chain i).length) c61 (slv rows62)]) | false => (match ls 1 with | true => (∃ (A58 : Option Addr) (c59 : Nat), vs 1 = (.slice A58 ((raboveL (chain i)).length) c59) ∧ Mem noS w w_ [.blk b15 24 [(.string ⟨#[]⟩), (.bool false), (.int .i64 0), (.int .i64 0), (.slice A45 ((chain i).length) c46)], .row 38 6 A45 ((chain i).length) c46 ((chain i).flatMap SB.cells), .row 3 1 A58 ((raboveL (chain i)).length) c59 (ints (raboveL (chain i)))]) | false => (Mem noS w w_ [.blk b15 24 [(.string ⟨#[]⟩), (.bool false), (.int .i64 0), (.int .i64 0), (.slice A45 ((chain i).length) c46)], .row 38 6 A45 ((chain i).length) c46 ((chain i).flatMap SB.cells)]))))))) (by kernel_rfl) (by kernel_rfl) hF56 (by kernel_rfl) (by kernel_rfl) (plain_ok (.det (.free (.det (.free (.det (.free (.free (.free (.free .nil)))))))))) (hM57.then_ (Mem.drew _)) (lt_succ_all (lt_succ_all (lt_succ_all (lt_succ_all (lt_succ_all (lt_succ_all (lt_succ_all (lt_succ_all (lt_succ_all lt_zero_all ?_) ?_) ?_) ?_) ?_) ?_) ?_) ?_) ?_) ?_   -- region 8
    · intro aa_ w_ ls vs rest_ hJ hi_ hc_ hp hF
      refine ⟨true, opok_guard (g0 := none) (by kernel_rfl) (by kernel_rfl), fun _ => ?_, fun h => Bool.noConfusion h⟩
      replace hF : Fr aa_ 107 [(4, (.pointer (some ⟨b15, 0, none⟩)))] := hF.keep (keep := [4]) (by kernel_rfl)
      have f1 : ls 1 = false := notyet hc_ hi_ (n := 9) (by kernel_rfl)
      have f3 : ls 3 = false := notyet hc_ hi_ (n := 9) (by kernel_rfl)
      have f5 : ls 5 = false := notyet hc_ hi_ (n := 9) (by kernel_rfl)
      have f6 : ls 6 = false := notyet hc_ hi_ (n := 9) (by kernel_rfl)
      have f7 : ls 7 = false := notyet hc_ hi_ (n := 9) (by kernel_rfl)
      have f8 : ls 8 = false := notyet hc_ hi_ (n := 9) (by kernel_rfl)
      have hM_ := hJ
      simp only [f1, f3, f5, f6, f7, f8] at hM_
      refine From_loadS (by kernel_rfl : coreAt _ 0 = some (some 35, (Go.Op.load 24 (Go.Operand.tmp 4)), 24, none)) hF (by kernel_rfl) (by kernel_rfl) (k' := 1) rfl (ad := ⟨b15, 0, none⟩) (vs := [(.string ⟨#[]⟩), (.bool false), (.int .i64 0), (.int .i64 0), (.slice A45 ((chain i).length) c46)]) (by kernel_rfl) (by kernel_rfl) (blk_cells (hM_.get 0 rfl)) ?_
      intro a2 ea _
      refine From_end (by kernel_rfl) ?_; exact op_doneJ (d := some 35) (by kernel_rfl) ea rfl hJ
    · intro aa_ w_ ls vs rest_ hJ hi_ hc_ hp hF
      refine ⟨true, opok_guard (g0 := none) (by kernel_rfl) (by kernel_rfl), fun _ => ?_, fun h => Bool.noConfusion h⟩
      replace hF : Fr aa_ 107 [(35, (.agg #[(.string ⟨#[]⟩), (.bool false), (.int .i64 0), (.int .i64 0), (.slice A45 ((chain i).length) c46)]))] := hF.keep (keep := [35]) (by kernel_rfl)
      have f1 : ls 1 = false := hi_
      have f3 : ls 3 = false := notyet hc_ hi_ (n := 9) (by kernel_rfl)
      have f5 : ls 5 = false := notyet hc_ hi_ (n := 9) (by kernel_rfl)
      have f6 : ls 6 = false := notyet hc_ hi_ (n := 9) (by kernel_rfl)
      have f7 : ls 7 = false := notyet hc_ hi_ (n := 9) (by kernel_rfl)
      have f8 : ls 8 = false := notyet hc_ hi_ (n := 9) (by kernel_rfl)
      have hM_ := hJ
      simp only [f1, f3, f5, f6, f7, f8] at hM_
      refine From_call (by kernel_rfl : coreAt _ 0 = some (some 36, (Go.Op.call { callee := (Go.Callee.value (Go.Operand.func 13)), args := #[(Go.Operand.tmp 35)], argTypes := #[24] }), 27, none)) hF (by kernel_rfl) (by kernel_rfl) (k' := 1) rfl (f := 13) (vs := [(.agg #[(.string ⟨#[]⟩), (.bool false), (.int .i64 0), (.int .i64 0), (.slice A45 ((chain i).length) c46)])]) (cap := []) (by kernel_rfl) (by kernel_rfl) (by kernel_rfl) (above_c _ _ _ _ A45 c46 (chain i) w_ hm (RO.of (row_blocks (hM_.get 1 rfl)))) ?_
      rintro _ w2 ⟨A58p, c59p, rfl, hm2⟩ a2 ea _
      have hm3 := hM_.call hm2
      refine From_end (by kernel_rfl) ?_; refine op_doneJ (d := some 36) (by kernel_rfl) ea trivial ?_
      show match ls 8 with | true => (∃ (A58 : Option Addr) (c59 : Nat) (A60 : Option Addr) (c61 : Nat) (rows62 : List RowV) (A63 : Option Addr) (c64 : Nat), ((.slice A58p ((raboveL (chain i)).length) c59p) : Value) = (.slice A58 ((raboveL (chain i)).length) c59) ∧ vs 3 = (.slice A60 ((chain i).length) c61) ∧ vs 5 = (.slice A63 ((orderL (chain i)).length) c64) ∧ vs 6 = (.slice A58 ((raboveL (chain i)).length) c59) ∧ vs 7 = (.slice A60 ((chain i).length) c61) ∧ vs 8 = (.slice A63 ((orderL (chain i)).length) c64) ∧ (FamOf (Value.int .i64) rows62 (redgeL (chain i))) ∧ Mem noS w w2 [.blk b15 24 [(.string ⟨#[]⟩), (.bool false), (.int .i64 0), (.int .i64 0), (.slice A45 ((chain i).length) c46)], .row 38 6 A45 ((chain i).length) c46 ((chain i).flatMap SB.cells), .row 3 1 A58 ((raboveL (chain i)).length) c59 (ints (raboveL (chain i))), .fam 3 rows62, .row 27 1 A60 ((chain i).length) c61 (slv rows62), .row 3 1 A63 ((orderL (chain i)).length) c64 (ints (orderL (chain i)))]) | false => (match ls 7 with | true => (∃ (A58 : Option Addr) (c59 : Nat) (A60 : Option Addr) (c61 : Nat) (rows62 : List RowV) (A63 : Option Addr) (c64 : Nat), ((.slice A58p ((raboveL (chain i)).length) c59p) : Value) = (.slice A58 ((raboveL (chain i)).length) c59) ∧ vs 3 = (.slice A60 ((chain i).length) c61) ∧ vs 5 = (.slice A63 ((orderL (chain i)).length) c64) ∧ vs 6 = (.slice A58 ((raboveL (chain i)).length) c59) ∧ vs 7 = (.slice A60 ((chain i).length) c61) ∧ (FamOf (Value.int .i64) rows62 (redgeL (chain i))) ∧ Mem noS w w2 [.blk b15 24 [(.string ⟨#[]⟩), (.bool false), (.int .i64 0), (.int .i64 0), (.slice A45 ((chain i).length) c46)], .row 38 6 A45 ((chain i).length) c46 ((chain i).flatMap SB.cells), .row 3 1 A58 ((raboveL (chain i)).length) c59 (ints (raboveL (chain i))), .fam 3 rows62, .row 27 1 A60 ((chain i).length) c61 (slv rows62), .row 3 1 A63 ((orderL (chain i)).length) c64 (ints (orderL (chain i)))]) | false => (match ls 6 with | true => (∃ (A58 : Option Addr) (c59 : Nat) (A60 : Option Addr) (c61 : Nat) (rows62 : List RowV) (A63 : Option Addr) (c64 : Nat), ((.slice A58p ((raboveL (chain i)).length) c59p) : Value) = (.slice A58 ((raboveL (chain i)).length) c59) ∧ vs 3 = (.slice A60 ((chain i).length) c61) ∧ vs 5 = (.slice A63 ((orderL (chain i)).length) c64) ∧ vs 6 = (.slice A58 ((raboveL (chain i)).length) c59) ∧ (FamOf (Value.int .i64) rows62 (redgeL (chain i))) ∧ Mem noS w w2 [.blk b15 24 [(.string ⟨#[]⟩), (.bool false), (.int .i64 0), (.int .i64 0), (.slice A45 ((chain i).length) c46)], .row 38 6 A45 ((chain i).length) c46 ((chain i).flatMap SB.cells), .row 3 1 A58 ((raboveL (chain i)).length) c59 (ints (raboveL (chain i))), .fam 3 rows62, .row 27 1 A60 ((chain i).length) c61 (slv rows62), .row 3 1 A63 ((orderL (chain i)).length) c64 (ints (orderL (chain i)))]) | false => (match ls 5 with | true => (∃ (A58 : Option Addr) (c59 : Nat) (A60 : Option Addr) (c61 : Nat) (rows62 : List RowV) (A63 : Option Addr) (c64 : Nat), ((.slice A58p ((raboveL (chain i)).length) c59p) : Value) = (.slice A58 ((raboveL (chain i)).length) c59) ∧ vs 3 = (.slice A60 ((chain i).length) c61) ∧ vs 5 = (.slice A63 ((orderL (chain i)).length) c64) ∧ (FamOf (Value.int .i64) rows62 (redgeL (chain i))) ∧ Mem noS w w2 [.blk b15 24 [(.string ⟨#[]⟩), (.bool false), (.int .i64 0), (.int .i64 0), (.slice A45 ((chain i).length) c46)], .row 38 6 A45 ((chain i).length) c46 ((chain i).flatMap SB.cells), .row 3 1 A58 ((raboveL (chain i)).length) c59 (ints (raboveL (chain i))), .fam 3 rows62, .row 27 1 A60 ((chain i).length) c61 (slv rows62), .row 3 1 A63 ((orderL (chain i)).length) c64 (ints (orderL (chain i)))]) | false => (match ls 3 with | true => (∃ (A58 : Option Addr) (c59 : Nat) (A60 : Option Addr) (c61 : Nat) (rows62 : List RowV), ((.slice A58p ((raboveL (chain i)).length) c59p) : Value) = (.slice A58 ((raboveL (chain i)).length) c59) ∧ vs 3 = (.slice A60 ((chain i).length) c61) ∧ (FamOf (Value.int .i64) rows62 (redgeL (chain i))) ∧ Mem noS w w2 [.blk b15 24 [(.string ⟨#[]⟩), (.bool false), (.int .i64 0), (.int .i64 0), (.slice A45 ((chain i).length) c46)], .row 38 6 A45 ((chain i).length) c46 ((chain i).flatMap SB.cells), .row 3 1 A58 ((raboveL (chain i)).length) c59 (ints (raboveL (chain i))), .fam 3 rows62, .row 27 1 A60 ((chain i).length) c61 (slv rows62)]) | false => (∃ (A58 : Option Addr) (c59 : Nat), ((.slice A58p ((raboveL (chain i)).length) c59p) : Value) = (.slice A58 ((raboveL (chain i)).length) c59) ∧ Mem noS w w2 [.blk b15 24 [(.string ⟨#[]⟩), (.bool false), (.int .i64 0), (.int .i64 0), (.slice A45 ((chain i).length) c46)], .row 38 6 A45 ((chain i).length) c46 ((chain i).flatMap SB.cells), .row 3 1 A58 ((raboveL (chain i)).length) c59 (ints (raboveL (chain i)))])))))
      rw [f8, f7, f6, f5, f3]
      exact ⟨A58p, c59p, rfl, hm3⟩
    · intro aa_ w_ ls vs rest_ hJ hi_ hc_ hp hF
      refine ⟨true, opok_guard (g0 := none) (by kernel_rfl) (by kernel_rfl), fun _ => ?_, fun h => Bool.noConfusion h⟩
      replace hF : Fr aa_ 107 [(4, (.pointer (some ⟨b15, 0, none⟩)))] := hF.keep (keep := [4]) (by kernel_rfl)
      have f3 : ls 3 = false := notyet hc_ hi_ (n := 9) (by kernel_rfl)
      have f5 : ls 5 = false := notyet hc_ hi_ (n := 9) (by kernel_rfl)
      have f6 : ls 6 = false := notyet hc_ hi_ (n := 9) (by kernel_rfl)
      have f7 : ls 7 = false := notyet hc_ hi_ (n := 9) (by kernel_rfl)
      have f8 : ls 8 = false := notyet hc_ hi_ (n := 9) (by kernel_rfl)
      have hM_ := hJ
      simp only [f3, f5, f6, f7, f8] at hM_
      cases fu : ls 1
      · simp only [fu] at hM_
        refine From_loadS (by kernel_rfl : coreAt _ 0 = some (some 37, (Go.Op.load 24 (Go.Operand.tmp 4)), 24, none)) hF (by kernel_rfl) (by kernel_rfl) (k' := 1) rfl (ad := ⟨b15, 0, none⟩) (vs := [(.string ⟨#[]⟩), (.bool false), (.int .i64 0), (.int .i64 0), (.slice A45 ((chain i).length) c46)]) (by kernel_rfl) (by kernel_rfl) (blk_cells (hM_.get 0 rfl)) ?_
        intro a2 ea _
        refine From_end (by kernel_rfl) ?_; exact op_doneJ (d := some 37) (by kernel_rfl) ea rfl hJ
      · simp only [fu] at hM_
        obtain ⟨_, _, _, hM_⟩ := hM_
        refine From_loadS (by kernel_rfl : coreAt _ 0 = some (some 37, (Go.Op.load 24 (Go.Operand.tmp 4)), 24, none)) hF (by kernel_rfl) (by kernel_rfl) (k' := 1) rfl (ad := ⟨b15, 0, none⟩) (vs := [(.string ⟨#[]⟩), (.bool false), (.int .i64 0), (.int .i64 0), (.slice A45 ((chain i).length) c46)]) (by kernel_rfl) (by kernel_rfl) (blk_cells (hM_.get 0 rfl)) ?_
        intro a2 ea _
        refine From_end (by kernel_rfl) ?_; exact op_doneJ (d := some 37) (by kernel_rfl) ea rfl hJ
    · intro aa_ w_ ls vs rest_ hJ hi_ hc_ hp hF
      refine ⟨true, opok_guard (g0 := none) (by kernel_rfl) (by kernel_rfl), fun _ => ?_, fun h => Bool.noConfusion h⟩
      replace hF : Fr aa_ 107 [(37, (.agg #[(.string ⟨#[]⟩), (.bool false), (.int .i64 0), (.int .i64 0), (.slice A45 ((chain i).length) c46)]))] := hF.keep (keep := [37]) (by kernel_rfl)
      have f1 : ls 1 = true := donebefore hc_ (fun k hk => (hp k hk).1) (n := 9) (by kernel_rfl)
      have f3 : ls 3 = false := hi_
      have f5 : ls 5 = false := notyet hc_ hi_ (n := 9) (by kernel_rfl)
      have f6 : ls 6 = false := notyet hc_ hi_ (n := 9) (by kernel_rfl)
      have f7 : ls 7 = false := notyet hc_ hi_ (n := 9) (by kernel_rfl)
      have f8 : ls 8 = false := notyet hc_ hi_ (n := 9) (by kernel_rfl)
      have hM_ := hJ
      simp only [f1, f3, f5, f6, f7, f8] at hM_
      obtain ⟨A58p, c59p, e1_, hM_⟩ := hM_
      try rw [e1_] at hF
      refine From_call (by kernel_rfl : coreAt _ 0 = some (some 38, (Go.Op.call { callee := (Go.Callee.value (Go.Operand.func 16)), args := #[(Go.Operand.tmp 37)], argTypes := #[24] }), 31, none)) hF (by kernel_rfl) (by kernel_rfl) (k' := 1) rfl (f := 16) (vs := [(.agg #[(.string ⟨#[]⟩), (.bool false), (.int .i64 0), (.int .i64 0), (.slice A45 ((chain i).length) c46)])]) (cap := []) (by kernel_rfl) (by kernel_rfl) (by kernel_rfl) (edge_c _ _ _ _ A45 c46 (chain i) w_ hm (RO.of (row_blocks (hM_.get 1 rfl)))) ?_
      rintro _ w2 ⟨A60p, c61p, rows62p, rfl, hfrows62, hm2⟩ a2 ea _
      have hm3 := hM_.call hm2
      refine From_end (by kernel_rfl) ?_; refine op_doneJ (d := some 38) (by kernel_rfl) ea trivial ?_
      show match ls 8 with | true => (∃ (A58 : Option Addr) (c59 : Nat) (A60 : Option Addr) (c61 : Nat) (rows62 : List RowV) (A63 : Option Addr) (c64 : Nat), vs 1 = (.slice A58 ((raboveL (chain i)).length) c59) ∧ ((.slice A60p ((chain i).length) c61p) : Value) = (.slice A60 ((chain i).length) c61) ∧ vs 5 = (.slice A63 ((orderL (chain i)).length) c64) ∧ vs 6 = (.slice A58 ((raboveL (chain i)).length) c59) ∧ vs 7 = (.slice A60 ((chain i).length) c61) ∧ vs 8 = (.slice A63 ((orderL (chain i)).length) c64) ∧ (FamOf (Value.int .i64) rows62 (redgeL (chain i))) ∧ Mem noS w w2 [.blk b15 24 [(.string ⟨#[]⟩), (.bool false), (.int .i64 0), (.int .i64 0), (.slice A45 ((chain i).length) c46)], .row 38 6 A45 ((chain i).length) c46 ((chain i).flatMap SB.cells), .row 3 1 A58 ((raboveL (chain i)).length) c59 (ints (raboveL (chain i))), .fam 3 rows62, .row 27 1 A60 ((chain i).length) c61 (slv rows62), .row 3 1 A63 ((orderL (chain i)).length) c64 (ints (orderL (chain i)))]) | false => (match ls 7 with | true => (∃ (A58 : Option Addr) (c59 : Nat) (A60 : Option Addr) (c61 : Nat) (rows62 : List RowV) (A63 : Option Addr) (c64 : Nat), vs 1 = (.slice A58 ((raboveL (chain i)).length) c59) ∧ ((.slice A60p ((chain i).length) c61p) : Value) = (.slice A60 ((chain i).length) c61) ∧ vs 5 = (.slice A63 ((orderL (chain i)).length) c64) ∧ vs 6 = (.slice A58 ((raboveL (chain i)).length) c59) ∧ vs 7 = (.slice A60 ((chain i).length) c61) ∧ (FamOf (Value.int .i64) rows62 (redgeL (chain i))) ∧ Mem noS w w2 [.blk b15 24 [(.string ⟨#[]⟩), (.bool false), (.int .i64 0), (.int .i64 0), (.slice A45 ((chain i).length) c46)], .row 38 6 A45 ((chain i).length) c46 ((chain i).flatMap SB.cells), .row 3 1 A58 ((raboveL (chain i)).length) c59 (ints (raboveL (chain i))), .fam 3 rows62, .row 27 1 A60 ((chain i).length) c61 (slv rows62), .row 3 1 A63 ((orderL (chain i)).length) c64 (ints (orderL (chain i)))]) | false => (match ls 6 with | true => (∃ (A58 : Option Addr) (c59 : Nat) (A60 : Option Addr) (c61 : Nat) (rows62 : List RowV) (A63 : Option Addr) (c64 : Nat), vs 1 = (.slice A58 ((raboveL (chain i)).length) c59) ∧ ((.slice A60p ((chain i).length) c61p) : Value) = (.slice A60 ((chain i).length) c61) ∧ vs 5 = (.slice A63 ((orderL (chain i)).length) c64) ∧ vs 6 = (.slice A58 ((raboveL (chain i)).length) c59) ∧ (FamOf (Value.int .i64) rows62 (redgeL (chain i))) ∧ Mem noS w w2 [.blk b15 24 [(.string ⟨#[]⟩), (.bool false), (.int .i64 0), (.int .i64 0), (.slice A45 ((chain i).length) c46)], .row 38 6 A45 ((chain i).length) c46 ((chain i).flatMap SB.cells), .row 3 1 A58 ((raboveL (chain i)).length) c59 (ints (raboveL (chain i))), .fam 3 rows62, .row 27 1 A60 ((chain i).length) c61 (slv rows62), .row 3 1 A63 ((orderL (chain i)).length) c64 (ints (orderL (chain i)))]) | false => (match ls 5 with | true => (∃ (A58 : Option Addr) (c59 : Nat) (A60 : Option Addr) (c61 : Nat) (rows62 : List RowV) (A63 : Option Addr) (c64 : Nat), vs 1 = (.slice A58 ((raboveL (chain i)).length) c59) ∧ ((.slice A60p ((chain i).length) c61p) : Value) = (.slice A60 ((chain i).length) c61) ∧ vs 5 = (.slice A63 ((orderL (chain i)).length) c64) ∧ (FamOf (Value.int .i64) rows62 (redgeL (chain i))) ∧ Mem noS w w2 [.blk b15 24 [(.string ⟨#[]⟩), (.bool false), (.int .i64 0), (.int .i64 0), (.slice A45 ((chain i).length) c46)], .row 38 6 A45 ((chain i).length) c46 ((chain i).flatMap SB.cells), .row 3 1 A58 ((raboveL (chain i)).length) c59 (ints (raboveL (chain i))), .fam 3 rows62, .row 27 1 A60 ((chain i).length) c61 (slv rows62), .row 3 1 A63 ((orderL (chain i)).length) c64 (ints (orderL (chain i)))]) | false => (∃ (A58 : Option Addr) (c59 : Nat) (A60 : Option Addr) (c61 : Nat) (rows62 : List RowV), vs 1 = (.slice A58 ((raboveL (chain i)).length) c59) ∧ ((.slice A60p ((chain i).length) c61p) : Value) = (.slice A60 ((chain i).length) c61) ∧ (FamOf (Value.int .i64) rows62 (redgeL (chain i))) ∧ Mem noS w w2 [.blk b15 24 [(.string ⟨#[]⟩), (.bool false), (.int .i64 0), (.int .i64 0), (.slice A45 ((chain i).length) c46)], .row 38 6 A45 ((chain i).length) c46 ((chain i).flatMap SB.cells), .row 3 1 A58 ((raboveL (chain i)).length) c59 (ints (raboveL (chain i))), .fam 3 rows62, .row 27 1 A60 ((chain i).length) c61 (slv rows62)]))))
      rw [f8, f7, f6, f5]
      exact ⟨A58p, c59p, A60p, c61p, rows62p, e1_, rfl, hfrows62, hm3⟩
    · intro aa_ w_ ls vs rest_ hJ hi_ hc_ hp hF
      refine ⟨true, opok_guard (g0 := none) (by kernel_rfl) (by kernel_rfl), fun _ => ?_, fun h => Bool.noConfusion h⟩
      replace hF : Fr aa_ 107 [(4, (.pointer (some ⟨b15, 0, none⟩)))] := hF.keep (keep := [4]) (by kernel_rfl)
      have f5 : ls 5 = false := notyet hc_ hi_ (n := 9) (by kernel_rfl)
      have f6 : ls 6 = false := notyet hc_ hi_ (n := 9) (by kernel_rfl)
      have f7 : ls 7 = false := notyet hc_ hi_ (n := 9) (by kernel_rfl)
      have f8 : ls 8 = false := notyet hc_ hi_ (n := 9) (by kernel_rfl)
      have hM_ := hJ
      simp only [f5, f6, f7, f8] at hM_
      cases fu3 : ls 3
      · simp only [fu3] at hM_
        cases fu1 : ls 1
        · simp only [fu1] at hM_
          refine From_loadS (by kernel_rfl : coreAt _ 0 = some (some 39, (Go.Op.load 24 (Go.Operand.tmp 4)), 24, none)) hF (by kernel_rfl) (by kernel_rfl) (k' := 1) rfl (ad := ⟨b15, 0, none⟩) (vs := [(.string ⟨#[]⟩), (.bool false), (.int .i64 0), (.int .i64 0), (.slice A45 ((chain i).length) c46)]) (by kernel_rfl) (by kernel_rfl) (blk_cells (hM_.get 0 rfl)) ?_
          intro a2 ea _
          refine From_end (by kernel_rfl) ?_; exact op_doneJ (d := some 39) (by kernel_rfl) ea rfl hJ
        · simp only [fu1] at hM_
          obtain ⟨_, _, _, hM_⟩ := hM_
          refine From_loadS (by kernel_rfl : coreAt _ 0 = some (some 39, (Go.Op.load 24 (Go.Operand.tmp 4)), 24, none)) hF (by kernel_rfl) (by kernel_rfl) (k' := 1) rfl (ad := ⟨b15, 0, none⟩) (vs := [(.string ⟨#[]⟩), (.bool false), (.int .i64 0), (.int .i64 0), (.slice A45 ((chain i).length) c46)]) (by kernel_rfl) (by kernel_rfl) (blk_cells (hM_.get 0 rfl)) ?_
          intro a2 ea _
          refine From_end (by kernel_rfl) ?_; exact op_doneJ (d := some 39) (by kernel_rfl) ea rfl hJ
      · simp only [fu3] at hM_
        obtain ⟨_, _, _, _, _, _, _, _, hM_⟩ := hM_
        refine From_loadS (by kernel_rfl : coreAt _ 0 = some (some 39, (Go.Op.load 24 (Go.Operand.tmp 4)), 24, none)) hF (by kernel_rfl) (by kernel_rfl) (k' := 1) rfl (ad := ⟨b15, 0, none⟩) (vs := [(.string ⟨#[]⟩), (.bool false), (.int .i64 0), (.int .i64 0), (.slice A45 ((chain i).length) c46)]) (by kernel_rfl) (by kernel_rfl) (blk_cells (hM_.get 0 rfl)) ?_
        intro a2 ea _
        refine From_end (by kernel_rfl) ?_; exact op_doneJ (d := some 39) (by kernel_rfl) ea rfl hJ
    · intro aa_ w_ ls vs rest_ hJ hi_ hc_ hp hF
      refine ⟨true, opok_guard (g0 := none) (by kernel_rfl) (by kernel_rfl), fun _ => ?_, fun h => Bool.noConfusion h⟩
      replace hF : Fr aa_ 107 [(39, (.agg #[(.string ⟨#[]⟩), (.bool false), (.int .i64 0), (.int .i64 0), (.slice A45 ((chain i).length) c46)]))] := hF.keep (keep := [39]) (by kernel_rfl)
      have f1 : ls 1 = true := donebefore hc_ (fun k hk => (hp k hk).1) (n := 9) (by kernel_rfl)
      have f3 : ls 3 = true := donebefore hc_ (fun k hk => (hp k hk).1) (n := 9) (by kernel_rfl)
      have f5 : ls 5 = false := hi_
      have f6 : ls 6 = false := notyet hc_ hi_ (n := 9) (by kernel_rfl)
      have f7 : ls 7 = false := notyet hc_ hi_ (n := 9) (by kernel_rfl)
      have f8 : ls 8 = false := notyet hc_ hi_ (n := 9) (by kernel_rfl)
      have hM_ := hJ
      simp only [f1, f3, f5, f6, f7, f8] at hM_
      obtain ⟨A58p, c59p, A60p, c61p, rows62p, e1_, e3_, hfrows62, hM_⟩ := hM_
      try rw [e1_] at hF
      try rw [e3_] at hF
      refine From_call (by kernel_rfl : coreAt _ 0 = some (some 40, (Go.Op.call { callee := (Go.Callee.value (Go.Operand.func 11)), args := #[(Go.Operand.tmp 39)], argTypes := #[24] }), 27, none)) hF (by kernel_rfl) (by kernel_rfl) (k' := 1) rfl (f := 11) (vs := [(.agg #[(.string ⟨#[]⟩), (.bool false), (.int .i64 0), (.int .i64 0), (.slice A45 ((chain i).length) c46)])]) (cap := []) (by kernel_rfl) (by kernel_rfl) (by kernel_rfl) (order_c _ _ _ _ A45 c46 (chain i) w_ hm (RO.of (row_blocks (hM_.get 1 rfl)))) ?_
      rintro _ w2 ⟨A63p, c64p, rfl, hm2⟩ a2 ea _
      have hm3 := hM_.call hm2
      refine From_end (by kernel_rfl) ?_; refine op_doneJ (d := some 40) (by kernel_rfl) ea trivial ?_
      show match ls 8 with | true => (∃ (A58 : Option Addr) (c59 : Nat) (A60 : Option Addr) (c61 : Nat) (rows62 : List RowV) (A63 : Option Addr) (c64 : Nat), vs 1 = (.slice A58 ((raboveL (chain i)).length) c59) ∧ vs 3 = (.slice A60 ((chain i).length) c61) ∧ ((.slice A63p ((orderL (chain i)).length) c64p) : Value) = (.slice A63 ((orderL (chain i)).length) c64) ∧ vs 6 = (.slice A58 ((raboveL (chain i)).length) c59) ∧ vs 7 = (.slice A60 ((chain i).length) c61) ∧ vs 8 = (.slice A63 ((orderL (chain i)).length) c64) ∧ (FamOf (Value.int .i64) rows62 (redgeL (chain i))) ∧ Mem noS w w2 [.blk b15 24 [(.string ⟨#[]⟩), (.bool false), (.int .i64 0), (.int .i64 0), (.slice A45 ((chain i).length) c46)], .row 38 6 A45 ((chain i).length) c46 ((chain i).flatMap SB.cells), .row 3 1 A58 ((raboveL (chain i)).length) c59 (ints (raboveL (chain i))), .fam 3 rows62, .row 27 1 A60 ((chain i).length) c61 (slv rows62), .row 3 1 A63 ((orderL (chain i)).length) c64 (ints (orderL (chain i)))]) | false => (match ls 7 with | true => (∃ (A58 : Option Addr) (c59 : Nat) (A60 : Option Addr) (c61 : Nat) (rows62 : List RowV) (A63 : Option Addr) (c64 : Nat), vs 1 = (.slice A58 ((raboveL (chain i)).length) c59) ∧ vs 3 = (.slice A60 ((chain i).length) c61) ∧ ((.slice A63p ((orderL (chain i)).length) c64p) : Value) = (.slice A63 ((orderL (chain i)).length) c64) ∧ vs 6 = (.slice A58 ((raboveL (chain i)).length) c59) ∧ vs 7 = (.slice A60 ((chain i).length) c61) ∧ (FamOf (Value.int .i64) rows62 (redgeL (chain i))) ∧ Mem noS w w2 [.blk b15 24 [(.string ⟨#[]⟩), (.bool false), (.int .i64 0), (.int .i64 0), (.slice A45 ((chain i).length) c46)], .row 38 6 A45 ((chain i).length) c46 ((chain i).flatMap SB.cells), .row 3 1 A58 ((raboveL (chain i)).length) c59 (ints (raboveL (chain i))), .fam 3 rows62, .row 27 1 A60 ((chain i).length) c61 (slv rows62), .row 3 1 A63 ((orderL (chain i)).length) c64 (ints (orderL (chain i)))]) | false => (match ls 6 with | true => (∃ (A58 : Option Addr) (c59 : Nat) (A60 : Option Addr) (c61 : Nat) (rows62 : List RowV) (A63 : Option Addr) (c64 : Nat), vs 1 = (.slice A58 ((raboveL (chain i)).length) c59) ∧ vs 3 = (.slice A60 ((chain i).length) c61) ∧ ((.slice A63p ((orderL (chain i)).length) c64p) : Value) = (.slice A63 ((orderL (chain i)).length) c64) ∧ vs 6 = (.slice A58 ((raboveL (chain i)).length) c59) ∧ (FamOf (Value.int .i64) rows62 (redgeL (chain i))) ∧ Mem noS w w2 [.blk b15 24 [(.string ⟨#[]⟩), (.bool false), (.int .i64 0), (.int .i64 0), (.slice A45 ((chain i).length) c46)], .row 38 6 A45 ((chain i).length) c46 ((chain i).flatMap SB.cells), .row 3 1 A58 ((raboveL (chain i)).length) c59 (ints (raboveL (chain i))), .fam 3 rows62, .row 27 1 A60 ((chain i).length) c61 (slv rows62), .row 3 1 A63 ((orderL (chain i)).length) c64 (ints (orderL (chain i)))]) | false => (∃ (A58 : Option Addr) (c59 : Nat) (A60 : Option Addr) (c61 : Nat) (rows62 : List RowV) (A63 : Option Addr) (c64 : Nat), vs 1 = (.slice A58 ((raboveL (chain i)).length) c59) ∧ vs 3 = (.slice A60 ((chain i).length) c61) ∧ ((.slice A63p ((orderL (chain i)).length) c64p) : Value) = (.slice A63 ((orderL (chain i)).length) c64) ∧ (FamOf (Value.int .i64) rows62 (redgeL (chain i))) ∧ Mem noS w w2 [.blk b15 24 [(.string ⟨#[]⟩), (.bool false), (.int .i64 0), (.int .i64 0), (.slice A45 ((chain i).length) c46)], .row 38 6 A45 ((chain i).length) c46 ((chain i).flatMap SB.cells), .row 3 1 A58 ((raboveL (chain i)).length) c59 (ints (raboveL (chain i))), .fam 3 rows62, .row 27 1 A60 ((chain i).length) c61 (slv rows62), .row 3 1 A63 ((orderL (chain i)).length) c64 (ints (orderL (chain i)))])))
      rw [f8, f7, f6]
      exact ⟨A58p, c59p, A60p, c61p, rows62p, A63p, c64p, e1_, e3_, rfl, hfrows62, hm3⟩
    · intro aa_ w_ ls vs rest_ hJ hi_ hc_ hp hF
      refine ⟨true, opok_guard (g0 := none) (by kernel_rfl) (by kernel_rfl), fun _ => ?_, fun h => Bool.noConfusion h⟩
      replace hF : Fr aa_ 107 [(36, vs 1)] := hF.keep (keep := [36]) (by kernel_rfl)
      have f1 : ls 1 = true := donebefore hc_ (fun k hk => (hp k hk).1) (n := 9) (by kernel_rfl)
      have f3 : ls 3 = true := donebefore hc_ (fun k hk => (hp k hk).1) (n := 9) (by kernel_rfl)
      have f5 : ls 5 = true := donebefore hc_ (fun k hk => (hp k hk).1) (n := 9) (by kernel_rfl)
      have f6 : ls 6 = false := hi_
      have f7 : ls 7 = false := notyet hc_ hi_ (n := 9) (by kernel_rfl)
      have f8 : ls 8 = false := notyet hc_ hi_ (n := 9) (by kernel_rfl)
      have hM_ := hJ
      simp only [f1, f3, f5, f6, f7, f8] at hM_
      obtain ⟨A58p, c59p, A60p, c61p, rows62p, A63p, c64p, e1_, e3_, e5_, hfrows62, hm2⟩ := hM_
      rw [e1_] at hF
      refine From_pure1 (by kernel_rfl : coreAt _ 0 = some (some 6, (Go.Op.assign (Go.Operand.tmp 36)), 27, none)) hF (by kernel_rfl) (by kernel_rfl) (k' := 1) rfl (v := (.slice A58p ((raboveL (chain i)).length) c59p)) (by kernel_rfl) ?_
      intro a2 ea _
      refine From_end (by kernel_rfl) ?_; refine op_doneJ (d := some 6) (by kernel_rfl) ea trivial ?_
      show match ls 8 with | true => (∃ (A58 : Option Addr) (c59 : Nat) (A60 : Option Addr) (c61 : Nat) (rows62 : List RowV) (A63 : Option Addr) (c64 : Nat), vs 1 = (.slice A58 ((raboveL (chain i)).length) c59) ∧ vs 3 = (.slice A60 ((chain i).length) c61) ∧ vs 5 = (.slice A63 ((orderL (chain i)).length) c64) ∧ ((.slice A58p ((raboveL (chain i)).length) c59p) : Value) = (.slice A58 ((raboveL (chain i)).length) c59) ∧ vs 7 = (.slice A60 ((chain i).length) c61) ∧ vs 8 = (.slice A63 ((orderL (chain i)).length) c64) ∧ (FamOf (Value.int .i64) rows62 (redgeL (chain i))) ∧ Mem noS w w_ [.blk b15 24 [(.string ⟨#[]⟩), (.bool false), (.int .i64 0), (.int .i64 0), (.slice A45 ((chain i).length) c46)], .row 38 6 A45 ((chain i).length) c46 ((chain i).flatMap SB.cells), .row 3 1 A58 ((raboveL (chain i)).length) c59 (ints (raboveL (chain i))), .fam 3 rows62, .row 27 1 A60 ((chain i).length) c61 (slv rows62), .row 3 1 A63 ((orderL (chain i)).length) c64 (ints (orderL (chain i)))]) | false => (match ls 7 with | true => (∃ (A58 : Option Addr) (c59 : Nat) (A60 : Option Addr) (c61 : Nat) (rows62 : List RowV) (A63 : Option Addr) (c64 : Nat), vs 1 = (.slice A58 ((raboveL (chain i)).length) c59) ∧ vs 3 = (.slice A60 ((chain i).length) c61) ∧ vs 5 = (.slice A63 ((orderL (chain i)).length) c64) ∧ ((.slice A58p ((raboveL (chain i)).length) c59p) : Value) = (.slice A58 ((raboveL (chain i)).length) c59) ∧ vs 7 = (.slice A60 ((chain i).length) c61) ∧ (FamOf (Value.int .i64) rows62 (redgeL (chain i))) ∧ Mem noS w w_ [.blk b15 24 [(.string ⟨#[]⟩), (.bool false), (.int .i64 0), (.int .i64 0), (.slice A45 ((chain i).length) c46)], .row 38 6 A45 ((chain i).length) c46 ((chain i).flatMap SB.cells), .row 3 1 A58 ((raboveL (chain i)).length) c59 (ints (raboveL (chain i))), .fam 3 rows62, .row 27 1 A60 ((chain i).length) c61 (slv rows62), .row 3 1 A63 ((orderL (chain i)).length) c64 (ints (orderL (chain i)))]) | false => (∃ (A58 : Option Addr) (c59 : Nat) (A60 : Option Addr) (c61 : Nat) (rows62 : List RowV) (A63 : Option Addr) (c64 : Nat), vs 1 = (.slice A58 ((raboveL (chain i)).length) c59) ∧ vs 3 = (.slice A60 ((chain i).length) c61) ∧ vs 5 = (.slice A63 ((orderL (chain i)).length) c64) ∧ ((.slice A58p ((raboveL (chain i)).length) c59p) : Value) = (.slice A58 ((raboveL (chain i)).length) c59) ∧ (FamOf (Value.int .i64) rows62 (redgeL (chain i))) ∧ Mem noS w w_ [.blk b15 24 [(.string ⟨#[]⟩), (.bool false), (.int .i64 0), (.int .i64 0), (.slice A45 ((chain i).length) c46)], .row 38 6 A45 ((chain i).length) c46 ((chain i).flatMap SB.cells), .row 3 1 A58 ((raboveL (chain i)).length) c59 (ints (raboveL (chain i))), .fam 3 rows62, .row 27 1 A60 ((chain i).length) c61 (slv rows62), .row 3 1 A63 ((orderL (chain i)).length) c64 (ints (orderL (chain i)))]))
      rw [f8, f7]
      exact ⟨A58p, c59p, A60p, c61p, rows62p, A63p, c64p, e1_, e3_, e5_, rfl, hfrows62, hm2⟩
    · intro aa_ w_ ls vs rest_ hJ hi_ hc_ hp hF
      refine ⟨true, opok_guard (g0 := none) (by kernel_rfl) (by kernel_rfl), fun _ => ?_, fun h => Bool.noConfusion h⟩
      replace hF : Fr aa_ 107 [(38, vs 3)] := hF.keep (keep := [38]) (by kernel_rfl)
      have f1 : ls 1 = true := donebefore hc_ (fun k hk => (hp k hk).1) (n := 9) (by kernel_rfl)
      have f3 : ls 3 = true := donebefore hc_ (fun k hk => (hp k hk).1) (n := 9) (by kernel_rfl)
      have f5 : ls 5 = true := donebefore hc_ (fun k hk => (hp k hk).1) (n := 9) (by kernel_rfl)
      have f6 : ls 6 = true := donebefore hc_ (fun k hk => (hp k hk).1) (n := 9) (by kernel_rfl)
      have f7 : ls 7 = false := hi_
      have f8 : ls 8 = false := notyet hc_ hi_ (n := 9) (by kernel_rfl)
      have hM_ := hJ
      simp only [f1, f3, f5, f6, f7, f8] at hM_
      obtain ⟨A58p, c59p, A60p, c61p, rows62p, A63p, c64p, e1_, e3_, e5_, e6_, hfrows62, hm2⟩ := hM_
      rw [e3_] at hF
      refine From_pure1 (by kernel_rfl : coreAt _ 0 = some (some 7, (Go.Op.assign (Go.Operand.tmp 38)), 31, none)) hF (by kernel_rfl) (by kernel_rfl) (k' := 1) rfl (v := (.slice A60p ((chain i).length) c61p)) (by kernel_rfl) ?_
      intro a2 ea _
      refine From_end (by kernel_rfl) ?_; refine op_doneJ (d := some 7) (by kernel_rfl) ea trivial ?_
      show match ls 8 with | true => (∃ (A58 : Option Addr) (c59 : Nat) (A60 : Option Addr) (c61 : Nat) (rows62 : List RowV) (A63 : Option Addr) (c64 : Nat), vs 1 = (.slice A58 ((raboveL (chain i)).length) c59) ∧ vs 3 = (.slice A60 ((chain i).length) c61) ∧ vs 5 = (.slice A63 ((orderL (chain i)).length) c64) ∧ vs 6 = (.slice A58 ((raboveL (chain i)).length) c59) ∧ ((.slice A60p ((chain i).length) c61p) : Value) = (.slice A60 ((chain i).length) c61) ∧ vs 8 = (.slice A63 ((orderL (chain i)).length) c64) ∧ (FamOf (Value.int .i64) rows62 (redgeL (chain i))) ∧ Mem noS w w_ [.blk b15 24 [(.string ⟨#[]⟩), (.bool false), (.int .i64 0), (.int .i64 0), (.slice A45 ((chain i).length) c46)], .row 38 6 A45 ((chain i).length) c46 ((chain i).flatMap SB.cells), .row 3 1 A58 ((raboveL (chain i)).length) c59 (ints (raboveL (chain i))), .fam 3 rows62, .row 27 1 A60 ((chain i).length) c61 (slv rows62), .row 3 1 A63 ((orderL (chain i)).length) c64 (ints (orderL (chain i)))]) | false => (∃ (A58 : Option Addr) (c59 : Nat) (A60 : Option Addr) (c61 : Nat) (rows62 : List RowV) (A63 : Option Addr) (c64 : Nat), vs 1 = (.slice A58 ((raboveL (chain i)).length) c59) ∧ vs 3 = (.slice A60 ((chain i).length) c61) ∧ vs 5 = (.slice A63 ((orderL (chain i)).length) c64) ∧ vs 6 = (.slice A58 ((raboveL (chain i)).length) c59) ∧ ((.slice A60p ((chain i).length) c61p) : Value) = (.slice A60 ((chain i).length) c61) ∧ (FamOf (Value.int .i64) rows62 (redgeL (chain i))) ∧ Mem noS w w_ [.blk b15 24 [(.string ⟨#[]⟩), (.bool false), (.int .i64 0), (.int .i64 0), (.slice A45 ((chain i).length) c46)], .row 38 6 A45 ((chain i).length) c46 ((chain i).flatMap SB.cells), .row 3 1 A58 ((raboveL (chain i)).length) c59 (ints (raboveL (chain i))), .fam 3 rows62, .row 27 1 A60 ((chain i).length) c61 (slv rows62), .row 3 1 A63 ((orderL (chain i)).length) c64 (ints (orderL (chain i)))])
      rw [f8]
      exact ⟨A58p, c59p, A60p, c61p, rows62p, A63p, c64p, e1_, e3_, e5_, e6_, rfl, hfrows62, hm2⟩
    · intro aa_ w_ ls vs rest_ hJ hi_ hc_ hp hF
      refine ⟨true, opok_guard (g0 := none) (by kernel_rfl) (by kernel_rfl), fun _ => ?_, fun h => Bool.noConfusion h⟩
      replace hF : Fr aa_ 107 [(40, vs 5)] := hF.keep (keep := [40]) (by kernel_rfl)
      have f1 : ls 1 = true := donebefore hc_ (fun k hk => (hp k hk).1) (n := 9) (by kernel_rfl)
      have f3 : ls 3 = true := donebefore hc_ (fun k hk => (hp k hk).1) (n := 9) (by kernel_rfl)
      have f5 : ls 5 = true := donebefore hc_ (fun k hk => (hp k hk).1) (n := 9) (by kernel_rfl)
      have f6 : ls 6 = true := donebefore hc_ (fun k hk => (hp k hk).1) (n := 9) (by kernel_rfl)
      have f7 : ls 7 = true := donebefore hc_ (fun k hk => (hp k hk).1) (n := 9) (by kernel_rfl)
      have f8 : ls 8 = false := hi_
      have hM_ := hJ
      simp only [f1, f3, f5, f6, f7, f8] at hM_
      obtain ⟨A58p, c59p, A60p, c61p, rows62p, A63p, c64p, e1_, e3_, e5_, e6_, e7_, hfrows62, hm2⟩ := hM_
      rw [e5_] at hF
      refine From_pure1 (by kernel_rfl : coreAt _ 0 = some (some 8, (Go.Op.assign (Go.Operand.tmp 40)), 27, none)) hF (by kernel_rfl) (by kernel_rfl) (k' := 1) rfl (v := (.slice A63p ((orderL (chain i)).length) c64p)) (by kernel_rfl) ?_
      intro a2 ea _
      refine From_end (by kernel_rfl) ?_; refine op_doneJ (d := some 8) (by kernel_rfl) ea trivial ?_
      show ∃ (A58 : Option Addr) (c59 : Nat) (A60 : Option Addr) (c61 : Nat) (rows62 : List RowV) (A63 : Option Addr) (c64 : Nat), vs 1 = (.slice A58 ((raboveL (chain i)).length) c59) ∧ vs 3 = (.slice A60 ((chain i).length) c61) ∧ vs 5 = (.slice A63 ((orderL (chain i)).length) c64) ∧ vs 6 = (.slice A58 ((raboveL (chain i)).length) c59) ∧ vs 7 = (.slice A60 ((chain i).length) c61) ∧ ((.slice A63p ((orderL (chain i)).length) c64p) : Value) = (.slice A63 ((orderL (chain i)).length) c64) ∧ (FamOf (Value.int .i64) rows62 (redgeL (chain i))) ∧ Mem noS w w_ [.blk b15 24 [(.string ⟨#[]⟩), (.bool false), (.int .i64 0), (.int .i64 0), (.slice A45 ((chain i).length) c46)], .row 38 6 A45 ((chain i).length) c46 ((chain i).flatMap SB.cells), .row 3 1 A58 ((raboveL (chain i)).length) c59 (ints (raboveL (chain i))), .fam 3 rows62, .row 27 1 A60 ((chain i).length) c61 (slv rows62), .row 3 1 A63 ((orderL (chain i)).length) c64 (ints (orderL (chain i)))]
      exact ⟨A58p, c59p, A60p, c61p, rows62p, A63p, c64p, e1_, e3_, e5_, e6_, e7_, rfl, hfrows62, hm2⟩
    intro a65 w67 ls vs hall hM68 hv hF66
    simp only [show ls 8 = true from hall 8 (by decide)] at hM68
    replace hF66 : Fr a65 107 [(3, (.int .i64 (i : Int))), (6, vs 6), (7, vs 7), (8, vs 8)] := hF66.keep (keep := [3, 6, 7, 8]) (by kernel_rfl)
    obtain ⟨A58, c59, A60, c61, rows62, A63, c64, e1_, e3_, e5_, e6_, e7_, e8_, hfrows62, hM68⟩ := hM68
    try rw [e1_] at hF66
    try rw [e3_] at hF66
    try rw [e5_] at hF66
    try rw [e6_] at hF66
    try rw [e7_] at hF66
    try rw [e8_] at hF66
    clear e1_ e3_ e5_ e6_ e7_ e8_
    clear hall hv hF56 a55 hM57; clear vs ls
    refine W_seq (by kernel_rfl) ?_
    refine W_seq (by kernel_rfl) ?_
    refine W_region (by kernel_rfl) ?_   -- region 9
    have hrl : (raboveL (chain i)).length = i + 1 := by rw [raboveL_len, hcl]
    have hol := chain_olen i
    refine From_pure 3 3 [3, 6, 7, 8, 42, 43] hF66 (env' := [(3, (.int .i64 (i : Int))), (6, (.slice A58 ((raboveL (chain i)).length) c59)), (7, (.slice A60 ((chain i).length) c61)), (8, (.slice A63 ((orderL (chain i)).length) c64)), (42, (.int .i64 (((raboveL (chain i)).length : Nat) : Int))), (43, (.int .i64 (i : Int)))]) (by kernel_rfl) rfl ?_
    intro a69 hF70; clear hF66 a65
    refine From_arith (by kernel_rfl : coreAt _ 3 = some (some 44, (Go.Op.binOp Go.BinOp.add 3 (Go.Operand.tmp 43) (Go.Operand.const (Go.Value.int Go.IntKind.i64 1)) 3), 3, none)) hF70 (by kernel_rfl) (by kernel_rfl) (k' := 4) rfl (i := (i : Int)) (j := 1) (z := ((i : Int) + 1)) (by kernel_rfl) (by kernel_rfl) rfl (by omega) (by omega) ?_
    intro a71 ea hF72; clear ea hF70 a69
    replace hF72 : Fr a71 107 [(3, (.int .i64 (i : Int))), (6, (.slice A58 ((raboveL (chain i)).length) c59)), (7, (.slice A60 ((chain i).length) c61)), (8, (.slice A63 ((orderL (chain i)).length) c64)), (42, (.int .i64 (((raboveL (chain i)).length : Nat) : Int))), (44, (.int .i64 ((i : Int) + 1)))] := hF72.keep (keep := [3, 6, 7, 8, 42, 44]) (by kernel_rfl)
    refine From_cmp (by kernel_rfl : coreAt _ 4 = some (some 45, (Go.Op.binOp Go.BinOp.neq 3 (Go.Operand.tmp 42) (Go.Operand.tmp 44) 3), 4, none)) hF72 (by kernel_rfl) (by kernel_rfl) (k' := 5) rfl (kd := .i64) (i := (((raboveL (chain i)).length : Nat) : Int)) (j := ((i : Int) + 1)) (by kernel_rfl) (by kernel_rfl) rfl ?_
    intro Bl1 hBl1 a73 ea hF74; clear ea hF72 a71
    obtain rfl : Bl1 = false := by
      have hkn : ¬ (((((raboveL (chain i)).length : Nat) : Int) : Int) ≠ ((i : Int) + 1)) := by omega
      first | exact hBl1.trans (decide_eq_true hkn) | exact hBl1.trans (decide_eq_false hkn) | exact hBl1.trans (beq_iff_eq.2 hkn) | exact hBl1.trans (bne_iff_ne.2 hkn) | exact hBl1.trans (Bool.eq_false_iff.2 (fun e => hkn (beq_iff_eq.1 e))) | exact hBl1.trans (Bool.eq_false_iff.2 (fun e => hkn (bne_iff_ne.1 e)))
    clear hBl1
    replace hF74 : Fr a73 107 [(3, (.int .i64 (i : Int))), (6, (.slice A58 ((raboveL (chain i)).length) c59)), (7, (.slice A60 ((chain i).length) c61)), (8, (.slice A63 ((orderL (chain i)).length) c64)), (45, (.bool false))] := hF74.keep (keep := [3, 6, 7, 8, 45]) (by kernel_rfl)
    refine From_pure 4 9 [3, 6, 7, 8, 46, 48, 49] hF74 (env' := [(3, (.int .i64 (i : Int))), (6, (.slice A58 ((raboveL (chain i)).length) c59)), (7, (.slice A60 ((chain i).length) c61)), (8, (.slice A63 ((orderL (chain i)).length) c64)), (46, (.bool false)), (48, (.int .i64 (((chain i).length : Nat) : Int))), (49, (.int .i64 (i : Int)))]) (by kernel_rfl) rfl ?_
    intro a75 hF76; clear hF74 a73
    refine From_arith (by kernel_rfl : coreAt _ 9 = some (some 50, (Go.Op.binOp Go.BinOp.add 3 (Go.Operand.tmp 49) (Go.Operand.const (Go.Value.int Go.IntKind.i64 1)) 3), 3, some (5, false))) hF76 (by kernel_rfl) (by kernel_rfl) (k' := 10) rfl (i := (i : Int)) (j := 1) (z := ((i : Int) + 1)) (by kernel_rfl) (by kernel_rfl) rfl (by omega) (by omega) ?_
    intro a77 ea hF78; clear ea hF76 a75
    replace hF78 : Fr a77 107 [(3, (.int .i64 (i : Int))), (6, (.slice A58 ((raboveL (chain i)).length) c59)), (7, (.slice A60 ((chain i).length) c61)), (8, (.slice A63 ((orderL (chain i)).length) c64)), (46, (.bool false)), (48, (.int .i64 (((chain i).length : Nat) : Int))), (50, (.int .i64 ((i : Int) + 1)))] := hF78.keep (keep := [3, 6, 7, 8, 46, 48, 50]) (by kernel_rfl)
    refine From_cmp (by kernel_rfl : coreAt _ 10 = some (some 51, (Go.Op.binOp Go.BinOp.neq 3 (Go.Operand.tmp 48) (Go.Operand.tmp 50) 3), 4, some (5, false))) hF78 (by kernel_rfl) (by kernel_rfl) (k' := 11) rfl (kd := .i64) (i := (((chain i).length : Nat) : Int)) (j := ((i : Int) + 1)) (by kernel_rfl) (by kernel_rfl) rfl ?_
    intro Bl2 hBl2 a79 ea hF80; clear ea hF78 a77
    obtain rfl : Bl2 = false := by
      have hkn : ¬ (((((chain i).length : Nat) : Int) : Int) ≠ ((i : Int) + 1)) := by omega
      first | exact hBl2.trans (decide_eq_true hkn) | exact hBl2.trans (decide_eq_false hkn) | exact hBl2.trans (beq_iff_eq.2 hkn) | exact hBl2.trans (bne_iff_ne.2 hkn) | exact hBl2.trans (Bool.eq_false_iff.2 (fun e => hkn (beq_iff_eq.1 e))) | exact hBl2.trans (Bool.eq_false_iff.2 (fun e => hkn (bne_iff_ne.1 e)))
    clear hBl2
    replace hF80 : Fr a79 107 [(3, (.int .i64 (i : Int))), (6, (.slice A58 ((raboveL (chain i)).length) c59)), (7, (.slice A60 ((chain i).length) c61)), (8, (.slice A63 ((orderL (chain i)).length) c64)), (46, (.bool false)), (51, (.bool false))] := hF80.keep (keep := [3, 6, 7, 8, 46, 51]) (by kernel_rfl)
    refine From_pure 5 16 [3, 6, 7, 8, 53, 55, 56] hF80 (env' := [(3, (.int .i64 (i : Int))), (6, (.slice A58 ((raboveL (chain i)).length) c59)), (7, (.slice A60 ((chain i).length) c61)), (8, (.slice A63 ((orderL (chain i)).length) c64)), (53, (.bool false)), (55, (.int .i64 (((orderL (chain i)).length : Nat) : Int))), (56, (.int .i64 (i : Int)))]) (by kernel_rfl) rfl ?_
    intro a81 hF82; clear hF80 a79
    refine From_arith (by kernel_rfl : coreAt _ 16 = some (some 57, (Go.Op.binOp Go.BinOp.add 3 (Go.Operand.tmp 56) (Go.Operand.const (Go.Value.int Go.IntKind.i64 1)) 3), 3, some (12, false))) hF82 (by kernel_rfl) (by kernel_rfl) (k' := 17) rfl (i := (i : Int)) (j := 1) (z := ((i : Int) + 1)) (by kernel_rfl) (by kernel_rfl) rfl (by omega) (by omega) ?_
    intro a83 ea hF84; clear ea hF82 a81
    replace hF84 : Fr a83 107 [(3, (.int .i64 (i : Int))), (6, (.slice A58 ((raboveL (chain i)).length) c59)), (7, (.slice A60 ((chain i).length) c61)), (8, (.slice A63 ((orderL (chain i)).length) c64)), (53, (.bool false)), (55, (.int .i64 (((orderL (chain i)).length : Nat) : Int))), (57, (.int .i64 ((i : Int) + 1)))] := hF84.keep (keep := [3, 6, 7, 8, 53, 55, 57]) (by kernel_rfl)
    refine From_cmp (by kernel_rfl : coreAt _ 17 = some (some 58, (Go.Op.binOp Go.BinOp.neq 3 (Go.Operand.tmp 55) (Go.Operand.tmp 57) 3), 4, some (12, false))) hF84 (by kernel_rfl) (by kernel_rfl) (k' := 18) rfl (kd := .i64) (i := (((orderL (chain i)).length : Nat) : Int)) (j := ((i : Int) + 1)) (by kernel_rfl) (by kernel_rfl) rfl ?_
    intro Bl3 hBl3 a85 ea hF86; clear ea hF84 a83
    obtain rfl : Bl3 = false := by
      have hkn : ¬ (((((orderL (chain i)).length : Nat) : Int) : Int) ≠ ((i : Int) + 1)) := by omega
      first | exact hBl3.trans (decide_eq_true hkn) | exact hBl3.trans (decide_eq_false hkn) | exact hBl3.trans (beq_iff_eq.2 hkn) | exact hBl3.trans (bne_iff_ne.2 hkn) | exact hBl3.trans (Bool.eq_false_iff.2 (fun e => hkn (beq_iff_eq.1 e))) | exact hBl3.trans (Bool.eq_false_iff.2 (fun e => hkn (bne_iff_ne.1 e)))
    clear hBl3
    replace hF86 : Fr a85 107 [(3, (.int .i64 (i : Int))), (6, (.slice A58 ((raboveL (chain i)).length) c59)), (7, (.slice A60 ((chain i).length) c61)), (8, (.slice A63 ((orderL (chain i)).length) c64)), (53, (.bool false)), (58, (.bool false))] := hF86.keep (keep := [3, 6, 7, 8, 53, 58]) (by kernel_rfl)
    refine From_pure 1 19 [3, 6, 7, 8, 59] hF86 (env' := [(3, (.int .i64 (i : Int))), (6, (.slice A58 ((raboveL (chain i)).length) c59)), (7, (.slice A60 ((chain i).length) c61)), (8, (.slice A63 ((orderL (chain i)).length) c64)), (59, (.bool false))]) (by kernel_rfl) rfl ?_
    intro a87 hF88; clear hF86 a85
    refine From_end (by kernel_rfl) ?_
    refine W_cond (t := 59) (B := false) (by kernel_rfl) hF88 (by kernel_rfl) (fun t => Bool.noConfusion t) (fun _ => ?_)
    refine W_skip (by kernel_rfl) ?_
    refine W_seq (by kernel_rfl) ?_
    refine W_seq (by kernel_rfl) ?_
    refine W_region (by kernel_rfl) ?_   -- region 11
    refine From_pure 1 1 [3, 6, 7, 8, 9] hF88 (env' := [(3, (.int .i64 (i : Int))), (6, (.slice A58 ((raboveL (chain i)).length) c59)), (7, (.slice A60 ((chain i).length) c61)), (8, (.slice A63 ((orderL (chain i)).length) c64)), (9, (.int .i64 0))]) (by kernel_rfl) rfl ?_
    intro a89 hF90; clear hF88 a87
    refine From_end (by kernel_rfl) ?_
    refine W_block (id := 2) (by kernel_rfl) ?_
    refine W_loop (by kernel_rfl) (fun n_ a_ w_ => ∃ (j : Nat), n_ = i + 1 - j ∧ Fr a_ 107 [(3, (.int .i64 (i : Int))), (6, (.slice A58 ((raboveL (chain i)).length) c59)), (7, (.slice A60 ((chain i).length) c61)), (8, (.slice A63 ((orderL (chain i)).length) c64)), (9, (.int .i64 (j : Int)))] ∧ Mem noS w w_ [.blk b15 24 [(.string ⟨#[]⟩), (.bool false), (.int .i64 0), (.int .i64 0), (.slice A45 ((chain i).length) c46)], .row 38 6 A45 ((chain i).length) c46 ((chain i).flatMap SB.cells), .row 3 1 A58 ((raboveL (chain i)).length) c59 (ints (raboveL (chain i))), .fam 3 rows62, .row 27 1 A60 ((chain i).length) c61 (slv rows62), .row 3 1 A63 ((orderL (chain i)).length) c64 (ints (orderL (chain i)))] ∧ (j ≤ i + 1)) (n := _) ⟨0, rfl, hF90.keep (keep := [3, 6, 7, 8, 9]) (by kernel_rfl), hM68, by omega⟩ ?_
    clear hF90 a89 hM68; rintro n a93 w91 ⟨j, rfl, hF94, hM92, hj⟩
    refine W_seq (by kernel_rfl) ?_
    refine W_seq (by kernel_rfl) ?_
    refine W_region (by kernel_rfl) ?_   -- region 12
    refine From_pure 2 2 [3, 6, 7, 8, 9, 60, 61] hF94 (env' := [(3, (.int .i64 (i : Int))), (6, (.slice A58 ((raboveL (chain i)).length) c59)), (7, (.slice A60 ((chain i).length) c61)), (8, (.slice A63 ((orderL (chain i)).length) c64)), (9, (.int .i64 (j : Int))), (60, (.int .i64 (j : Int))), (61, (.int .i64 (i : Int)))]) (by kernel_rfl) rfl ?_
    intro a95 hF96; clear hF94 a93
    refine From_cmp (by kernel_rfl : coreAt _ 2 = some (some 62, (Go.Op.binOp Go.BinOp.leq 3 (Go.Operand.tmp 60) (Go.Operand.tmp 61) 3), 4, none)) hF96 (by kernel_rfl) (by kernel_rfl) (k' := 3) rfl (kd := .i64) (i := (j : Int)) (j := (i : Int)) (by kernel_rfl) (by kernel_rfl) rfl ?_
    intro Bj hBj a97 ea hF98; clear ea hF96 a95
    replace hF98 : Fr a97 107 [(3, (.int .i64 (i : Int))), (6, (.slice A58 ((raboveL (chain i)).length) c59)), (7, (.slice A60 ((chain i).length) c61)), (8, (.slice A63 ((orderL (chain i)).length) c64)), (9, (.int .i64 (j : Int))), (62, (.bool Bj))] := hF98.keep (keep := [3, 6, 7, 8, 9, 62]) (by kernel_rfl)
    refine From_end (by kernel_rfl) ?_
    cases Bj
    · have cj : ¬ ((j : Int) ≤ (i : Int)) := by first | exact of_decide_eq_true hBj.symm | exact of_decide_eq_false hBj.symm | exact beq_iff_eq.1 hBj.symm | exact bne_iff_ne.1 hBj.symm | exact (fun e => Bool.false_ne_true (hBj.trans (beq_iff_eq.2 e))) | exact (fun e => Bool.false_ne_true (hBj.trans (bne_iff_ne.2 e)))
      refine W_cond (t := 62) (B := false) (by kernel_rfl) hF98 (by kernel_rfl) (fun t => Bool.noConfusion t) (fun _ => ?_)
      refine W_exit (id := 2) (by kernel_rfl) ?_
      refine inB_hit rfl ?_
      refine W_seq (by kernel_rfl) ?_
      refine W_region (by kernel_rfl) ?_   -- region 18
      refine From_call (by kernel_rfl : coreAt _ 0 = some (some 106, (Go.Op.call { callee := (Go.Callee.value (Go.Operand.func 9)), args := #[], argTypes := #[] }), 4, none)) hF98 (by kernel_rfl) (by kernel_rfl) (k' := 1) rfl (f := 9) (vs := []) (cap := []) (by kernel_rfl) (by kernel_rfl) (by kernel_rfl) (awake_c w91) ?_
      rintro _ w99 ⟨rfl, hM100x⟩ a101 ea hF102; clear ea hF98 a97
      have hM100 : Mem noS w w99 [.blk b15 24 [(.string ⟨#[]⟩), (.bool false), (.int .i64 0), (.int .i64 0), (.slice A45 ((chain i).length) c46)], .row 38 6 A45 ((chain i).length) c46 ((chain i).flatMap SB.cells), .row 3 1 A58 ((raboveL (chain i)).length) c59 (ints (raboveL (chain i))), .fam 3 rows62, .row 27 1 A60 ((chain i).length) c61 (slv rows62), .row 3 1 A63 ((orderL (chain i)).length) c64 (ints (orderL (chain i)))] := hM92.call hM100x
      clear hM100x hM92
      replace hF102 : Fr a101 107 [(106, (.bool true))] := hF102.keep (keep := [106]) (by kernel_rfl)
      refine From_pure 1 2 [2] hF102 (env' := [(2, (.bool true))]) (by kernel_rfl) rfl ?_
      intro a103 hF104; clear hF102 a101
      refine From_end (by kernel_rfl) ?_
      refine W_ret (by kernel_rfl) ?_
      refine out1 (v := (.bool true)) hF104 rfl (by kernel_rfl) ?_
      refine ⟨_, rfl, ?_⟩
      replace hM100 : Mem noS w w99 [] := hM100.pick [false, false, false, false, false, false] rfl
      exact ⟨rfl, hM100⟩
    · have cj : (j : Int) ≤ (i : Int) := by first | exact of_decide_eq_true hBj.symm | exact of_decide_eq_false hBj.symm | exact beq_iff_eq.1 hBj.symm | exact bne_iff_ne.1 hBj.symm | exact (fun e => Bool.false_ne_true (hBj.trans (beq_iff_eq.2 e))) | exact (fun e => Bool.false_ne_true (hBj.trans (bne_iff_ne.2 e)))
      refine W_cond (t := 62) (B := true) (by kernel_rfl) hF98 (by kernel_rfl) (fun _ => ?_) (fun t => Bool.noConfusion t)
      refine W_skip (by kernel_rfl) ?_
      refine W_seq (by kernel_rfl) ?_
      refine W_block (id := 3) (by kernel_rfl) ?_
      refine W_seq (by kernel_rfl) ?_
      refine W_seq (by kernel_rfl) ?_
      refine W_region (by kernel_rfl) ?_   -- region 14
      have hji : j ≤ i := by omega
      refine From_pure 2 2 [3, 6, 7, 8, 9, 65, 66] hF98 (env' := [(3, (.int .i64 (i : Int))), (6, (.slice A58 ((raboveL (chain i)).length) c59)), (7, (.slice A60 ((chain i).length) c61)), (8, (.slice A63 ((orderL (chain i)).length) c64)), (9, (.int .i64 (j : Int))), (65, (.slice A58 ((raboveL (chain i)).length) c59)), (66, (.int .i64 (j : Int)))]) (by kernel_rfl) rfl ?_
      intro a105 hF106; clear hF98 a97
      obtain ⟨g108, rfl⟩ := row_some (hM92.get 2 rfl) (by omega)
      refine From_index (by kernel_rfl : coreAt _ 2 = some (some 67, (Go.Op.indexAddr 27 (Go.Operand.tmp 65) (Go.Operand.tmp 66)), 0, none)) hF106 (by kernel_rfl) (by kernel_rfl) (k' := 3) rfl (A := (some ⟨g108, 0, none⟩)) (ad := ⟨g108, 0, none⟩) (n := ((raboveL (chain i)).length)) (cap := c59) (e := 3) (size := 1) (kd := .i64) (i := (j : Int)) (by kernel_rfl) (by kernel_rfl) rfl (by kernel_rfl) (by kernel_rfl) (by omega) (by omega) ?_
      intro a109 ea hF110; clear ea hF106 a105
      replace hF110 : Fr a109 107 [(3, (.int .i64 (i : Int))), (6, (.slice (some ⟨g108, 0, none⟩) ((raboveL (chain i)).length) c59)), (7, (.slice A60 ((chain i).length) c61)), (8, (.slice A63 ((orderL (chain i)).length) c64)), (9, (.int .i64 (j : Int))), (67, (.pointer (some ((⟨g108, 0, none⟩ : Addr).add (((j : Int)).toNat * 1)))))] := hF110.keep (keep := [3, 6, 7, 8, 9, 67]) (by kernel_rfl)
      refine From_load1 (by kernel_rfl : coreAt _ 3 = some (some 68, (Go.Op.load 3 (Go.Operand.tmp 67)), 3, none)) hF110 (by kernel_rfl) (by kernel_rfl) (k' := 4) rfl (ad := ((⟨g108, 0, none⟩ : Addr).add (((j : Int)).toNat * 1))) (v := (.int .i64 ((j : Int) - 1))) (by kernel_rfl) (by kernel_rfl) (rd_get1 (row_rd (hM92.get 2 rfl)) rfl (chain_above hji)) ?_
      intro a111 ea hF112; clear ea hF110 a109
      replace hF112 : Fr a111 107 [(3, (.int .i64 (i : Int))), (6, (.slice (some ⟨g108, 0, none⟩) ((raboveL (chain i)).length) c59)), (7, (.slice A60 ((chain i).length) c61)), (8, (.slice A63 ((orderL (chain i)).length) c64)), (9, (.int .i64 (j : Int))), (68, (.int .i64 ((j : Int) - 1)))] := hF112.keep (keep := [3, 6, 7, 8, 9, 68]) (by kernel_rfl)
      refine From_pure 1 5 [3, 6, 7, 8, 9, 68, 69] hF112 (env' := [(3, (.int .i64 (i : Int))), (6, (.slice (some ⟨g108, 0, none⟩) ((raboveL (chain i)).length) c59)), (7, (.slice A60 ((chain i).length) c61)), (8, (.slice A63 ((orderL (chain i)).length) c64)), (9, (.int .i64 (j : Int))), (68, (.int .i64 ((j : Int) - 1))), (69, (.int .i64 (j : Int)))]) (by kernel_rfl) rfl ?_
      intro a113 hF114; clear hF112 a111
      refine From_arith (by kernel_rfl : coreAt _ 5 = some (some 70, (Go.Op.binOp Go.BinOp.sub 3 (Go.Operand.tmp 69) (Go.Operand.const (Go.Value.int Go.IntKind.i64 1)) 3), 3, none)) hF114 (by kernel_rfl) (by kernel_rfl) (k' := 6) rfl (i := (j : Int)) (j := 1) (z := ((j : Int) - 1)) (by kernel_rfl) (by kernel_rfl) rfl (by omega) (by omega) ?_
      intro a115 ea hF116; clear ea hF114 a113
      replace hF116 : Fr a115 107 [(3, (.int .i64 (i : Int))), (6, (.slice (some ⟨g108, 0, none⟩) ((raboveL (chain i)).length) c59)), (7, (.slice A60 ((chain i).length) c61)), (8, (.slice A63 ((orderL (chain i)).length) c64)), (9, (.int .i64 (j : Int))), (68, (.int .i64 ((j : Int) - 1))), (70, (.int .i64 ((j : Int) - 1)))] := hF116.keep (keep := [3, 6, 7, 8, 9, 68, 70]) (by kernel_rfl)
      refine From_cmp (by kernel_rfl : coreAt _ 6 = some (some 71, (Go.Op.binOp Go.BinOp.neq 3 (Go.Operand.tmp 68) (Go.Operand.tmp 70) 3), 4, none)) hF116 (by kernel_rfl) (by kernel_rfl) (k' := 7) rfl (kd := .i64) (i := ((j : Int) - 1)) (j := ((j : Int) - 1)) (by kernel_rfl) (by kernel_rfl) rfl ?_
      intro Bu hBu a117 ea hF118; clear ea hF116 a115
      obtain rfl : Bu = false := by
        have hkn : ¬ ((((j : Int) - 1) : Int) ≠ ((j : Int) - 1)) := by omega
        first | exact hBu.trans (decide_eq_true hkn) | exact hBu.trans (decide_eq_false hkn) | exact hBu.trans (beq_iff_eq.2 hkn) | exact hBu.trans (bne_iff_ne.2 hkn) | exact hBu.trans (Bool.eq_false_iff.2 (fun e => hkn (beq_iff_eq.1 e))) | exact hBu.trans (Bool.eq_false_iff.2 (fun e => hkn (bne_iff_ne.1 e)))
      clear hBu
      replace hF118 : Fr a117 107 [(3, (.int .i64 (i : Int))), (6, (.slice (some ⟨g108, 0, none⟩) ((raboveL (chain i)).length) c59)), (7, (.slice A60 ((chain i).length) c61)), (8, (.slice A63 ((orderL (chain i)).length) c64)), (9, (.int .i64 (j : Int))), (71, (.bool false))] := hF118.keep (keep := [3, 6, 7, 8, 9, 71]) (by kernel_rfl)
      refine From_pure 3 10 [3, 6, 7, 8, 9, 72, 73, 74] hF118 (env' := [(3, (.int .i64 (i : Int))), (6, (.slice (some ⟨g108, 0, none⟩) ((raboveL (chain i)).length) c59)), (7, (.slice A60 ((chain i).length) c61)), (8, (.slice A63 ((orderL (chain i)).length) c64)), (9, (.int .i64 (j : Int))), (72, (.bool false)), (73, (.slice A63 ((orderL (chain i)).length) c64)), (74, (.int .i64 (j : Int)))]) (by kernel_rfl) rfl ?_
      intro a119 hF120; clear hF118 a117
      obtain ⟨g122, rfl⟩ := row_some (hM92.get 5 rfl) (by omega)
      refine From_index (by kernel_rfl : coreAt _ 10 = some (some 75, (Go.Op.indexAddr 27 (Go.Operand.tmp 73) (Go.Operand.tmp 74)), 0, some (7, false))) hF120 (by kernel_rfl) (by kernel_rfl) (k' := 11) rfl (A := (some ⟨g122, 0, none⟩)) (ad := ⟨g122, 0, none⟩) (n := ((orderL (chain i)).length)) (cap := c64) (e := 3) (size := 1) (kd := .i64) (i := (j : Int)) (by kernel_rfl) (by kernel_rfl) rfl (by kernel_rfl) (by kernel_rfl) (by omega) (by omega) ?_
      intro a123 ea hF124; clear ea hF120 a119
      replace hF124 : Fr a123 107 [(3, (.int .i64 (i : Int))), (6, (.slice (some ⟨g108, 0, none⟩) ((raboveL (chain i)).length) c59)), (7, (.slice A60 ((chain i).length) c61)), (8, (.slice (some ⟨g122, 0, none⟩) ((orderL (chain i)).length) c64)), (9, (.int .i64 (j : Int))), (72, (.bool false)), (75, (.pointer (some ((⟨g122, 0, none⟩ : Addr).add (((j : Int)).toNat * 1)))))] := hF124.keep (keep := [3, 6, 7, 8, 9, 72, 75]) (by kernel_rfl)
      refine From_load1 (by kernel_rfl : coreAt _ 11 = some (some 76, (Go.Op.load 3 (Go.Operand.tmp 75)), 3, some (7, false))) hF124 (by kernel_rfl) (by kernel_rfl) (k' := 12) rfl (ad := ((⟨g122, 0, none⟩ : Addr).add (((j : Int)).toNat * 1))) (v := (.int .i64 (j : Int))) (by kernel_rfl) (by kernel_rfl) (rd_at (row_rd (hM92.get 5 rfl)) rfl (chain_ord hji)) ?_
      intro a125 ea hF126; clear ea hF124 a123
      replace hF126 : Fr a125 107 [(3, (.int .i64 (i : Int))), (6, (.slice (some ⟨g108, 0, none⟩) ((raboveL (chain i)).length) c59)), (7, (.slice A60 ((chain i).length) c61)), (8, (.slice (some ⟨g122, 0, none⟩) ((orderL (chain i)).length) c64)), (9, (.int .i64 (j : Int))), (72, (.bool false)), (76, (.int .i64 (j : Int)))] := hF126.keep (keep := [3, 6, 7, 8, 9, 72, 76]) (by kernel_rfl)
      refine From_pure 1 13 [3, 6, 7, 8, 9, 72, 76, 77] hF126 (env' := [(3, (.int .i64 (i : Int))), (6, (.slice (some ⟨g108, 0, none⟩) ((raboveL (chain i)).length) c59)), (7, (.slice A60 ((chain i).length) c61)), (8, (.slice (some ⟨g122, 0, none⟩) ((orderL (chain i)).length) c64)), (9, (.int .i64 (j : Int))), (72, (.bool false)), (76, (.int .i64 (j : Int))), (77, (.int .i64 (j : Int)))]) (by kernel_rfl) rfl ?_
      intro a127 hF128; clear hF126 a125
      refine From_cmp (by kernel_rfl : coreAt _ 13 = some (some 78, (Go.Op.binOp Go.BinOp.neq 3 (Go.Operand.tmp 76) (Go.Operand.tmp 77) 3), 4, some (7, false))) hF128 (by kernel_rfl) (by kernel_rfl) (k' := 14) rfl (kd := .i64) (i := (j : Int)) (j := (j : Int)) (by kernel_rfl) (by kernel_rfl) rfl ?_
      intro Bo hBo a129 ea hF130; clear ea hF128 a127
      obtain rfl : Bo = false := by
        have hkn : ¬ (((j : Int) : Int) ≠ (j : Int)) := by omega
        first | exact hBo.trans (decide_eq_true hkn) | exact hBo.trans (decide_eq_false hkn) | exact hBo.trans (beq_iff_eq.2 hkn) | exact hBo.trans (bne_iff_ne.2 hkn) | exact hBo.trans (Bool.eq_false_iff.2 (fun e => hkn (beq_iff_eq.1 e))) | exact hBo.trans (Bool.eq_false_iff.2 (fun e => hkn (bne_iff_ne.1 e)))
      clear hBo
      replace hF130 : Fr a129 107 [(3, (.int .i64 (i : Int))), (6, (.slice (some ⟨g108, 0, none⟩) ((raboveL (chain i)).length) c59)), (7, (.slice A60 ((chain i).length) c61)), (8, (.slice (some ⟨g122, 0, none⟩) ((orderL (chain i)).length) c64)), (9, (.int .i64 (j : Int))), (72, (.bool false)), (78, (.bool false))] := hF130.keep (keep := [3, 6, 7, 8, 9, 72, 78]) (by kernel_rfl)
      refine From_pure 1 15 [3, 6, 7, 8, 9, 79] hF130 (env' := [(3, (.int .i64 (i : Int))), (6, (.slice (some ⟨g108, 0, none⟩) ((raboveL (chain i)).length) c59)), (7, (.slice A60 ((chain i).length) c61)), (8, (.slice (some ⟨g122, 0, none⟩) ((orderL (chain i)).length) c64)), (9, (.int .i64 (j : Int))), (79, (.bool false))]) (by kernel_rfl) rfl ?_
      intro a131 hF132; clear hF130 a129
      refine From_end (by kernel_rfl) ?_
      refine W_cond (t := 79) (B := false) (by kernel_rfl) hF132 (by kernel_rfl) (fun t => Bool.noConfusion t) (fun _ => ?_)
      refine W_skip (by kernel_rfl) ?_
      refine W_seq (by kernel_rfl) ?_
      refine W_region (by kernel_rfl) ?_   -- region 16
      refine From_pure 2 2 [3, 6, 7, 8, 9, 80, 81] hF132 (env' := [(3, (.int .i64 (i : Int))), (6, (.slice (some ⟨g108, 0, none⟩) ((raboveL (chain i)).length) c59)), (7, (.slice A60 ((chain i).length) c61)), (8, (.slice (some ⟨g122, 0, none⟩) ((orderL (chain i)).length) c64)), (9, (.int .i64 (j : Int))), (80, (.int .i64 (j : Int))), (81, (.int .i64 (i : Int)))]) (by kernel_rfl) rfl ?_
      intro a133 hF134; clear hF132 a131
      refine From_cmp (by kernel_rfl : coreAt _ 2 = some (some 82, (Go.Op.binOp Go.BinOp.lss 3 (Go.Operand.tmp 80) (Go.Operand.tmp 81) 3), 4, none)) hF134 (by kernel_rfl) (by kernel_rfl) (k' := 3) rfl (kd := .i64) (i := (j : Int)) (j := (i : Int)) (by kernel_rfl) (by kernel_rfl) rfl ?_
      intro Bik hBik a135 ea hF136; clear ea hF134 a133
      replace hF136 : Fr a135 107 [(3, (.int .i64 (i : Int))), (6, (.slice (some ⟨g108, 0, none⟩) ((raboveL (chain i)).length) c59)), (7, (.slice A60 ((chain i).length) c61)), (8, (.slice (some ⟨g122, 0, none⟩) ((orderL (chain i)).length) c64)), (9, (.int .i64 (j : Int))), (82, (.bool Bik))] := hF136.keep (keep := [3, 6, 7, 8, 9, 82]) (by kernel_rfl)
      refine From_pure 1 4 [3, 6, 7, 8, 9, 83] hF136 (env' := [(3, (.int .i64 (i : Int))), (6, (.slice (some ⟨g108, 0, none⟩) ((raboveL (chain i)).length) c59)), (7, (.slice A60 ((chain i).length) c61)), (8, (.slice (some ⟨g122, 0, none⟩) ((orderL (chain i)).length) c64)), (9, (.int .i64 (j : Int))), (83, (.bool Bik))]) (by kernel_rfl) rfl ?_
      intro a137 hF138; clear hF136 a135
      cases Bik
      · have cik : ¬ ((j : Int) < (i : Int)) := by first | exact of_decide_eq_true hBik.symm | exact of_decide_eq_false hBik.symm | exact beq_iff_eq.1 hBik.symm | exact bne_iff_ne.1 hBik.symm | exact (fun e => Bool.false_ne_true (hBik.trans (beq_iff_eq.2 e))) | exact (fun e => Bool.false_ne_true (hBik.trans (bne_iff_ne.2 e)))
        have hji2 : j = i := by omega
        obtain ⟨Ae, ce, hre⟩ := hfrows62.get (show (redgeL (chain i))[j]? = some [] by rw [hji2]; exact chain_edge_end i)
        refine From_pure 12 16 [3, 6, 7, 8, 9, 93, 94, 95] hF138 (env' := [(3, (.int .i64 (i : Int))), (6, (.slice (some ⟨g108, 0, none⟩) ((raboveL (chain i)).length) c59)), (7, (.slice A60 ((chain i).length) c61)), (8, (.slice (some ⟨g122, 0, none⟩) ((orderL (chain i)).length) c64)), (9, (.int .i64 (j : Int))), (93, (.bool false)), (94, (.int .i64 (j : Int))), (95, (.int .i64 (i : Int)))]) (by kernel_rfl) rfl ?_
        intro a139 hF140; clear hF138 a137
        refine From_cmp (by kernel_rfl : coreAt _ 16 = some (some 96, (Go.Op.binOp Go.BinOp.eql 3 (Go.Operand.tmp 94) (Go.Operand.tmp 95) 3), 4, some (13, false))) hF140 (by kernel_rfl) (by kernel_rfl) (k' := 17) rfl (kd := .i64) (i := (j : Int)) (j := (i : Int)) (by kernel_rfl) (by kernel_rfl) rfl ?_
        intro Bjk hBjk a141 ea hF142; clear ea hF140 a139
        replace hF142 : Fr a141 107 [(3, (.int .i64 (i : Int))), (6, (.slice (some ⟨g108, 0, none⟩) ((raboveL (chain i)).length) c59)), (7, (.slice A60 ((chain i).length) c61)), (8, (.slice (some ⟨g122, 0, none⟩) ((orderL (chain i)).length) c64)), (9, (.int .i64 (j : Int))), (93, (.bool false)), (96, (.bool Bjk))] := hF142.keep (keep := [3, 6, 7, 8, 9, 93, 96]) (by kernel_rfl)
        refine From_pure 1 18 [3, 6, 7, 8, 9, 93, 97] hF142 (env' := [(3, (.int .i64 (i : Int))), (6, (.slice (some ⟨g108, 0, none⟩) ((raboveL (chain i)).length) c59)), (7, (.slice A60 ((chain i).length) c61)), (8, (.slice (some ⟨g122, 0, none⟩) ((orderL (chain i)).length) c64)), (9, (.int .i64 (j : Int))), (93, (.bool false)), (97, (.bool Bjk))]) (by kernel_rfl) rfl ?_
        intro a143 hF144; clear hF142 a141
        cases Bjk
        · have cjk : ¬ ((j : Int) = (i : Int)) := by first | exact of_decide_eq_true hBjk.symm | exact of_decide_eq_false hBjk.symm | exact beq_iff_eq.1 hBjk.symm | exact bne_iff_ne.1 hBjk.symm | exact (fun e => Bool.false_ne_true (hBjk.trans (beq_iff_eq.2 e))) | exact (fun e => Bool.false_ne_true (hBjk.trans (bne_iff_ne.2 e)))
          exfalso; omega
        · have cjk : (j : Int) = (i : Int) := by first | exact of_decide_eq_true hBjk.symm | exact of_decide_eq_false hBjk.symm | exact beq_iff_eq.1 hBjk.symm | exact bne_iff_ne.1 hBjk.symm | exact (fun e => Bool.false_ne_true (hBjk.trans (beq_iff_eq.2 e))) | exact (fun e => Bool.false_ne_true (hBjk.trans (bne_iff_ne.2 e)))
          refine From_pure 2 20 [3, 6, 7, 8, 9, 93, 97, 98, 99] hF144 (env' := [(3, (.int .i64 (i : Int))), (6, (.slice (some ⟨g108, 0, none⟩) ((raboveL (chain i)).length) c59)), (7, (.slice A60 ((chain i).length) c61)), (8, (.slice (some ⟨g122, 0, none⟩) ((orderL (chain i)).length) c64)), (9, (.int .i64 (j : Int))), (93, (.bool false)), (97, (.bool true)), (98, (.slice A60 ((chain i).length) c61)), (99, (.int .i64 (j : Int)))]) (by kernel_rfl) rfl ?_
          intro a145 hF146; clear hF144 a143
          obtain ⟨g148, rfl⟩ := row_some (hM92.get 4 rfl) (by omega)
          refine From_index (by kernel_rfl : coreAt _ 20 = some (some 100, (Go.Op.indexAddr 31 (Go.Operand.tmp 98) (Go.Operand.tmp 99)), 0, some (17, true))) hF146 (by kernel_rfl) (by kernel_rfl) (k' := 21) rfl (A := (some ⟨g148, 0, none⟩)) (ad := ⟨g148, 0, none⟩) (n := ((chain i).length)) (cap := c61) (e := 27) (size := 1) (kd := .i64) (i := (j : Int)) (by kernel_rfl) (by kernel_rfl) rfl (by kernel_rfl) (by kernel_rfl) (by omega) (by omega) ?_
          intro a149 ea hF150; clear ea hF146 a145
          replace hF150 : Fr a149 107 [(3, (.int .i64 (i : Int))), (6, (.slice (some ⟨g108, 0, none⟩) ((raboveL (chain i)).length) c59)), (7, (.slice (some ⟨g148, 0, none⟩) ((chain i).length) c61)), (8, (.slice (some ⟨g122, 0, none⟩) ((orderL (chain i)).length) c64)), (9, (.int .i64 (j : Int))), (93, (.bool false)), (97, (.bool true)), (100, (.pointer (some ((⟨g148, 0, none⟩ : Addr).add (((j : Int)).toNat * 1)))))] := hF150.keep (keep := [3, 6, 7, 8, 9, 93, 97, 100]) (by kernel_rfl)
          refine From_load1 (by kernel_rfl : coreAt _ 21 = some (some 101, (Go.Op.load 27 (Go.Operand.tmp 100)), 27, some (17, true))) hF150 (by kernel_rfl) (by kernel_rfl) (k' := 22) rfl (ad := ((⟨g148, 0, none⟩ : Addr).add (((j : Int)).toNat * 1))) (v := (.slice Ae (([] : List Int).length) ce)) (by kernel_rfl) (by kernel_rfl) (rd_get1 (row_rd (hM92.get 4 rfl)) rfl (slv_get hre)) ?_
          intro a151 ea hF152; clear ea hF150 a149
          replace hF152 : Fr a151 107 [(3, (.int .i64 (i : Int))), (6, (.slice (some ⟨g108, 0, none⟩) ((raboveL (chain i)).length) c59)), (7, (.slice (some ⟨g148, 0, none⟩) ((chain i).length) c61)), (8, (.slice (some ⟨g122, 0, none⟩) ((orderL (chain i)).length) c64)), (9, (.int .i64 (j : Int))), (93, (.bool false)), (97, (.bool true)), (101, (.slice Ae (([] : List Int).length) ce))] := hF152.keep (keep := [3, 6, 7, 8, 9, 93, 97, 101]) (by kernel_rfl)
          refine From_pure 1 23 [3, 6, 7, 8, 9, 93, 97, 102] hF152 (env' := [(3, (.int .i64 (i : Int))), (6, (.slice (some ⟨g108, 0, none⟩) ((raboveL (chain i)).length) c59)), (7, (.slice (some ⟨g148, 0, none⟩) ((chain i).length) c61)), (8, (.slice (some ⟨g122, 0, none⟩) ((orderL (chain i)).length) c64)), (9, (.int .i64 (j : Int))), (93, (.bool false)), (97, (.bool true)), (102, (.int .i64 ((([] : List Int).length : Nat) : Int)))]) (by kernel_rfl) rfl ?_
          intro a153 hF154; clear hF152 a151
          refine From_cmp (by kernel_rfl : coreAt _ 23 = some (some 103, (Go.Op.binOp Go.BinOp.neq 3 (Go.Operand.tmp 102) (Go.Operand.const (Go.Value.int Go.IntKind.i64 0)) 3), 4, some (17, true))) hF154 (by kernel_rfl) (by kernel_rfl) (k' := 24) rfl (kd := .i64) (i := ((([] : List Int).length : Nat) : Int)) (j := 0) (by kernel_rfl) (by kernel_rfl) rfl ?_
          intro Bn0 hBn0 a155 ea hF156; clear ea hF154 a153
          obtain rfl : Bn0 = false := by
            have hkn : ¬ ((((([] : List Int).length : Nat) : Int) : Int) ≠ 0) := by simp
            first | exact hBn0.trans (decide_eq_true hkn) | exact hBn0.trans (decide_eq_false hkn) | exact hBn0.trans (beq_iff_eq.2 hkn) | exact hBn0.trans (bne_iff_ne.2 hkn) | exact hBn0.trans (Bool.eq_false_iff.2 (fun e => hkn (beq_iff_eq.1 e))) | exact hBn0.trans (Bool.eq_false_iff.2 (fun e => hkn (bne_iff_ne.1 e)))
          clear hBn0
          replace hF156 : Fr a155 107 [(3, (.int .i64 (i : Int))), (6, (.slice (some ⟨g108, 0, none⟩) ((raboveL (chain i)).length) c59)), (7, (.slice (some ⟨g148, 0, none⟩) ((chain i).length) c61)), (8, (.slice (some ⟨g122, 0, none⟩) ((orderL (chain i)).length) c64)), (9, (.int .i64 (j : Int))), (93, (.bool false)), (97, (.bool true)), (103, (.bool false))] := hF156.keep (keep := [3, 6, 7, 8, 9, 93, 97, 103]) (by kernel_rfl)
          refine From_pure 2 26 [3, 6, 7, 8, 9, 105] hF156 (env' := [(3, (.int .i64 (i : Int))), (6, (.slice (some ⟨g108, 0, none⟩) ((raboveL (chain i)).length) c59)), (7, (.slice (some ⟨g148, 0, none⟩) ((chain i).length) c61)), (8, (.slice (some ⟨g122, 0, none⟩) ((orderL (chain i)).length) c64)), (9, (.int .i64 (j : Int))), (105, (.bool false))]) (by kernel_rfl) rfl ?_
          intro a157 hF158; clear hF156 a155
          refine From_end (by kernel_rfl) ?_
          refine W_cond (t := 105) (B := false) (by kernel_rfl) hF158 (by kernel_rfl) (fun t => Bool.noConfusion t) (fun _ => ?_)
          refine W_skip (by kernel_rfl) ?_
          refine W_region (by kernel_rfl) ?_   -- region 13
          refine From_pure 1 1 [3, 6, 7, 8, 63] hF158 (env' := [(3, (.int .i64 (i : Int))), (6, (.slice (some ⟨g108, 0, none⟩) ((raboveL (chain i)).length) c59)), (7, (.slice (some ⟨g148, 0, none⟩) ((chain i).length) c61)), (8, (.slice (some ⟨g122, 0, none⟩) ((orderL (chain i)).length) c64)), (63, (.int .i64 (j : Int)))]) (by kernel_rfl) rfl ?_
          intro a159 hF160; clear hF158 a157
          refine From_arith (by kernel_rfl : coreAt _ 1 = some (some 64, (Go.Op.binOp Go.BinOp.add 3 (Go.Operand.tmp 63) (Go.Operand.const (Go.Value.int Go.IntKind.i64 1)) 3), 3, none)) hF160 (by kernel_rfl) (by kernel_rfl) (k' := 2) rfl (i := (j : Int)) (j := 1) (z := ((j : Int) + 1)) (by kernel_rfl) (by kernel_rfl) rfl (by omega) (by omega) ?_
          intro a161 ea hF162; clear ea hF160 a159
          replace hF162 : Fr a161 107 [(3, (.int .i64 (i : Int))), (6, (.slice (some ⟨g108, 0, none⟩) ((raboveL (chain i)).length) c59)), (7, (.slice (some ⟨g148, 0, none⟩) ((chain i).length) c61)), (8, (.slice (some ⟨g122, 0, none⟩) ((orderL (chain i)).length) c64)), (64, (.int .i64 ((j : Int) + 1)))] := hF162.keep (keep := [3, 6, 7, 8, 64]) (by kernel_rfl)
          refine From_pure 1 3 [3, 6, 7, 8, 9] hF162 (env' := [(3, (.int .i64 (i : Int))), (6, (.slice (some ⟨g108, 0, none⟩) ((raboveL (chain i)).length) c59)), (7, (.slice (some ⟨g148, 0, none⟩) ((chain i).length) c61)), (8, (.slice (some ⟨g122, 0, none⟩) ((orderL (chain i)).length) c64)), (9, (.int .i64 ((j : Int) + 1)))]) (by kernel_rfl) rfl ?_
          intro a163 hF164; clear hF162 a161
          refine From_end (by kernel_rfl) ?_
          exact ⟨i + 1 - (j + 1), by omega, j + 1, rfl, hF164.keep (keep := [3, 6, 7, 8, 9]) (by kernel_rfl), (hM92.pick [true, true, true, true, true, true] rfl), by omega⟩
      · have cik : (j : Int) < (i : Int) := by first | exact of_decide_eq_true hBik.symm | exact of_decide_eq_false hBik.symm | exact beq_iff_eq.1 hBik.symm | exact bne_iff_ne.1 hBik.symm | exact (fun e => Bool.false_ne_true (hBik.trans (beq_iff_eq.2 e))) | exact (fun e => Bool.false_ne_true (hBik.trans (bne_iff_ne.2 e)))
        obtain ⟨Ae, ce, hre⟩ := hfrows62.get (chain_edge (k := i) (b := j) (by omega))
        refine From_pure 2 6 [3, 6, 7, 8, 9, 83, 84, 85] hF138 (env' := [(3, (.int .i64 (i : Int))), (6, (.slice (some ⟨g108, 0, none⟩) ((raboveL (chain i)).length) c59)), (7, (.slice A60 ((chain i).length) c61)), (8, (.slice (some ⟨g122, 0, none⟩) ((orderL (chain i)).length) c64)), (9, (.int .i64 (j : Int))), (83, (.bool true)), (84, (.slice A60 ((chain i).length) c61)), (85, (.int .i64 (j : Int)))]) (by kernel_rfl) rfl ?_
        intro a165 hF166; clear hF138 a137
        obtain ⟨g168, rfl⟩ := row_some (hM92.get 4 rfl) (by omega)
        refine From_index (by kernel_rfl : coreAt _ 6 = some (some 86, (Go.Op.indexAddr 31 (Go.Operand.tmp 84) (Go.Operand.tmp 85)), 0, some (3, true))) hF166 (by kernel_rfl) (by kernel_rfl) (k' := 7) rfl (A := (some ⟨g168, 0, none⟩)) (ad := ⟨g168, 0, none⟩) (n := ((chain i).length)) (cap := c61) (e := 27) (size := 1) (kd := .i64) (i := (j : Int)) (by kernel_rfl) (by kernel_rfl) rfl (by kernel_rfl) (by kernel_rfl) (by omega) (by omega) ?_
        intro a169 ea hF170; clear ea hF166 a165
        replace hF170 : Fr a169 107 [(3, (.int .i64 (i : Int))), (6, (.slice (some ⟨g108, 0, none⟩) ((raboveL (chain i)).length) c59)), (7, (.slice (some ⟨g168, 0, none⟩) ((chain i).length) c61)), (8, (.slice (some ⟨g122, 0, none⟩) ((orderL (chain i)).length) c64)), (9, (.int .i64 (j : Int))), (83, (.bool true)), (86, (.pointer (some ((⟨g168, 0, none⟩ : Addr).add (((j : Int)).toNat * 1)))))] := hF170.keep (keep := [3, 6, 7, 8, 9, 83, 86]) (by kernel_rfl)
        refine From_load1 (by kernel_rfl : coreAt _ 7 = some (some 87, (Go.Op.load 27 (Go.Operand.tmp 86)), 27, some (3, true))) hF170 (by kernel_rfl) (by kernel_rfl) (k' := 8) rfl (ad := ((⟨g168, 0, none⟩ : Addr).add (((j : Int)).toNat * 1))) (v := (.slice Ae ([(j : Int)].length) ce)) (by kernel_rfl) (by kernel_rfl) (rd_get1 (row_rd (hM92.get 4 rfl)) rfl (slv_get hre)) ?_
        intro a171 ea hF172; clear ea hF170 a169
        replace hF172 : Fr a171 107 [(3, (.int .i64 (i : Int))), (6, (.slice (some ⟨g108, 0, none⟩) ((raboveL (chain i)).length) c59)), (7, (.slice (some ⟨g168, 0, none⟩) ((chain i).length) c61)), (8, (.slice (some ⟨g122, 0, none⟩) ((orderL (chain i)).length) c64)), (9, (.int .i64 (j : Int))), (83, (.bool true)), (87, (.slice Ae ([(j : Int)].length) ce))] := hF172.keep (keep := [3, 6, 7, 8, 9, 83, 87]) (by kernel_rfl)
        refine From_pure 1 9 [3, 6, 7, 8, 9, 83, 87, 88] hF172 (env' := [(3, (.int .i64 (i : Int))), (6, (.slice (some ⟨g108, 0, none⟩) ((raboveL (chain i)).length) c59)), (7, (.slice (some ⟨g168, 0, none⟩) ((chain i).length) c61)), (8, (.slice (some ⟨g122, 0, none⟩) ((orderL (chain i)).length) c64)), (9, (.int .i64 (j : Int))), (83, (.bool true)), (87, (.slice Ae ([(j : Int)].length) ce)), (88, (.int .i64 (j : Int)))]) (by kernel_rfl) rfl ?_
        intro a173 hF174; clear hF172 a171
        refine From_buildSlice (by kernel_rfl : coreAt _ 9 = some (some 89, (Go.Op.buildSlice 27 1 #[(0, (Go.Operand.tmp 88))]), 27, some (3, true))) hF174 (by kernel_rfl) (by kernel_rfl) (k' := 10) rfl (e := 3) (size := 1) (zs := [(.int .i64 0)]) (vs := [(0, (.int .i64 (j : Int)))]) (cs := [(.int .i64 (j : Int))]) (by kernel_rfl) (by kernel_rfl) (by kernel_rfl) (by kernel_rfl) (by kernel_rfl) (by kernel_rfl) hM92 ?_
        intro b175 w176 hb175 _ hM177 _ a178 ea hF179; clear ea hF174 a173
        change Mem noS w w176 [.blk b15 24 [(.string ⟨#[]⟩), (.bool false), (.int .i64 0), (.int .i64 0), (.slice A45 ((chain i).length) c46)], .row 38 6 A45 ((chain i).length) c46 ((chain i).flatMap SB.cells), .row 3 1 (some ⟨g108, 0, none⟩) ((raboveL (chain i)).length) c59 (ints (raboveL (chain i))), .fam 3 rows62, .row 27 1 (some ⟨g168, 0, none⟩) ((chain i).length) c61 (slv rows62), .row 3 1 (some ⟨g122, 0, none⟩) ((orderL (chain i)).length) c64 (ints (orderL (chain i))), .row 3 1 (some ⟨b175, 0, none⟩) 1 1 [(.int .i64 (j : Int))]] at hM177
        clear hM92
        replace hF179 : Fr a178 107 [(3, (.int .i64 (i : Int))), (6, (.slice (some ⟨g108, 0, none⟩) ((raboveL (chain i)).length) c59)), (7, (.slice (some ⟨g168, 0, none⟩) ((chain i).length) c61)), (8, (.slice (some ⟨g122, 0, none⟩) ((orderL (chain i)).length) c64)), (9, (.int .i64 (j : Int))), (83, (.bool true)), (87, (.slice Ae ([(j : Int)].length) ce)), (89, (.slice (some ⟨b175, 0, none⟩) 1 1))] := hF179.keep (keep := [3, 6, 7, 8, 9, 83, 87, 89]) (by kernel_rfl)
        refine From_call (by kernel_rfl : coreAt _ 10 = some (some 90, (Go.Op.call { callee := (Go.Callee.value (Go.Operand.func 10)), args := #[(Go.Operand.tmp 87), (Go.Operand.tmp 89)], argTypes := #[27, 27] }), 4, some (3, true))) hF179 (by kernel_rfl) (by kernel_rfl) (k' := 11) rfl (f := 10) (vs := [(.slice Ae ([(j : Int)].length) ce), (.slice (some ⟨b175, 0, none⟩) 1 1)]) (cap := []) (by kernel_rfl) (by kernel_rfl) (by kernel_rfl) (same_c [(j : Int)] [(j : Int)] Ae (some ⟨b175, 0, none⟩) ce 1 w176 (by simp) (RO.row_rd (RO.fam_rd (hM177.own_ro 3 rfl) hre)) (RO.row_rd (hM177.own_ro 6 rfl))) ?_
        rintro _ w180 ⟨rfl, hM181x⟩ a182 ea hF183; clear ea hF179 a178
        have hM181 : Mem noS w w180 [.blk b15 24 [(.string ⟨#[]⟩), (.bool false), (.int .i64 0), (.int .i64 0), (.slice A45 ((chain i).length) c46)], .row 38 6 A45 ((chain i).length) c46 ((chain i).flatMap SB.cells), .row 3 1 (some ⟨g108, 0, none⟩) ((raboveL (chain i)).length) c59 (ints (raboveL (chain i))), .fam 3 rows62, .row 27 1 (some ⟨g168, 0, none⟩) ((chain i).length) c61 (slv rows62), .row 3 1 (some ⟨g122, 0, none⟩) ((orderL (chain i)).length) c64 (ints (orderL (chain i))), .row 3 1 (some ⟨b175, 0, none⟩) 1 1 [(.int .i64 (j : Int))]] := hM177.call hM181x
        clear hM181x hM177
        replace hF183 : Fr a182 107 (putE [(3, (.int .i64 (i : Int))), (6, (.slice (some ⟨g108, 0, none⟩) ((raboveL (chain i)).length) c59)), (7, (.slice (some ⟨g168, 0, none⟩) ((chain i).length) c61)), (8, (.slice (some ⟨g122, 0, none⟩) ((orderL (chain i)).length) c64)), (9, (.int .i64 (j : Int))), (83, (.bool true)), (87, (.slice Ae ([(j : Int)].length) ce)), (89, (.slice (some ⟨b175, 0, none⟩) 1 1))] (some 90) (.bool (decide ([(j : Int)] = [(j : Int)])))) := hF183
        obtain ⟨Bsm, hBsm⟩ : ∃ B, B = decide ([(j : Int)] = [(j : Int)]) := ⟨_, rfl⟩
        rw [← hBsm] at hF183
        obtain rfl : Bsm = true := by rw [hBsm]; exact by simp
        clear hBsm
        replace hF183 : Fr a182 107 [(3, (.int .i64 (i : Int))), (6, (.slice (some ⟨g108, 0, none⟩) ((raboveL (chain i)).length) c59)), (7, (.slice (some ⟨g168, 0, none⟩) ((chain i).length) c61)), (8, (.slice (some ⟨g122, 0, none⟩) ((orderL (chain i)).length) c64)), (9, (.int .i64 (j : Int))), (83, (.bool true)), (90, (.bool true))] := hF183.keep (keep := [3, 6, 7, 8, 9, 83, 90]) (by kernel_rfl)
        refine From_pure 5 16 [3, 6, 7, 8, 9, 93, 94, 95] hF183 (env' := [(3, (.int .i64 (i : Int))), (6, (.slice (some ⟨g108, 0, none⟩) ((raboveL (chain i)).length) c59)), (7, (.slice (some ⟨g168, 0, none⟩) ((chain i).length) c61)), (8, (.slice (some ⟨g122, 0, none⟩) ((orderL (chain i)).length) c64)), (9, (.int .i64 (j : Int))), (93, (.bool false)), (94, (.int .i64 (j : Int))), (95, (.int .i64 (i : Int)))]) (by kernel_rfl) rfl ?_
        intro a184 hF185; clear hF183 a182
        refine From_cmp (by kernel_rfl : coreAt _ 16 = some (some 96, (Go.Op.binOp Go.BinOp.eql 3 (Go.Operand.tmp 94) (Go.Operand.tmp 95) 3), 4, some (13, false))) hF185 (by kernel_rfl) (by kernel_rfl) (k' := 17) rfl (kd := .i64) (i := (j : Int)) (j := (i : Int)) (by kernel_rfl) (by kernel_rfl) rfl ?_
        intro Bjk hBjk a186 ea hF187; clear ea hF185 a184
        replace hF187 : Fr a186 107 [(3, (.int .i64 (i : Int))), (6, (.slice (some ⟨g108, 0, none⟩) ((raboveL (chain i)).length) c59)), (7, (.slice (some ⟨g168, 0, none⟩) ((chain i).length) c61)), (8, (.slice (some ⟨g122, 0, none⟩) ((orderL (chain i)).length) c64)), (9, (.int .i64 (j : Int))), (93, (.bool false)), (96, (.bool Bjk))] := hF187.keep (keep := [3, 6, 7, 8, 9, 93, 96]) (by kernel_rfl)
        refine From_pure 1 18 [3, 6, 7, 8, 9, 93, 97] hF187 (env' := [(3, (.int .i64 (i : Int))), (6, (.slice (some ⟨g108, 0, none⟩) ((raboveL (chain i)).length) c59)), (7, (.slice (some ⟨g168, 0, none⟩) ((chain i).length) c61)), (8, (.slice (some ⟨g122, 0, none⟩) ((orderL (chain i)).length) c64)), (9, (.int .i64 (j : Int))), (93, (.bool false)), (97, (.bool Bjk))]) (by kernel_rfl) rfl ?_
        intro a188 hF189; clear hF187 a186
        cases Bjk
        · have cjk : ¬ ((j : Int) = (i : Int)) := by first | exact of_decide_eq_true hBjk.symm | exact of_decide_eq_false hBjk.symm | exact beq_iff_eq.1 hBjk.symm | exact bne_iff_ne.1 hBjk.symm | exact (fun e => Bool.false_ne_true (hBjk.trans (beq_iff_eq.2 e))) | exact (fun e => Bool.false_ne_true (hBjk.trans (bne_iff_ne.2 e)))
          refine From_pure 8 26 [3, 6, 7, 8, 9, 105] hF189 (env' := [(3, (.int .i64 (i : Int))), (6, (.slice (some ⟨g108, 0, none⟩) ((raboveL (chain i)).length) c59)), (7, (.slice (some ⟨g168, 0, none⟩) ((chain i).length) c61)), (8, (.slice (some ⟨g122, 0, none⟩) ((orderL (chain i)).length) c64)), (9, (.int .i64 (j : Int))), (105, (.bool false))]) (by kernel_rfl) rfl ?_
          intro a190 hF191; clear hF189 a188
          refine From_end (by kernel_rfl) ?_
          refine W_cond (t := 105) (B := false) (by kernel_rfl) hF191 (by kernel_rfl) (fun t => Bool.noConfusion t) (fun _ => ?_)
          refine W_skip (by kernel_rfl) ?_
          refine W_region (by kernel_rfl) ?_   -- region 13
          refine From_pure 1 1 [3, 6, 7, 8, 63] hF191 (env' := [(3, (.int .i64 (i : Int))), (6, (.slice (some ⟨g108, 0, none⟩) ((raboveL (chain i)).length) c59)), (7, (.slice (some ⟨g168, 0, none⟩) ((chain i).length) c61)), (8, (.slice (some ⟨g122, 0, none⟩) ((orderL (chain i)).length) c64)), (63, (.int .i64 (j : Int)))]) (by kernel_rfl) rfl ?_
          intro a192 hF193; clear hF191 a190
          refine From_arith (by kernel_rfl : coreAt _ 1 = some (some 64, (Go.Op.binOp Go.BinOp.add 3 (Go.Operand.tmp 63) (Go.Operand.const (Go.Value.int Go.IntKind.i64 1)) 3), 3, none)) hF193 (by kernel_rfl) (by kernel_rfl) (k' := 2) rfl (i := (j : Int)) (j := 1) (z := ((j : Int) + 1)) (by kernel_rfl) (by kernel_rfl) rfl (by omega) (by omega) ?_
          intro a194 ea hF195; clear ea hF193 a192
          replace hF195 : Fr a194 107 [(3, (.int .i64 (i : Int))), (6, (.slice (some ⟨g108, 0, none⟩) ((raboveL (chain i)).length) c59)), (7, (.slice (some ⟨g168, 0, none⟩) ((chain i).length) c61)), (8, (.slice (some ⟨g122, 0, none⟩) ((orderL (chain i)).length) c64)), (64, (.int .i64 ((j : Int) + 1)))] := hF195.keep (keep := [3, 6, 7, 8, 64]) (by kernel_rfl)
          refine From_pure 1 3 [3, 6, 7, 8, 9] hF195 (env' := [(3, (.int .i64 (i : Int))), (6, (.slice (some ⟨g108, 0, none⟩) ((raboveL (chain i)).length) c59)), (7, (.slice (some ⟨g168, 0, none⟩) ((chain i).length) c61)), (8, (.slice (some ⟨g122, 0, none⟩) ((orderL (chain i)).length) c64)), (9, (.int .i64 ((j : Int) + 1)))]) (by kernel_rfl) rfl ?_
          intro a196 hF197; clear hF195 a194
          refine From_end (by kernel_rfl) ?_
          exact ⟨i + 1 - (j + 1), by omega, j + 1, rfl, hF197.keep (keep := [3, 6, 7, 8, 9]) (by kernel_rfl), (hM181.pick [true, true, true, true, true, true, false] rfl), by omega⟩
        · have cjk : (j : Int) = (i : Int) := by first | exact of_decide_eq_true hBjk.symm | exact of_decide_eq_false hBjk.symm | exact beq_iff_eq.1 hBjk.symm | exact bne_iff_ne.1 hBjk.symm | exact (fun e => Bool.false_ne_true (hBjk.trans (beq_iff_eq.2 e))) | exact (fun e => Bool.false_ne_true (hBjk.trans (bne_iff_ne.2 e)))
          exfalso; omega
  · have ci : (i : Int) < (k : Int) := by first | exact of_decide_eq_true hBi.symm | exact of_decide_eq_false hBi.symm | exact beq_iff_eq.1 hBi.symm | exact bne_iff_ne.1 hBi.symm | exact (fun e => Bool.false_ne_true (hBi.trans (beq_iff_eq.2 e))) | exact (fun e => Bool.false_ne_true (hBi.trans (bne_iff_ne.2 e)))
    refine W_cond (t := 17) (B := true) (by kernel_rfl) hF33 (by kernel_rfl) (fun _ => ?_) (fun t => Bool.noConfusion t)
    refine W_skip (by kernel_rfl) ?_
    refine W_seq (by kernel_rfl) ?_
    refine W_block (id := 1) (by kernel_rfl) ?_
    refine W_region (by kernel_rfl) ?_   -- region 6
    refine From_pure 1 1 [3, 4, 5, 20] hF33 (env' := [(3, (.int .i64 (k : Int))), (4, (.pointer (some ⟨b15, 0, none⟩))), (5, (.int .i64 (i : Int))), (20, (.pointer (some ⟨b15, 4, none⟩)))]) (by kernel_rfl) rfl ?_
    intro a198 hF199; clear hF33 a32
    refine From_load1 (by kernel_rfl : coreAt _ 1 = some (some 21, (Go.Op.load 22 (Go.Operand.tmp 20)), 22, none)) hF199 (by kernel_rfl) (by kernel_rfl) (k' := 2) rfl (ad := ⟨b15, 4, none⟩) (v := (.slice A2 i c2)) (by kernel_rfl) (by kernel_rfl) (blk_cell (hM27.get 0 rfl) rfl) ?_
    intro a200 ea hF201; clear ea hF199 a198
    replace hF201 : Fr a200 107 [(3, (.int .i64 (k : Int))), (4, (.pointer (some ⟨b15, 0, none⟩))), (5, (.int .i64 (i : Int))), (21, (.slice A2 i c2))] := hF201.keep (keep := [3, 4, 5, 21]) (by kernel_rfl)
    refine From_pure 1 3 [3, 4, 5, 21, 22] hF201 (env' := [(3, (.int .i64 (k : Int))), (4, (.pointer (some ⟨b15, 0, none⟩))), (5, (.int .i64 (i : Int))), (21, (.slice A2 i c2)), (22, (.int .i64 (i : Int)))]) (by kernel_rfl) rfl ?_
    intro a202 hF203; clear hF201 a200
    refine From_arith (by kernel_rfl : coreAt _ 3 = some (some 23, (Go.Op.binOp Go.BinOp.add 3 (Go.Operand.tmp 22) (Go.Operand.const (Go.Value.int Go.IntKind.i64 1)) 3), 3, none)) hF203 (by kernel_rfl) (by kernel_rfl) (k' := 4) rfl (i := (i : Int)) (j := 1) (z := ((i : Int) + 1)) (by kernel_rfl) (by kernel_rfl) rfl (by omega) (by omega) ?_
    intro a204 ea hF205; clear ea hF203 a202
    replace hF205 : Fr a204 107 [(3, (.int .i64 (k : Int))), (4, (.pointer (some ⟨b15, 0, none⟩))), (5, (.int .i64 (i : Int))), (21, (.slice A2 i c2)), (23, (.int .i64 ((i : Int) + 1)))] := hF205.keep (keep := [3, 4, 5, 21, 23]) (by kernel_rfl)
    refine From_pure 2 6 [3, 4, 5, 21, 25] hF205 (env' := [(3, (.int .i64 (k : Int))), (4, (.pointer (some ⟨b15, 0, none⟩))), (5, (.int .i64 (i : Int))), (21, (.slice A2 i c2)), (25, (.agg #[(.slice none 0 0), (.slice none 0 0), (.int .i64 1), (.int .i64 0), (.int .i64 ((i : Int) + 1)), (.int .i64 (i : Int))]))]) (by kernel_rfl) rfl ?_
    intro a206 hF207; clear hF205 a204
    refine From_buildSlice (by kernel_rfl : coreAt _ 6 = some (some 26, (Go.Op.buildSlice 22 1 #[(0, (Go.Operand.tmp 25))]), 22, none)) hF207 (by kernel_rfl) (by kernel_rfl) (k' := 7) rfl (e := 38) (size := 6) (zs := [(.slice none 0 0), (.slice none 0 0), (.int .i64 0), (.int .i64 0), (.int .i64 0), (.int .i64 0)]) (vs := [(0, (.agg #[(.slice none 0 0), (.slice none 0 0), (.int .i64 1), (.int .i64 0), (.int .i64 ((i : Int) + 1)), (.int .i64 (i : Int))]))]) (cs := [(.slice none 0 0), (.slice none 0 0), (.int .i64 1), (.int .i64 0), (.int .i64 ((i : Int) + 1)), (.int .i64 (i : Int))]) (by kernel_rfl) (by kernel_rfl) (by kernel_rfl) (by kernel_rfl) (by kernel_rfl) (by kernel_rfl) hM27 ?_
    intro b208 w209 hb208 _ hM210 _ a211 ea hF212; clear ea hF207 a206
    change Mem noS w w209 [.blk b15 24 [(.string ⟨#[]⟩), (.bool false), (.int .i64 0), (.int .i64 0), (.slice A2 i c2)], .row 38 6 A2 i c2 ((lnks i).flatMap SB.cells), .row 38 6 (some ⟨b208, 0, none⟩) 1 1 [(.slice none 0 0), (.slice none 0 0), (.int .i64 1), (.int .i64 0), (.int .i64 ((i : Int) + 1)), (.int .i64 (i : Int))]] at hM210
    clear hM27
    replace hF212 : Fr a211 107 [(3, (.int .i64 (k : Int))), (4, (.pointer (some ⟨b15, 0, none⟩))), (5, (.int .i64 (i : Int))), (21, (.slice A2 i c2)), (26, (.slice (some ⟨b208, 0, none⟩) 1 1))] := hF212.keep (keep := [3, 4, 5, 21, 26]) (by kernel_rfl)
    refine From_append (by kernel_rfl : coreAt _ 7 = some (some 27, (Go.Op.call { callee := (Go.Callee.builtin Go.Builtin.append), args := #[(Go.Operand.tmp 21), (Go.Operand.tmp 26)], argTypes := #[22, 22] }), 22, none)) hF212 (by kernel_rfl) (by kernel_rfl) (k' := 8) rfl (e := 38) (size := 6) (bytes := 80) (z := (.agg #[(.slice none 0 0), (.slice none 0 0), (.int .i64 0), (.int .i64 0), (.int .i64 0), (.int .i64 0)])) (by kernel_rfl) (by kernel_rfl) (by kernel_rfl) (by kernel_rfl) (A := A2) (B := (some ⟨b208, 0, none⟩)) (n := i) (cap := c2) (m := 1) (cap' := 1) (xs := ((lnks i).flatMap SB.cells)) (news := [(.slice none 0 0), (.slice none 0 0), (.int .i64 1), (.int .i64 0), (.int .i64 ((i : Int) + 1)), (.int .i64 (i : Int))]) (by kernel_rfl) (by kernel_rfl) hM210 1 rfl (row_rd (hM210.get 2 rfl)) rfl (by simp [Value.oneCell']) (by omega) (by simp only [maxLen]; omega) ?_
    intro A213 c214 w215 hM216 _ a217 ea hF218; clear ea hF212 a211
    change Mem noS w w215 [.blk b15 24 [(.string ⟨#[]⟩), (.bool false), (.int .i64 0), (.int .i64 0), (.slice A2 i c2)], .row 38 6 A213 (i + 1) c214 (((lnks i).flatMap SB.cells) ++ [(.slice none 0 0), (.slice none 0 0), (.int .i64 1), (.int .i64 0), (.int .i64 ((i : Int) + 1)), (.int .i64 (i : Int))]), .row 38 6 (some ⟨b208, 0, none⟩) 1 1 [(.slice none 0 0), (.slice none 0 0), (.int .i64 1), (.int .i64 0), (.int .i64 ((i : Int) + 1)), (.int .i64 (i : Int))]] at hM216
    clear hM210
    replace hM216 : Mem noS w w215 [.blk b15 24 [(.string ⟨#[]⟩), (.bool false), (.int .i64 0), (.int .i64 0), (.slice A2 i c2)], .row 38 6 A213 (i + 1) c214 (((lnks i).flatMap SB.cells) ++ [(.slice none 0 0), (.slice none 0 0), (.int .i64 1), (.int .i64 0), (.int .i64 ((i : Int) + 1)), (.int .i64 (i : Int))])] := hM216.pick [true, true, false] rfl
    replace hF218 : Fr a217 107 [(3, (.int .i64 (k : Int))), (4, (.pointer (some ⟨b15, 0, none⟩))), (5, (.int .i64 (i : Int))), (27, (.slice A213 (i + 1) c214))] := hF218.keep (keep := [3, 4, 5, 27]) (by kernel_rfl)
    refine From_pure 1 9 [3, 4, 5, 27, 28] hF218 (env' := [(3, (.int .i64 (k : Int))), (4, (.pointer (some ⟨b15, 0, none⟩))), (5, (.int .i64 (i : Int))), (27, (.slice A213 (i + 1) c214)), (28, (.pointer (some ⟨b15, 4, none⟩)))]) (by kernel_rfl) rfl ?_
    intro a219 hF220; clear hF218 a217
    refine From_store_blk (by kernel_rfl : coreAt _ 9 = some (none, (Go.Op.store 22 (Go.Operand.tmp 28) (Go.Operand.tmp 27)), 0, none)) hF220 (by kernel_rfl) (by kernel_rfl) (k' := 10) rfl (b := b15) (off := 4) (t0 := 24) (v := (.slice A213 (i + 1) c214)) (cs := [(.string ⟨#[]⟩), (.bool false), (.int .i64 0), (.int .i64 0), (.slice A2 i c2)]) (by kernel_rfl) (by kernel_rfl) (by kernel_rfl) rfl hM216 0 rfl (by simp) ?_
    intro w221 hM222 _ a223 ea hF224; clear ea hF220 a219
    change Mem noS w w221 [.blk b15 24 [(.string ⟨#[]⟩), (.bool false), (.int .i64 0), (.int .i64 0), (.slice A213 (i + 1) c214)], .row 38 6 A213 (i + 1) c214 (((lnks i).flatMap SB.cells) ++ [(.slice none 0 0), (.slice none 0 0), (.int .i64 1), (.int .i64 0), (.int .i64 ((i : Int) + 1)), (.int .i64 (i : Int))])] at hM222
    clear hM216
    replace hF224 : Fr a223 107 [(3, (.int .i64 (k : Int))), (4, (.pointer (some ⟨b15, 0, none⟩))), (5, (.int .i64 (i : Int)))] := hF224.keep (keep := [3, 4, 5]) (by kernel_rfl)
    refine From_end (by kernel_rfl) ?_
    refine W_region (by kernel_rfl) ?_   -- region 5
    refine From_pure 1 1 [3, 4, 18] hF224 (env' := [(3, (.int .i64 (k : Int))), (4, (.pointer (some ⟨b15, 0, none⟩))), (18, (.int .i64 (i : Int)))]) (by kernel_rfl) rfl ?_
    intro a225 hF226; clear hF224 a223
    refine From_arith (by kernel_rfl : coreAt _ 1 = some (some 19, (Go.Op.binOp Go.BinOp.add 3 (Go.Operand.tmp 18) (Go.Operand.const (Go.Value.int Go.IntKind.i64 1)) 3), 3, none)) hF226 (by kernel_rfl) (by kernel_rfl) (k' := 2) rfl (i := (i : Int)) (j := 1) (z := ((i : Int) + 1)) (by kernel_rfl) (by kernel_rfl) rfl (by omega) (by omega) ?_
    intro a227 ea hF228; clear ea hF226 a225
    replace hF228 : Fr a227 107 [(3, (.int .i64 (k : Int))), (4, (.pointer (some ⟨b15, 0, none⟩))), (19, (.int .i64 ((i : Int) + 1)))] := hF228.keep (keep := [3, 4, 19]) (by kernel_rfl)
    refine From_pure 1 3 [3, 4, 5] hF228 (env' := [(3, (.int .i64 (k : Int))), (4, (.pointer (some ⟨b15, 0, none⟩))), (5, (.int .i64 ((i : Int) + 1)))]) (by kernel_rfl) rfl ?_
    intro a229 hF230; clear hF228 a227
    refine From_end (by kernel_rfl) ?_
    exact ⟨k - (i + 1), by omega, i + 1, A213, c214, rfl, hF230.keep (keep := [3, 4, 5]) (by kernel_rfl), (hM222.cast (by rw [← lnks_flat]; rfl)), by omega⟩

end Go.Proofs.Ytlkpkinmmjcbcaa
