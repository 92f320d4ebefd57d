/-
  Walks of layer 18. Printed by wip/gen/dom.py.
-/
import Derived.Test.YtlkpkinmmjcbcaaD17
import Derived.Test.YtlkpkinmmjcbcaaM13
namespace Go.Proofs.Ytlkpkinmmjcbcaa
open Go.Mor

set_option maxRecDepth 10000 in
theorem abovef_c (nm wk pa va : Value) (A : Option Addr) (c : Nat) (bs : List SB) (w : World) (hm : bs.length ≤ 1000000) (hA : RO noS w (.blocks A bs)) :
    Calls Try.prog 13 #[(.agg #[nm, wk, pa, va, (.slice A bs.length c)])] w (Ret fun v w' => FinUp bs ∧ ∃ A' c', v = .slice A' (raboveL bs).length c' ∧ Mem noS w w' [.row 3 1 A' (raboveL bs).length c' (ints (raboveL bs))]) := by
  refine enter (N := 11) (vs := [(.agg #[nm, wk, pa, va, (.slice A bs.length c)])]) Try.func13 (by kernel_rfl) (by kernel_rfl) (by kernel_rfl) ?_
  intro a hF
  have hM := Mem.init w
  refine W_seq (by kernel_rfl) ?_
  refine W_region (by kernel_rfl) ?_   -- region 0
  refine From_box (by kernel_rfl : coreAt _ 0 = some (some 1, (Go.Op.box 24 (Go.Operand.tmp 0)), 0, none)) hF (by kernel_rfl) (by kernel_rfl) (k' := 1) rfl (v := (.agg #[nm, wk, pa, va, (.slice A bs.length c)])) (cs := [nm, wk, pa, va, (.slice A bs.length c)]) (by kernel_rfl) rfl hM ?_
  intro b1 w2 hb1 _ hM3 _ a4 ea hF5; clear ea hF a
  change Mem noS w w2 [.blk b1 24 [nm, wk, pa, va, (.slice A bs.length c)]] at hM3
  clear hM
  replace hF5 : Fr a4 11 [(1, (.pointer (some ⟨b1, 0, none⟩)))] := hF5.keep (keep := [1]) (by kernel_rfl)
  refine From_pure 1 2 [1] hF5 (env' := [(1, (.pointer (some ⟨b1, 0, none⟩)))]) (by kernel_rfl) rfl ?_
  intro a6 hF7; clear hF5 a4
  refine From_end (by kernel_rfl) ?_
  refine W_seq (by kernel_rfl) ?_
  refine W_region (by kernel_rfl) ?_   -- region 1
  refine From_loadS (by kernel_rfl : coreAt _ 0 = some (some 6, (Go.Op.load 24 (Go.Operand.tmp 1)), 24, none)) hF7 (by kernel_rfl) (by kernel_rfl) (k' := 1) rfl (ad := ⟨b1, 0, none⟩) (vs := [nm, wk, pa, va, (.slice A bs.length c)]) (by kernel_rfl) (by kernel_rfl) (blk_cells (hM3.get 0 rfl)) ?_
  intro a8 ea hF9; clear ea hF7 a6
  replace hF9 : Fr a8 11 [(6, (.agg #[nm, wk, pa, va, (.slice A bs.length c)]))] := hF9.keep (keep := [6]) (by kernel_rfl)
  refine From_call (by kernel_rfl : coreAt _ 1 = some (some 7, (Go.Op.call { callee := (Go.Callee.value (Go.Operand.func 29)), args := #[(Go.Operand.tmp 6)], argTypes := #[24] }), 54, none)) hF9 (by kernel_rfl) (by kernel_rfl) (k' := 2) rfl (f := 29) (vs := [(.agg #[nm, wk, pa, va, (.slice A bs.length c)])]) (cap := []) (by kernel_rfl) (by kernel_rfl) (by kernel_rfl) (tree_c _ _ _ _ A c bs w2 hm (hA.at_ hM3)) ?_
  rintro _ w14 ⟨A10, c11, A12, c13, rfl, hfin, hM15x⟩ a16 ea hF17; clear ea hF9 a8
  have hM15 : Mem noS w w14 [.blk b1 24 [nm, wk, pa, va, (.slice A bs.length c)], .row 3 1 A10 bs.length c11 (ints (raboveL bs)), .row 3 1 A12 bs.length c13 (ints (atL bs))] := hM3.call hM15x
  clear hM15x hM3
  replace hF17 : Fr a16 11 [(7, (.tuple #[(.slice A10 bs.length c11), (.slice A12 bs.length c13)]))] := hF17.keep (keep := [7]) (by kernel_rfl)
  refine From_pure 5 7 [3] hF17 (env' := [(3, (.slice A10 bs.length c11))]) (by kernel_rfl) rfl ?_
  intro a18 hF19; clear hF17 a16
  refine From_end (by kernel_rfl) ?_
  refine W_seq (by kernel_rfl) ?_
  refine W_region (by kernel_rfl) ?_   -- region 2
  refine From_pure 2 2 [2] hF19 (env' := [(2, (.slice A10 bs.length c11))]) (by kernel_rfl) rfl ?_
  intro a20 hF21; clear hF19 a18
  refine From_end (by kernel_rfl) ?_
  refine W_ret (by kernel_rfl) ?_
  refine out1 (v := (.slice A10 bs.length c11)) hF21 rfl (by kernel_rfl) ?_
  refine ⟨_, rfl, ?_⟩
  have hM22 : Mem noS w w14 [.row 3 1 A10 bs.length c11 (ints (raboveL bs))] := ((hM15.front 1 rfl).pick [true, false, false] rfl)
  clear hM15
  obtain ⟨A9, c9, e9, h9⟩ := row_ret hM22 rfl (raboveL_len bs).symm
  exact ⟨hfin, A9, c9, e9, h9⟩

set_option maxRecDepth 10000 in
theorem domBehind_c (nm wk pa va : Value) (A : Option Addr) (c : Nat) (bs : List SB) (w : World) (hA : RO noS w (.blocks A bs)) :
    Calls Try.prog 6 #[(.agg #[nm, wk, pa, va, (.slice A bs.length c)])] w (Ret fun v w' => v = .bool true ∧ Mem noS w w' []) := by
  refine enter (N := 169) (vs := [(.agg #[nm, wk, pa, va, (.slice A bs.length c)])]) Try.func6 (by kernel_rfl) (by kernel_rfl) (by kernel_rfl) ?_
  intro a hF
  have hM := Mem.init w
  refine W_seq (by kernel_rfl) ?_
  refine W_region (by kernel_rfl) ?_   -- region 0
  refine From_box (by kernel_rfl : coreAt _ 0 = some (some 1, (Go.Op.box 24 (Go.Operand.tmp 0)), 0, none)) hF (by kernel_rfl) (by kernel_rfl) (k' := 1) rfl (v := (.agg #[nm, wk, pa, va, (.slice A bs.length c)])) (cs := [nm, wk, pa, va, (.slice A bs.length c)]) (by kernel_rfl) rfl hM ?_
  intro b1 w2 hb1 _ hM3 _ a4 ea hF5; clear ea hF a
  change Mem noS w w2 [.blk b1 24 [nm, wk, pa, va, (.slice A bs.length c)]] at hM3
  clear hM
  replace hF5 : Fr a4 169 [(1, (.pointer (some ⟨b1, 0, none⟩)))] := hF5.keep (keep := [1]) (by kernel_rfl)
  refine From_pure 1 2 [1] hF5 (env' := [(1, (.pointer (some ⟨b1, 0, none⟩)))]) (by kernel_rfl) rfl ?_
  intro a6 hF7; clear hF5 a4
  refine From_end (by kernel_rfl) ?_
  refine W_seq (by kernel_rfl) ?_
  refine W_seq (by kernel_rfl) ?_
  refine W_region (by kernel_rfl) ?_   -- region 1
  refine From_pure 1 1 [1, 11] hF7 (env' := [(1, (.pointer (some ⟨b1, 0, none⟩))), (11, (.pointer (some ⟨b1, 4, none⟩)))]) (by kernel_rfl) rfl ?_
  intro a8 hF9; clear hF7 a6
  refine From_load1 (by kernel_rfl : coreAt _ 1 = some (some 12, (Go.Op.load 22 (Go.Operand.tmp 11)), 22, none)) hF9 (by kernel_rfl) (by kernel_rfl) (k' := 2) rfl (ad := ⟨b1, 4, none⟩) (v := (.slice A bs.length c)) (by kernel_rfl) (by kernel_rfl) (blk_cell (hM3.get 0 rfl) rfl) ?_
  intro a10 ea hF11; clear ea hF9 a8
  replace hF11 : Fr a10 169 [(1, (.pointer (some ⟨b1, 0, none⟩))), (12, (.slice A bs.length c))] := hF11.keep (keep := [1, 12]) (by kernel_rfl)
  refine From_pure 1 3 [1, 13] hF11 (env' := [(1, (.pointer (some ⟨b1, 0, none⟩))), (13, (.int .i64 ((bs.length : Nat) : Int)))]) (by kernel_rfl) rfl ?_
  intro a12 hF13; clear hF11 a10
  refine From_cmp (by kernel_rfl : coreAt _ 3 = some (some 14, (Go.Op.binOp Go.BinOp.gtr 3 (Go.Operand.tmp 13) (Go.Operand.const (Go.Value.int Go.IntKind.i64 200)) 3), 4, none)) hF13 (by kernel_rfl) (by kernel_rfl) (k' := 4) rfl (kd := .i64) (i := ((bs.length : Nat) : Int)) (j := 200) (by kernel_rfl) (by kernel_rfl) rfl ?_
  intro Bbig hBbig a14 ea hF15; clear ea hF13 a12
  replace hF15 : Fr a14 169 [(1, (.pointer (some ⟨b1, 0, none⟩))), (14, (.bool Bbig))] := hF15.keep (keep := [1, 14]) (by kernel_rfl)
  refine From_end (by kernel_rfl) ?_
  cases Bbig
  · have cbig : ¬ (((bs.length : Nat) : Int) > 200) := by first | exact of_decide_eq_true hBbig.symm | exact of_decide_eq_false hBbig.symm | exact beq_iff_eq.1 hBbig.symm | exact bne_iff_ne.1 hBbig.symm | exact (fun e => Bool.false_ne_true (hBbig.trans (beq_iff_eq.2 e))) | exact (fun e => Bool.false_ne_true (hBbig.trans (bne_iff_ne.2 e)))
    refine W_cond (t := 14) (B := false) (by kernel_rfl) hF15 (by kernel_rfl) (fun t => Bool.noConfusion t) (fun _ => ?_)
    refine W_skip (by kernel_rfl) ?_
    refine W_seq (by kernel_rfl) ?_
    refine W_region (by kernel_rfl) ?_   -- region 3
    have hm : bs.length ≤ 1000000 := by omega
    refine From_loadS (by kernel_rfl : coreAt _ 0 = some (some 16, (Go.Op.load 24 (Go.Operand.tmp 1)), 24, none)) hF15 (by kernel_rfl) (by kernel_rfl) (k' := 1) rfl (ad := ⟨b1, 0, none⟩) (vs := [nm, wk, pa, va, (.slice A bs.length c)]) (by kernel_rfl) (by kernel_rfl) (blk_cells (hM3.get 0 rfl)) ?_
    intro a16 ea hF17; clear ea hF15 a14
    replace hF17 : Fr a16 169 [(1, (.pointer (some ⟨b1, 0, none⟩))), (16, (.agg #[nm, wk, pa, va, (.slice A bs.length c)]))] := hF17.keep (keep := [1, 16]) (by kernel_rfl)
    refine From_call (by kernel_rfl : coreAt _ 1 = some (some 17, (Go.Op.call { callee := (Go.Callee.value (Go.Operand.func 11)), args := #[(Go.Operand.tmp 16)], argTypes := #[24] }), 27, none)) hF17 (by kernel_rfl) (by kernel_rfl) (k' := 2) rfl (f := 11) (vs := [(.agg #[nm, wk, pa, va, (.slice A bs.length c)])]) (cap := []) (by kernel_rfl) (by kernel_rfl) (by kernel_rfl) (order_c _ _ _ _ A c bs w2 hm (hA.at_ hM3)) ?_
    rintro _ w20 ⟨A18, c19, rfl, hM21x⟩ a22 ea hF23; clear ea hF17 a16
    have hM21 : Mem noS w w20 [.blk b1 24 [nm, wk, pa, va, (.slice A bs.length c)], .row 3 1 A18 ((orderL bs).length) c19 (ints (orderL bs))] := hM3.call hM21x
    clear hM21x hM3
    replace hF23 : Fr a22 169 [(1, (.pointer (some ⟨b1, 0, none⟩))), (17, (.slice A18 ((orderL bs).length) c19))] := hF23.keep (keep := [1, 17]) (by kernel_rfl)
    refine From_pure 1 3 [1, 3] hF23 (env' := [(1, (.pointer (some ⟨b1, 0, none⟩))), (3, (.slice A18 ((orderL bs).length) c19))]) (by kernel_rfl) rfl ?_
    intro a24 hF25; clear hF23 a22
    refine From_end (by kernel_rfl) ?_
    refine W_seq (by kernel_rfl) ?_
    refine W_region (by kernel_rfl) ?_   -- region 4
    refine From_loadS (by kernel_rfl : coreAt _ 0 = some (some 18, (Go.Op.load 24 (Go.Operand.tmp 1)), 24, none)) hF25 (by kernel_rfl) (by kernel_rfl) (k' := 1) rfl (ad := ⟨b1, 0, none⟩) (vs := [nm, wk, pa, va, (.slice A bs.length c)]) (by kernel_rfl) (by kernel_rfl) (blk_cells (hM21.get 0 rfl)) ?_
    intro a26 ea hF27; clear ea hF25 a24
    replace hF27 : Fr a26 169 [(1, (.pointer (some ⟨b1, 0, none⟩))), (3, (.slice A18 ((orderL bs).length) c19)), (18, (.agg #[nm, wk, pa, va, (.slice A bs.length c)]))] := hF27.keep (keep := [1, 3, 18]) (by kernel_rfl)
    refine From_call (by kernel_rfl : coreAt _ 1 = some (some 19, (Go.Op.call { callee := (Go.Callee.value (Go.Operand.func 13)), args := #[(Go.Operand.tmp 18)], argTypes := #[24] }), 27, none)) hF27 (by kernel_rfl) (by kernel_rfl) (k' := 2) rfl (f := 13) (vs := [(.agg #[nm, wk, pa, va, (.slice A bs.length c)])]) (cap := []) (by kernel_rfl) (by kernel_rfl) (by kernel_rfl) (abovef_c _ _ _ _ A c bs w20 hm (hA.at_ hM21)) ?_
    rintro _ w30 ⟨hfin, A28, c29, rfl, hM31x⟩ a32 ea hF33; clear ea hF27 a26
    have hM31 : Mem noS w w30 [.blk b1 24 [nm, wk, pa, va, (.slice A bs.length c)], .row 3 1 A18 ((orderL bs).length) c19 (ints (orderL bs)), .row 3 1 A28 ((raboveL bs).length) c29 (ints (raboveL bs))] := hM21.call hM31x
    clear hM31x hM21
    replace hF33 : Fr a32 169 [(1, (.pointer (some ⟨b1, 0, none⟩))), (3, (.slice A18 ((orderL bs).length) c19)), (19, (.slice A28 ((raboveL bs).length) c29))] := hF33.keep (keep := [1, 3, 19]) (by kernel_rfl)
    refine From_pure 1 3 [1, 3, 4] hF33 (env' := [(1, (.pointer (some ⟨b1, 0, none⟩))), (3, (.slice A18 ((orderL bs).length) c19)), (4, (.slice A28 ((raboveL bs).length) c29))]) (by kernel_rfl) rfl ?_
    intro a34 hF35; clear hF33 a32
    refine From_end (by kernel_rfl) ?_
    refine W_seq (by kernel_rfl) ?_
    refine W_region (by kernel_rfl) ?_   -- region 5
    refine From_loadS (by kernel_rfl : coreAt _ 0 = some (some 20, (Go.Op.load 24 (Go.Operand.tmp 1)), 24, none)) hF35 (by kernel_rfl) (by kernel_rfl) (k' := 1) rfl (ad := ⟨b1, 0, none⟩) (vs := [nm, wk, pa, va, (.slice A bs.length c)]) (by kernel_rfl) (by kernel_rfl) (blk_cells (hM31.get 0 rfl)) ?_
    intro a36 ea hF37; clear ea hF35 a34
    replace hF37 : Fr a36 169 [(1, (.pointer (some ⟨b1, 0, none⟩))), (3, (.slice A18 ((orderL bs).length) c19)), (4, (.slice A28 ((raboveL bs).length) c29)), (20, (.agg #[nm, wk, pa, va, (.slice A bs.length c)]))] := hF37.keep (keep := [1, 3, 4, 20]) (by kernel_rfl)
    refine From_call (by kernel_rfl : coreAt _ 1 = some (some 21, (Go.Op.call { callee := (Go.Callee.value (Go.Operand.func 18)), args := #[(Go.Operand.tmp 20), (Go.Operand.const (Go.Value.int Go.IntKind.i64 (-1)))], argTypes := #[24, 3] }), 33, none)) hF37 (by kernel_rfl) (by kernel_rfl) (k' := 2) rfl (f := 18) (vs := [(.agg #[nm, wk, pa, va, (.slice A bs.length c)]), (.int .i64 (-1))]) (cap := []) (by kernel_rfl) (by kernel_rfl) (by kernel_rfl) (walk_c _ _ _ _ A c bs (-1) w30 hm (hA.at_ hM31)) ?_
    rintro _ w40 ⟨A38, c39, rfl, hM41x⟩ a42 ea hF43; clear ea hF37 a36
    have hM41 : Mem noS w w40 [.blk b1 24 [nm, wk, pa, va, (.slice A bs.length c)], .row 3 1 A18 ((orderL bs).length) c19 (ints (orderL bs)), .row 3 1 A28 ((raboveL bs).length) c29 (ints (raboveL bs)), .row 4 1 A38 bs.length c39 (bools (walkL bs (-1)))] := hM31.call hM41x
    clear hM41x hM31
    replace hF43 : Fr a42 169 [(1, (.pointer (some ⟨b1, 0, none⟩))), (3, (.slice A18 ((orderL bs).length) c19)), (4, (.slice A28 ((raboveL bs).length) c29)), (21, (.slice A38 bs.length c39))] := hF43.keep (keep := [1, 3, 4, 21]) (by kernel_rfl)
    refine From_pure 1 3 [1, 3, 4, 5] hF43 (env' := [(1, (.pointer (some ⟨b1, 0, none⟩))), (3, (.slice A18 ((orderL bs).length) c19)), (4, (.slice A28 ((raboveL bs).length) c29)), (5, (.slice A38 bs.length c39))]) (by kernel_rfl) rfl ?_
    intro a44 hF45; clear hF43 a42
    refine From_end (by kernel_rfl) ?_
    refine W_seq (by kernel_rfl) ?_
    refine W_region (by kernel_rfl) ?_   -- region 6
    refine From_pure 1 1 [1, 3, 4, 5, 22] hF45 (env' := [(1, (.pointer (some ⟨b1, 0, none⟩))), (3, (.slice A18 ((orderL bs).length) c19)), (4, (.slice A28 ((raboveL bs).length) c29)), (5, (.slice A38 bs.length c39)), (22, (.pointer (some ⟨b1, 4, none⟩)))]) (by kernel_rfl) rfl ?_
    intro a46 hF47; clear hF45 a44
    refine From_load1 (by kernel_rfl : coreAt _ 1 = some (some 23, (Go.Op.load 22 (Go.Operand.tmp 22)), 22, none)) hF47 (by kernel_rfl) (by kernel_rfl) (k' := 2) rfl (ad := ⟨b1, 4, none⟩) (v := (.slice A bs.length c)) (by kernel_rfl) (by kernel_rfl) (blk_cell (hM41.get 0 rfl) rfl) ?_
    intro a48 ea hF49; clear ea hF47 a46
    replace hF49 : Fr a48 169 [(1, (.pointer (some ⟨b1, 0, none⟩))), (3, (.slice A18 ((orderL bs).length) c19)), (4, (.slice A28 ((raboveL bs).length) c29)), (5, (.slice A38 bs.length c39)), (23, (.slice A bs.length c))] := hF49.keep (keep := [1, 3, 4, 5, 23]) (by kernel_rfl)
    refine From_pure 1 3 [1, 3, 4, 5, 24] hF49 (env' := [(1, (.pointer (some ⟨b1, 0, none⟩))), (3, (.slice A18 ((orderL bs).length) c19)), (4, (.slice A28 ((raboveL bs).length) c29)), (5, (.slice A38 bs.length c39)), (24, (.int .i64 ((bs.length : Nat) : Int)))]) (by kernel_rfl) rfl ?_
    intro a50 hF51; clear hF49 a48
    refine From_make1 (by kernel_rfl : coreAt _ 3 = some (some 25, (Go.Op.makeSlice 27 (Go.Operand.tmp 24) (Go.Operand.tmp 24)), 27, none)) hF51 (by kernel_rfl) (by kernel_rfl) (k' := 4) rfl (e := 3) (bytes := 8) (z := (.int .i64 0)) (n := bs.length) (i := ((bs.length : Nat) : Int)) (by kernel_rfl) (by kernel_rfl) rfl (by kernel_rfl) (by kernel_rfl) rfl (by omega) (by simp only [maxLen]; omega) hM41 ?_
    intro b52 w53 hb52 _ hM54 _ a55 ea hF56; clear ea hF51 a50
    change Mem noS w w53 [.blk b1 24 [nm, wk, pa, va, (.slice A bs.length c)], .row 3 1 A18 ((orderL bs).length) c19 (ints (orderL bs)), .row 3 1 A28 ((raboveL bs).length) c29 (ints (raboveL bs)), .row 4 1 A38 bs.length c39 (bools (walkL bs (-1))), .row 3 1 (some ⟨b52, 0, none⟩) bs.length bs.length (List.replicate bs.length (.int .i64 0))] at hM54
    clear hM41
    replace hF56 : Fr a55 169 [(1, (.pointer (some ⟨b1, 0, none⟩))), (3, (.slice A18 ((orderL bs).length) c19)), (4, (.slice A28 ((raboveL bs).length) c29)), (5, (.slice A38 bs.length c39)), (25, (.slice (some ⟨b52, 0, none⟩) bs.length bs.length))] := hF56.keep (keep := [1, 3, 4, 5, 25]) (by kernel_rfl)
    refine From_pure 1 5 [1, 3, 4, 5, 6] hF56 (env' := [(1, (.pointer (some ⟨b1, 0, none⟩))), (3, (.slice A18 ((orderL bs).length) c19)), (4, (.slice A28 ((raboveL bs).length) c29)), (5, (.slice A38 bs.length c39)), (6, (.slice (some ⟨b52, 0, none⟩) bs.length bs.length))]) (by kernel_rfl) rfl ?_
    intro a57 hF58; clear hF56 a55
    refine From_end (by kernel_rfl) ?_
    refine W_seq (by kernel_rfl) ?_
    refine W_region (by kernel_rfl) ?_   -- region 7
    refine From_pure 1 1 [1, 3, 4, 5, 6, 7] hF58 (env' := [(1, (.pointer (some ⟨b1, 0, none⟩))), (3, (.slice A18 ((orderL bs).length) c19)), (4, (.slice A28 ((raboveL bs).length) c29)), (5, (.slice A38 bs.length c39)), (6, (.slice (some ⟨b52, 0, none⟩) bs.length bs.length)), (7, (.int .i64 0))]) (by kernel_rfl) rfl ?_
    intro a59 hF60; clear hF58 a57
    refine From_end (by kernel_rfl) ?_
    refine W_seq (by kernel_rfl) ?_
    refine W_seq (by kernel_rfl) ?_
    refine W_region (by kernel_rfl) ?_   -- region 8
    refine From_pure 1 1 [1, 3, 4, 5, 6, 7, 8] hF60 (env' := [(1, (.pointer (some ⟨b1, 0, none⟩))), (3, (.slice A18 ((orderL bs).length) c19)), (4, (.slice A28 ((raboveL bs).length) c29)), (5, (.slice A38 bs.length c39)), (6, (.slice (some ⟨b52, 0, none⟩) bs.length bs.length)), (7, (.int .i64 0)), (8, (.int .i64 0))]) (by kernel_rfl) rfl ?_
    intro a61 hF62; clear hF60 a59
    refine From_end (by kernel_rfl) ?_
    refine W_block (id := 0) (by kernel_rfl) ?_
    have hol := orderL_len bs
    have hrl := raboveL_len bs
    refine W_loop (by kernel_rfl) (fun n_ a_ w_ => ∃ (i : Nat) (q : Nat) (m1 : List Int), n_ = bs.length - i ∧ Fr a_ 169 [(1, (.pointer (some ⟨b1, 0, none⟩))), (3, (.slice A18 ((orderL bs).length) c19)), (4, (.slice A28 ((raboveL bs).length) c29)), (5, (.slice A38 bs.length c39)), (6, (.slice (some ⟨b52, 0, none⟩) bs.length bs.length)), (7, (.int .i64 (q : Int))), (8, (.int .i64 (i : Int)))] ∧ Mem noS w w_ [.blk b1 24 [nm, wk, pa, va, (.slice A bs.length c)], .row 3 1 A18 ((orderL bs).length) c19 (ints (orderL bs)), .row 3 1 A28 ((raboveL bs).length) c29 (ints (raboveL bs)), .row 4 1 A38 bs.length c39 (bools (walkL bs (-1))), .row 3 1 (some ⟨b52, 0, none⟩) bs.length bs.length (ints m1)] ∧ (i ≤ bs.length) ∧ (q = cntT bs i) ∧ (IntsOf bs.length m1 (fillF i))) (n := _) ⟨0, 0, List.replicate bs.length 0, rfl, hF62.keep (keep := [1, 3, 4, 5, 6, 7, 8]) (by kernel_rfl), (hM54.cast (by simp [ints])), by omega, rfl, fill_start _⟩ ?_
    clear hF62 a61 hM54; rintro n a65 w63 ⟨i, q, m1, rfl, hF66, hM64, hi, hq, h1⟩
    refine W_seq (by kernel_rfl) ?_
    refine W_seq (by kernel_rfl) ?_
    refine W_region (by kernel_rfl) ?_   -- region 9
    refine From_pure 3 3 [1, 3, 4, 5, 6, 7, 8, 26, 28] hF66 (env' := [(1, (.pointer (some ⟨b1, 0, none⟩))), (3, (.slice A18 ((orderL bs).length) c19)), (4, (.slice A28 ((raboveL bs).length) c29)), (5, (.slice A38 bs.length c39)), (6, (.slice (some ⟨b52, 0, none⟩) bs.length bs.length)), (7, (.int .i64 (q : Int))), (8, (.int .i64 (i : Int))), (26, (.int .i64 (i : Int))), (28, (.int .i64 ((bs.length : Nat) : Int)))]) (by kernel_rfl) rfl ?_
    intro a67 hF68; clear hF66 a65
    refine From_cmp (by kernel_rfl : coreAt _ 3 = some (some 29, (Go.Op.binOp Go.BinOp.lss 3 (Go.Operand.tmp 26) (Go.Operand.tmp 28) 3), 4, none)) hF68 (by kernel_rfl) (by kernel_rfl) (k' := 4) rfl (kd := .i64) (i := (i : Int)) (j := ((bs.length : Nat) : Int)) (by kernel_rfl) (by kernel_rfl) rfl ?_
    intro Bi hBi a69 ea hF70; clear ea hF68 a67
    replace hF70 : Fr a69 169 [(1, (.pointer (some ⟨b1, 0, none⟩))), (3, (.slice A18 ((orderL bs).length) c19)), (4, (.slice A28 ((raboveL bs).length) c29)), (5, (.slice A38 bs.length c39)), (6, (.slice (some ⟨b52, 0, none⟩) bs.length bs.length)), (7, (.int .i64 (q : Int))), (8, (.int .i64 (i : Int))), (29, (.bool Bi))] := hF70.keep (keep := [1, 3, 4, 5, 6, 7, 8, 29]) (by kernel_rfl)
    refine From_end (by kernel_rfl) ?_
    cases Bi
    · have ci : ¬ ((i : Int) < ((bs.length : Nat) : Int)) := by first | exact of_decide_eq_true hBi.symm | exact of_decide_eq_false hBi.symm | exact beq_iff_eq.1 hBi.symm | exact bne_iff_ne.1 hBi.symm | exact (fun e => Bool.false_ne_true (hBi.trans (beq_iff_eq.2 e))) | exact (fun e => Bool.false_ne_true (hBi.trans (bne_iff_ne.2 e)))
      refine W_cond (t := 29) (B := false) (by kernel_rfl) hF70 (by kernel_rfl) (fun t => Bool.noConfusion t) (fun _ => ?_)
      refine W_exit (id := 0) (by kernel_rfl) ?_
      refine inB_hit rfl ?_
      refine W_seq (by kernel_rfl) ?_
      refine W_seq (by kernel_rfl) ?_
      refine W_region (by kernel_rfl) ?_   -- region 14
      obtain rfl : i = bs.length := by omega
      rw [cnt_end] at hq
      have hab0 := fill_end h1 (by omega)
      refine From_pure 3 3 [1, 3, 4, 5, 6, 7, 42, 43] hF70 (env' := [(1, (.pointer (some ⟨b1, 0, none⟩))), (3, (.slice A18 ((orderL bs).length) c19)), (4, (.slice A28 ((raboveL bs).length) c29)), (5, (.slice A38 bs.length c39)), (6, (.slice (some ⟨b52, 0, none⟩) bs.length bs.length)), (7, (.int .i64 (q : Int))), (42, (.int .i64 (((orderL bs).length : Nat) : Int))), (43, (.int .i64 (q : Int)))]) (by kernel_rfl) rfl ?_
      intro a71 hF72; clear hF70 a69
      refine From_cmp (by kernel_rfl : coreAt _ 3 = some (some 44, (Go.Op.binOp Go.BinOp.neq 3 (Go.Operand.tmp 42) (Go.Operand.tmp 43) 3), 4, none)) hF72 (by kernel_rfl) (by kernel_rfl) (k' := 4) rfl (kd := .i64) (i := (((orderL bs).length : Nat) : Int)) (j := (q : Int)) (by kernel_rfl) (by kernel_rfl) rfl ?_
      intro Bl1 hBl1 a73 ea hF74; clear ea hF72 a71
      obtain rfl : Bl1 = false := by
        have hkn : ¬ (((((orderL bs).length : Nat) : Int) : Int) ≠ (q : Int)) := by omega
        first | exact hBl1.trans (decide_eq_true hkn) | exact hBl1.trans (decide_eq_false hkn) | exact hBl1.trans (beq_iff_eq.2 hkn) | exact hBl1.trans (bne_iff_ne.2 hkn) | exact hBl1.trans (Bool.eq_false_iff.2 (fun e => hkn (beq_iff_eq.1 e))) | exact hBl1.trans (Bool.eq_false_iff.2 (fun e => hkn (bne_iff_ne.1 e)))
      clear hBl1
      replace hF74 : Fr a73 169 [(1, (.pointer (some ⟨b1, 0, none⟩))), (3, (.slice A18 ((orderL bs).length) c19)), (4, (.slice A28 ((raboveL bs).length) c29)), (5, (.slice A38 bs.length c39)), (6, (.slice (some ⟨b52, 0, none⟩) bs.length bs.length)), (7, (.int .i64 (q : Int))), (44, (.bool false))] := hF74.keep (keep := [1, 3, 4, 5, 6, 7, 44]) (by kernel_rfl)
      refine From_pure 4 8 [3, 4, 5, 6, 7, 45, 47, 48] hF74 (env' := [(3, (.slice A18 ((orderL bs).length) c19)), (4, (.slice A28 ((raboveL bs).length) c29)), (5, (.slice A38 bs.length c39)), (6, (.slice (some ⟨b52, 0, none⟩) bs.length bs.length)), (7, (.int .i64 (q : Int))), (45, (.bool false)), (47, (.int .i64 (((raboveL bs).length : Nat) : Int))), (48, (.pointer (some ⟨b1, 4, none⟩)))]) (by kernel_rfl) rfl ?_
      intro a75 hF76; clear hF74 a73
      refine From_load1 (by kernel_rfl : coreAt _ 8 = some (some 49, (Go.Op.load 22 (Go.Operand.tmp 48)), 22, some (4, false))) hF76 (by kernel_rfl) (by kernel_rfl) (k' := 9) rfl (ad := ⟨b1, 4, none⟩) (v := (.slice A bs.length c)) (by kernel_rfl) (by kernel_rfl) (blk_cell (hM64.get 0 rfl) rfl) ?_
      intro a77 ea hF78; clear ea hF76 a75
      replace hF78 : Fr a77 169 [(3, (.slice A18 ((orderL bs).length) c19)), (4, (.slice A28 ((raboveL bs).length) c29)), (5, (.slice A38 bs.length c39)), (6, (.slice (some ⟨b52, 0, none⟩) bs.length bs.length)), (7, (.int .i64 (q : Int))), (45, (.bool false)), (47, (.int .i64 (((raboveL bs).length : Nat) : Int))), (49, (.slice A bs.length c))] := hF78.keep (keep := [3, 4, 5, 6, 7, 45, 47, 49]) (by kernel_rfl)
      refine From_pure 1 10 [3, 4, 5, 6, 7, 45, 47, 50] hF78 (env' := [(3, (.slice A18 ((orderL bs).length) c19)), (4, (.slice A28 ((raboveL bs).length) c29)), (5, (.slice A38 bs.length c39)), (6, (.slice (some ⟨b52, 0, none⟩) bs.length bs.length)), (7, (.int .i64 (q : Int))), (45, (.bool false)), (47, (.int .i64 (((raboveL bs).length : Nat) : Int))), (50, (.int .i64 ((bs.length : Nat) : Int)))]) (by kernel_rfl) rfl ?_
      intro a79 hF80; clear hF78 a77
      refine From_cmp (by kernel_rfl : coreAt _ 10 = some (some 51, (Go.Op.binOp Go.BinOp.neq 3 (Go.Operand.tmp 47) (Go.Operand.tmp 50) 3), 4, some (4, false))) hF80 (by kernel_rfl) (by kernel_rfl) (k' := 11) rfl (kd := .i64) (i := (((raboveL bs).length : Nat) : Int)) (j := ((bs.length : Nat) : Int)) (by kernel_rfl) (by kernel_rfl) rfl ?_
      intro Bl2 hBl2 a81 ea hF82; clear ea hF80 a79
      obtain rfl : Bl2 = false := by
        have hkn : ¬ (((((raboveL bs).length : Nat) : Int) : Int) ≠ ((bs.length : Nat) : Int)) := by omega
        first | exact hBl2.trans (decide_eq_true hkn) | exact hBl2.trans (decide_eq_false hkn) | exact hBl2.trans (beq_iff_eq.2 hkn) | exact hBl2.trans (bne_iff_ne.2 hkn) | exact hBl2.trans (Bool.eq_false_iff.2 (fun e => hkn (beq_iff_eq.1 e))) | exact hBl2.trans (Bool.eq_false_iff.2 (fun e => hkn (bne_iff_ne.1 e)))
      clear hBl2
      replace hF82 : Fr a81 169 [(3, (.slice A18 ((orderL bs).length) c19)), (4, (.slice A28 ((raboveL bs).length) c29)), (5, (.slice A38 bs.length c39)), (6, (.slice (some ⟨b52, 0, none⟩) bs.length bs.length)), (7, (.int .i64 (q : Int))), (45, (.bool false)), (51, (.bool false))] := hF82.keep (keep := [3, 4, 5, 6, 7, 45, 51]) (by kernel_rfl)
      refine From_pure 1 12 [3, 4, 5, 6, 7, 52] hF82 (env' := [(3, (.slice A18 ((orderL bs).length) c19)), (4, (.slice A28 ((raboveL bs).length) c29)), (5, (.slice A38 bs.length c39)), (6, (.slice (some ⟨b52, 0, none⟩) bs.length bs.length)), (7, (.int .i64 (q : Int))), (52, (.bool false))]) (by kernel_rfl) rfl ?_
      intro a83 hF84; clear hF82 a81
      refine From_end (by kernel_rfl) ?_
      refine W_cond (t := 52) (B := false) (by kernel_rfl) hF84 (by kernel_rfl) (fun t => Bool.noConfusion t) (fun _ => ?_)
      refine W_skip (by kernel_rfl) ?_
      refine W_seq (by kernel_rfl) ?_
      refine W_seq (by kernel_rfl) ?_
      refine W_region (by kernel_rfl) ?_   -- region 16
      refine From_pure 1 1 [3, 4, 5, 6, 7, 9] hF84 (env' := [(3, (.slice A18 ((orderL bs).length) c19)), (4, (.slice A28 ((raboveL bs).length) c29)), (5, (.slice A38 bs.length c39)), (6, (.slice (some ⟨b52, 0, none⟩) bs.length bs.length)), (7, (.int .i64 (q : Int))), (9, (.int .i64 0))]) (by kernel_rfl) rfl ?_
      intro a85 hF86; clear hF84 a83
      refine From_end (by kernel_rfl) ?_
      refine W_block (id := 2) (by kernel_rfl) ?_
      refine W_loop (by kernel_rfl) (fun n_ a_ w_ => ∃ (k : Nat) (m3 : List Int), n_ = (orderL bs).length - k ∧ Fr a_ 169 [(3, (.slice A18 ((orderL bs).length) c19)), (4, (.slice A28 ((raboveL bs).length) c29)), (5, (.slice A38 bs.length c39)), (6, (.slice (some ⟨b52, 0, none⟩) bs.length bs.length)), (7, (.int .i64 (q : Int))), (9, (.int .i64 (k : Int)))] ∧ Mem noS w w_ [.blk b1 24 [nm, wk, pa, va, (.slice A bs.length c)], .row 3 1 A18 ((orderL bs).length) c19 (ints (orderL bs)), .row 3 1 A28 ((raboveL bs).length) c29 (ints (raboveL bs)), .row 4 1 A38 bs.length c39 (bools (walkL bs (-1))), .row 3 1 (some ⟨b52, 0, none⟩) bs.length bs.length (ints m3)] ∧ (k ≤ (orderL bs).length) ∧ (IntsOf bs.length m3 (plc ((orderL bs).take k)))) (n := _) ⟨0, m1, rfl, hF86.keep (keep := [3, 4, 5, 6, 7, 9]) (by kernel_rfl), hM64, by omega, places_start bs hab0⟩ ?_
      clear hF86 a85 hM64; rintro n a89 w87 ⟨k, m3, rfl, hF90, hM88, hk, h3⟩
      refine W_seq (by kernel_rfl) ?_
      refine W_seq (by kernel_rfl) ?_
      refine W_region (by kernel_rfl) ?_   -- region 17
      refine From_pure 3 3 [3, 4, 5, 6, 7, 9, 53, 55] hF90 (env' := [(3, (.slice A18 ((orderL bs).length) c19)), (4, (.slice A28 ((raboveL bs).length) c29)), (5, (.slice A38 bs.length c39)), (6, (.slice (some ⟨b52, 0, none⟩) bs.length bs.length)), (7, (.int .i64 (q : Int))), (9, (.int .i64 (k : Int))), (53, (.int .i64 (k : Int))), (55, (.int .i64 (((orderL bs).length : Nat) : Int)))]) (by kernel_rfl) rfl ?_
      intro a91 hF92; clear hF90 a89
      refine From_cmp (by kernel_rfl : coreAt _ 3 = some (some 56, (Go.Op.binOp Go.BinOp.lss 3 (Go.Operand.tmp 53) (Go.Operand.tmp 55) 3), 4, none)) hF92 (by kernel_rfl) (by kernel_rfl) (k' := 4) rfl (kd := .i64) (i := (k : Int)) (j := (((orderL bs).length : Nat) : Int)) (by kernel_rfl) (by kernel_rfl) rfl ?_
      intro Bk hBk a93 ea hF94; clear ea hF92 a91
      replace hF94 : Fr a93 169 [(3, (.slice A18 ((orderL bs).length) c19)), (4, (.slice A28 ((raboveL bs).length) c29)), (5, (.slice A38 bs.length c39)), (6, (.slice (some ⟨b52, 0, none⟩) bs.length bs.length)), (7, (.int .i64 (q : Int))), (9, (.int .i64 (k : Int))), (56, (.bool Bk))] := hF94.keep (keep := [3, 4, 5, 6, 7, 9, 56]) (by kernel_rfl)
      refine From_end (by kernel_rfl) ?_
      cases Bk
      · have ck : ¬ ((k : Int) < (((orderL bs).length : Nat) : Int)) := by first | exact of_decide_eq_true hBk.symm | exact of_decide_eq_false hBk.symm | exact beq_iff_eq.1 hBk.symm | exact bne_iff_ne.1 hBk.symm | exact (fun e => Bool.false_ne_true (hBk.trans (beq_iff_eq.2 e))) | exact (fun e => Bool.false_ne_true (hBk.trans (bne_iff_ne.2 e)))
        refine W_cond (t := 56) (B := false) (by kernel_rfl) hF94 (by kernel_rfl) (fun t => Bool.noConfusion t) (fun _ => ?_)
        refine W_exit (id := 2) (by kernel_rfl) ?_
        refine inB_hit rfl ?_
        refine W_seq (by kernel_rfl) ?_
        refine W_seq (by kernel_rfl) ?_
        refine W_region (by kernel_rfl) ?_   -- region 22
        have hat := places_end h3 (by omega)
        refine From_pure 1 1 [3, 4, 5, 6, 7, 10] hF94 (env' := [(3, (.slice A18 ((orderL bs).length) c19)), (4, (.slice A28 ((raboveL bs).length) c29)), (5, (.slice A38 bs.length c39)), (6, (.slice (some ⟨b52, 0, none⟩) bs.length bs.length)), (7, (.int .i64 (q : Int))), (10, (.int .i64 0))]) (by kernel_rfl) rfl ?_
        intro a95 hF96; clear hF94 a93
        refine From_end (by kernel_rfl) ?_
        refine W_block (id := 4) (by kernel_rfl) ?_
        refine W_loop (by kernel_rfl) (fun n_ a_ w_ => ∃ (j : Nat), n_ = bs.length - j ∧ Fr a_ 169 [(3, (.slice A18 ((orderL bs).length) c19)), (4, (.slice A28 ((raboveL bs).length) c29)), (5, (.slice A38 bs.length c39)), (6, (.slice (some ⟨b52, 0, none⟩) bs.length bs.length)), (7, (.int .i64 (q : Int))), (10, (.int .i64 (j : Int)))] ∧ Mem noS w w_ [.blk b1 24 [nm, wk, pa, va, (.slice A bs.length c)], .row 3 1 A18 ((orderL bs).length) c19 (ints (orderL bs)), .row 3 1 A28 ((raboveL bs).length) c29 (ints (raboveL bs)), .row 4 1 A38 bs.length c39 (bools (walkL bs (-1))), .row 3 1 (some ⟨b52, 0, none⟩) bs.length bs.length (ints m3)] ∧ (j ≤ bs.length)) (n := _) ⟨0, rfl, hF96.keep (keep := [3, 4, 5, 6, 7, 10]) (by kernel_rfl), hM88, by omega⟩ ?_
        clear hF96 a95 hM88; rintro n a99 w97 ⟨j, rfl, hF100, hM98, hj⟩
        refine W_seq (by kernel_rfl) ?_
        refine W_seq (by kernel_rfl) ?_
        refine W_region (by kernel_rfl) ?_   -- region 23
        refine From_pure 3 3 [3, 4, 5, 6, 7, 10, 100, 102] hF100 (env' := [(3, (.slice A18 ((orderL bs).length) c19)), (4, (.slice A28 ((raboveL bs).length) c29)), (5, (.slice A38 bs.length c39)), (6, (.slice (some ⟨b52, 0, none⟩) bs.length bs.length)), (7, (.int .i64 (q : Int))), (10, (.int .i64 (j : Int))), (100, (.int .i64 (j : Int))), (102, (.int .i64 (((raboveL bs).length : Nat) : Int)))]) (by kernel_rfl) rfl ?_
        intro a101 hF102; clear hF100 a99
        refine From_cmp (by kernel_rfl : coreAt _ 3 = some (some 103, (Go.Op.binOp Go.BinOp.lss 3 (Go.Operand.tmp 100) (Go.Operand.tmp 102) 3), 4, none)) hF102 (by kernel_rfl) (by kernel_rfl) (k' := 4) rfl (kd := .i64) (i := (j : Int)) (j := (((raboveL bs).length : Nat) : Int)) (by kernel_rfl) (by kernel_rfl) rfl ?_
        intro Bj hBj a103 ea hF104; clear ea hF102 a101
        replace hF104 : Fr a103 169 [(3, (.slice A18 ((orderL bs).length) c19)), (4, (.slice A28 ((raboveL bs).length) c29)), (5, (.slice A38 bs.length c39)), (6, (.slice (some ⟨b52, 0, none⟩) bs.length bs.length)), (7, (.int .i64 (q : Int))), (10, (.int .i64 (j : Int))), (103, (.bool Bj))] := hF104.keep (keep := [3, 4, 5, 6, 7, 10, 103]) (by kernel_rfl)
        refine From_end (by kernel_rfl) ?_
        cases Bj
        · have cj : ¬ ((j : Int) < (((raboveL bs).length : Nat) : Int)) := by first | exact of_decide_eq_true hBj.symm | exact of_decide_eq_false hBj.symm | exact beq_iff_eq.1 hBj.symm | exact bne_iff_ne.1 hBj.symm | exact (fun e => Bool.false_ne_true (hBj.trans (beq_iff_eq.2 e))) | exact (fun e => Bool.false_ne_true (hBj.trans (bne_iff_ne.2 e)))
          refine W_cond (t := 103) (B := false) (by kernel_rfl) hF104 (by kernel_rfl) (fun t => Bool.noConfusion t) (fun _ => ?_)
          refine W_exit (id := 4) (by kernel_rfl) ?_
          refine inB_hit rfl ?_
          refine W_seq (by kernel_rfl) ?_
          refine W_region (by kernel_rfl) ?_   -- region 30
          refine From_pure 1 1 [3, 158] hF104 (env' := [(3, (.slice A18 ((orderL bs).length) c19)), (158, (.int .i64 (q : Int)))]) (by kernel_rfl) rfl ?_
          intro a105 hF106; clear hF104 a103
          refine From_cmp (by kernel_rfl : coreAt _ 1 = some (some 159, (Go.Op.binOp Go.BinOp.eql 3 (Go.Operand.tmp 158) (Go.Operand.const (Go.Value.int Go.IntKind.i64 0)) 3), 4, none)) hF106 (by kernel_rfl) (by kernel_rfl) (k' := 2) rfl (kd := .i64) (i := (q : Int)) (j := 0) (by kernel_rfl) (by kernel_rfl) rfl ?_
          intro Bn0 hBn0 a107 ea hF108; clear ea hF106 a105
          replace hF108 : Fr a107 169 [(3, (.slice A18 ((orderL bs).length) c19)), (159, (.bool Bn0))] := hF108.keep (keep := [3, 159]) (by kernel_rfl)
          refine From_pure 1 3 [3, 160] hF108 (env' := [(3, (.slice A18 ((orderL bs).length) c19)), (160, (.bool Bn0))]) (by kernel_rfl) rfl ?_
          intro a109 hF110; clear hF108 a107
          cases Bn0
          · have cn0 : ¬ ((q : Int) = 0) := by first | exact of_decide_eq_true hBn0.symm | exact of_decide_eq_false hBn0.symm | exact beq_iff_eq.1 hBn0.symm | exact bne_iff_ne.1 hBn0.symm | exact (fun e => Bool.false_ne_true (hBn0.trans (beq_iff_eq.2 e))) | exact (fun e => Bool.false_ne_true (hBn0.trans (bne_iff_ne.2 e)))
            refine From_pure 1 4 [160, 161] hF110 (env' := [(160, (.bool false)), (161, (.slice A18 ((orderL bs).length) c19))]) (by kernel_rfl) rfl ?_
            intro a111 hF112; clear hF110 a109
            obtain ⟨g114, rfl⟩ := row_some (hM98.get 1 rfl) (by omega)
            refine From_index (by kernel_rfl : coreAt _ 4 = some (some 162, (Go.Op.indexAddr 27 (Go.Operand.tmp 161) (Go.Operand.const (Go.Value.int Go.IntKind.i64 0))), 0, some (2, false))) hF112 (by kernel_rfl) (by kernel_rfl) (k' := 5) rfl (A := (some ⟨g114, 0, none⟩)) (ad := ⟨g114, 0, none⟩) (n := ((orderL bs).length)) (cap := c19) (e := 3) (size := 1) (kd := .i64) (i := 0) (by kernel_rfl) (by kernel_rfl) rfl (by kernel_rfl) (by kernel_rfl) (by omega) (by omega) ?_
            intro a115 ea hF116; clear ea hF112 a111
            replace hF116 : Fr a115 169 [(160, (.bool false)), (162, (.pointer (some ((⟨g114, 0, none⟩ : Addr).add ((0 : Int).toNat * 1)))))] := hF116.keep (keep := [160, 162]) (by kernel_rfl)
            refine From_load1 (by kernel_rfl : coreAt _ 5 = some (some 163, (Go.Op.load 3 (Go.Operand.tmp 162)), 3, some (2, false))) hF116 (by kernel_rfl) (by kernel_rfl) (k' := 6) rfl (ad := ((⟨g114, 0, none⟩ : Addr).add ((0 : Int).toNat * 1))) (v := (.int .i64 0)) (by kernel_rfl) (by kernel_rfl) (rd_at (i := 0) (row_rd (hM98.get 1 rfl)) rfl (ord_zero (by omega))) ?_
            intro a117 ea hF118; clear ea hF116 a115
            replace hF118 : Fr a117 169 [(160, (.bool false)), (163, (.int .i64 0))] := hF118.keep (keep := [160, 163]) (by kernel_rfl)
            refine From_cmp (by kernel_rfl : coreAt _ 6 = some (some 164, (Go.Op.binOp Go.BinOp.eql 3 (Go.Operand.tmp 163) (Go.Operand.const (Go.Value.int Go.IntKind.i64 0)) 3), 4, some (2, false))) hF118 (by kernel_rfl) (by kernel_rfl) (k' := 7) rfl (kd := .i64) (i := 0) (j := 0) (by kernel_rfl) (by kernel_rfl) rfl ?_
            intro Bl0 hBl0 a119 ea hF120; clear ea hF118 a117
            obtain rfl : Bl0 = true := by
              have hkn : ((0 : Int) = 0) := by rfl
              first | exact hBl0.trans (decide_eq_true hkn) | exact hBl0.trans (decide_eq_false hkn) | exact hBl0.trans (beq_iff_eq.2 hkn) | exact hBl0.trans (bne_iff_ne.2 hkn) | exact hBl0.trans (Bool.eq_false_iff.2 (fun e => hkn (beq_iff_eq.1 e))) | exact hBl0.trans (Bool.eq_false_iff.2 (fun e => hkn (bne_iff_ne.1 e)))
            clear hBl0
            replace hF120 : Fr a119 169 [(160, (.bool false)), (164, (.bool true))] := hF120.keep (keep := [160, 164]) (by kernel_rfl)
            refine From_pure 2 9 [166] hF120 (env' := [(166, (.bool true))]) (by kernel_rfl) rfl ?_
            intro a121 hF122; clear hF120 a119
            refine From_call (by kernel_rfl : coreAt _ 9 = some (some 167, (Go.Op.call { callee := (Go.Callee.value (Go.Operand.func 9)), args := #[], argTypes := #[] }), 4, some (8, true))) hF122 (by kernel_rfl) (by kernel_rfl) (k' := 10) rfl (f := 9) (vs := []) (cap := []) (by kernel_rfl) (by kernel_rfl) (by kernel_rfl) (awake_c w97) ?_
            rintro _ w123 ⟨rfl, hM124x⟩ a125 ea hF126; clear ea hF122 a121
            have hM124 : Mem noS w w123 [.blk b1 24 [nm, wk, pa, va, (.slice A bs.length c)], .row 3 1 (some ⟨g114, 0, none⟩) ((orderL bs).length) c19 (ints (orderL bs)), .row 3 1 A28 ((raboveL bs).length) c29 (ints (raboveL bs)), .row 4 1 A38 bs.length c39 (bools (walkL bs (-1))), .row 3 1 (some ⟨b52, 0, none⟩) bs.length bs.length (ints m3)] := hM98.call hM124x
            clear hM124x hM98
            replace hF126 : Fr a125 169 [(166, (.bool true)), (167, (.bool true))] := hF126.keep (keep := [166, 167]) (by kernel_rfl)
            refine From_pure 2 12 [2] hF126 (env' := [(2, (.bool true))]) (by kernel_rfl) rfl ?_
            intro a127 hF128; clear hF126 a125
            refine From_end (by kernel_rfl) ?_
            refine W_ret (by kernel_rfl) ?_
            refine out1 (v := (.bool true)) hF128 rfl (by kernel_rfl) ?_
            refine ⟨_, rfl, ?_⟩
            replace hM124 : Mem noS w w123 [] := hM124.pick [false, false, false, false, false] rfl
            exact ⟨rfl, hM124⟩
          · have cn0 : (q : Int) = 0 := by first | exact of_decide_eq_true hBn0.symm | exact of_decide_eq_false hBn0.symm | exact beq_iff_eq.1 hBn0.symm | exact bne_iff_ne.1 hBn0.symm | exact (fun e => Bool.false_ne_true (hBn0.trans (beq_iff_eq.2 e))) | exact (fun e => Bool.false_ne_true (hBn0.trans (bne_iff_ne.2 e)))
            refine From_pure 6 9 [166] hF110 (env' := [(166, (.bool true))]) (by kernel_rfl) rfl ?_
            intro a129 hF130; clear hF110 a109
            refine From_call (by kernel_rfl : coreAt _ 9 = some (some 167, (Go.Op.call { callee := (Go.Callee.value (Go.Operand.func 9)), args := #[], argTypes := #[] }), 4, some (8, true))) hF130 (by kernel_rfl) (by kernel_rfl) (k' := 10) rfl (f := 9) (vs := []) (cap := []) (by kernel_rfl) (by kernel_rfl) (by kernel_rfl) (awake_c w97) ?_
            rintro _ w131 ⟨rfl, hM132x⟩ a133 ea hF134; clear ea hF130 a129
            have hM132 : Mem noS w w131 [.blk b1 24 [nm, wk, pa, va, (.slice A bs.length c)], .row 3 1 A18 ((orderL bs).length) c19 (ints (orderL bs)), .row 3 1 A28 ((raboveL bs).length) c29 (ints (raboveL bs)), .row 4 1 A38 bs.length c39 (bools (walkL bs (-1))), .row 3 1 (some ⟨b52, 0, none⟩) bs.length bs.length (ints m3)] := hM98.call hM132x
            clear hM132x hM98
            replace hF134 : Fr a133 169 [(166, (.bool true)), (167, (.bool true))] := hF134.keep (keep := [166, 167]) (by kernel_rfl)
            refine From_pure 2 12 [2] hF134 (env' := [(2, (.bool true))]) (by kernel_rfl) rfl ?_
            intro a135 hF136; clear hF134 a133
            refine From_end (by kernel_rfl) ?_
            refine W_ret (by kernel_rfl) ?_
            refine out1 (v := (.bool true)) hF136 rfl (by kernel_rfl) ?_
            refine ⟨_, rfl, ?_⟩
            replace hM132 : Mem noS w w131 [] := hM132.pick [false, false, false, false, false] rfl
            exact ⟨rfl, hM132⟩
        · have cj : (j : Int) < (((raboveL bs).length : Nat) : Int) := by first | exact of_decide_eq_true hBj.symm | exact of_decide_eq_false hBj.symm | exact beq_iff_eq.1 hBj.symm | exact bne_iff_ne.1 hBj.symm | exact (fun e => Bool.false_ne_true (hBj.trans (beq_iff_eq.2 e))) | exact (fun e => Bool.false_ne_true (hBj.trans (bne_iff_ne.2 e)))
          refine W_cond (t := 103) (B := true) (by kernel_rfl) hF104 (by kernel_rfl) (fun _ => ?_) (fun t => Bool.noConfusion t)
          refine W_skip (by kernel_rfl) ?_
          refine W_seq (by kernel_rfl) ?_
          refine W_block (id := 5) (by kernel_rfl) ?_
          refine W_seq (by kernel_rfl) ?_
          refine W_region (by kernel_rfl) ?_   -- region 25
          have hjn : j < bs.length := by omega
          obtain ⟨up, hfu⟩ := hfin (by omega)
          refine From_pure 1 1 [3, 4, 5, 6, 7, 10, 106] hF104 (env' := [(3, (.slice A18 ((orderL bs).length) c19)), (4, (.slice A28 ((raboveL bs).length) c29)), (5, (.slice A38 bs.length c39)), (6, (.slice (some ⟨b52, 0, none⟩) bs.length bs.length)), (7, (.int .i64 (q : Int))), (10, (.int .i64 (j : Int))), (106, (.int .i64 (j : Int)))]) (by kernel_rfl) rfl ?_
          intro a137 hF138; clear hF104 a103
          refine From_cmp (by kernel_rfl : coreAt _ 1 = some (some 107, (Go.Op.binOp Go.BinOp.eql 3 (Go.Operand.tmp 106) (Go.Operand.const (Go.Value.int Go.IntKind.i64 0)) 3), 4, none)) hF138 (by kernel_rfl) (by kernel_rfl) (k' := 2) rfl (kd := .i64) (i := (j : Int)) (j := 0) (by kernel_rfl) (by kernel_rfl) rfl ?_
          intro Bz hBz a139 ea hF140; clear ea hF138 a137
          replace hF140 : Fr a139 169 [(3, (.slice A18 ((orderL bs).length) c19)), (4, (.slice A28 ((raboveL bs).length) c29)), (5, (.slice A38 bs.length c39)), (6, (.slice (some ⟨b52, 0, none⟩) bs.length bs.length)), (7, (.int .i64 (q : Int))), (10, (.int .i64 (j : Int))), (107, (.bool Bz))] := hF140.keep (keep := [3, 4, 5, 6, 7, 10, 107]) (by kernel_rfl)
          refine From_pure 1 3 [3, 4, 5, 6, 7, 10, 108] hF140 (env' := [(3, (.slice A18 ((orderL bs).length) c19)), (4, (.slice A28 ((raboveL bs).length) c29)), (5, (.slice A38 bs.length c39)), (6, (.slice (some ⟨b52, 0, none⟩) bs.length bs.length)), (7, (.int .i64 (q : Int))), (10, (.int .i64 (j : Int))), (108, (.bool Bz))]) (by kernel_rfl) rfl ?_
          intro a141 hF142; clear hF140 a139
          cases Bz
          · have cz : ¬ ((j : Int) = 0) := by first | exact of_decide_eq_true hBz.symm | exact of_decide_eq_false hBz.symm | exact beq_iff_eq.1 hBz.symm | exact bne_iff_ne.1 hBz.symm | exact (fun e => Bool.false_ne_true (hBz.trans (beq_iff_eq.2 e))) | exact (fun e => Bool.false_ne_true (hBz.trans (bne_iff_ne.2 e)))
            refine From_pure 2 5 [3, 4, 5, 6, 7, 10, 108, 109, 110] hF142 (env' := [(3, (.slice A18 ((orderL bs).length) c19)), (4, (.slice A28 ((raboveL bs).length) c29)), (5, (.slice A38 bs.length c39)), (6, (.slice (some ⟨b52, 0, none⟩) bs.length bs.length)), (7, (.int .i64 (q : Int))), (10, (.int .i64 (j : Int))), (108, (.bool false)), (109, (.slice A38 bs.length c39)), (110, (.int .i64 (j : Int)))]) (by kernel_rfl) rfl ?_
            intro a143 hF144; clear hF142 a141
            obtain ⟨g146, rfl⟩ := row_some (hM98.get 3 rfl) (by omega)
            refine From_index (by kernel_rfl : coreAt _ 5 = some (some 111, (Go.Op.indexAddr 33 (Go.Operand.tmp 109) (Go.Operand.tmp 110)), 0, some (2, false))) hF144 (by kernel_rfl) (by kernel_rfl) (k' := 6) rfl (A := (some ⟨g146, 0, none⟩)) (ad := ⟨g146, 0, none⟩) (n := bs.length) (cap := c39) (e := 4) (size := 1) (kd := .i64) (i := (j : Int)) (by kernel_rfl) (by kernel_rfl) rfl (by kernel_rfl) (by kernel_rfl) (by omega) (by omega) ?_
            intro a147 ea hF148; clear ea hF144 a143
            replace hF148 : Fr a147 169 [(3, (.slice A18 ((orderL bs).length) c19)), (4, (.slice A28 ((raboveL bs).length) c29)), (5, (.slice (some ⟨g146, 0, none⟩) bs.length c39)), (6, (.slice (some ⟨b52, 0, none⟩) bs.length bs.length)), (7, (.int .i64 (q : Int))), (10, (.int .i64 (j : Int))), (108, (.bool false)), (111, (.pointer (some ((⟨g146, 0, none⟩ : Addr).add (((j : Int)).toNat * 1)))))] := hF148.keep (keep := [3, 4, 5, 6, 7, 10, 108, 111]) (by kernel_rfl)
            refine From_load1 (by kernel_rfl : coreAt _ 6 = some (some 112, (Go.Op.load 4 (Go.Operand.tmp 111)), 4, some (2, false))) hF148 (by kernel_rfl) (by kernel_rfl) (k' := 7) rfl (ad := ((⟨g146, 0, none⟩ : Addr).add (((j : Int)).toNat * 1))) (v := (.bool ((walkL bs (-1)).getD j false))) (by kernel_rfl) (by kernel_rfl) (rd_get1 (row_rd (hM98.get 3 rfl)) rfl (bools_get (by rw [walkL_len]; omega))) ?_
            intro a149 ea hF150; clear ea hF148 a147
            replace hF150 : Fr a149 169 [(3, (.slice A18 ((orderL bs).length) c19)), (4, (.slice A28 ((raboveL bs).length) c29)), (5, (.slice (some ⟨g146, 0, none⟩) bs.length c39)), (6, (.slice (some ⟨b52, 0, none⟩) bs.length bs.length)), (7, (.int .i64 (q : Int))), (10, (.int .i64 (j : Int))), (108, (.bool false)), (112, (.bool ((walkL bs (-1)).getD j false)))] := hF150.keep (keep := [3, 4, 5, 6, 7, 10, 108, 112]) (by kernel_rfl)
            obtain ⟨Bin, hBin⟩ : ∃ B, B = (walkL bs (-1)).getD j false := ⟨_, rfl⟩
            rw [← hBin] at hF150
            replace hF150 : Fr a149 169 [(3, (.slice A18 ((orderL bs).length) c19)), (4, (.slice A28 ((raboveL bs).length) c29)), (5, (.slice (some ⟨g146, 0, none⟩) bs.length c39)), (6, (.slice (some ⟨b52, 0, none⟩) bs.length bs.length)), (7, (.int .i64 (q : Int))), (10, (.int .i64 (j : Int))), (108, (.bool false)), (112, (.bool Bin))] := hF150.keep (keep := [3, 4, 5, 6, 7, 10, 108, 112]) (by kernel_rfl)
            refine From_pure 2 9 [3, 4, 5, 6, 7, 10, 114] hF150 (env' := [(3, (.slice A18 ((orderL bs).length) c19)), (4, (.slice A28 ((raboveL bs).length) c29)), (5, (.slice (some ⟨g146, 0, none⟩) bs.length c39)), (6, (.slice (some ⟨b52, 0, none⟩) bs.length bs.length)), (7, (.int .i64 (q : Int))), (10, (.int .i64 (j : Int))), (114, (.bool (!Bin)))]) (by kernel_rfl) rfl ?_
            intro a151 hF152; clear hF150 a149
            refine From_end (by kernel_rfl) ?_
            cases Bin
            · have cin : ((walkL bs (-1)).getD j false) = false := hBin.symm
              refine W_cond (t := 114) (B := true) (by kernel_rfl) hF152 (by kernel_rfl) (fun _ => ?_) (fun t => Bool.noConfusion t)
              refine W_seq (by kernel_rfl) ?_
              refine W_region (by kernel_rfl) ?_   -- region 26
              have hup : up (j : Int) = -1 := hfu.off _ (.inl (out_place hjn cin))
              refine From_pure 2 2 [3, 4, 5, 6, 7, 10, 115, 116] hF152 (env' := [(3, (.slice A18 ((orderL bs).length) c19)), (4, (.slice A28 ((raboveL bs).length) c29)), (5, (.slice (some ⟨g146, 0, none⟩) bs.length c39)), (6, (.slice (some ⟨b52, 0, none⟩) bs.length bs.length)), (7, (.int .i64 (q : Int))), (10, (.int .i64 (j : Int))), (115, (.slice A28 ((raboveL bs).length) c29)), (116, (.int .i64 (j : Int)))]) (by kernel_rfl) rfl ?_
              intro a153 hF154; clear hF152 a151
              obtain ⟨g156, rfl⟩ := row_some (hM98.get 2 rfl) (by omega)
              refine From_index (by kernel_rfl : coreAt _ 2 = some (some 117, (Go.Op.indexAddr 27 (Go.Operand.tmp 115) (Go.Operand.tmp 116)), 0, none)) hF154 (by kernel_rfl) (by kernel_rfl) (k' := 3) rfl (A := (some ⟨g156, 0, none⟩)) (ad := ⟨g156, 0, none⟩) (n := ((raboveL bs).length)) (cap := c29) (e := 3) (size := 1) (kd := .i64) (i := (j : Int)) (by kernel_rfl) (by kernel_rfl) rfl (by kernel_rfl) (by kernel_rfl) (by omega) (by omega) ?_
              intro a157 ea hF158; clear ea hF154 a153
              replace hF158 : Fr a157 169 [(3, (.slice A18 ((orderL bs).length) c19)), (4, (.slice (some ⟨g156, 0, none⟩) ((raboveL bs).length) c29)), (5, (.slice (some ⟨g146, 0, none⟩) bs.length c39)), (6, (.slice (some ⟨b52, 0, none⟩) bs.length bs.length)), (7, (.int .i64 (q : Int))), (10, (.int .i64 (j : Int))), (117, (.pointer (some ((⟨g156, 0, none⟩ : Addr).add (((j : Int)).toNat * 1)))))] := hF158.keep (keep := [3, 4, 5, 6, 7, 10, 117]) (by kernel_rfl)
              refine From_load1 (by kernel_rfl : coreAt _ 3 = some (some 118, (Go.Op.load 3 (Go.Operand.tmp 117)), 3, none)) hF158 (by kernel_rfl) (by kernel_rfl) (k' := 4) rfl (ad := ((⟨g156, 0, none⟩ : Addr).add (((j : Int)).toNat * 1))) (v := (.int .i64 (-1))) (by kernel_rfl) (by kernel_rfl) (rd_get1 (row_rd (hM98.get 2 rfl)) rfl (at_eq hfu.of (by omega) (by omega) hup)) ?_
              intro a159 ea hF160; clear ea hF158 a157
              replace hF160 : Fr a159 169 [(3, (.slice A18 ((orderL bs).length) c19)), (4, (.slice (some ⟨g156, 0, none⟩) ((raboveL bs).length) c29)), (5, (.slice (some ⟨g146, 0, none⟩) bs.length c39)), (6, (.slice (some ⟨b52, 0, none⟩) bs.length bs.length)), (7, (.int .i64 (q : Int))), (10, (.int .i64 (j : Int))), (118, (.int .i64 (-1)))] := hF160.keep (keep := [3, 4, 5, 6, 7, 10, 118]) (by kernel_rfl)
              refine From_cmp (by kernel_rfl : coreAt _ 4 = some (some 119, (Go.Op.binOp Go.BinOp.neq 3 (Go.Operand.tmp 118) (Go.Operand.const (Go.Value.int Go.IntKind.i64 (-1))) 3), 4, none)) hF160 (by kernel_rfl) (by kernel_rfl) (k' := 5) rfl (kd := .i64) (i := (-1)) (j := (-1)) (by kernel_rfl) (by kernel_rfl) rfl ?_
              intro Bu hBu a161 ea hF162; clear ea hF160 a159
              obtain rfl : Bu = false := by
                have hkn : ¬ (((-1) : Int) ≠ (-1)) := by omega
                first | exact hBu.trans (decide_eq_true hkn) | exact hBu.trans (decide_eq_false hkn) | exact hBu.trans (beq_iff_eq.2 hkn) | exact hBu.trans (bne_iff_ne.2 hkn) | exact hBu.trans (Bool.eq_false_iff.2 (fun e => hkn (beq_iff_eq.1 e))) | exact hBu.trans (Bool.eq_false_iff.2 (fun e => hkn (bne_iff_ne.1 e)))
              clear hBu
              replace hF162 : Fr a161 169 [(3, (.slice A18 ((orderL bs).length) c19)), (4, (.slice (some ⟨g156, 0, none⟩) ((raboveL bs).length) c29)), (5, (.slice (some ⟨g146, 0, none⟩) bs.length c39)), (6, (.slice (some ⟨b52, 0, none⟩) bs.length bs.length)), (7, (.int .i64 (q : Int))), (10, (.int .i64 (j : Int))), (119, (.bool false))] := hF162.keep (keep := [3, 4, 5, 6, 7, 10, 119]) (by kernel_rfl)
              refine From_end (by kernel_rfl) ?_
              refine W_cond (t := 119) (B := false) (by kernel_rfl) hF162 (by kernel_rfl) (fun t => Bool.noConfusion t) (fun _ => ?_)
              refine W_skip (by kernel_rfl) ?_
              refine W_region (by kernel_rfl) ?_   -- region 24
              refine From_pure 1 1 [3, 4, 5, 6, 7, 104] hF162 (env' := [(3, (.slice A18 ((orderL bs).length) c19)), (4, (.slice (some ⟨g156, 0, none⟩) ((raboveL bs).length) c29)), (5, (.slice (some ⟨g146, 0, none⟩) bs.length c39)), (6, (.slice (some ⟨b52, 0, none⟩) bs.length bs.length)), (7, (.int .i64 (q : Int))), (104, (.int .i64 (j : Int)))]) (by kernel_rfl) rfl ?_
              intro a163 hF164; clear hF162 a161
              refine From_arith (by kernel_rfl : coreAt _ 1 = some (some 105, (Go.Op.binOp Go.BinOp.add 3 (Go.Operand.tmp 104) (Go.Operand.const (Go.Value.int Go.IntKind.i64 1)) 3), 3, none)) hF164 (by kernel_rfl) (by kernel_rfl) (k' := 2) rfl (i := (j : Int)) (j := 1) (z := ((j : Int) + 1)) (by kernel_rfl) (by kernel_rfl) rfl (by omega) (by omega) ?_
              intro a165 ea hF166; clear ea hF164 a163
              replace hF166 : Fr a165 169 [(3, (.slice A18 ((orderL bs).length) c19)), (4, (.slice (some ⟨g156, 0, none⟩) ((raboveL bs).length) c29)), (5, (.slice (some ⟨g146, 0, none⟩) bs.length c39)), (6, (.slice (some ⟨b52, 0, none⟩) bs.length bs.length)), (7, (.int .i64 (q : Int))), (105, (.int .i64 ((j : Int) + 1)))] := hF166.keep (keep := [3, 4, 5, 6, 7, 105]) (by kernel_rfl)
              refine From_pure 1 3 [3, 4, 5, 6, 7, 10] hF166 (env' := [(3, (.slice A18 ((orderL bs).length) c19)), (4, (.slice (some ⟨g156, 0, none⟩) ((raboveL bs).length) c29)), (5, (.slice (some ⟨g146, 0, none⟩) bs.length c39)), (6, (.slice (some ⟨b52, 0, none⟩) bs.length bs.length)), (7, (.int .i64 (q : Int))), (10, (.int .i64 ((j : Int) + 1)))]) (by kernel_rfl) rfl ?_
              intro a167 hF168; clear hF166 a165
              refine From_end (by kernel_rfl) ?_
              exact ⟨bs.length - (j + 1), by omega, j + 1, rfl, hF168.keep (keep := [3, 4, 5, 6, 7, 10]) (by kernel_rfl), hM98, by omega⟩
            · have cin : ((walkL bs (-1)).getD j false) = true := hBin.symm
              refine W_cond (t := 114) (B := false) (by kernel_rfl) hF152 (by kernel_rfl) (fun t => Bool.noConfusion t) (fun _ => ?_)
              refine W_seq (by kernel_rfl) ?_
              obtain ⟨u, hu1, hu2, hu3, hu4⟩ := up_low hfu hjn cin (by omega)
              obtain ⟨g169, rfl⟩ := row_some (hM98.get 2 rfl) (by omega)
              obtain ⟨u, hu1, hu2, hu3, hu4⟩ := up_low hfu hjn cin (by omega)
              obtain ⟨Bu1, hBu1⟩ : ∃ B : Bool, B = decide ((u : Int) < 0) := ⟨_, rfl⟩
              obtain rfl : Bu1 = false := by
                have hkn : ¬ (((u : Int) : Int) < 0) := by omega
                first | exact hBu1.trans (decide_eq_true hkn) | exact hBu1.trans (decide_eq_false hkn) | exact hBu1.trans (beq_iff_eq.2 hkn) | exact hBu1.trans (bne_iff_ne.2 hkn) | exact hBu1.trans (Bool.eq_false_iff.2 (fun e => hkn (beq_iff_eq.1 e))) | exact hBu1.trans (Bool.eq_false_iff.2 (fun e => hkn (bne_iff_ne.1 e)))
              obtain ⟨Bu2, hBu2⟩ : ∃ B : Bool, B = decide ((u : Int) ≥ (((raboveL bs).length : Nat) : Int)) := ⟨_, rfl⟩
              obtain rfl : Bu2 = false := by
                have hkn : ¬ (((u : Int) : Int) ≥ (((raboveL bs).length : Nat) : Int)) := by omega
                first | exact hBu2.trans (decide_eq_true hkn) | exact hBu2.trans (decide_eq_false hkn) | exact hBu2.trans (beq_iff_eq.2 hkn) | exact hBu2.trans (bne_iff_ne.2 hkn) | exact hBu2.trans (Bool.eq_false_iff.2 (fun e => hkn (beq_iff_eq.1 e))) | exact hBu2.trans (Bool.eq_false_iff.2 (fun e => hkn (bne_iff_ne.1 e)))
              obtain ⟨Bu3, hBu3⟩ : ∃ B : Bool, B = decide ((plB bs (u : Int)) < 0) := ⟨_, rfl⟩
              obtain rfl : Bu3 = false := by
                have hkn : ¬ (((plB bs (u : Int)) : Int) < 0) := by omega
                first | exact hBu3.trans (decide_eq_true hkn) | exact hBu3.trans (decide_eq_false hkn) | exact hBu3.trans (beq_iff_eq.2 hkn) | exact hBu3.trans (bne_iff_ne.2 hkn) | exact hBu3.trans (Bool.eq_false_iff.2 (fun e => hkn (beq_iff_eq.1 e))) | exact hBu3.trans (Bool.eq_false_iff.2 (fun e => hkn (bne_iff_ne.1 e)))
              obtain ⟨Bu4, hBu4⟩ : ∃ B : Bool, B = decide ((plB bs (u : Int)) ≥ (plB bs (j : Int))) := ⟨_, rfl⟩
              obtain rfl : Bu4 = false := by
                have hkn : ¬ (((plB bs (u : Int)) : Int) ≥ (plB bs (j : Int))) := by omega
                first | exact hBu4.trans (decide_eq_true hkn) | exact hBu4.trans (decide_eq_false hkn) | exact hBu4.trans (beq_iff_eq.2 hkn) | exact hBu4.trans (bne_iff_ne.2 hkn) | exact hBu4.trans (Bool.eq_false_iff.2 (fun e => hkn (beq_iff_eq.1 e))) | exact hBu4.trans (Bool.eq_false_iff.2 (fun e => hkn (bne_iff_ne.1 e)))
              refine W_draw (N := 169) (env0 := [(3, (.slice A18 ((orderL bs).length) c19)), (4, (.slice (some ⟨g169, 0, none⟩) ((raboveL bs).length) c29)), (5, (.slice (some ⟨g146, 0, none⟩) bs.length c39)), (6, (.slice (some ⟨b52, 0, none⟩) bs.length bs.length)), (7, (.int .i64 (q : Int))), (10, (.int .i64 (j : Int))), (114, (.bool false))]) (by kernel_rfl) (by kernel_rfl) (specAt [.det (.slice (some ⟨g169, 0, none⟩) ((raboveL bs).length) c29), .det (.int .i64 (j : Int)), .det (.pointer (some ((⟨g169, 0, none⟩ : Addr).add (((j : Int)).toNat * 1)))), .det (.int .i64 (u : Int)), .det (.bool false), .det (.bool false), .det (.slice (some ⟨g169, 0, none⟩) ((raboveL bs).length) c29), .det (.int .i64 (j : Int)), .det (.pointer (some ((⟨g169, 0, none⟩ : Addr).add (((j : Int)).toNat * 1)))), .det (.int .i64 (u : Int)), .det (.slice (some ⟨g169, 0, none⟩) ((raboveL bs).length) c29), .det (.int .i64 (((raboveL bs).length : Nat) : Int)), .det (.bool false), .det (.bool false), .det (.bool false), .det (.slice (some ⟨b52, 0, none⟩) bs.length bs.length), .det (.slice (some ⟨g169, 0, none⟩) ((raboveL bs).length) c29), .det (.int .i64 (j : Int)), .det (.pointer (some ((⟨g169, 0, none⟩ : Addr).add (((j : Int)).toNat * 1)))), .det (.int .i64 (u : Int)), .det (.pointer (some ((⟨b52, 0, none⟩ : Addr).add (((u : Int)).toNat * 1)))), .det (.int .i64 (plB bs (u : Int))), .det (.bool false), .det (.bool false), .det (.bool false), .det (.slice (some ⟨b52, 0, none⟩) bs.length bs.length), .det (.slice (some ⟨g169, 0, none⟩) ((raboveL bs).length) c29), .det (.int .i64 (j : Int)), .det (.pointer (some ((⟨g169, 0, none⟩ : Addr).add (((j : Int)).toNat * 1)))), .det (.int .i64 (u : Int)), .det (.pointer (some ((⟨b52, 0, none⟩ : Addr).add (((u : Int)).toNat * 1)))), .det (.int .i64 (plB bs (u : Int))), .det (.slice (some ⟨b52, 0, none⟩) bs.length bs.length), .det (.int .i64 (j : Int)), .det (.pointer (some ((⟨b52, 0, none⟩ : Addr).add (((j : Int)).toNat * 1)))), .det (.int .i64 (plB bs (j : Int))), .det (.bool false), .det (.bool false)]) (by kernel_rfl) (by kernel_rfl) hF152 (by kernel_rfl) (by kernel_rfl) ((lt_succ_all (lt_succ_all (lt_succ_all (lt_succ_all (lt_succ_all (lt_succ_all (lt_succ_all (lt_succ_all (lt_succ_all (lt_succ_all (lt_succ_all (lt_succ_all (lt_succ_all (lt_succ_all (lt_succ_all (lt_succ_all (lt_succ_all (lt_succ_all (lt_succ_all (lt_succ_all (lt_succ_all (lt_succ_all (lt_succ_all (lt_succ_all (lt_succ_all (lt_succ_all (lt_succ_all (lt_succ_all (lt_succ_all (lt_succ_all (lt_succ_all (lt_succ_all (lt_succ_all (lt_succ_all (lt_succ_all (lt_succ_all (lt_succ_all (lt_succ_all lt_zero_all ?_) ?_) ?_) ?_) ?_) ?_) ?_) ?_) ?_) ?_) ?_) ?_) ?_) ?_) ?_) ?_) ?_) ?_) ?_) ?_) ?_) ?_) ?_) ?_) ?_) ?_) ?_) ?_) ?_) ?_) ?_) ?_) ?_) ?_) ?_) ?_) ?_) ?_)) ?_   -- region 28
              · intro aa_ w_ vs rest_ hK hp hF
                refine ⟨true, opok_guard (g0 := none) (by kernel_rfl) (by kernel_rfl), fun _ => ?_, fun h => Bool.noConfusion h⟩
                replace hF : Fr aa_ 169 [(4, (.slice (some ⟨g169, 0, none⟩) ((raboveL bs).length) c29))] := hF.keep (keep := [4]) (by kernel_rfl)
                refine From_pure1 (by kernel_rfl : coreAt _ 0 = some (some 120, (Go.Op.move (Go.Operand.tmp 4)), 27, none)) hF (by kernel_rfl) (by kernel_rfl) (k' := 1) rfl (v := (.slice (some ⟨g169, 0, none⟩) ((raboveL bs).length) c29)) (by kernel_rfl) ?_
                intro a2 ea _
                refine From_end (by kernel_rfl) ?_; exact op_done (d := some 120) (by kernel_rfl) ea (Kp.refl _) rfl
              · intro aa_ w_ vs rest_ hK hp hF
                refine ⟨true, opok_guard (g0 := none) (by kernel_rfl) (by kernel_rfl), fun _ => ?_, fun h => Bool.noConfusion h⟩
                replace hF : Fr aa_ 169 [(10, (.int .i64 (j : Int)))] := hF.keep (keep := [10]) (by kernel_rfl)
                refine From_pure1 (by kernel_rfl : coreAt _ 0 = some (some 121, (Go.Op.move (Go.Operand.tmp 10)), 3, none)) hF (by kernel_rfl) (by kernel_rfl) (k' := 1) rfl (v := (.int .i64 (j : Int))) (by kernel_rfl) ?_
                intro a2 ea _
                refine From_end (by kernel_rfl) ?_; exact op_done (d := some 121) (by kernel_rfl) ea (Kp.refl _) rfl
              · intro aa_ w_ vs rest_ hK hp hF
                refine ⟨true, opok_guard (g0 := none) (by kernel_rfl) (by kernel_rfl), fun _ => ?_, fun h => Bool.noConfusion h⟩
                replace hF : Fr aa_ 169 [(120, (.slice (some ⟨g169, 0, none⟩) ((raboveL bs).length) c29)), (121, (.int .i64 (j : Int)))] := hF.keep (keep := [120, 121]) (by kernel_rfl)
                refine From_index (by kernel_rfl : coreAt _ 0 = some (some 122, (Go.Op.indexAddr 27 (Go.Operand.tmp 120) (Go.Operand.tmp 121)), 0, none)) hF (by kernel_rfl) (by kernel_rfl) (k' := 1) rfl (A := (some ⟨g169, 0, none⟩)) (ad := ⟨g169, 0, none⟩) (n := ((raboveL bs).length)) (cap := c29) (e := 3) (size := 1) (kd := .i64) (i := (j : Int)) (by kernel_rfl) (by kernel_rfl) rfl (by kernel_rfl) (by kernel_rfl) (by omega) (by omega) ?_
                intro a2 ea _
                refine From_end (by kernel_rfl) ?_; exact op_done (d := some 122) (by kernel_rfl) ea (Kp.refl _) rfl
              · intro aa_ w_ vs rest_ hK hp hF
                refine ⟨true, opok_guard (g0 := none) (by kernel_rfl) (by kernel_rfl), fun _ => ?_, fun h => Bool.noConfusion h⟩
                replace hF : Fr aa_ 169 [(122, (.pointer (some ((⟨g169, 0, none⟩ : Addr).add (((j : Int)).toNat * 1)))))] := hF.keep (keep := [122]) (by kernel_rfl)
                refine From_load1 (by kernel_rfl : coreAt _ 0 = some (some 123, (Go.Op.load 3 (Go.Operand.tmp 122)), 3, none)) hF (by kernel_rfl) (by kernel_rfl) (k' := 1) rfl (ad := ((⟨g169, 0, none⟩ : Addr).add (((j : Int)).toNat * 1))) (v := (.int .i64 (u : Int))) (by kernel_rfl) (by kernel_rfl) (rd_get1 (row_rd ((hM98.then_ hK).get 2 rfl)) rfl (at_eq hfu.of (by omega) (by omega) hu1)) ?_
                intro a2 ea _
                refine From_end (by kernel_rfl) ?_; exact op_done (d := some 123) (by kernel_rfl) ea (Kp.refl _) rfl
              · intro aa_ w_ vs rest_ hK hp hF
                refine ⟨true, opok_guard (g0 := none) (by kernel_rfl) (by kernel_rfl), fun _ => ?_, fun h => Bool.noConfusion h⟩
                replace hF : Fr aa_ 169 [(123, (.int .i64 (u : Int)))] := hF.keep (keep := [123]) (by kernel_rfl)
                refine From_cmp (by kernel_rfl : coreAt _ 0 = some (some 124, (Go.Op.binOp Go.BinOp.lss 3 (Go.Operand.tmp 123) (Go.Operand.const (Go.Value.int Go.IntKind.i64 0)) 3), 4, none)) hF (by kernel_rfl) (by kernel_rfl) (k' := 1) rfl (kd := .i64) (i := (u : Int)) (j := 0) (by kernel_rfl) (by kernel_rfl) rfl ?_
                intro B_ hB_ a2 ea _
                refine From_end (by kernel_rfl) ?_; exact op_done (d := some 124) (by kernel_rfl) ea (Kp.refl _) (congrArg Value.bool (hB_.trans hBu1.symm))
              · intro aa_ w_ vs rest_ hK hp hF
                refine ⟨true, opok_guard (g0 := none) (by kernel_rfl) (by kernel_rfl), fun _ => ?_, fun h => Bool.noConfusion h⟩
                replace hF : Fr aa_ 169 [(124, (.bool false))] := hF.keep (keep := [124]) (by kernel_rfl)
                refine From_pure1 (by kernel_rfl : coreAt _ 0 = some (some 125, (Go.Op.move (Go.Operand.tmp 124)), 4, none)) hF (by kernel_rfl) (by kernel_rfl) (k' := 1) rfl (v := (.bool false)) (by kernel_rfl) ?_
                intro a2 ea _
                refine From_end (by kernel_rfl) ?_; exact op_done (d := some 125) (by kernel_rfl) ea (Kp.refl _) rfl
              · intro aa_ w_ vs rest_ hK hp hF
                refine ⟨true, opok_guard (g0 := some (5, false)) (by kernel_rfl) (by kernel_rfl), fun _ => ?_, fun h => Bool.noConfusion h⟩
                replace hF : Fr aa_ 169 [(4, (.slice (some ⟨g169, 0, none⟩) ((raboveL bs).length) c29)), (125, (.bool false))] := hF.keep (keep := [4, 125]) (by kernel_rfl)
                refine From_pure1 (by kernel_rfl : coreAt _ 0 = some (some 126, (Go.Op.move (Go.Operand.tmp 4)), 27, none)) hF (by kernel_rfl) (by kernel_rfl) (k' := 1) rfl (v := (.slice (some ⟨g169, 0, none⟩) ((raboveL bs).length) c29)) (by kernel_rfl) ?_
                intro a2 ea _
                refine From_end (by kernel_rfl) ?_; exact op_done (d := some 126) (by kernel_rfl) ea (Kp.refl _) rfl
              · intro aa_ w_ vs rest_ hK hp hF
                refine ⟨true, opok_guard (g0 := some (5, false)) (by kernel_rfl) (by kernel_rfl), fun _ => ?_, fun h => Bool.noConfusion h⟩
                replace hF : Fr aa_ 169 [(10, (.int .i64 (j : Int))), (125, (.bool false))] := hF.keep (keep := [10, 125]) (by kernel_rfl)
                refine From_pure1 (by kernel_rfl : coreAt _ 0 = some (some 127, (Go.Op.move (Go.Operand.tmp 10)), 3, none)) hF (by kernel_rfl) (by kernel_rfl) (k' := 1) rfl (v := (.int .i64 (j : Int))) (by kernel_rfl) ?_
                intro a2 ea _
                refine From_end (by kernel_rfl) ?_; exact op_done (d := some 127) (by kernel_rfl) ea (Kp.refl _) rfl
              · intro aa_ w_ vs rest_ hK hp hF
                refine ⟨true, opok_guard (g0 := some (5, false)) (by kernel_rfl) (by kernel_rfl), fun _ => ?_, fun h => Bool.noConfusion h⟩
                replace hF : Fr aa_ 169 [(125, (.bool false)), (126, (.slice (some ⟨g169, 0, none⟩) ((raboveL bs).length) c29)), (127, (.int .i64 (j : Int)))] := hF.keep (keep := [125, 126, 127]) (by kernel_rfl)
                refine From_index (by kernel_rfl : coreAt _ 0 = some (some 128, (Go.Op.indexAddr 27 (Go.Operand.tmp 126) (Go.Operand.tmp 127)), 0, none)) hF (by kernel_rfl) (by kernel_rfl) (k' := 1) rfl (A := (some ⟨g169, 0, none⟩)) (ad := ⟨g169, 0, none⟩) (n := ((raboveL bs).length)) (cap := c29) (e := 3) (size := 1) (kd := .i64) (i := (j : Int)) (by kernel_rfl) (by kernel_rfl) rfl (by kernel_rfl) (by kernel_rfl) (by omega) (by omega) ?_
                intro a2 ea _
                refine From_end (by kernel_rfl) ?_; exact op_done (d := some 128) (by kernel_rfl) ea (Kp.refl _) rfl
              · intro aa_ w_ vs rest_ hK hp hF
                refine ⟨true, opok_guard (g0 := some (5, false)) (by kernel_rfl) (by kernel_rfl), fun _ => ?_, fun h => Bool.noConfusion h⟩
                replace hF : Fr aa_ 169 [(125, (.bool false)), (128, (.pointer (some ((⟨g169, 0, none⟩ : Addr).add (((j : Int)).toNat * 1)))))] := hF.keep (keep := [125, 128]) (by kernel_rfl)
                refine From_load1 (by kernel_rfl : coreAt _ 0 = some (some 129, (Go.Op.load 3 (Go.Operand.tmp 128)), 3, none)) hF (by kernel_rfl) (by kernel_rfl) (k' := 1) rfl (ad := ((⟨g169, 0, none⟩ : Addr).add (((j : Int)).toNat * 1))) (v := (.int .i64 (u : Int))) (by kernel_rfl) (by kernel_rfl) (rd_get1 (row_rd ((hM98.then_ hK).get 2 rfl)) rfl (at_eq hfu.of (by omega) (by omega) hu1)) ?_
                intro a2 ea _
                refine From_end (by kernel_rfl) ?_; exact op_done (d := some 129) (by kernel_rfl) ea (Kp.refl _) rfl
              · intro aa_ w_ vs rest_ hK hp hF
                refine ⟨true, opok_guard (g0 := some (5, false)) (by kernel_rfl) (by kernel_rfl), fun _ => ?_, fun h => Bool.noConfusion h⟩
                replace hF : Fr aa_ 169 [(4, (.slice (some ⟨g169, 0, none⟩) ((raboveL bs).length) c29)), (125, (.bool false))] := hF.keep (keep := [4, 125]) (by kernel_rfl)
                refine From_pure1 (by kernel_rfl : coreAt _ 0 = some (some 130, (Go.Op.move (Go.Operand.tmp 4)), 27, none)) hF (by kernel_rfl) (by kernel_rfl) (k' := 1) rfl (v := (.slice (some ⟨g169, 0, none⟩) ((raboveL bs).length) c29)) (by kernel_rfl) ?_
                intro a2 ea _
                refine From_end (by kernel_rfl) ?_; exact op_done (d := some 130) (by kernel_rfl) ea (Kp.refl _) rfl
              · intro aa_ w_ vs rest_ hK hp hF
                refine ⟨true, opok_guard (g0 := some (5, false)) (by kernel_rfl) (by kernel_rfl), fun _ => ?_, fun h => Bool.noConfusion h⟩
                replace hF : Fr aa_ 169 [(125, (.bool false)), (130, (.slice (some ⟨g169, 0, none⟩) ((raboveL bs).length) c29))] := hF.keep (keep := [125, 130]) (by kernel_rfl)
                refine From_pure1 (by kernel_rfl : coreAt _ 0 = some (some 131, (Go.Op.call { callee := (Go.Callee.builtin Go.Builtin.len), args := #[(Go.Operand.tmp 130)], argTypes := #[27] }), 3, none)) hF (by kernel_rfl) (by kernel_rfl) (k' := 1) rfl (v := (.int .i64 (((raboveL bs).length : Nat) : Int))) (by kernel_rfl) ?_
                intro a2 ea _
                refine From_end (by kernel_rfl) ?_; exact op_done (d := some 131) (by kernel_rfl) ea (Kp.refl _) rfl
              · intro aa_ w_ vs rest_ hK hp hF
                refine ⟨true, opok_guard (g0 := some (5, false)) (by kernel_rfl) (by kernel_rfl), fun _ => ?_, fun h => Bool.noConfusion h⟩
                replace hF : Fr aa_ 169 [(125, (.bool false)), (129, (.int .i64 (u : Int))), (131, (.int .i64 (((raboveL bs).length : Nat) : Int)))] := hF.keep (keep := [125, 129, 131]) (by kernel_rfl)
                refine From_cmp (by kernel_rfl : coreAt _ 0 = some (some 132, (Go.Op.binOp Go.BinOp.geq 3 (Go.Operand.tmp 129) (Go.Operand.tmp 131) 3), 4, none)) hF (by kernel_rfl) (by kernel_rfl) (k' := 1) rfl (kd := .i64) (i := (u : Int)) (j := (((raboveL bs).length : Nat) : Int)) (by kernel_rfl) (by kernel_rfl) rfl ?_
                intro B_ hB_ a2 ea _
                refine From_end (by kernel_rfl) ?_; exact op_done (d := some 132) (by kernel_rfl) ea (Kp.refl _) (congrArg Value.bool (hB_.trans hBu2.symm))
              · intro aa_ w_ vs rest_ hK hp hF
                refine ⟨true, opok_guard (g0 := none) (by kernel_rfl) (by kernel_rfl), fun _ => ?_, fun h => Bool.noConfusion h⟩
                replace hF : Fr aa_ 169 [(125, (.bool false)), (132, (.bool false))] := hF.keep (keep := [125, 132]) (by kernel_rfl)
                refine From_pure1 (by kernel_rfl : coreAt _ 0 = some (some 133, (Go.Op.pick (Go.Operand.tmp 125) (Go.Operand.const (Go.Value.bool true)) (Go.Operand.tmp 132)), 4, none)) hF (by kernel_rfl) (by kernel_rfl) (k' := 1) rfl (v := (.bool false)) (by kernel_rfl) ?_
                intro a2 ea _
                refine From_end (by kernel_rfl) ?_; exact op_done (d := some 133) (by kernel_rfl) ea (Kp.refl _) rfl
              · intro aa_ w_ vs rest_ hK hp hF
                refine ⟨true, opok_guard (g0 := none) (by kernel_rfl) (by kernel_rfl), fun _ => ?_, fun h => Bool.noConfusion h⟩
                replace hF : Fr aa_ 169 [(133, (.bool false))] := hF.keep (keep := [133]) (by kernel_rfl)
                refine From_pure1 (by kernel_rfl : coreAt _ 0 = some (some 134, (Go.Op.move (Go.Operand.tmp 133)), 4, none)) hF (by kernel_rfl) (by kernel_rfl) (k' := 1) rfl (v := (.bool false)) (by kernel_rfl) ?_
                intro a2 ea _
                refine From_end (by kernel_rfl) ?_; exact op_done (d := some 134) (by kernel_rfl) ea (Kp.refl _) rfl
              · intro aa_ w_ vs rest_ hK hp hF
                refine ⟨true, opok_guard (g0 := some (14, false)) (by kernel_rfl) (by kernel_rfl), fun _ => ?_, fun h => Bool.noConfusion h⟩
                replace hF : Fr aa_ 169 [(6, (.slice (some ⟨b52, 0, none⟩) bs.length bs.length)), (134, (.bool false))] := hF.keep (keep := [6, 134]) (by kernel_rfl)
                refine From_pure1 (by kernel_rfl : coreAt _ 0 = some (some 135, (Go.Op.move (Go.Operand.tmp 6)), 27, none)) hF (by kernel_rfl) (by kernel_rfl) (k' := 1) rfl (v := (.slice (some ⟨b52, 0, none⟩) bs.length bs.length)) (by kernel_rfl) ?_
                intro a2 ea _
                refine From_end (by kernel_rfl) ?_; exact op_done (d := some 135) (by kernel_rfl) ea (Kp.refl _) rfl
              · intro aa_ w_ vs rest_ hK hp hF
                refine ⟨true, opok_guard (g0 := some (14, false)) (by kernel_rfl) (by kernel_rfl), fun _ => ?_, fun h => Bool.noConfusion h⟩
                replace hF : Fr aa_ 169 [(4, (.slice (some ⟨g169, 0, none⟩) ((raboveL bs).length) c29)), (134, (.bool false))] := hF.keep (keep := [4, 134]) (by kernel_rfl)
                refine From_pure1 (by kernel_rfl : coreAt _ 0 = some (some 136, (Go.Op.move (Go.Operand.tmp 4)), 27, none)) hF (by kernel_rfl) (by kernel_rfl) (k' := 1) rfl (v := (.slice (some ⟨g169, 0, none⟩) ((raboveL bs).length) c29)) (by kernel_rfl) ?_
                intro a2 ea _
                refine From_end (by kernel_rfl) ?_; exact op_done (d := some 136) (by kernel_rfl) ea (Kp.refl _) rfl
              · intro aa_ w_ vs rest_ hK hp hF
                refine ⟨true, opok_guard (g0 := some (14, false)) (by kernel_rfl) (by kernel_rfl), fun _ => ?_, fun h => Bool.noConfusion h⟩
                replace hF : Fr aa_ 169 [(10, (.int .i64 (j : Int))), (134, (.bool false))] := hF.keep (keep := [10, 134]) (by kernel_rfl)
                refine From_pure1 (by kernel_rfl : coreAt _ 0 = some (some 137, (Go.Op.move (Go.Operand.tmp 10)), 3, none)) hF (by kernel_rfl) (by kernel_rfl) (k' := 1) rfl (v := (.int .i64 (j : Int))) (by kernel_rfl) ?_
                intro a2 ea _
                refine From_end (by kernel_rfl) ?_; exact op_done (d := some 137) (by kernel_rfl) ea (Kp.refl _) rfl
              · intro aa_ w_ vs rest_ hK hp hF
                refine ⟨true, opok_guard (g0 := some (14, false)) (by kernel_rfl) (by kernel_rfl), fun _ => ?_, fun h => Bool.noConfusion h⟩
                replace hF : Fr aa_ 169 [(134, (.bool false)), (136, (.slice (some ⟨g169, 0, none⟩) ((raboveL bs).length) c29)), (137, (.int .i64 (j : Int)))] := hF.keep (keep := [134, 136, 137]) (by kernel_rfl)
                refine From_index (by kernel_rfl : coreAt _ 0 = some (some 138, (Go.Op.indexAddr 27 (Go.Operand.tmp 136) (Go.Operand.tmp 137)), 0, none)) hF (by kernel_rfl) (by kernel_rfl) (k' := 1) rfl (A := (some ⟨g169, 0, none⟩)) (ad := ⟨g169, 0, none⟩) (n := ((raboveL bs).length)) (cap := c29) (e := 3) (size := 1) (kd := .i64) (i := (j : Int)) (by kernel_rfl) (by kernel_rfl) rfl (by kernel_rfl) (by kernel_rfl) (by omega) (by omega) ?_
                intro a2 ea _
                refine From_end (by kernel_rfl) ?_; exact op_done (d := some 138) (by kernel_rfl) ea (Kp.refl _) rfl
              · intro aa_ w_ vs rest_ hK hp hF
                refine ⟨true, opok_guard (g0 := some (14, false)) (by kernel_rfl) (by kernel_rfl), fun _ => ?_, fun h => Bool.noConfusion h⟩
                replace hF : Fr aa_ 169 [(134, (.bool false)), (138, (.pointer (some ((⟨g169, 0, none⟩ : Addr).add (((j : Int)).toNat * 1)))))] := hF.keep (keep := [134, 138]) (by kernel_rfl)
                refine From_load1 (by kernel_rfl : coreAt _ 0 = some (some 139, (Go.Op.load 3 (Go.Operand.tmp 138)), 3, none)) hF (by kernel_rfl) (by kernel_rfl) (k' := 1) rfl (ad := ((⟨g169, 0, none⟩ : Addr).add (((j : Int)).toNat * 1))) (v := (.int .i64 (u : Int))) (by kernel_rfl) (by kernel_rfl) (rd_get1 (row_rd ((hM98.then_ hK).get 2 rfl)) rfl (at_eq hfu.of (by omega) (by omega) hu1)) ?_
                intro a2 ea _
                refine From_end (by kernel_rfl) ?_; exact op_done (d := some 139) (by kernel_rfl) ea (Kp.refl _) rfl
              · intro aa_ w_ vs rest_ hK hp hF
                refine ⟨true, opok_guard (g0 := some (14, false)) (by kernel_rfl) (by kernel_rfl), fun _ => ?_, fun h => Bool.noConfusion h⟩
                replace hF : Fr aa_ 169 [(134, (.bool false)), (135, (.slice (some ⟨b52, 0, none⟩) bs.length bs.length)), (139, (.int .i64 (u : Int)))] := hF.keep (keep := [134, 135, 139]) (by kernel_rfl)
                refine From_index (by kernel_rfl : coreAt _ 0 = some (some 140, (Go.Op.indexAddr 27 (Go.Operand.tmp 135) (Go.Operand.tmp 139)), 0, none)) hF (by kernel_rfl) (by kernel_rfl) (k' := 1) rfl (A := (some ⟨b52, 0, none⟩)) (ad := ⟨b52, 0, none⟩) (n := bs.length) (cap := bs.length) (e := 3) (size := 1) (kd := .i64) (i := (u : Int)) (by kernel_rfl) (by kernel_rfl) rfl (by kernel_rfl) (by kernel_rfl) (by omega) (by omega) ?_
                intro a2 ea _
                refine From_end (by kernel_rfl) ?_; exact op_done (d := some 140) (by kernel_rfl) ea (Kp.refl _) rfl
              · intro aa_ w_ vs rest_ hK hp hF
                refine ⟨true, opok_guard (g0 := some (14, false)) (by kernel_rfl) (by kernel_rfl), fun _ => ?_, fun h => Bool.noConfusion h⟩
                replace hF : Fr aa_ 169 [(134, (.bool false)), (140, (.pointer (some ((⟨b52, 0, none⟩ : Addr).add (((u : Int)).toNat * 1)))))] := hF.keep (keep := [134, 140]) (by kernel_rfl)
                refine From_load1 (by kernel_rfl : coreAt _ 0 = some (some 141, (Go.Op.load 3 (Go.Operand.tmp 140)), 3, none)) hF (by kernel_rfl) (by kernel_rfl) (k' := 1) rfl (ad := ((⟨b52, 0, none⟩ : Addr).add (((u : Int)).toNat * 1))) (v := (.int .i64 (plB bs (u : Int)))) (by kernel_rfl) (by kernel_rfl) (rd_get1 (row_rd ((hM98.then_ hK).get 4 rfl)) rfl (hat.at_ (by omega) (by omega))) ?_
                intro a2 ea _
                refine From_end (by kernel_rfl) ?_; exact op_done (d := some 141) (by kernel_rfl) ea (Kp.refl _) rfl
              · intro aa_ w_ vs rest_ hK hp hF
                refine ⟨true, opok_guard (g0 := some (14, false)) (by kernel_rfl) (by kernel_rfl), fun _ => ?_, fun h => Bool.noConfusion h⟩
                replace hF : Fr aa_ 169 [(134, (.bool false)), (141, (.int .i64 (plB bs (u : Int))))] := hF.keep (keep := [134, 141]) (by kernel_rfl)
                refine From_cmp (by kernel_rfl : coreAt _ 0 = some (some 142, (Go.Op.binOp Go.BinOp.lss 3 (Go.Operand.tmp 141) (Go.Operand.const (Go.Value.int Go.IntKind.i64 0)) 3), 4, none)) hF (by kernel_rfl) (by kernel_rfl) (k' := 1) rfl (kd := .i64) (i := (plB bs (u : Int))) (j := 0) (by kernel_rfl) (by kernel_rfl) rfl ?_
                intro B_ hB_ a2 ea _
                refine From_end (by kernel_rfl) ?_; exact op_done (d := some 142) (by kernel_rfl) ea (Kp.refl _) (congrArg Value.bool (hB_.trans hBu3.symm))
              · intro aa_ w_ vs rest_ hK hp hF
                refine ⟨true, opok_guard (g0 := none) (by kernel_rfl) (by kernel_rfl), fun _ => ?_, fun h => Bool.noConfusion h⟩
                replace hF : Fr aa_ 169 [(134, (.bool false)), (142, (.bool false))] := hF.keep (keep := [134, 142]) (by kernel_rfl)
                refine From_pure1 (by kernel_rfl : coreAt _ 0 = some (some 143, (Go.Op.pick (Go.Operand.tmp 134) (Go.Operand.const (Go.Value.bool true)) (Go.Operand.tmp 142)), 4, none)) hF (by kernel_rfl) (by kernel_rfl) (k' := 1) rfl (v := (.bool false)) (by kernel_rfl) ?_
                intro a2 ea _
                refine From_end (by kernel_rfl) ?_; exact op_done (d := some 143) (by kernel_rfl) ea (Kp.refl _) rfl
              · intro aa_ w_ vs rest_ hK hp hF
                refine ⟨true, opok_guard (g0 := none) (by kernel_rfl) (by kernel_rfl), fun _ => ?_, fun h => Bool.noConfusion h⟩
                replace hF : Fr aa_ 169 [(143, (.bool false))] := hF.keep (keep := [143]) (by kernel_rfl)
                refine From_pure1 (by kernel_rfl : coreAt _ 0 = some (some 144, (Go.Op.move (Go.Operand.tmp 143)), 4, none)) hF (by kernel_rfl) (by kernel_rfl) (k' := 1) rfl (v := (.bool false)) (by kernel_rfl) ?_
                intro a2 ea _
                refine From_end (by kernel_rfl) ?_; exact op_done (d := some 144) (by kernel_rfl) ea (Kp.refl _) rfl
              · intro aa_ w_ vs rest_ hK hp hF
                refine ⟨true, opok_guard (g0 := some (24, false)) (by kernel_rfl) (by kernel_rfl), fun _ => ?_, fun h => Bool.noConfusion h⟩
                replace hF : Fr aa_ 169 [(6, (.slice (some ⟨b52, 0, none⟩) bs.length bs.length)), (144, (.bool false))] := hF.keep (keep := [6, 144]) (by kernel_rfl)
                refine From_pure1 (by kernel_rfl : coreAt _ 0 = some (some 145, (Go.Op.move (Go.Operand.tmp 6)), 27, none)) hF (by kernel_rfl) (by kernel_rfl) (k' := 1) rfl (v := (.slice (some ⟨b52, 0, none⟩) bs.length bs.length)) (by kernel_rfl) ?_
                intro a2 ea _
                refine From_end (by kernel_rfl) ?_; exact op_done (d := some 145) (by kernel_rfl) ea (Kp.refl _) rfl
              · intro aa_ w_ vs rest_ hK hp hF
                refine ⟨true, opok_guard (g0 := some (24, false)) (by kernel_rfl) (by kernel_rfl), fun _ => ?_, fun h => Bool.noConfusion h⟩
                replace hF : Fr aa_ 169 [(4, (.slice (some ⟨g169, 0, none⟩) ((raboveL bs).length) c29)), (144, (.bool false))] := hF.keep (keep := [4, 144]) (by kernel_rfl)
                refine From_pure1 (by kernel_rfl : coreAt _ 0 = some (some 146, (Go.Op.move (Go.Operand.tmp 4)), 27, none)) hF (by kernel_rfl) (by kernel_rfl) (k' := 1) rfl (v := (.slice (some ⟨g169, 0, none⟩) ((raboveL bs).length) c29)) (by kernel_rfl) ?_
                intro a2 ea _
                refine From_end (by kernel_rfl) ?_; exact op_done (d := some 146) (by kernel_rfl) ea (Kp.refl _) rfl
              · intro aa_ w_ vs rest_ hK hp hF
                refine ⟨true, opok_guard (g0 := some (24, false)) (by kernel_rfl) (by kernel_rfl), fun _ => ?_, fun h => Bool.noConfusion h⟩
                replace hF : Fr aa_ 169 [(10, (.int .i64 (j : Int))), (144, (.bool false))] := hF.keep (keep := [10, 144]) (by kernel_rfl)
                refine From_pure1 (by kernel_rfl : coreAt _ 0 = some (some 147, (Go.Op.move (Go.Operand.tmp 10)), 3, none)) hF (by kernel_rfl) (by kernel_rfl) (k' := 1) rfl (v := (.int .i64 (j : Int))) (by kernel_rfl) ?_
                intro a2 ea _
                refine From_end (by kernel_rfl) ?_; exact op_done (d := some 147) (by kernel_rfl) ea (Kp.refl _) rfl
              · intro aa_ w_ vs rest_ hK hp hF
                refine ⟨true, opok_guard (g0 := some (24, false)) (by kernel_rfl) (by kernel_rfl), fun _ => ?_, fun h => Bool.noConfusion h⟩
                replace hF : Fr aa_ 169 [(144, (.bool false)), (146, (.slice (some ⟨g169, 0, none⟩) ((raboveL bs).length) c29)), (147, (.int .i64 (j : Int)))] := hF.keep (keep := [144, 146, 147]) (by kernel_rfl)
                refine From_index (by kernel_rfl : coreAt _ 0 = some (some 148, (Go.Op.indexAddr 27 (Go.Operand.tmp 146) (Go.Operand.tmp 147)), 0, none)) hF (by kernel_rfl) (by kernel_rfl) (k' := 1) rfl (A := (some ⟨g169, 0, none⟩)) (ad := ⟨g169, 0, none⟩) (n := ((raboveL bs).length)) (cap := c29) (e := 3) (size := 1) (kd := .i64) (i := (j : Int)) (by kernel_rfl) (by kernel_rfl) rfl (by kernel_rfl) (by kernel_rfl) (by omega) (by omega) ?_
                intro a2 ea _
                refine From_end (by kernel_rfl) ?_; exact op_done (d := some 148) (by kernel_rfl) ea (Kp.refl _) rfl
              · intro aa_ w_ vs rest_ hK hp hF
                refine ⟨true, opok_guard (g0 := some (24, false)) (by kernel_rfl) (by kernel_rfl), fun _ => ?_, fun h => Bool.noConfusion h⟩
                replace hF : Fr aa_ 169 [(144, (.bool false)), (148, (.pointer (some ((⟨g169, 0, none⟩ : Addr).add (((j : Int)).toNat * 1)))))] := hF.keep (keep := [144, 148]) (by kernel_rfl)
                refine From_load1 (by kernel_rfl : coreAt _ 0 = some (some 149, (Go.Op.load 3 (Go.Operand.tmp 148)), 3, none)) hF (by kernel_rfl) (by kernel_rfl) (k' := 1) rfl (ad := ((⟨g169, 0, none⟩ : Addr).add (((j : Int)).toNat * 1))) (v := (.int .i64 (u : Int))) (by kernel_rfl) (by kernel_rfl) (rd_get1 (row_rd ((hM98.then_ hK).get 2 rfl)) rfl (at_eq hfu.of (by omega) (by omega) hu1)) ?_
                intro a2 ea _
                refine From_end (by kernel_rfl) ?_; exact op_done (d := some 149) (by kernel_rfl) ea (Kp.refl _) rfl
              · intro aa_ w_ vs rest_ hK hp hF
                refine ⟨true, opok_guard (g0 := some (24, false)) (by kernel_rfl) (by kernel_rfl), fun _ => ?_, fun h => Bool.noConfusion h⟩
                replace hF : Fr aa_ 169 [(144, (.bool false)), (145, (.slice (some ⟨b52, 0, none⟩) bs.length bs.length)), (149, (.int .i64 (u : Int)))] := hF.keep (keep := [144, 145, 149]) (by kernel_rfl)
                refine From_index (by kernel_rfl : coreAt _ 0 = some (some 150, (Go.Op.indexAddr 27 (Go.Operand.tmp 145) (Go.Operand.tmp 149)), 0, none)) hF (by kernel_rfl) (by kernel_rfl) (k' := 1) rfl (A := (some ⟨b52, 0, none⟩)) (ad := ⟨b52, 0, none⟩) (n := bs.length) (cap := bs.length) (e := 3) (size := 1) (kd := .i64) (i := (u : Int)) (by kernel_rfl) (by kernel_rfl) rfl (by kernel_rfl) (by kernel_rfl) (by omega) (by omega) ?_
                intro a2 ea _
                refine From_end (by kernel_rfl) ?_; exact op_done (d := some 150) (by kernel_rfl) ea (Kp.refl _) rfl
              · intro aa_ w_ vs rest_ hK hp hF
                refine ⟨true, opok_guard (g0 := some (24, false)) (by kernel_rfl) (by kernel_rfl), fun _ => ?_, fun h => Bool.noConfusion h⟩
                replace hF : Fr aa_ 169 [(144, (.bool false)), (150, (.pointer (some ((⟨b52, 0, none⟩ : Addr).add (((u : Int)).toNat * 1)))))] := hF.keep (keep := [144, 150]) (by kernel_rfl)
                refine From_load1 (by kernel_rfl : coreAt _ 0 = some (some 151, (Go.Op.load 3 (Go.Operand.tmp 150)), 3, none)) hF (by kernel_rfl) (by kernel_rfl) (k' := 1) rfl (ad := ((⟨b52, 0, none⟩ : Addr).add (((u : Int)).toNat * 1))) (v := (.int .i64 (plB bs (u : Int)))) (by kernel_rfl) (by kernel_rfl) (rd_get1 (row_rd ((hM98.then_ hK).get 4 rfl)) rfl (hat.at_ (by omega) (by omega))) ?_
                intro a2 ea _
                refine From_end (by kernel_rfl) ?_; exact op_done (d := some 151) (by kernel_rfl) ea (Kp.refl _) rfl
              · intro aa_ w_ vs rest_ hK hp hF
                refine ⟨true, opok_guard (g0 := some (24, false)) (by kernel_rfl) (by kernel_rfl), fun _ => ?_, fun h => Bool.noConfusion h⟩
                replace hF : Fr aa_ 169 [(6, (.slice (some ⟨b52, 0, none⟩) bs.length bs.length)), (144, (.bool false))] := hF.keep (keep := [6, 144]) (by kernel_rfl)
                refine From_pure1 (by kernel_rfl : coreAt _ 0 = some (some 152, (Go.Op.move (Go.Operand.tmp 6)), 27, none)) hF (by kernel_rfl) (by kernel_rfl) (k' := 1) rfl (v := (.slice (some ⟨b52, 0, none⟩) bs.length bs.length)) (by kernel_rfl) ?_
                intro a2 ea _
                refine From_end (by kernel_rfl) ?_; exact op_done (d := some 152) (by kernel_rfl) ea (Kp.refl _) rfl
              · intro aa_ w_ vs rest_ hK hp hF
                refine ⟨true, opok_guard (g0 := some (24, false)) (by kernel_rfl) (by kernel_rfl), fun _ => ?_, fun h => Bool.noConfusion h⟩
                replace hF : Fr aa_ 169 [(10, (.int .i64 (j : Int))), (144, (.bool false))] := hF.keep (keep := [10, 144]) (by kernel_rfl)
                refine From_pure1 (by kernel_rfl : coreAt _ 0 = some (some 153, (Go.Op.move (Go.Operand.tmp 10)), 3, none)) hF (by kernel_rfl) (by kernel_rfl) (k' := 1) rfl (v := (.int .i64 (j : Int))) (by kernel_rfl) ?_
                intro a2 ea _
                refine From_end (by kernel_rfl) ?_; exact op_done (d := some 153) (by kernel_rfl) ea (Kp.refl _) rfl
              · intro aa_ w_ vs rest_ hK hp hF
                refine ⟨true, opok_guard (g0 := some (24, false)) (by kernel_rfl) (by kernel_rfl), fun _ => ?_, fun h => Bool.noConfusion h⟩
                replace hF : Fr aa_ 169 [(144, (.bool false)), (152, (.slice (some ⟨b52, 0, none⟩) bs.length bs.length)), (153, (.int .i64 (j : Int)))] := hF.keep (keep := [144, 152, 153]) (by kernel_rfl)
                refine From_index (by kernel_rfl : coreAt _ 0 = some (some 154, (Go.Op.indexAddr 27 (Go.Operand.tmp 152) (Go.Operand.tmp 153)), 0, none)) hF (by kernel_rfl) (by kernel_rfl) (k' := 1) rfl (A := (some ⟨b52, 0, none⟩)) (ad := ⟨b52, 0, none⟩) (n := bs.length) (cap := bs.length) (e := 3) (size := 1) (kd := .i64) (i := (j : Int)) (by kernel_rfl) (by kernel_rfl) rfl (by kernel_rfl) (by kernel_rfl) (by omega) (by omega) ?_
                intro a2 ea _
                refine From_end (by kernel_rfl) ?_; exact op_done (d := some 154) (by kernel_rfl) ea (Kp.refl _) rfl
              · intro aa_ w_ vs rest_ hK hp hF
                refine ⟨true, opok_guard (g0 := some (24, false)) (by kernel_rfl) (by kernel_rfl), fun _ => ?_, fun h => Bool.noConfusion h⟩
                replace hF : Fr aa_ 169 [(144, (.bool false)), (154, (.pointer (some ((⟨b52, 0, none⟩ : Addr).add (((j : Int)).toNat * 1)))))] := hF.keep (keep := [144, 154]) (by kernel_rfl)
                refine From_load1 (by kernel_rfl : coreAt _ 0 = some (some 155, (Go.Op.load 3 (Go.Operand.tmp 154)), 3, none)) hF (by kernel_rfl) (by kernel_rfl) (k' := 1) rfl (ad := ((⟨b52, 0, none⟩ : Addr).add (((j : Int)).toNat * 1))) (v := (.int .i64 (plB bs (j : Int)))) (by kernel_rfl) (by kernel_rfl) (rd_get1 (row_rd ((hM98.then_ hK).get 4 rfl)) rfl (hat.at_ (by omega) (by omega))) ?_
                intro a2 ea _
                refine From_end (by kernel_rfl) ?_; exact op_done (d := some 155) (by kernel_rfl) ea (Kp.refl _) rfl
              · intro aa_ w_ vs rest_ hK hp hF
                refine ⟨true, opok_guard (g0 := some (24, false)) (by kernel_rfl) (by kernel_rfl), fun _ => ?_, fun h => Bool.noConfusion h⟩
                replace hF : Fr aa_ 169 [(144, (.bool false)), (151, (.int .i64 (plB bs (u : Int)))), (155, (.int .i64 (plB bs (j : Int))))] := hF.keep (keep := [144, 151, 155]) (by kernel_rfl)
                refine From_cmp (by kernel_rfl : coreAt _ 0 = some (some 156, (Go.Op.binOp Go.BinOp.geq 3 (Go.Operand.tmp 151) (Go.Operand.tmp 155) 3), 4, none)) hF (by kernel_rfl) (by kernel_rfl) (k' := 1) rfl (kd := .i64) (i := (plB bs (u : Int))) (j := (plB bs (j : Int))) (by kernel_rfl) (by kernel_rfl) rfl ?_
                intro B_ hB_ a2 ea _
                refine From_end (by kernel_rfl) ?_; exact op_done (d := some 156) (by kernel_rfl) ea (Kp.refl _) (congrArg Value.bool (hB_.trans hBu4.symm))
              · intro aa_ w_ vs rest_ hK hp hF
                refine ⟨true, opok_guard (g0 := none) (by kernel_rfl) (by kernel_rfl), fun _ => ?_, fun h => Bool.noConfusion h⟩
                replace hF : Fr aa_ 169 [(144, (.bool false)), (156, (.bool false))] := hF.keep (keep := [144, 156]) (by kernel_rfl)
                refine From_pure1 (by kernel_rfl : coreAt _ 0 = some (some 157, (Go.Op.pick (Go.Operand.tmp 144) (Go.Operand.const (Go.Value.bool true)) (Go.Operand.tmp 156)), 4, none)) hF (by kernel_rfl) (by kernel_rfl) (k' := 1) rfl (v := (.bool false)) (by kernel_rfl) ?_
                intro a2 ea _
                refine From_end (by kernel_rfl) ?_; exact op_done (d := some 157) (by kernel_rfl) ea (Kp.refl _) rfl
              intro a170 w172 vs hK hv hF171
              replace hF171 : Fr a170 169 [(3, (.slice A18 ((orderL bs).length) c19)), (4, (.slice (some ⟨g169, 0, none⟩) ((raboveL bs).length) c29)), (5, (.slice (some ⟨g146, 0, none⟩) bs.length c39)), (6, (.slice (some ⟨b52, 0, none⟩) bs.length bs.length)), (7, (.int .i64 (q : Int))), (10, (.int .i64 (j : Int))), (157, (.bool false))] := hF171.keep (keep := [3, 4, 5, 6, 7, 10, 157]) (by kernel_rfl)
              have hM173 := hM98.then_ hK
              clear hK hv hF152 a151 hM98; clear vs
              refine W_cond (t := 157) (B := false) (by kernel_rfl) hF171 (by kernel_rfl) (fun t => Bool.noConfusion t) (fun _ => ?_)
              refine W_skip (by kernel_rfl) ?_
              refine W_region (by kernel_rfl) ?_   -- region 24
              refine From_pure 1 1 [3, 4, 5, 6, 7, 104] hF171 (env' := [(3, (.slice A18 ((orderL bs).length) c19)), (4, (.slice (some ⟨g169, 0, none⟩) ((raboveL bs).length) c29)), (5, (.slice (some ⟨g146, 0, none⟩) bs.length c39)), (6, (.slice (some ⟨b52, 0, none⟩) bs.length bs.length)), (7, (.int .i64 (q : Int))), (104, (.int .i64 (j : Int)))]) (by kernel_rfl) rfl ?_
              intro a174 hF175; clear hF171 a170
              refine From_arith (by kernel_rfl : coreAt _ 1 = some (some 105, (Go.Op.binOp Go.BinOp.add 3 (Go.Operand.tmp 104) (Go.Operand.const (Go.Value.int Go.IntKind.i64 1)) 3), 3, none)) hF175 (by kernel_rfl) (by kernel_rfl) (k' := 2) rfl (i := (j : Int)) (j := 1) (z := ((j : Int) + 1)) (by kernel_rfl) (by kernel_rfl) rfl (by omega) (by omega) ?_
              intro a176 ea hF177; clear ea hF175 a174
              replace hF177 : Fr a176 169 [(3, (.slice A18 ((orderL bs).length) c19)), (4, (.slice (some ⟨g169, 0, none⟩) ((raboveL bs).length) c29)), (5, (.slice (some ⟨g146, 0, none⟩) bs.length c39)), (6, (.slice (some ⟨b52, 0, none⟩) bs.length bs.length)), (7, (.int .i64 (q : Int))), (105, (.int .i64 ((j : Int) + 1)))] := hF177.keep (keep := [3, 4, 5, 6, 7, 105]) (by kernel_rfl)
              refine From_pure 1 3 [3, 4, 5, 6, 7, 10] hF177 (env' := [(3, (.slice A18 ((orderL bs).length) c19)), (4, (.slice (some ⟨g169, 0, none⟩) ((raboveL bs).length) c29)), (5, (.slice (some ⟨g146, 0, none⟩) bs.length c39)), (6, (.slice (some ⟨b52, 0, none⟩) bs.length bs.length)), (7, (.int .i64 (q : Int))), (10, (.int .i64 ((j : Int) + 1)))]) (by kernel_rfl) rfl ?_
              intro a178 hF179; clear hF177 a176
              refine From_end (by kernel_rfl) ?_
              exact ⟨bs.length - (j + 1), by omega, j + 1, rfl, hF179.keep (keep := [3, 4, 5, 6, 7, 10]) (by kernel_rfl), hM173, by omega⟩
          · have cz : (j : Int) = 0 := by first | exact of_decide_eq_true hBz.symm | exact of_decide_eq_false hBz.symm | exact beq_iff_eq.1 hBz.symm | exact bne_iff_ne.1 hBz.symm | exact (fun e => Bool.false_ne_true (hBz.trans (beq_iff_eq.2 e))) | exact (fun e => Bool.false_ne_true (hBz.trans (bne_iff_ne.2 e)))
            refine From_pure 6 9 [3, 4, 5, 6, 7, 10, 114] hF142 (env' := [(3, (.slice A18 ((orderL bs).length) c19)), (4, (.slice A28 ((raboveL bs).length) c29)), (5, (.slice A38 bs.length c39)), (6, (.slice (some ⟨b52, 0, none⟩) bs.length bs.length)), (7, (.int .i64 (q : Int))), (10, (.int .i64 (j : Int))), (114, (.bool true))]) (by kernel_rfl) rfl ?_
            intro a180 hF181; clear hF142 a141
            refine From_end (by kernel_rfl) ?_
            refine W_cond (t := 114) (B := true) (by kernel_rfl) hF181 (by kernel_rfl) (fun _ => ?_) (fun t => Bool.noConfusion t)
            refine W_seq (by kernel_rfl) ?_
            refine W_region (by kernel_rfl) ?_   -- region 26
            have hup : up (j : Int) = -1 := hfu.off _ (.inr (by omega))
            refine From_pure 2 2 [3, 4, 5, 6, 7, 10, 115, 116] hF181 (env' := [(3, (.slice A18 ((orderL bs).length) c19)), (4, (.slice A28 ((raboveL bs).length) c29)), (5, (.slice A38 bs.length c39)), (6, (.slice (some ⟨b52, 0, none⟩) bs.length bs.length)), (7, (.int .i64 (q : Int))), (10, (.int .i64 (j : Int))), (115, (.slice A28 ((raboveL bs).length) c29)), (116, (.int .i64 (j : Int)))]) (by kernel_rfl) rfl ?_
            intro a182 hF183; clear hF181 a180
            obtain ⟨g185, rfl⟩ := row_some (hM98.get 2 rfl) (by omega)
            refine From_index (by kernel_rfl : coreAt _ 2 = some (some 117, (Go.Op.indexAddr 27 (Go.Operand.tmp 115) (Go.Operand.tmp 116)), 0, none)) hF183 (by kernel_rfl) (by kernel_rfl) (k' := 3) rfl (A := (some ⟨g185, 0, none⟩)) (ad := ⟨g185, 0, none⟩) (n := ((raboveL bs).length)) (cap := c29) (e := 3) (size := 1) (kd := .i64) (i := (j : Int)) (by kernel_rfl) (by kernel_rfl) rfl (by kernel_rfl) (by kernel_rfl) (by omega) (by omega) ?_
            intro a186 ea hF187; clear ea hF183 a182
            replace hF187 : Fr a186 169 [(3, (.slice A18 ((orderL bs).length) c19)), (4, (.slice (some ⟨g185, 0, none⟩) ((raboveL bs).length) c29)), (5, (.slice A38 bs.length c39)), (6, (.slice (some ⟨b52, 0, none⟩) bs.length bs.length)), (7, (.int .i64 (q : Int))), (10, (.int .i64 (j : Int))), (117, (.pointer (some ((⟨g185, 0, none⟩ : Addr).add (((j : Int)).toNat * 1)))))] := hF187.keep (keep := [3, 4, 5, 6, 7, 10, 117]) (by kernel_rfl)
            refine From_load1 (by kernel_rfl : coreAt _ 3 = some (some 118, (Go.Op.load 3 (Go.Operand.tmp 117)), 3, none)) hF187 (by kernel_rfl) (by kernel_rfl) (k' := 4) rfl (ad := ((⟨g185, 0, none⟩ : Addr).add (((j : Int)).toNat * 1))) (v := (.int .i64 (-1))) (by kernel_rfl) (by kernel_rfl) (rd_get1 (row_rd (hM98.get 2 rfl)) rfl (at_eq hfu.of (by omega) (by omega) hup)) ?_
            intro a188 ea hF189; clear ea hF187 a186
            replace hF189 : Fr a188 169 [(3, (.slice A18 ((orderL bs).length) c19)), (4, (.slice (some ⟨g185, 0, none⟩) ((raboveL bs).length) c29)), (5, (.slice A38 bs.length c39)), (6, (.slice (some ⟨b52, 0, none⟩) bs.length bs.length)), (7, (.int .i64 (q : Int))), (10, (.int .i64 (j : Int))), (118, (.int .i64 (-1)))] := hF189.keep (keep := [3, 4, 5, 6, 7, 10, 118]) (by kernel_rfl)
            refine From_cmp (by kernel_rfl : coreAt _ 4 = some (some 119, (Go.Op.binOp Go.BinOp.neq 3 (Go.Operand.tmp 118) (Go.Operand.const (Go.Value.int Go.IntKind.i64 (-1))) 3), 4, none)) hF189 (by kernel_rfl) (by kernel_rfl) (k' := 5) rfl (kd := .i64) (i := (-1)) (j := (-1)) (by kernel_rfl) (by kernel_rfl) rfl ?_
            intro Bu hBu a190 ea hF191; clear ea hF189 a188
            obtain rfl : Bu = false := by
              have hkn : ¬ (((-1) : Int) ≠ (-1)) := by omega
              first | exact hBu.trans (decide_eq_true hkn) | exact hBu.trans (decide_eq_false hkn) | exact hBu.trans (beq_iff_eq.2 hkn) | exact hBu.trans (bne_iff_ne.2 hkn) | exact hBu.trans (Bool.eq_false_iff.2 (fun e => hkn (beq_iff_eq.1 e))) | exact hBu.trans (Bool.eq_false_iff.2 (fun e => hkn (bne_iff_ne.1 e)))
            clear hBu
            replace hF191 : Fr a190 169 [(3, (.slice A18 ((orderL bs).length) c19)), (4, (.slice (some ⟨g185, 0, none⟩) ((raboveL bs).length) c29)), (5, (.slice A38 bs.length c39)), (6, (.slice (some ⟨b52, 0, none⟩) bs.length bs.length)), (7, (.int .i64 (q : Int))), (10, (.int .i64 (j : Int))), (119, (.bool false))] := hF191.keep (keep := [3, 4, 5, 6, 7, 10, 119]) (by kernel_rfl)
            refine From_end (by kernel_rfl) ?_
            refine W_cond (t := 119) (B := false) (by kernel_rfl) hF191 (by kernel_rfl) (fun t => Bool.noConfusion t) (fun _ => ?_)
            refine W_skip (by kernel_rfl) ?_
            refine W_region (by kernel_rfl) ?_   -- region 24
            refine From_pure 1 1 [3, 4, 5, 6, 7, 104] hF191 (env' := [(3, (.slice A18 ((orderL bs).length) c19)), (4, (.slice (some ⟨g185, 0, none⟩) ((raboveL bs).length) c29)), (5, (.slice A38 bs.length c39)), (6, (.slice (some ⟨b52, 0, none⟩) bs.length bs.length)), (7, (.int .i64 (q : Int))), (104, (.int .i64 (j : Int)))]) (by kernel_rfl) rfl ?_
            intro a192 hF193; clear hF191 a190
            refine From_arith (by kernel_rfl : coreAt _ 1 = some (some 105, (Go.Op.binOp Go.BinOp.add 3 (Go.Operand.tmp 104) (Go.Operand.const (Go.Value.int Go.IntKind.i64 1)) 3), 3, none)) hF193 (by kernel_rfl) (by kernel_rfl) (k' := 2) rfl (i := (j : Int)) (j := 1) (z := ((j : Int) + 1)) (by kernel_rfl) (by kernel_rfl) rfl (by omega) (by omega) ?_
            intro a194 ea hF195; clear ea hF193 a192
            replace hF195 : Fr a194 169 [(3, (.slice A18 ((orderL bs).length) c19)), (4, (.slice (some ⟨g185, 0, none⟩) ((raboveL bs).length) c29)), (5, (.slice A38 bs.length c39)), (6, (.slice (some ⟨b52, 0, none⟩) bs.length bs.length)), (7, (.int .i64 (q : Int))), (105, (.int .i64 ((j : Int) + 1)))] := hF195.keep (keep := [3, 4, 5, 6, 7, 105]) (by kernel_rfl)
            refine From_pure 1 3 [3, 4, 5, 6, 7, 10] hF195 (env' := [(3, (.slice A18 ((orderL bs).length) c19)), (4, (.slice (some ⟨g185, 0, none⟩) ((raboveL bs).length) c29)), (5, (.slice A38 bs.length c39)), (6, (.slice (some ⟨b52, 0, none⟩) bs.length bs.length)), (7, (.int .i64 (q : Int))), (10, (.int .i64 ((j : Int) + 1)))]) (by kernel_rfl) rfl ?_
            intro a196 hF197; clear hF195 a194
            refine From_end (by kernel_rfl) ?_
            exact ⟨bs.length - (j + 1), by omega, j + 1, rfl, hF197.keep (keep := [3, 4, 5, 6, 7, 10]) (by kernel_rfl), hM98, by omega⟩
      · have ck : (k : Int) < (((orderL bs).length : Nat) : Int) := by first | exact of_decide_eq_true hBk.symm | exact of_decide_eq_false hBk.symm | exact beq_iff_eq.1 hBk.symm | exact bne_iff_ne.1 hBk.symm | exact (fun e => Bool.false_ne_true (hBk.trans (beq_iff_eq.2 e))) | exact (fun e => Bool.false_ne_true (hBk.trans (bne_iff_ne.2 e)))
        refine W_cond (t := 56) (B := true) (by kernel_rfl) hF94 (by kernel_rfl) (fun _ => ?_) (fun t => Bool.noConfusion t)
        refine W_skip (by kernel_rfl) ?_
        refine W_seq (by kernel_rfl) ?_
        refine W_block (id := 3) (by kernel_rfl) ?_
        refine W_seq (by kernel_rfl) ?_
        refine W_seq (by kernel_rfl) ?_
        refine W_region (by kernel_rfl) ?_   -- region 19
        obtain ⟨bi, hbk, hbn, hpb⟩ := ord_get (bs := bs) (k := k) (by omega)
        have hwi := ord_in hbk hbn
        have hnw := ord_new hbk hbn
        refine From_pure 2 2 [3, 4, 5, 6, 7, 9, 59, 60] hF94 (env' := [(3, (.slice A18 ((orderL bs).length) c19)), (4, (.slice A28 ((raboveL bs).length) c29)), (5, (.slice A38 bs.length c39)), (6, (.slice (some ⟨b52, 0, none⟩) bs.length bs.length)), (7, (.int .i64 (q : Int))), (9, (.int .i64 (k : Int))), (59, (.slice A18 ((orderL bs).length) c19)), (60, (.int .i64 (k : Int)))]) (by kernel_rfl) rfl ?_
        intro a198 hF199; clear hF94 a93
        obtain ⟨g201, rfl⟩ := row_some (hM88.get 1 rfl) (by omega)
        refine From_index (by kernel_rfl : coreAt _ 2 = some (some 61, (Go.Op.indexAddr 27 (Go.Operand.tmp 59) (Go.Operand.tmp 60)), 0, none)) hF199 (by kernel_rfl) (by kernel_rfl) (k' := 3) rfl (A := (some ⟨g201, 0, none⟩)) (ad := ⟨g201, 0, none⟩) (n := ((orderL bs).length)) (cap := c19) (e := 3) (size := 1) (kd := .i64) (i := (k : Int)) (by kernel_rfl) (by kernel_rfl) rfl (by kernel_rfl) (by kernel_rfl) (by omega) (by omega) ?_
        intro a202 ea hF203; clear ea hF199 a198
        replace hF203 : Fr a202 169 [(3, (.slice (some ⟨g201, 0, none⟩) ((orderL bs).length) c19)), (4, (.slice A28 ((raboveL bs).length) c29)), (5, (.slice A38 bs.length c39)), (6, (.slice (some ⟨b52, 0, none⟩) bs.length bs.length)), (7, (.int .i64 (q : Int))), (9, (.int .i64 (k : Int))), (61, (.pointer (some ((⟨g201, 0, none⟩ : Addr).add (((k : Int)).toNat * 1)))))] := hF203.keep (keep := [3, 4, 5, 6, 7, 9, 61]) (by kernel_rfl)
        refine From_load1 (by kernel_rfl : coreAt _ 3 = some (some 62, (Go.Op.load 3 (Go.Operand.tmp 61)), 3, none)) hF203 (by kernel_rfl) (by kernel_rfl) (k' := 4) rfl (ad := ((⟨g201, 0, none⟩ : Addr).add (((k : Int)).toNat * 1))) (v := (.int .i64 (bi : Int))) (by kernel_rfl) (by kernel_rfl) (rd_at (row_rd (hM88.get 1 rfl)) rfl hbk) ?_
        intro a204 ea hF205; clear ea hF203 a202
        replace hF205 : Fr a204 169 [(3, (.slice (some ⟨g201, 0, none⟩) ((orderL bs).length) c19)), (4, (.slice A28 ((raboveL bs).length) c29)), (5, (.slice A38 bs.length c39)), (6, (.slice (some ⟨b52, 0, none⟩) bs.length bs.length)), (7, (.int .i64 (q : Int))), (9, (.int .i64 (k : Int))), (62, (.int .i64 (bi : Int)))] := hF205.keep (keep := [3, 4, 5, 6, 7, 9, 62]) (by kernel_rfl)
        refine From_cmp (by kernel_rfl : coreAt _ 4 = some (some 63, (Go.Op.binOp Go.BinOp.lss 3 (Go.Operand.tmp 62) (Go.Operand.const (Go.Value.int Go.IntKind.i64 0)) 3), 4, none)) hF205 (by kernel_rfl) (by kernel_rfl) (k' := 5) rfl (kd := .i64) (i := (bi : Int)) (j := 0) (by kernel_rfl) (by kernel_rfl) rfl ?_
        intro Bk1 hBk1 a206 ea hF207; clear ea hF205 a204
        obtain rfl : Bk1 = false := by
          have hkn : ¬ (((bi : Int) : Int) < 0) := by omega
          first | exact hBk1.trans (decide_eq_true hkn) | exact hBk1.trans (decide_eq_false hkn) | exact hBk1.trans (beq_iff_eq.2 hkn) | exact hBk1.trans (bne_iff_ne.2 hkn) | exact hBk1.trans (Bool.eq_false_iff.2 (fun e => hkn (beq_iff_eq.1 e))) | exact hBk1.trans (Bool.eq_false_iff.2 (fun e => hkn (bne_iff_ne.1 e)))
        clear hBk1
        replace hF207 : Fr a206 169 [(3, (.slice (some ⟨g201, 0, none⟩) ((orderL bs).length) c19)), (4, (.slice A28 ((raboveL bs).length) c29)), (5, (.slice A38 bs.length c39)), (6, (.slice (some ⟨b52, 0, none⟩) bs.length bs.length)), (7, (.int .i64 (q : Int))), (9, (.int .i64 (k : Int))), (63, (.bool false))] := hF207.keep (keep := [3, 4, 5, 6, 7, 9, 63]) (by kernel_rfl)
        refine From_pure 3 8 [3, 4, 5, 6, 7, 9, 64, 65, 66] hF207 (env' := [(3, (.slice (some ⟨g201, 0, none⟩) ((orderL bs).length) c19)), (4, (.slice A28 ((raboveL bs).length) c29)), (5, (.slice A38 bs.length c39)), (6, (.slice (some ⟨b52, 0, none⟩) bs.length bs.length)), (7, (.int .i64 (q : Int))), (9, (.int .i64 (k : Int))), (64, (.bool false)), (65, (.slice (some ⟨g201, 0, none⟩) ((orderL bs).length) c19)), (66, (.int .i64 (k : Int)))]) (by kernel_rfl) rfl ?_
        intro a208 hF209; clear hF207 a206
        refine From_index (by kernel_rfl : coreAt _ 8 = some (some 67, (Go.Op.indexAddr 27 (Go.Operand.tmp 65) (Go.Operand.tmp 66)), 0, some (5, false))) hF209 (by kernel_rfl) (by kernel_rfl) (k' := 9) rfl (A := (some ⟨g201, 0, none⟩)) (ad := ⟨g201, 0, none⟩) (n := ((orderL bs).length)) (cap := c19) (e := 3) (size := 1) (kd := .i64) (i := (k : Int)) (by kernel_rfl) (by kernel_rfl) rfl (by kernel_rfl) (by kernel_rfl) (by omega) (by omega) ?_
        intro a210 ea hF211; clear ea hF209 a208
        replace hF211 : Fr a210 169 [(3, (.slice (some ⟨g201, 0, none⟩) ((orderL bs).length) c19)), (4, (.slice A28 ((raboveL bs).length) c29)), (5, (.slice A38 bs.length c39)), (6, (.slice (some ⟨b52, 0, none⟩) bs.length bs.length)), (7, (.int .i64 (q : Int))), (9, (.int .i64 (k : Int))), (64, (.bool false)), (67, (.pointer (some ((⟨g201, 0, none⟩ : Addr).add (((k : Int)).toNat * 1)))))] := hF211.keep (keep := [3, 4, 5, 6, 7, 9, 64, 67]) (by kernel_rfl)
        refine From_load1 (by kernel_rfl : coreAt _ 9 = some (some 68, (Go.Op.load 3 (Go.Operand.tmp 67)), 3, some (5, false))) hF211 (by kernel_rfl) (by kernel_rfl) (k' := 10) rfl (ad := ((⟨g201, 0, none⟩ : Addr).add (((k : Int)).toNat * 1))) (v := (.int .i64 (bi : Int))) (by kernel_rfl) (by kernel_rfl) (rd_at (row_rd (hM88.get 1 rfl)) rfl hbk) ?_
        intro a212 ea hF213; clear ea hF211 a210
        replace hF213 : Fr a212 169 [(3, (.slice (some ⟨g201, 0, none⟩) ((orderL bs).length) c19)), (4, (.slice A28 ((raboveL bs).length) c29)), (5, (.slice A38 bs.length c39)), (6, (.slice (some ⟨b52, 0, none⟩) bs.length bs.length)), (7, (.int .i64 (q : Int))), (9, (.int .i64 (k : Int))), (64, (.bool false)), (68, (.int .i64 (bi : Int)))] := hF213.keep (keep := [3, 4, 5, 6, 7, 9, 64, 68]) (by kernel_rfl)
        refine From_pure 2 12 [3, 4, 5, 6, 7, 9, 64, 68, 70] hF213 (env' := [(3, (.slice (some ⟨g201, 0, none⟩) ((orderL bs).length) c19)), (4, (.slice A28 ((raboveL bs).length) c29)), (5, (.slice A38 bs.length c39)), (6, (.slice (some ⟨b52, 0, none⟩) bs.length bs.length)), (7, (.int .i64 (q : Int))), (9, (.int .i64 (k : Int))), (64, (.bool false)), (68, (.int .i64 (bi : Int))), (70, (.int .i64 ((bs.length : Nat) : Int)))]) (by kernel_rfl) rfl ?_
        intro a214 hF215; clear hF213 a212
        refine From_cmp (by kernel_rfl : coreAt _ 12 = some (some 71, (Go.Op.binOp Go.BinOp.geq 3 (Go.Operand.tmp 68) (Go.Operand.tmp 70) 3), 4, some (5, false))) hF215 (by kernel_rfl) (by kernel_rfl) (k' := 13) rfl (kd := .i64) (i := (bi : Int)) (j := ((bs.length : Nat) : Int)) (by kernel_rfl) (by kernel_rfl) rfl ?_
        intro Bk2 hBk2 a216 ea hF217; clear ea hF215 a214
        obtain rfl : Bk2 = false := by
          have hkn : ¬ (((bi : Int) : Int) ≥ ((bs.length : Nat) : Int)) := by omega
          first | exact hBk2.trans (decide_eq_true hkn) | exact hBk2.trans (decide_eq_false hkn) | exact hBk2.trans (beq_iff_eq.2 hkn) | exact hBk2.trans (bne_iff_ne.2 hkn) | exact hBk2.trans (Bool.eq_false_iff.2 (fun e => hkn (beq_iff_eq.1 e))) | exact hBk2.trans (Bool.eq_false_iff.2 (fun e => hkn (bne_iff_ne.1 e)))
        clear hBk2
        replace hF217 : Fr a216 169 [(3, (.slice (some ⟨g201, 0, none⟩) ((orderL bs).length) c19)), (4, (.slice A28 ((raboveL bs).length) c29)), (5, (.slice A38 bs.length c39)), (6, (.slice (some ⟨b52, 0, none⟩) bs.length bs.length)), (7, (.int .i64 (q : Int))), (9, (.int .i64 (k : Int))), (64, (.bool false)), (71, (.bool false))] := hF217.keep (keep := [3, 4, 5, 6, 7, 9, 64, 71]) (by kernel_rfl)
        refine From_pure 5 18 [3, 4, 5, 6, 7, 9, 73, 74, 75, 76] hF217 (env' := [(3, (.slice (some ⟨g201, 0, none⟩) ((orderL bs).length) c19)), (4, (.slice A28 ((raboveL bs).length) c29)), (5, (.slice A38 bs.length c39)), (6, (.slice (some ⟨b52, 0, none⟩) bs.length bs.length)), (7, (.int .i64 (q : Int))), (9, (.int .i64 (k : Int))), (73, (.bool false)), (74, (.slice A38 bs.length c39)), (75, (.slice (some ⟨g201, 0, none⟩) ((orderL bs).length) c19)), (76, (.int .i64 (k : Int)))]) (by kernel_rfl) rfl ?_
        intro a218 hF219; clear hF217 a216
        refine From_index (by kernel_rfl : coreAt _ 18 = some (some 77, (Go.Op.indexAddr 27 (Go.Operand.tmp 75) (Go.Operand.tmp 76)), 0, some (14, false))) hF219 (by kernel_rfl) (by kernel_rfl) (k' := 19) rfl (A := (some ⟨g201, 0, none⟩)) (ad := ⟨g201, 0, none⟩) (n := ((orderL bs).length)) (cap := c19) (e := 3) (size := 1) (kd := .i64) (i := (k : Int)) (by kernel_rfl) (by kernel_rfl) rfl (by kernel_rfl) (by kernel_rfl) (by omega) (by omega) ?_
        intro a220 ea hF221; clear ea hF219 a218
        replace hF221 : Fr a220 169 [(3, (.slice (some ⟨g201, 0, none⟩) ((orderL bs).length) c19)), (4, (.slice A28 ((raboveL bs).length) c29)), (5, (.slice A38 bs.length c39)), (6, (.slice (some ⟨b52, 0, none⟩) bs.length bs.length)), (7, (.int .i64 (q : Int))), (9, (.int .i64 (k : Int))), (73, (.bool false)), (74, (.slice A38 bs.length c39)), (77, (.pointer (some ((⟨g201, 0, none⟩ : Addr).add (((k : Int)).toNat * 1)))))] := hF221.keep (keep := [3, 4, 5, 6, 7, 9, 73, 74, 77]) (by kernel_rfl)
        refine From_load1 (by kernel_rfl : coreAt _ 19 = some (some 78, (Go.Op.load 3 (Go.Operand.tmp 77)), 3, some (14, false))) hF221 (by kernel_rfl) (by kernel_rfl) (k' := 20) rfl (ad := ((⟨g201, 0, none⟩ : Addr).add (((k : Int)).toNat * 1))) (v := (.int .i64 (bi : Int))) (by kernel_rfl) (by kernel_rfl) (rd_at (row_rd (hM88.get 1 rfl)) rfl hbk) ?_
        intro a222 ea hF223; clear ea hF221 a220
        replace hF223 : Fr a222 169 [(3, (.slice (some ⟨g201, 0, none⟩) ((orderL bs).length) c19)), (4, (.slice A28 ((raboveL bs).length) c29)), (5, (.slice A38 bs.length c39)), (6, (.slice (some ⟨b52, 0, none⟩) bs.length bs.length)), (7, (.int .i64 (q : Int))), (9, (.int .i64 (k : Int))), (73, (.bool false)), (74, (.slice A38 bs.length c39)), (78, (.int .i64 (bi : Int)))] := hF223.keep (keep := [3, 4, 5, 6, 7, 9, 73, 74, 78]) (by kernel_rfl)
        obtain ⟨g225, rfl⟩ := row_some (hM88.get 3 rfl) (by omega)
        refine From_index (by kernel_rfl : coreAt _ 20 = some (some 79, (Go.Op.indexAddr 33 (Go.Operand.tmp 74) (Go.Operand.tmp 78)), 0, some (14, false))) hF223 (by kernel_rfl) (by kernel_rfl) (k' := 21) rfl (A := (some ⟨g225, 0, none⟩)) (ad := ⟨g225, 0, none⟩) (n := bs.length) (cap := c39) (e := 4) (size := 1) (kd := .i64) (i := (bi : Int)) (by kernel_rfl) (by kernel_rfl) rfl (by kernel_rfl) (by kernel_rfl) (by omega) (by omega) ?_
        intro a226 ea hF227; clear ea hF223 a222
        replace hF227 : Fr a226 169 [(3, (.slice (some ⟨g201, 0, none⟩) ((orderL bs).length) c19)), (4, (.slice A28 ((raboveL bs).length) c29)), (5, (.slice (some ⟨g225, 0, none⟩) bs.length c39)), (6, (.slice (some ⟨b52, 0, none⟩) bs.length bs.length)), (7, (.int .i64 (q : Int))), (9, (.int .i64 (k : Int))), (73, (.bool false)), (79, (.pointer (some ((⟨g225, 0, none⟩ : Addr).add (((bi : Int)).toNat * 1)))))] := hF227.keep (keep := [3, 4, 5, 6, 7, 9, 73, 79]) (by kernel_rfl)
        refine From_load1 (by kernel_rfl : coreAt _ 21 = some (some 80, (Go.Op.load 4 (Go.Operand.tmp 79)), 4, some (14, false))) hF227 (by kernel_rfl) (by kernel_rfl) (k' := 22) rfl (ad := ((⟨g225, 0, none⟩ : Addr).add (((bi : Int)).toNat * 1))) (v := (.bool true)) (by kernel_rfl) (by kernel_rfl) (rd_get1 (row_rd (hM88.get 3 rfl)) rfl (bool_at hwi)) ?_
        intro a228 ea hF229; clear ea hF227 a226
        replace hF229 : Fr a228 169 [(3, (.slice (some ⟨g201, 0, none⟩) ((orderL bs).length) c19)), (4, (.slice A28 ((raboveL bs).length) c29)), (5, (.slice (some ⟨g225, 0, none⟩) bs.length c39)), (6, (.slice (some ⟨b52, 0, none⟩) bs.length bs.length)), (7, (.int .i64 (q : Int))), (9, (.int .i64 (k : Int))), (73, (.bool false)), (80, (.bool true))] := hF229.keep (keep := [3, 4, 5, 6, 7, 9, 73, 80]) (by kernel_rfl)
        refine From_pure 6 28 [3, 4, 5, 6, 7, 9, 83, 84, 85, 86] hF229 (env' := [(3, (.slice (some ⟨g201, 0, none⟩) ((orderL bs).length) c19)), (4, (.slice A28 ((raboveL bs).length) c29)), (5, (.slice (some ⟨g225, 0, none⟩) bs.length c39)), (6, (.slice (some ⟨b52, 0, none⟩) bs.length bs.length)), (7, (.int .i64 (q : Int))), (9, (.int .i64 (k : Int))), (83, (.bool false)), (84, (.slice (some ⟨b52, 0, none⟩) bs.length bs.length)), (85, (.slice (some ⟨g201, 0, none⟩) ((orderL bs).length) c19)), (86, (.int .i64 (k : Int)))]) (by kernel_rfl) rfl ?_
        intro a230 hF231; clear hF229 a228
        refine From_index (by kernel_rfl : coreAt _ 28 = some (some 87, (Go.Op.indexAddr 27 (Go.Operand.tmp 85) (Go.Operand.tmp 86)), 0, some (24, false))) hF231 (by kernel_rfl) (by kernel_rfl) (k' := 29) rfl (A := (some ⟨g201, 0, none⟩)) (ad := ⟨g201, 0, none⟩) (n := ((orderL bs).length)) (cap := c19) (e := 3) (size := 1) (kd := .i64) (i := (k : Int)) (by kernel_rfl) (by kernel_rfl) rfl (by kernel_rfl) (by kernel_rfl) (by omega) (by omega) ?_
        intro a232 ea hF233; clear ea hF231 a230
        replace hF233 : Fr a232 169 [(3, (.slice (some ⟨g201, 0, none⟩) ((orderL bs).length) c19)), (4, (.slice A28 ((raboveL bs).length) c29)), (5, (.slice (some ⟨g225, 0, none⟩) bs.length c39)), (6, (.slice (some ⟨b52, 0, none⟩) bs.length bs.length)), (7, (.int .i64 (q : Int))), (9, (.int .i64 (k : Int))), (83, (.bool false)), (84, (.slice (some ⟨b52, 0, none⟩) bs.length bs.length)), (87, (.pointer (some ((⟨g201, 0, none⟩ : Addr).add (((k : Int)).toNat * 1)))))] := hF233.keep (keep := [3, 4, 5, 6, 7, 9, 83, 84, 87]) (by kernel_rfl)
        refine From_load1 (by kernel_rfl : coreAt _ 29 = some (some 88, (Go.Op.load 3 (Go.Operand.tmp 87)), 3, some (24, false))) hF233 (by kernel_rfl) (by kernel_rfl) (k' := 30) rfl (ad := ((⟨g201, 0, none⟩ : Addr).add (((k : Int)).toNat * 1))) (v := (.int .i64 (bi : Int))) (by kernel_rfl) (by kernel_rfl) (rd_at (row_rd (hM88.get 1 rfl)) rfl hbk) ?_
        intro a234 ea hF235; clear ea hF233 a232
        replace hF235 : Fr a234 169 [(3, (.slice (some ⟨g201, 0, none⟩) ((orderL bs).length) c19)), (4, (.slice A28 ((raboveL bs).length) c29)), (5, (.slice (some ⟨g225, 0, none⟩) bs.length c39)), (6, (.slice (some ⟨b52, 0, none⟩) bs.length bs.length)), (7, (.int .i64 (q : Int))), (9, (.int .i64 (k : Int))), (83, (.bool false)), (84, (.slice (some ⟨b52, 0, none⟩) bs.length bs.length)), (88, (.int .i64 (bi : Int)))] := hF235.keep (keep := [3, 4, 5, 6, 7, 9, 83, 84, 88]) (by kernel_rfl)
        refine From_index (by kernel_rfl : coreAt _ 30 = some (some 89, (Go.Op.indexAddr 27 (Go.Operand.tmp 84) (Go.Operand.tmp 88)), 0, some (24, false))) hF235 (by kernel_rfl) (by kernel_rfl) (k' := 31) rfl (A := (some ⟨b52, 0, none⟩)) (ad := ⟨b52, 0, none⟩) (n := bs.length) (cap := bs.length) (e := 3) (size := 1) (kd := .i64) (i := (bi : Int)) (by kernel_rfl) (by kernel_rfl) rfl (by kernel_rfl) (by kernel_rfl) (by omega) (by omega) ?_
        intro a236 ea hF237; clear ea hF235 a234
        replace hF237 : Fr a236 169 [(3, (.slice (some ⟨g201, 0, none⟩) ((orderL bs).length) c19)), (4, (.slice A28 ((raboveL bs).length) c29)), (5, (.slice (some ⟨g225, 0, none⟩) bs.length c39)), (6, (.slice (some ⟨b52, 0, none⟩) bs.length bs.length)), (7, (.int .i64 (q : Int))), (9, (.int .i64 (k : Int))), (83, (.bool false)), (89, (.pointer (some ((⟨b52, 0, none⟩ : Addr).add (((bi : Int)).toNat * 1)))))] := hF237.keep (keep := [3, 4, 5, 6, 7, 9, 83, 89]) (by kernel_rfl)
        refine From_load1 (by kernel_rfl : coreAt _ 31 = some (some 90, (Go.Op.load 3 (Go.Operand.tmp 89)), 3, some (24, false))) hF237 (by kernel_rfl) (by kernel_rfl) (k' := 32) rfl (ad := ((⟨b52, 0, none⟩ : Addr).add (((bi : Int)).toNat * 1))) (v := (.int .i64 (-1))) (by kernel_rfl) (by kernel_rfl) (rd_get1 (row_rd (hM88.get 4 rfl)) rfl (at_eq h3 (by omega) (by omega) hnw)) ?_
        intro a238 ea hF239; clear ea hF237 a236
        replace hF239 : Fr a238 169 [(3, (.slice (some ⟨g201, 0, none⟩) ((orderL bs).length) c19)), (4, (.slice A28 ((raboveL bs).length) c29)), (5, (.slice (some ⟨g225, 0, none⟩) bs.length c39)), (6, (.slice (some ⟨b52, 0, none⟩) bs.length bs.length)), (7, (.int .i64 (q : Int))), (9, (.int .i64 (k : Int))), (83, (.bool false)), (90, (.int .i64 (-1)))] := hF239.keep (keep := [3, 4, 5, 6, 7, 9, 83, 90]) (by kernel_rfl)
        refine From_cmp (by kernel_rfl : coreAt _ 32 = some (some 91, (Go.Op.binOp Go.BinOp.geq 3 (Go.Operand.tmp 90) (Go.Operand.const (Go.Value.int Go.IntKind.i64 0)) 3), 4, some (24, false))) hF239 (by kernel_rfl) (by kernel_rfl) (k' := 33) rfl (kd := .i64) (i := (-1)) (j := 0) (by kernel_rfl) (by kernel_rfl) rfl ?_
        intro Bk3 hBk3 a240 ea hF241; clear ea hF239 a238
        obtain rfl : Bk3 = false := by
          have hkn : ¬ (((-1) : Int) ≥ 0) := by omega
          first | exact hBk3.trans (decide_eq_true hkn) | exact hBk3.trans (decide_eq_false hkn) | exact hBk3.trans (beq_iff_eq.2 hkn) | exact hBk3.trans (bne_iff_ne.2 hkn) | exact hBk3.trans (Bool.eq_false_iff.2 (fun e => hkn (beq_iff_eq.1 e))) | exact hBk3.trans (Bool.eq_false_iff.2 (fun e => hkn (bne_iff_ne.1 e)))
        clear hBk3
        replace hF241 : Fr a240 169 [(3, (.slice (some ⟨g201, 0, none⟩) ((orderL bs).length) c19)), (4, (.slice A28 ((raboveL bs).length) c29)), (5, (.slice (some ⟨g225, 0, none⟩) bs.length c39)), (6, (.slice (some ⟨b52, 0, none⟩) bs.length bs.length)), (7, (.int .i64 (q : Int))), (9, (.int .i64 (k : Int))), (83, (.bool false)), (91, (.bool false))] := hF241.keep (keep := [3, 4, 5, 6, 7, 9, 83, 91]) (by kernel_rfl)
        refine From_pure 1 34 [3, 4, 5, 6, 7, 9, 92] hF241 (env' := [(3, (.slice (some ⟨g201, 0, none⟩) ((orderL bs).length) c19)), (4, (.slice A28 ((raboveL bs).length) c29)), (5, (.slice (some ⟨g225, 0, none⟩) bs.length c39)), (6, (.slice (some ⟨b52, 0, none⟩) bs.length bs.length)), (7, (.int .i64 (q : Int))), (9, (.int .i64 (k : Int))), (92, (.bool false))]) (by kernel_rfl) rfl ?_
        intro a242 hF243; clear hF241 a240
        refine From_end (by kernel_rfl) ?_
        refine W_cond (t := 92) (B := false) (by kernel_rfl) hF243 (by kernel_rfl) (fun t => Bool.noConfusion t) (fun _ => ?_)
        refine W_skip (by kernel_rfl) ?_
        refine W_region (by kernel_rfl) ?_   -- region 21
        refine From_pure 3 3 [3, 4, 5, 6, 7, 9, 93, 94, 95] hF243 (env' := [(3, (.slice (some ⟨g201, 0, none⟩) ((orderL bs).length) c19)), (4, (.slice A28 ((raboveL bs).length) c29)), (5, (.slice (some ⟨g225, 0, none⟩) bs.length c39)), (6, (.slice (some ⟨b52, 0, none⟩) bs.length bs.length)), (7, (.int .i64 (q : Int))), (9, (.int .i64 (k : Int))), (93, (.slice (some ⟨b52, 0, none⟩) bs.length bs.length)), (94, (.slice (some ⟨g201, 0, none⟩) ((orderL bs).length) c19)), (95, (.int .i64 (k : Int)))]) (by kernel_rfl) rfl ?_
        intro a244 hF245; clear hF243 a242
        refine From_index (by kernel_rfl : coreAt _ 3 = some (some 96, (Go.Op.indexAddr 27 (Go.Operand.tmp 94) (Go.Operand.tmp 95)), 0, none)) hF245 (by kernel_rfl) (by kernel_rfl) (k' := 4) rfl (A := (some ⟨g201, 0, none⟩)) (ad := ⟨g201, 0, none⟩) (n := ((orderL bs).length)) (cap := c19) (e := 3) (size := 1) (kd := .i64) (i := (k : Int)) (by kernel_rfl) (by kernel_rfl) rfl (by kernel_rfl) (by kernel_rfl) (by omega) (by omega) ?_
        intro a246 ea hF247; clear ea hF245 a244
        replace hF247 : Fr a246 169 [(3, (.slice (some ⟨g201, 0, none⟩) ((orderL bs).length) c19)), (4, (.slice A28 ((raboveL bs).length) c29)), (5, (.slice (some ⟨g225, 0, none⟩) bs.length c39)), (6, (.slice (some ⟨b52, 0, none⟩) bs.length bs.length)), (7, (.int .i64 (q : Int))), (9, (.int .i64 (k : Int))), (93, (.slice (some ⟨b52, 0, none⟩) bs.length bs.length)), (96, (.pointer (some ((⟨g201, 0, none⟩ : Addr).add (((k : Int)).toNat * 1)))))] := hF247.keep (keep := [3, 4, 5, 6, 7, 9, 93, 96]) (by kernel_rfl)
        refine From_load1 (by kernel_rfl : coreAt _ 4 = some (some 97, (Go.Op.load 3 (Go.Operand.tmp 96)), 3, none)) hF247 (by kernel_rfl) (by kernel_rfl) (k' := 5) rfl (ad := ((⟨g201, 0, none⟩ : Addr).add (((k : Int)).toNat * 1))) (v := (.int .i64 (bi : Int))) (by kernel_rfl) (by kernel_rfl) (rd_at (row_rd (hM88.get 1 rfl)) rfl hbk) ?_
        intro a248 ea hF249; clear ea hF247 a246
        replace hF249 : Fr a248 169 [(3, (.slice (some ⟨g201, 0, none⟩) ((orderL bs).length) c19)), (4, (.slice A28 ((raboveL bs).length) c29)), (5, (.slice (some ⟨g225, 0, none⟩) bs.length c39)), (6, (.slice (some ⟨b52, 0, none⟩) bs.length bs.length)), (7, (.int .i64 (q : Int))), (9, (.int .i64 (k : Int))), (93, (.slice (some ⟨b52, 0, none⟩) bs.length bs.length)), (97, (.int .i64 (bi : Int)))] := hF249.keep (keep := [3, 4, 5, 6, 7, 9, 93, 97]) (by kernel_rfl)
        refine From_pure 1 6 [3, 4, 5, 6, 7, 9, 93, 97, 98] hF249 (env' := [(3, (.slice (some ⟨g201, 0, none⟩) ((orderL bs).length) c19)), (4, (.slice A28 ((raboveL bs).length) c29)), (5, (.slice (some ⟨g225, 0, none⟩) bs.length c39)), (6, (.slice (some ⟨b52, 0, none⟩) bs.length bs.length)), (7, (.int .i64 (q : Int))), (9, (.int .i64 (k : Int))), (93, (.slice (some ⟨b52, 0, none⟩) bs.length bs.length)), (97, (.int .i64 (bi : Int))), (98, (.int .i64 (k : Int)))]) (by kernel_rfl) rfl ?_
        intro a250 hF251; clear hF249 a248
        refine From_index (by kernel_rfl : coreAt _ 6 = some (some 99, (Go.Op.indexAddr 27 (Go.Operand.tmp 93) (Go.Operand.tmp 97)), 0, none)) hF251 (by kernel_rfl) (by kernel_rfl) (k' := 7) rfl (A := (some ⟨b52, 0, none⟩)) (ad := ⟨b52, 0, none⟩) (n := bs.length) (cap := bs.length) (e := 3) (size := 1) (kd := .i64) (i := (bi : Int)) (by kernel_rfl) (by kernel_rfl) rfl (by kernel_rfl) (by kernel_rfl) (by omega) (by omega) ?_
        intro a252 ea hF253; clear ea hF251 a250
        replace hF253 : Fr a252 169 [(3, (.slice (some ⟨g201, 0, none⟩) ((orderL bs).length) c19)), (4, (.slice A28 ((raboveL bs).length) c29)), (5, (.slice (some ⟨g225, 0, none⟩) bs.length c39)), (6, (.slice (some ⟨b52, 0, none⟩) bs.length bs.length)), (7, (.int .i64 (q : Int))), (9, (.int .i64 (k : Int))), (98, (.int .i64 (k : Int))), (99, (.pointer (some ((⟨b52, 0, none⟩ : Addr).add (((bi : Int)).toNat * 1)))))] := hF253.keep (keep := [3, 4, 5, 6, 7, 9, 98, 99]) (by kernel_rfl)
        refine From_store_row (by kernel_rfl : coreAt _ 7 = some (none, (Go.Op.store 3 (Go.Operand.tmp 99) (Go.Operand.tmp 98)), 0, none)) hF253 (by kernel_rfl) (by kernel_rfl) (k' := 8) rfl (ad := (⟨b52, 0, none⟩ : Addr)) (j := (((bi : Int)).toNat * 1)) (e := 3) (size := 1) (n := bs.length) (cap := bs.length) (v := (.int .i64 (k : Int))) (xs := (ints m3)) (ad' := ((⟨b52, 0, none⟩ : Addr).add (((bi : Int)).toNat * 1))) (by kernel_rfl) rfl (by kernel_rfl) (by kernel_rfl) rfl hM88 4 rfl (by omega) ?_
        intro w254 hM255 _ a256 ea hF257; clear ea hF253 a252
        change Mem noS w w254 [.blk b1 24 [nm, wk, pa, va, (.slice A bs.length c)], .row 3 1 (some ⟨g201, 0, none⟩) ((orderL bs).length) c19 (ints (orderL bs)), .row 3 1 A28 ((raboveL bs).length) c29 (ints (raboveL bs)), .row 4 1 (some ⟨g225, 0, none⟩) bs.length c39 (bools (walkL bs (-1))), .row 3 1 (some ⟨b52, 0, none⟩) bs.length bs.length ((ints m3).set (((bi : Int)).toNat * 1) (.int .i64 (k : Int)))] at hM255
        clear hM88
        replace hF257 : Fr a256 169 [(3, (.slice (some ⟨g201, 0, none⟩) ((orderL bs).length) c19)), (4, (.slice A28 ((raboveL bs).length) c29)), (5, (.slice (some ⟨g225, 0, none⟩) bs.length c39)), (6, (.slice (some ⟨b52, 0, none⟩) bs.length bs.length)), (7, (.int .i64 (q : Int))), (9, (.int .i64 (k : Int)))] := hF257.keep (keep := [3, 4, 5, 6, 7, 9]) (by kernel_rfl)
        refine From_end (by kernel_rfl) ?_
        refine W_region (by kernel_rfl) ?_   -- region 18
        refine From_pure 1 1 [3, 4, 5, 6, 7, 57] hF257 (env' := [(3, (.slice (some ⟨g201, 0, none⟩) ((orderL bs).length) c19)), (4, (.slice A28 ((raboveL bs).length) c29)), (5, (.slice (some ⟨g225, 0, none⟩) bs.length c39)), (6, (.slice (some ⟨b52, 0, none⟩) bs.length bs.length)), (7, (.int .i64 (q : Int))), (57, (.int .i64 (k : Int)))]) (by kernel_rfl) rfl ?_
        intro a258 hF259; clear hF257 a256
        refine From_arith (by kernel_rfl : coreAt _ 1 = some (some 58, (Go.Op.binOp Go.BinOp.add 3 (Go.Operand.tmp 57) (Go.Operand.const (Go.Value.int Go.IntKind.i64 1)) 3), 3, none)) hF259 (by kernel_rfl) (by kernel_rfl) (k' := 2) rfl (i := (k : Int)) (j := 1) (z := ((k : Int) + 1)) (by kernel_rfl) (by kernel_rfl) rfl (by omega) (by omega) ?_
        intro a260 ea hF261; clear ea hF259 a258
        replace hF261 : Fr a260 169 [(3, (.slice (some ⟨g201, 0, none⟩) ((orderL bs).length) c19)), (4, (.slice A28 ((raboveL bs).length) c29)), (5, (.slice (some ⟨g225, 0, none⟩) bs.length c39)), (6, (.slice (some ⟨b52, 0, none⟩) bs.length bs.length)), (7, (.int .i64 (q : Int))), (58, (.int .i64 ((k : Int) + 1)))] := hF261.keep (keep := [3, 4, 5, 6, 7, 58]) (by kernel_rfl)
        refine From_pure 1 3 [3, 4, 5, 6, 7, 9] hF261 (env' := [(3, (.slice (some ⟨g201, 0, none⟩) ((orderL bs).length) c19)), (4, (.slice A28 ((raboveL bs).length) c29)), (5, (.slice (some ⟨g225, 0, none⟩) bs.length c39)), (6, (.slice (some ⟨b52, 0, none⟩) bs.length bs.length)), (7, (.int .i64 (q : Int))), (9, (.int .i64 ((k : Int) + 1)))]) (by kernel_rfl) rfl ?_
        intro a262 hF263; clear hF261 a260
        refine From_end (by kernel_rfl) ?_
        exact ⟨(orderL bs).length - (k + 1), by omega, k + 1, m3.set bi (k : Int), rfl, hF263.keep (keep := [3, 4, 5, 6, 7, 9]) (by kernel_rfl), (hM255.cast (by rw [ints_set]; simp only [Int.toNat_natCast, Nat.mul_one])), by omega, places_next h3 hbk hbn⟩
    · have ci : (i : Int) < ((bs.length : Nat) : Int) := by first | exact of_decide_eq_true hBi.symm | exact of_decide_eq_false hBi.symm | exact beq_iff_eq.1 hBi.symm | exact bne_iff_ne.1 hBi.symm | exact (fun e => Bool.false_ne_true (hBi.trans (beq_iff_eq.2 e))) | exact (fun e => Bool.false_ne_true (hBi.trans (bne_iff_ne.2 e)))
      refine W_cond (t := 29) (B := true) (by kernel_rfl) hF70 (by kernel_rfl) (fun _ => ?_) (fun t => Bool.noConfusion t)
      refine W_skip (by kernel_rfl) ?_
      refine W_seq (by kernel_rfl) ?_
      refine W_block (id := 1) (by kernel_rfl) ?_
      refine W_seq (by kernel_rfl) ?_
      refine W_region (by kernel_rfl) ?_   -- region 11
      have hqi := cnt_le bs i
      have hin0 : i < bs.length := by omega
      refine From_pure 2 2 [1, 3, 4, 5, 6, 7, 8, 32, 33] hF70 (env' := [(1, (.pointer (some ⟨b1, 0, none⟩))), (3, (.slice A18 ((orderL bs).length) c19)), (4, (.slice A28 ((raboveL bs).length) c29)), (5, (.slice A38 bs.length c39)), (6, (.slice (some ⟨b52, 0, none⟩) bs.length bs.length)), (7, (.int .i64 (q : Int))), (8, (.int .i64 (i : Int))), (32, (.slice (some ⟨b52, 0, none⟩) bs.length bs.length)), (33, (.int .i64 (i : Int)))]) (by kernel_rfl) rfl ?_
      intro a264 hF265; clear hF70 a69
      refine From_index (by kernel_rfl : coreAt _ 2 = some (some 34, (Go.Op.indexAddr 27 (Go.Operand.tmp 32) (Go.Operand.tmp 33)), 0, none)) hF265 (by kernel_rfl) (by kernel_rfl) (k' := 3) rfl (A := (some ⟨b52, 0, none⟩)) (ad := ⟨b52, 0, none⟩) (n := bs.length) (cap := bs.length) (e := 3) (size := 1) (kd := .i64) (i := (i : Int)) (by kernel_rfl) (by kernel_rfl) rfl (by kernel_rfl) (by kernel_rfl) (by omega) (by omega) ?_
      intro a266 ea hF267; clear ea hF265 a264
      replace hF267 : Fr a266 169 [(1, (.pointer (some ⟨b1, 0, none⟩))), (3, (.slice A18 ((orderL bs).length) c19)), (4, (.slice A28 ((raboveL bs).length) c29)), (5, (.slice A38 bs.length c39)), (6, (.slice (some ⟨b52, 0, none⟩) bs.length bs.length)), (7, (.int .i64 (q : Int))), (8, (.int .i64 (i : Int))), (34, (.pointer (some ((⟨b52, 0, none⟩ : Addr).add (((i : Int)).toNat * 1)))))] := hF267.keep (keep := [1, 3, 4, 5, 6, 7, 8, 34]) (by kernel_rfl)
      refine From_store_row (by kernel_rfl : coreAt _ 3 = some (none, (Go.Op.store 3 (Go.Operand.tmp 34) (Go.Operand.const (Go.Value.int Go.IntKind.i64 (-1)))), 0, none)) hF267 (by kernel_rfl) (by kernel_rfl) (k' := 4) rfl (ad := (⟨b52, 0, none⟩ : Addr)) (j := (((i : Int)).toNat * 1)) (e := 3) (size := 1) (n := bs.length) (cap := bs.length) (v := (.int .i64 (-1))) (xs := (ints m1)) (ad' := ((⟨b52, 0, none⟩ : Addr).add (((i : Int)).toNat * 1))) (by kernel_rfl) rfl (by kernel_rfl) (by kernel_rfl) rfl hM64 4 rfl (by omega) ?_
      intro w268 hM269 _ a270 ea hF271; clear ea hF267 a266
      change Mem noS w w268 [.blk b1 24 [nm, wk, pa, va, (.slice A bs.length c)], .row 3 1 A18 ((orderL bs).length) c19 (ints (orderL bs)), .row 3 1 A28 ((raboveL bs).length) c29 (ints (raboveL bs)), .row 4 1 A38 bs.length c39 (bools (walkL bs (-1))), .row 3 1 (some ⟨b52, 0, none⟩) bs.length bs.length ((ints m1).set (((i : Int)).toNat * 1) (.int .i64 (-1)))] at hM269
      clear hM64
      replace hF271 : Fr a270 169 [(1, (.pointer (some ⟨b1, 0, none⟩))), (3, (.slice A18 ((orderL bs).length) c19)), (4, (.slice A28 ((raboveL bs).length) c29)), (5, (.slice A38 bs.length c39)), (6, (.slice (some ⟨b52, 0, none⟩) bs.length bs.length)), (7, (.int .i64 (q : Int))), (8, (.int .i64 (i : Int)))] := hF271.keep (keep := [1, 3, 4, 5, 6, 7, 8]) (by kernel_rfl)
      refine From_end (by kernel_rfl) ?_
      refine W_seq (by kernel_rfl) ?_
      refine W_region (by kernel_rfl) ?_   -- region 12
      refine From_pure 2 2 [1, 3, 4, 5, 6, 7, 8, 35, 36] hF271 (env' := [(1, (.pointer (some ⟨b1, 0, none⟩))), (3, (.slice A18 ((orderL bs).length) c19)), (4, (.slice A28 ((raboveL bs).length) c29)), (5, (.slice A38 bs.length c39)), (6, (.slice (some ⟨b52, 0, none⟩) bs.length bs.length)), (7, (.int .i64 (q : Int))), (8, (.int .i64 (i : Int))), (35, (.slice A38 bs.length c39)), (36, (.int .i64 (i : Int)))]) (by kernel_rfl) rfl ?_
      intro a272 hF273; clear hF271 a270
      obtain ⟨g275, rfl⟩ := row_some (hM269.get 3 rfl) (by omega)
      refine From_index (by kernel_rfl : coreAt _ 2 = some (some 37, (Go.Op.indexAddr 33 (Go.Operand.tmp 35) (Go.Operand.tmp 36)), 0, none)) hF273 (by kernel_rfl) (by kernel_rfl) (k' := 3) rfl (A := (some ⟨g275, 0, none⟩)) (ad := ⟨g275, 0, none⟩) (n := bs.length) (cap := c39) (e := 4) (size := 1) (kd := .i64) (i := (i : Int)) (by kernel_rfl) (by kernel_rfl) rfl (by kernel_rfl) (by kernel_rfl) (by omega) (by omega) ?_
      intro a276 ea hF277; clear ea hF273 a272
      replace hF277 : Fr a276 169 [(1, (.pointer (some ⟨b1, 0, none⟩))), (3, (.slice A18 ((orderL bs).length) c19)), (4, (.slice A28 ((raboveL bs).length) c29)), (5, (.slice (some ⟨g275, 0, none⟩) bs.length c39)), (6, (.slice (some ⟨b52, 0, none⟩) bs.length bs.length)), (7, (.int .i64 (q : Int))), (8, (.int .i64 (i : Int))), (37, (.pointer (some ((⟨g275, 0, none⟩ : Addr).add (((i : Int)).toNat * 1)))))] := hF277.keep (keep := [1, 3, 4, 5, 6, 7, 8, 37]) (by kernel_rfl)
      refine From_load1 (by kernel_rfl : coreAt _ 3 = some (some 38, (Go.Op.load 4 (Go.Operand.tmp 37)), 4, none)) hF277 (by kernel_rfl) (by kernel_rfl) (k' := 4) rfl (ad := ((⟨g275, 0, none⟩ : Addr).add (((i : Int)).toNat * 1))) (v := (.bool ((walkL bs (-1)).getD i false))) (by kernel_rfl) (by kernel_rfl) (rd_get1 (row_rd (hM269.get 3 rfl)) rfl (bools_get (by rw [walkL_len]; omega))) ?_
      intro a278 ea hF279; clear ea hF277 a276
      replace hF279 : Fr a278 169 [(1, (.pointer (some ⟨b1, 0, none⟩))), (3, (.slice A18 ((orderL bs).length) c19)), (4, (.slice A28 ((raboveL bs).length) c29)), (5, (.slice (some ⟨g275, 0, none⟩) bs.length c39)), (6, (.slice (some ⟨b52, 0, none⟩) bs.length bs.length)), (7, (.int .i64 (q : Int))), (8, (.int .i64 (i : Int))), (38, (.bool ((walkL bs (-1)).getD i false)))] := hF279.keep (keep := [1, 3, 4, 5, 6, 7, 8, 38]) (by kernel_rfl)
      obtain ⟨Bin, hBin⟩ : ∃ B, B = (walkL bs (-1)).getD i false := ⟨_, rfl⟩
      rw [← hBin] at hF279
      replace hF279 : Fr a278 169 [(1, (.pointer (some ⟨b1, 0, none⟩))), (3, (.slice A18 ((orderL bs).length) c19)), (4, (.slice A28 ((raboveL bs).length) c29)), (5, (.slice (some ⟨g275, 0, none⟩) bs.length c39)), (6, (.slice (some ⟨b52, 0, none⟩) bs.length bs.length)), (7, (.int .i64 (q : Int))), (8, (.int .i64 (i : Int))), (38, (.bool Bin))] := hF279.keep (keep := [1, 3, 4, 5, 6, 7, 8, 38]) (by kernel_rfl)
      refine From_end (by kernel_rfl) ?_
      cases Bin
      · have cin : ((walkL bs (-1)).getD i false) = false := hBin.symm
        refine W_cond (t := 38) (B := false) (by kernel_rfl) hF279 (by kernel_rfl) (fun t => Bool.noConfusion t) (fun _ => ?_)
        refine W_skip (by kernel_rfl) ?_
        refine W_region (by kernel_rfl) ?_   -- region 10
        refine From_pure 1 1 [1, 3, 4, 5, 6, 7, 30] hF279 (env' := [(1, (.pointer (some ⟨b1, 0, none⟩))), (3, (.slice A18 ((orderL bs).length) c19)), (4, (.slice A28 ((raboveL bs).length) c29)), (5, (.slice (some ⟨g275, 0, none⟩) bs.length c39)), (6, (.slice (some ⟨b52, 0, none⟩) bs.length bs.length)), (7, (.int .i64 (q : Int))), (30, (.int .i64 (i : Int)))]) (by kernel_rfl) rfl ?_
        intro a280 hF281; clear hF279 a278
        refine From_arith (by kernel_rfl : coreAt _ 1 = some (some 31, (Go.Op.binOp Go.BinOp.add 3 (Go.Operand.tmp 30) (Go.Operand.const (Go.Value.int Go.IntKind.i64 1)) 3), 3, none)) hF281 (by kernel_rfl) (by kernel_rfl) (k' := 2) rfl (i := (i : Int)) (j := 1) (z := ((i : Int) + 1)) (by kernel_rfl) (by kernel_rfl) rfl (by omega) (by omega) ?_
        intro a282 ea hF283; clear ea hF281 a280
        replace hF283 : Fr a282 169 [(1, (.pointer (some ⟨b1, 0, none⟩))), (3, (.slice A18 ((orderL bs).length) c19)), (4, (.slice A28 ((raboveL bs).length) c29)), (5, (.slice (some ⟨g275, 0, none⟩) bs.length c39)), (6, (.slice (some ⟨b52, 0, none⟩) bs.length bs.length)), (7, (.int .i64 (q : Int))), (31, (.int .i64 ((i : Int) + 1)))] := hF283.keep (keep := [1, 3, 4, 5, 6, 7, 31]) (by kernel_rfl)
        refine From_pure 1 3 [1, 3, 4, 5, 6, 7, 8] hF283 (env' := [(1, (.pointer (some ⟨b1, 0, none⟩))), (3, (.slice A18 ((orderL bs).length) c19)), (4, (.slice A28 ((raboveL bs).length) c29)), (5, (.slice (some ⟨g275, 0, none⟩) bs.length c39)), (6, (.slice (some ⟨b52, 0, none⟩) bs.length bs.length)), (7, (.int .i64 (q : Int))), (8, (.int .i64 ((i : Int) + 1)))]) (by kernel_rfl) rfl ?_
        intro a284 hF285; clear hF283 a282
        refine From_end (by kernel_rfl) ?_
        exact ⟨bs.length - (i + 1), by omega, i + 1, q, m1.set i (-1), rfl, hF285.keep (keep := [1, 3, 4, 5, 6, 7, 8]) (by kernel_rfl), (hM269.cast (by rw [ints_set]; simp only [Int.toNat_natCast, Nat.mul_one])), by omega, by rw [hq]; exact (cnt_no cin (by omega)).symm, fill_next h1 (by omega)⟩
      · have cin : ((walkL bs (-1)).getD i false) = true := hBin.symm
        refine W_cond (t := 38) (B := true) (by kernel_rfl) hF279 (by kernel_rfl) (fun _ => ?_) (fun t => Bool.noConfusion t)
        refine W_region (by kernel_rfl) ?_   -- region 13
        refine From_pure 1 1 [1, 3, 4, 5, 6, 8, 39] hF279 (env' := [(1, (.pointer (some ⟨b1, 0, none⟩))), (3, (.slice A18 ((orderL bs).length) c19)), (4, (.slice A28 ((raboveL bs).length) c29)), (5, (.slice (some ⟨g275, 0, none⟩) bs.length c39)), (6, (.slice (some ⟨b52, 0, none⟩) bs.length bs.length)), (8, (.int .i64 (i : Int))), (39, (.int .i64 (q : Int)))]) (by kernel_rfl) rfl ?_
        intro a286 hF287; clear hF279 a278
        refine From_arith (by kernel_rfl : coreAt _ 1 = some (some 40, (Go.Op.binOp Go.BinOp.add 3 (Go.Operand.tmp 39) (Go.Operand.const (Go.Value.int Go.IntKind.i64 1)) 3), 3, none)) hF287 (by kernel_rfl) (by kernel_rfl) (k' := 2) rfl (i := (q : Int)) (j := 1) (z := ((q : Int) + 1)) (by kernel_rfl) (by kernel_rfl) rfl (by omega) (by omega) ?_
        intro a288 ea hF289; clear ea hF287 a286
        replace hF289 : Fr a288 169 [(1, (.pointer (some ⟨b1, 0, none⟩))), (3, (.slice A18 ((orderL bs).length) c19)), (4, (.slice A28 ((raboveL bs).length) c29)), (5, (.slice (some ⟨g275, 0, none⟩) bs.length c39)), (6, (.slice (some ⟨b52, 0, none⟩) bs.length bs.length)), (8, (.int .i64 (i : Int))), (40, (.int .i64 ((q : Int) + 1)))] := hF289.keep (keep := [1, 3, 4, 5, 6, 8, 40]) (by kernel_rfl)
        refine From_pure 1 3 [1, 3, 4, 5, 6, 7, 8] hF289 (env' := [(1, (.pointer (some ⟨b1, 0, none⟩))), (3, (.slice A18 ((orderL bs).length) c19)), (4, (.slice A28 ((raboveL bs).length) c29)), (5, (.slice (some ⟨g275, 0, none⟩) bs.length c39)), (6, (.slice (some ⟨b52, 0, none⟩) bs.length bs.length)), (7, (.int .i64 ((q : Int) + 1))), (8, (.int .i64 (i : Int)))]) (by kernel_rfl) rfl ?_
        intro a290 hF291; clear hF289 a288
        refine From_end (by kernel_rfl) ?_
        refine W_region (by kernel_rfl) ?_   -- region 10
        refine From_pure 1 1 [1, 3, 4, 5, 6, 7, 30] hF291 (env' := [(1, (.pointer (some ⟨b1, 0, none⟩))), (3, (.slice A18 ((orderL bs).length) c19)), (4, (.slice A28 ((raboveL bs).length) c29)), (5, (.slice (some ⟨g275, 0, none⟩) bs.length c39)), (6, (.slice (some ⟨b52, 0, none⟩) bs.length bs.length)), (7, (.int .i64 ((q : Int) + 1))), (30, (.int .i64 (i : Int)))]) (by kernel_rfl) rfl ?_
        intro a292 hF293; clear hF291 a290
        refine From_arith (by kernel_rfl : coreAt _ 1 = some (some 31, (Go.Op.binOp Go.BinOp.add 3 (Go.Operand.tmp 30) (Go.Operand.const (Go.Value.int Go.IntKind.i64 1)) 3), 3, none)) hF293 (by kernel_rfl) (by kernel_rfl) (k' := 2) rfl (i := (i : Int)) (j := 1) (z := ((i : Int) + 1)) (by kernel_rfl) (by kernel_rfl) rfl (by omega) (by omega) ?_
        intro a294 ea hF295; clear ea hF293 a292
        replace hF295 : Fr a294 169 [(1, (.pointer (some ⟨b1, 0, none⟩))), (3, (.slice A18 ((orderL bs).length) c19)), (4, (.slice A28 ((raboveL bs).length) c29)), (5, (.slice (some ⟨g275, 0, none⟩) bs.length c39)), (6, (.slice (some ⟨b52, 0, none⟩) bs.length bs.length)), (7, (.int .i64 ((q : Int) + 1))), (31, (.int .i64 ((i : Int) + 1)))] := hF295.keep (keep := [1, 3, 4, 5, 6, 7, 31]) (by kernel_rfl)
        refine From_pure 1 3 [1, 3, 4, 5, 6, 7, 8] hF295 (env' := [(1, (.pointer (some ⟨b1, 0, none⟩))), (3, (.slice A18 ((orderL bs).length) c19)), (4, (.slice A28 ((raboveL bs).length) c29)), (5, (.slice (some ⟨g275, 0, none⟩) bs.length c39)), (6, (.slice (some ⟨b52, 0, none⟩) bs.length bs.length)), (7, (.int .i64 ((q : Int) + 1))), (8, (.int .i64 ((i : Int) + 1)))]) (by kernel_rfl) rfl ?_
        intro a296 hF297; clear hF295 a294
        refine From_end (by kernel_rfl) ?_
        exact ⟨bs.length - (i + 1), by omega, i + 1, q + 1, m1.set i (-1), rfl, hF297.keep (keep := [1, 3, 4, 5, 6, 7, 8]) (by kernel_rfl), (hM269.cast (by rw [ints_set]; simp only [Int.toNat_natCast, Nat.mul_one])), by omega, by rw [hq]; exact (cnt_yes cin (by omega)).symm, fill_next h1 (by omega)⟩
  · have cbig : ((bs.length : Nat) : Int) > 200 := by first | exact of_decide_eq_true hBbig.symm | exact of_decide_eq_false hBbig.symm | exact beq_iff_eq.1 hBbig.symm | exact bne_iff_ne.1 hBbig.symm | exact (fun e => Bool.false_ne_true (hBbig.trans (beq_iff_eq.2 e))) | exact (fun e => Bool.false_ne_true (hBbig.trans (bne_iff_ne.2 e)))
    refine W_cond (t := 14) (B := true) (by kernel_rfl) hF15 (by kernel_rfl) (fun _ => ?_) (fun t => Bool.noConfusion t)
    refine W_seq (by kernel_rfl) ?_
    refine W_region (by kernel_rfl) ?_   -- region 2
    refine From_call (by kernel_rfl : coreAt _ 0 = some (some 15, (Go.Op.call { callee := (Go.Callee.value (Go.Operand.func 9)), args := #[], argTypes := #[] }), 4, none)) hF15 (by kernel_rfl) (by kernel_rfl) (k' := 1) rfl (f := 9) (vs := []) (cap := []) (by kernel_rfl) (by kernel_rfl) (by kernel_rfl) (awake_c w2) ?_
    rintro _ w298 ⟨rfl, hM299x⟩ a300 ea hF301; clear ea hF15 a14
    have hM299 : Mem noS w w298 [.blk b1 24 [nm, wk, pa, va, (.slice A bs.length c)]] := hM3.call hM299x
    clear hM299x hM3
    replace hF301 : Fr a300 169 (putE [(1, (.pointer (some ⟨b1, 0, none⟩))), (14, (.bool true))] (some 15) (.bool true)) := hF301
    obtain ⟨B302, hB302⟩ : ∃ B, B = true := ⟨_, rfl⟩
    rw [← hB302] at hF301
    replace hF301 : Fr a300 169 [(15, (.bool B302))] := hF301.keep (keep := [15]) (by kernel_rfl)
    refine From_pure 1 2 [2] hF301 (env' := [(2, (.bool B302))]) (by kernel_rfl) rfl ?_
    intro a303 hF304; clear hF301 a300
    refine From_end (by kernel_rfl) ?_
    refine W_ret (by kernel_rfl) ?_
    refine out1 (v := (.bool B302)) hF304 rfl (by kernel_rfl) ?_
    refine ⟨_, rfl, ?_⟩
    replace hM299 : Mem noS w w298 [] := hM299.pick [false] rfl
    exact ⟨by rw [hB302], hM299⟩

end Go.Proofs.Ytlkpkinmmjcbcaa
