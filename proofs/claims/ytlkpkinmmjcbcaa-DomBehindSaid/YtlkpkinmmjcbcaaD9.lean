/-
  Walks of layer 18. Printed by wip/gen/dom.py.
-/
import Derived.Test.YtlkpkinmmjcbcaaD8
import Derived.Test.YtlkpkinmmjcbcaaM3
namespace Go.Proofs.Ytlkpkinmmjcbcaa
open Go.Mor

set_option maxRecDepth 10000 in
theorem all_c (nm wk pa va : Value) (A : Option Addr) (c : Nat) (bs : List SB) (w : World) (hm : bs.length ≤ 1000000) (hA : RO noS w (.blocks A bs)) :
    Calls Try.prog 32 #[(.agg #[nm, wk, pa, va, (.slice A bs.length c)])] w (Ret fun v w' => ∃ A' c' rows, v = .slice A' bs.length c' ∧ FamOf (Value.int .i64) rows (allL bs) ∧ Mem noS w w' [.fam 3 rows, .row 27 1 A' bs.length c' (slv rows)]) := by
  refine enter (N := 38) (vs := [(.agg #[nm, wk, pa, va, (.slice A bs.length c)])]) Try.func32 (by kernel_rfl) (by kernel_rfl) (by kernel_rfl) ?_
  intro a hF
  have hM := Mem.init w
  refine W_seq (by kernel_rfl) ?_
  refine W_region (by kernel_rfl) ?_   -- region 0
  refine From_box (by kernel_rfl : coreAt _ 0 = some (some 1, (Go.Op.box 24 (Go.Operand.tmp 0)), 0, none)) hF (by kernel_rfl) (by kernel_rfl) (k' := 1) rfl (v := (.agg #[nm, wk, pa, va, (.slice A bs.length c)])) (cs := [nm, wk, pa, va, (.slice A bs.length c)]) (by kernel_rfl) rfl hM ?_
  intro b1 w2 hb1 _ hM3 _ a4 ea hF5; clear ea hF a
  change Mem noS w w2 [.blk b1 24 [nm, wk, pa, va, (.slice A bs.length c)]] at hM3
  clear hM
  replace hF5 : Fr a4 38 [(1, (.pointer (some ⟨b1, 0, none⟩)))] := hF5.keep (keep := [1]) (by kernel_rfl)
  refine From_pure 1 2 [1] hF5 (env' := [(1, (.pointer (some ⟨b1, 0, none⟩)))]) (by kernel_rfl) rfl ?_
  intro a6 hF7; clear hF5 a4
  refine From_end (by kernel_rfl) ?_
  refine W_seq (by kernel_rfl) ?_
  refine W_region (by kernel_rfl) ?_   -- region 1
  refine From_pure 1 1 [1, 7] hF7 (env' := [(1, (.pointer (some ⟨b1, 0, none⟩))), (7, (.pointer (some ⟨b1, 4, none⟩)))]) (by kernel_rfl) rfl ?_
  intro a8 hF9; clear hF7 a6
  refine From_load1 (by kernel_rfl : coreAt _ 1 = some (some 8, (Go.Op.load 22 (Go.Operand.tmp 7)), 22, none)) hF9 (by kernel_rfl) (by kernel_rfl) (k' := 2) rfl (ad := ⟨b1, 4, none⟩) (v := (.slice A bs.length c)) (by kernel_rfl) (by kernel_rfl) (blk_cell (hM3.get 0 rfl) rfl) ?_
  intro a10 ea hF11; clear ea hF9 a8
  replace hF11 : Fr a10 38 [(1, (.pointer (some ⟨b1, 0, none⟩))), (8, (.slice A bs.length c))] := hF11.keep (keep := [1, 8]) (by kernel_rfl)
  refine From_pure 1 3 [1, 9] hF11 (env' := [(1, (.pointer (some ⟨b1, 0, none⟩))), (9, (.int .i64 ((bs.length : Nat) : Int)))]) (by kernel_rfl) rfl ?_
  intro a12 hF13; clear hF11 a10
  refine From_make1 (by kernel_rfl : coreAt _ 3 = some (some 10, (Go.Op.makeSlice 31 (Go.Operand.tmp 9) (Go.Operand.tmp 9)), 31, none)) hF13 (by kernel_rfl) (by kernel_rfl) (k' := 4) rfl (e := 27) (bytes := 24) (z := (.slice none 0 0)) (n := bs.length) (i := ((bs.length : Nat) : Int)) (by kernel_rfl) (by kernel_rfl) rfl (by kernel_rfl) (by kernel_rfl) rfl (by omega) (by simp only [maxLen]; omega) hM3 ?_
  intro b14 w15 hb14 _ hM16 _ a17 ea hF18; clear ea hF13 a12
  change Mem noS w w15 [.blk b1 24 [nm, wk, pa, va, (.slice A bs.length c)], .row 27 1 (some ⟨b14, 0, none⟩) bs.length bs.length (List.replicate bs.length (.slice none 0 0))] at hM16
  clear hM3
  replace hF18 : Fr a17 38 [(1, (.pointer (some ⟨b1, 0, none⟩))), (10, (.slice (some ⟨b14, 0, none⟩) bs.length bs.length))] := hF18.keep (keep := [1, 10]) (by kernel_rfl)
  refine From_pure 1 5 [1, 3] hF18 (env' := [(1, (.pointer (some ⟨b1, 0, none⟩))), (3, (.slice (some ⟨b14, 0, none⟩) bs.length bs.length))]) (by kernel_rfl) rfl ?_
  intro a19 hF20; clear hF18 a17
  refine From_end (by kernel_rfl) ?_
  refine W_seq (by kernel_rfl) ?_
  refine W_seq (by kernel_rfl) ?_
  refine W_region (by kernel_rfl) ?_   -- region 2
  refine From_pure 1 1 [1, 3, 11] hF20 (env' := [(1, (.pointer (some ⟨b1, 0, none⟩))), (3, (.slice (some ⟨b14, 0, none⟩) bs.length bs.length)), (11, (.pointer (some ⟨b1, 4, none⟩)))]) (by kernel_rfl) rfl ?_
  intro a21 hF22; clear hF20 a19
  refine From_load1 (by kernel_rfl : coreAt _ 1 = some (some 12, (Go.Op.load 22 (Go.Operand.tmp 11)), 22, none)) hF22 (by kernel_rfl) (by kernel_rfl) (k' := 2) rfl (ad := ⟨b1, 4, none⟩) (v := (.slice A bs.length c)) (by kernel_rfl) (by kernel_rfl) (blk_cell (hM16.get 0 rfl) rfl) ?_
  intro a23 ea hF24; clear ea hF22 a21
  replace hF24 : Fr a23 38 [(1, (.pointer (some ⟨b1, 0, none⟩))), (3, (.slice (some ⟨b14, 0, none⟩) bs.length bs.length)), (12, (.slice A bs.length c))] := hF24.keep (keep := [1, 3, 12]) (by kernel_rfl)
  refine From_pure 2 4 [1, 3, 13, 14] hF24 (env' := [(1, (.pointer (some ⟨b1, 0, none⟩))), (3, (.slice (some ⟨b14, 0, none⟩) bs.length bs.length)), (13, (.int .i64 ((bs.length : Nat) : Int))), (14, (.int .i64 0))]) (by kernel_rfl) rfl ?_
  intro a25 hF26; clear hF24 a23
  refine From_end (by kernel_rfl) ?_
  refine W_block (id := 0) (by kernel_rfl) ?_
  have hM27 : Mem noS w w15 [.blk b1 24 [nm, wk, pa, va, (.slice A bs.length c)], .row 27 1 (some ⟨b14, 0, none⟩) bs.length bs.length (List.replicate bs.length (.slice none 0 0))] := ((hM16.front 1 rfl).front 1 rfl)
  clear hM16
  have hal := allL_len bs
  refine W_loop (by kernel_rfl) (fun n_ a_ w_ => ∃ (i : Nat) (rows : List RowV), n_ = bs.length - i ∧ Fr a_ 38 [(1, (.pointer (some ⟨b1, 0, none⟩))), (3, (.slice (some ⟨b14, 0, none⟩) bs.length bs.length)), (13, (.int .i64 ((bs.length : Nat) : Int))), (14, (.int .i64 (i : Int)))] ∧ Mem noS w w_ [.fam 3 rows, .blk b1 24 [nm, wk, pa, va, (.slice A bs.length c)], .row 27 1 (some ⟨b14, 0, none⟩) bs.length bs.length (slv rows)] ∧ (i ≤ bs.length) ∧ (FamOf (Value.int .i64) rows (allTo bs i))) (n := _) ⟨0, List.replicate bs.length nilV, rfl, hF26.keep (keep := [1, 3, 13, 14]) (by kernel_rfl), (((hM27.call (Mem.nilfam _ 3 bs.length)).front 2 rfl).cast (by simp [slv, nilV])), by omega, by rw [all_start]; exact FamOf.nils _⟩ ?_
  clear hF26 a25 hM27; rintro n a30 w28 ⟨i, rows, rfl, hF31, hM29, hi, hf⟩
  refine W_seq (by kernel_rfl) ?_
  refine W_region (by kernel_rfl) ?_   -- region 3
  refine From_cmp (by kernel_rfl : coreAt _ 0 = some (some 15, (Go.Op.binOp Go.BinOp.lss 3 (Go.Operand.tmp 14) (Go.Operand.tmp 13) 3), 0, none)) hF31 (by kernel_rfl) (by kernel_rfl) (k' := 1) rfl (kd := .i64) (i := (i : Int)) (j := ((bs.length : Nat) : Int)) (by kernel_rfl) (by kernel_rfl) rfl ?_
  intro Bi hBi a32 ea hF33; clear ea hF31 a30
  replace hF33 : Fr a32 38 [(1, (.pointer (some ⟨b1, 0, none⟩))), (3, (.slice (some ⟨b14, 0, none⟩) bs.length bs.length)), (13, (.int .i64 ((bs.length : Nat) : Int))), (14, (.int .i64 (i : Int))), (15, (.bool Bi))] := hF33.keep (keep := [1, 3, 13, 14, 15]) (by kernel_rfl)
  refine From_end (by kernel_rfl) ?_
  refine W_seq (by kernel_rfl) ?_
  cases Bi
  · have ci : ¬ ((i : Int) < ((bs.length : Nat) : Int)) := by simpa using hBi
    refine W_cond (t := 15) (B := false) (by kernel_rfl) hF33 (by kernel_rfl) (fun t => Bool.noConfusion t) (fun _ => ?_)
    refine W_exit (id := 0) (by kernel_rfl) ?_
    refine inB_hit rfl ?_
    refine W_seq (by kernel_rfl) ?_
    refine W_region (by kernel_rfl) ?_   -- region 11
    refine From_pure 2 2 [2] hF33 (env' := [(2, (.slice (some ⟨b14, 0, none⟩) bs.length bs.length))]) (by kernel_rfl) rfl ?_
    intro a34 hF35; clear hF33 a32
    refine From_end (by kernel_rfl) ?_
    refine W_ret (by kernel_rfl) ?_
    refine out1 (v := (.slice (some ⟨b14, 0, none⟩) bs.length bs.length)) hF35 rfl (by kernel_rfl) ?_
    refine ⟨_, rfl, ?_⟩
    obtain rfl : i = bs.length := by omega
    rw [all_end] at hf
    have hM36 : Mem noS w w28 [.fam 3 rows, .row 27 1 (some ⟨b14, 0, none⟩) bs.length bs.length (slv rows)] := (((hM29.front 2 rfl).front 1 rfl).pick [true, true, false] rfl)
    clear hM29
    exact ⟨_, _, rows, rfl, hf, hM36⟩
  · have ci : (i : Int) < ((bs.length : Nat) : Int) := by simpa using hBi
    refine W_cond (t := 15) (B := true) (by kernel_rfl) hF33 (by kernel_rfl) (fun _ => ?_) (fun t => Bool.noConfusion t)
    refine W_skip (by kernel_rfl) ?_
    refine W_seq (by kernel_rfl) ?_
    refine W_block (id := 1) (by kernel_rfl) ?_
    refine W_seq (by kernel_rfl) ?_
    refine W_region (by kernel_rfl) ?_   -- region 4
    refine From_pure 2 2 [1, 3, 4, 13, 14] hF33 (env' := [(1, (.pointer (some ⟨b1, 0, none⟩))), (3, (.slice (some ⟨b14, 0, none⟩) bs.length bs.length)), (4, (.int .i64 (i : Int))), (13, (.int .i64 ((bs.length : Nat) : Int))), (14, (.int .i64 (i : Int)))]) (by kernel_rfl) rfl ?_
    intro a37 hF38; clear hF33 a32
    refine From_end (by kernel_rfl) ?_
    refine W_seq (by kernel_rfl) ?_
    refine W_region (by kernel_rfl) ?_   -- region 5
    refine From_loadS (by kernel_rfl : coreAt _ 0 = some (some 17, (Go.Op.load 24 (Go.Operand.tmp 1)), 24, none)) hF38 (by kernel_rfl) (by kernel_rfl) (k' := 1) rfl (ad := ⟨b1, 0, none⟩) (vs := [nm, wk, pa, va, (.slice A bs.length c)]) (by kernel_rfl) (by kernel_rfl) (blk_cells (hM29.get 1 rfl)) ?_
    intro a39 ea hF40; clear ea hF38 a37
    replace hF40 : Fr a39 38 [(1, (.pointer (some ⟨b1, 0, none⟩))), (3, (.slice (some ⟨b14, 0, none⟩) bs.length bs.length)), (4, (.int .i64 (i : Int))), (13, (.int .i64 ((bs.length : Nat) : Int))), (14, (.int .i64 (i : Int))), (17, (.agg #[nm, wk, pa, va, (.slice A bs.length c)]))] := hF40.keep (keep := [1, 3, 4, 13, 14, 17]) (by kernel_rfl)
    refine From_pure 1 2 [1, 3, 4, 13, 14, 17, 18] hF40 (env' := [(1, (.pointer (some ⟨b1, 0, none⟩))), (3, (.slice (some ⟨b14, 0, none⟩) bs.length bs.length)), (4, (.int .i64 (i : Int))), (13, (.int .i64 ((bs.length : Nat) : Int))), (14, (.int .i64 (i : Int))), (17, (.agg #[nm, wk, pa, va, (.slice A bs.length c)])), (18, (.int .i64 (i : Int)))]) (by kernel_rfl) rfl ?_
    intro a41 hF42; clear hF40 a39
    refine From_call (by kernel_rfl : coreAt _ 2 = some (some 19, (Go.Op.call { callee := (Go.Callee.value (Go.Operand.func 19)), args := #[(Go.Operand.tmp 17), (Go.Operand.tmp 18)], argTypes := #[24, 3] }), 27, none)) hF42 (by kernel_rfl) (by kernel_rfl) (k' := 3) rfl (f := 19) (vs := [(.agg #[nm, wk, pa, va, (.slice A bs.length c)]), (.int .i64 (i : Int))]) (cap := []) (by kernel_rfl) (by kernel_rfl) (by kernel_rfl) (targets_c _ _ _ _ A c bs (i : Int) w28 hm (hA.at_ hM29)) ?_
    rintro _ w45 ⟨A43, c44, rfl, hM46x⟩ a47 ea hF48; clear ea hF42 a41
    have hM46 : Mem noS w w45 [.fam 3 rows, .blk b1 24 [nm, wk, pa, va, (.slice A bs.length c)], .row 27 1 (some ⟨b14, 0, none⟩) bs.length bs.length (slv rows), .row 3 1 A43 ((tg bs (i : Int)).length) c44 (ints (tg bs (i : Int)))] := hM29.call hM46x
    clear hM46x hM29
    replace hF48 : Fr a47 38 [(1, (.pointer (some ⟨b1, 0, none⟩))), (3, (.slice (some ⟨b14, 0, none⟩) bs.length bs.length)), (4, (.int .i64 (i : Int))), (13, (.int .i64 ((bs.length : Nat) : Int))), (14, (.int .i64 (i : Int))), (19, (.slice A43 ((tg bs (i : Int)).length) c44))] := hF48.keep (keep := [1, 3, 4, 13, 14, 19]) (by kernel_rfl)
    refine From_pure 2 5 [1, 3, 4, 13, 14, 19, 20, 21] hF48 (env' := [(1, (.pointer (some ⟨b1, 0, none⟩))), (3, (.slice (some ⟨b14, 0, none⟩) bs.length bs.length)), (4, (.int .i64 (i : Int))), (13, (.int .i64 ((bs.length : Nat) : Int))), (14, (.int .i64 (i : Int))), (19, (.slice A43 ((tg bs (i : Int)).length) c44)), (20, (.int .i64 (((tg bs (i : Int)).length : Nat) : Int))), (21, (.int .i64 0))]) (by kernel_rfl) rfl ?_
    intro a49 hF50; clear hF48 a47
    refine From_end (by kernel_rfl) ?_
    refine W_block (id := 2) (by kernel_rfl) ?_
    have htl := tg_len bs (i : Int)
    refine W_loop (by kernel_rfl) (fun n_ a_ w_ => ∃ (k : Nat) (rows3 : List RowV), n_ = (tg bs (i : Int)).length - k ∧ Fr a_ 38 [(1, (.pointer (some ⟨b1, 0, none⟩))), (3, (.slice (some ⟨b14, 0, none⟩) bs.length bs.length)), (4, (.int .i64 (i : Int))), (13, (.int .i64 ((bs.length : Nat) : Int))), (14, (.int .i64 (i : Int))), (19, (.slice A43 ((tg bs (i : Int)).length) c44)), (20, (.int .i64 (((tg bs (i : Int)).length : Nat) : Int))), (21, (.int .i64 (k : Int)))] ∧ Mem noS w w_ [.fam 3 rows3, .blk b1 24 [nm, wk, pa, va, (.slice A bs.length c)], .row 27 1 (some ⟨b14, 0, none⟩) bs.length bs.length (slv rows3), .row 3 1 A43 ((tg bs (i : Int)).length) c44 (ints (tg bs (i : Int)))] ∧ (k ≤ (tg bs (i : Int)).length) ∧ (FamOf (Value.int .i64) rows3 (allMid bs i k))) (n := _) ⟨0, rows, rfl, hF50.keep (keep := [1, 3, 4, 13, 14, 19, 20, 21]) (by kernel_rfl), hM46, by omega, by rw [all_mid]; exact hf⟩ ?_
    clear hF50 a49 hM46; rintro n a53 w51 ⟨k, rows3, rfl, hF54, hM52, hk, hf3⟩
    refine W_seq (by kernel_rfl) ?_
    refine W_region (by kernel_rfl) ?_   -- region 6
    refine From_cmp (by kernel_rfl : coreAt _ 0 = some (some 22, (Go.Op.binOp Go.BinOp.lss 3 (Go.Operand.tmp 21) (Go.Operand.tmp 20) 3), 0, none)) hF54 (by kernel_rfl) (by kernel_rfl) (k' := 1) rfl (kd := .i64) (i := (k : Int)) (j := (((tg bs (i : Int)).length : Nat) : Int)) (by kernel_rfl) (by kernel_rfl) rfl ?_
    intro Bk hBk a55 ea hF56; clear ea hF54 a53
    replace hF56 : Fr a55 38 [(1, (.pointer (some ⟨b1, 0, none⟩))), (3, (.slice (some ⟨b14, 0, none⟩) bs.length bs.length)), (4, (.int .i64 (i : Int))), (13, (.int .i64 ((bs.length : Nat) : Int))), (14, (.int .i64 (i : Int))), (19, (.slice A43 ((tg bs (i : Int)).length) c44)), (20, (.int .i64 (((tg bs (i : Int)).length : Nat) : Int))), (21, (.int .i64 (k : Int))), (22, (.bool Bk))] := hF56.keep (keep := [1, 3, 4, 13, 14, 19, 20, 21, 22]) (by kernel_rfl)
    refine From_end (by kernel_rfl) ?_
    refine W_seq (by kernel_rfl) ?_
    cases Bk
    · have ck : ¬ ((k : Int) < (((tg bs (i : Int)).length : Nat) : Int)) := by simpa using hBk
      refine W_cond (t := 22) (B := false) (by kernel_rfl) hF56 (by kernel_rfl) (fun t => Bool.noConfusion t) (fun _ => ?_)
      refine W_exit (id := 2) (by kernel_rfl) ?_
      refine inB_hit rfl ?_
      refine W_region (by kernel_rfl) ?_   -- region 10
      refine From_arith (by kernel_rfl : coreAt _ 0 = some (some 36, (Go.Op.binOp Go.BinOp.add 3 (Go.Operand.tmp 14) (Go.Operand.const (Go.Value.int Go.IntKind.i64 1)) 3), 3, none)) hF56 (by kernel_rfl) (by kernel_rfl) (k' := 1) rfl (i := (i : Int)) (j := 1) (z := ((i : Int) + 1)) (by kernel_rfl) (by kernel_rfl) rfl (by omega) (by omega) ?_
      intro a57 ea hF58; clear ea hF56 a55
      replace hF58 : Fr a57 38 [(1, (.pointer (some ⟨b1, 0, none⟩))), (3, (.slice (some ⟨b14, 0, none⟩) bs.length bs.length)), (13, (.int .i64 ((bs.length : Nat) : Int))), (36, (.int .i64 ((i : Int) + 1)))] := hF58.keep (keep := [1, 3, 13, 36]) (by kernel_rfl)
      refine From_pure 1 2 [1, 3, 13, 14] hF58 (env' := [(1, (.pointer (some ⟨b1, 0, none⟩))), (3, (.slice (some ⟨b14, 0, none⟩) bs.length bs.length)), (13, (.int .i64 ((bs.length : Nat) : Int))), (14, (.int .i64 ((i : Int) + 1)))]) (by kernel_rfl) rfl ?_
      intro a59 hF60; clear hF58 a57
      refine From_end (by kernel_rfl) ?_
      exact ⟨bs.length - (i + 1), by omega, i + 1, rows3, rfl, hF60.keep (keep := [1, 3, 13, 14]) (by kernel_rfl), (hM52.pick [true, true, true, false] rfl), by omega, by rw [← all_next (k := k) (by omega)]; exact hf3⟩
    · have ck : (k : Int) < (((tg bs (i : Int)).length : Nat) : Int) := by simpa using hBk
      refine W_cond (t := 22) (B := true) (by kernel_rfl) hF56 (by kernel_rfl) (fun _ => ?_) (fun t => Bool.noConfusion t)
      refine W_skip (by kernel_rfl) ?_
      refine W_seq (by kernel_rfl) ?_
      refine W_block (id := 3) (by kernel_rfl) ?_
      refine W_seq (by kernel_rfl) ?_
      refine W_region (by kernel_rfl) ?_   -- region 7
      obtain ⟨ti, hti, htn⟩ := tg_at (bs := bs) (b := (i : Int)) (k := k) (by omega)
      obtain ⟨At, ct, hrt⟩ := hf3.get (mid_get hti htn)
      have hsl := srcsTo_len bs (ti : Int) i
      obtain ⟨g62, rfl⟩ := row_some (hM52.get 3 rfl) (by omega)
      refine From_index (by kernel_rfl : coreAt _ 0 = some (some 23, (Go.Op.indexAddr 27 (Go.Operand.tmp 19) (Go.Operand.tmp 21)), 0, none)) hF56 (by kernel_rfl) (by kernel_rfl) (k' := 1) rfl (A := (some ⟨g62, 0, none⟩)) (ad := ⟨g62, 0, none⟩) (n := ((tg bs (i : Int)).length)) (cap := c44) (e := 3) (size := 1) (kd := .i64) (i := (k : Int)) (by kernel_rfl) (by kernel_rfl) rfl (by kernel_rfl) (by kernel_rfl) (by omega) (by omega) ?_
      intro a63 ea hF64; clear ea hF56 a55
      replace hF64 : Fr a63 38 [(1, (.pointer (some ⟨b1, 0, none⟩))), (3, (.slice (some ⟨b14, 0, none⟩) bs.length bs.length)), (4, (.int .i64 (i : Int))), (13, (.int .i64 ((bs.length : Nat) : Int))), (14, (.int .i64 (i : Int))), (19, (.slice (some ⟨g62, 0, none⟩) ((tg bs (i : Int)).length) c44)), (20, (.int .i64 (((tg bs (i : Int)).length : Nat) : Int))), (21, (.int .i64 (k : Int))), (23, (.pointer (some ((⟨g62, 0, none⟩ : Addr).add (((k : Int)).toNat * 1)))))] := hF64.keep (keep := [1, 3, 4, 13, 14, 19, 20, 21, 23]) (by kernel_rfl)
      refine From_load1 (by kernel_rfl : coreAt _ 1 = some (some 24, (Go.Op.load 3 (Go.Operand.tmp 23)), 3, none)) hF64 (by kernel_rfl) (by kernel_rfl) (k' := 2) rfl (ad := ((⟨g62, 0, none⟩ : Addr).add (((k : Int)).toNat * 1))) (v := (.int .i64 (ti : Int))) (by kernel_rfl) (by kernel_rfl) (rd_at (row_rd (hM52.get 3 rfl)) rfl hti) ?_
      intro a65 ea hF66; clear ea hF64 a63
      replace hF66 : Fr a65 38 [(1, (.pointer (some ⟨b1, 0, none⟩))), (3, (.slice (some ⟨b14, 0, none⟩) bs.length bs.length)), (4, (.int .i64 (i : Int))), (13, (.int .i64 ((bs.length : Nat) : Int))), (14, (.int .i64 (i : Int))), (19, (.slice (some ⟨g62, 0, none⟩) ((tg bs (i : Int)).length) c44)), (20, (.int .i64 (((tg bs (i : Int)).length : Nat) : Int))), (21, (.int .i64 (k : Int))), (24, (.int .i64 (ti : Int)))] := hF66.keep (keep := [1, 3, 4, 13, 14, 19, 20, 21, 24]) (by kernel_rfl)
      refine From_pure 1 3 [1, 3, 4, 6, 13, 14, 19, 20, 21] hF66 (env' := [(1, (.pointer (some ⟨b1, 0, none⟩))), (3, (.slice (some ⟨b14, 0, none⟩) bs.length bs.length)), (4, (.int .i64 (i : Int))), (6, (.int .i64 (ti : Int))), (13, (.int .i64 ((bs.length : Nat) : Int))), (14, (.int .i64 (i : Int))), (19, (.slice (some ⟨g62, 0, none⟩) ((tg bs (i : Int)).length) c44)), (20, (.int .i64 (((tg bs (i : Int)).length : Nat) : Int))), (21, (.int .i64 (k : Int)))]) (by kernel_rfl) rfl ?_
      intro a67 hF68; clear hF66 a65
      refine From_end (by kernel_rfl) ?_
      refine W_region (by kernel_rfl) ?_   -- region 8
      refine From_pure 4 4 [1, 3, 4, 13, 14, 19, 20, 21, 25, 26, 27, 28] hF68 (env' := [(1, (.pointer (some ⟨b1, 0, none⟩))), (3, (.slice (some ⟨b14, 0, none⟩) bs.length bs.length)), (4, (.int .i64 (i : Int))), (13, (.int .i64 ((bs.length : Nat) : Int))), (14, (.int .i64 (i : Int))), (19, (.slice (some ⟨g62, 0, none⟩) ((tg bs (i : Int)).length) c44)), (20, (.int .i64 (((tg bs (i : Int)).length : Nat) : Int))), (21, (.int .i64 (k : Int))), (25, (.slice (some ⟨b14, 0, none⟩) bs.length bs.length)), (26, (.int .i64 (ti : Int))), (27, (.slice (some ⟨b14, 0, none⟩) bs.length bs.length)), (28, (.int .i64 (ti : Int)))]) (by kernel_rfl) rfl ?_
      intro a69 hF70; clear hF68 a67
      refine From_index (by kernel_rfl : coreAt _ 4 = some (some 29, (Go.Op.indexAddr 31 (Go.Operand.tmp 27) (Go.Operand.tmp 28)), 0, none)) hF70 (by kernel_rfl) (by kernel_rfl) (k' := 5) rfl (A := (some ⟨b14, 0, none⟩)) (ad := ⟨b14, 0, none⟩) (n := bs.length) (cap := bs.length) (e := 27) (size := 1) (kd := .i64) (i := (ti : Int)) (by kernel_rfl) (by kernel_rfl) rfl (by kernel_rfl) (by kernel_rfl) (by omega) (by omega) ?_
      intro a71 ea hF72; clear ea hF70 a69
      replace hF72 : Fr a71 38 [(1, (.pointer (some ⟨b1, 0, none⟩))), (3, (.slice (some ⟨b14, 0, none⟩) bs.length bs.length)), (4, (.int .i64 (i : Int))), (13, (.int .i64 ((bs.length : Nat) : Int))), (14, (.int .i64 (i : Int))), (19, (.slice (some ⟨g62, 0, none⟩) ((tg bs (i : Int)).length) c44)), (20, (.int .i64 (((tg bs (i : Int)).length : Nat) : Int))), (21, (.int .i64 (k : Int))), (25, (.slice (some ⟨b14, 0, none⟩) bs.length bs.length)), (26, (.int .i64 (ti : Int))), (29, (.pointer (some ((⟨b14, 0, none⟩ : Addr).add (((ti : Int)).toNat * 1)))))] := hF72.keep (keep := [1, 3, 4, 13, 14, 19, 20, 21, 25, 26, 29]) (by kernel_rfl)
      refine From_load1 (by kernel_rfl : coreAt _ 5 = some (some 30, (Go.Op.load 27 (Go.Operand.tmp 29)), 27, none)) hF72 (by kernel_rfl) (by kernel_rfl) (k' := 6) rfl (ad := ((⟨b14, 0, none⟩ : Addr).add (((ti : Int)).toNat * 1))) (v := (.slice At ((srcsTo bs (ti : Int) i).length) ct)) (by kernel_rfl) (by kernel_rfl) (rd_get1 (row_rd (hM52.get 2 rfl)) rfl (slv_get hrt)) ?_
      intro a73 ea hF74; clear ea hF72 a71
      replace hF74 : Fr a73 38 [(1, (.pointer (some ⟨b1, 0, none⟩))), (3, (.slice (some ⟨b14, 0, none⟩) bs.length bs.length)), (4, (.int .i64 (i : Int))), (13, (.int .i64 ((bs.length : Nat) : Int))), (14, (.int .i64 (i : Int))), (19, (.slice (some ⟨g62, 0, none⟩) ((tg bs (i : Int)).length) c44)), (20, (.int .i64 (((tg bs (i : Int)).length : Nat) : Int))), (21, (.int .i64 (k : Int))), (25, (.slice (some ⟨b14, 0, none⟩) bs.length bs.length)), (26, (.int .i64 (ti : Int))), (30, (.slice At ((srcsTo bs (ti : Int) i).length) ct))] := hF74.keep (keep := [1, 3, 4, 13, 14, 19, 20, 21, 25, 26, 30]) (by kernel_rfl)
      have hM75 : Mem noS w w51 [.fam 3 (rows3.set ti nilV), .row 3 1 At ((srcsTo bs (ti : Int) i).length) ct (ints (srcsTo bs (ti : Int) i)), .blk b1 24 [nm, wk, pa, va, (.slice A bs.length c)], .row 27 1 (some ⟨b14, 0, none⟩) bs.length bs.length (slv rows3), .row 3 1 (some ⟨g62, 0, none⟩) ((tg bs (i : Int)).length) c44 (ints (tg bs (i : Int)))] := hM52.focus ti hrt
      clear hM52
      refine From_pure 1 7 [1, 3, 4, 13, 14, 19, 20, 21, 25, 26, 30, 31] hF74 (env' := [(1, (.pointer (some ⟨b1, 0, none⟩))), (3, (.slice (some ⟨b14, 0, none⟩) bs.length bs.length)), (4, (.int .i64 (i : Int))), (13, (.int .i64 ((bs.length : Nat) : Int))), (14, (.int .i64 (i : Int))), (19, (.slice (some ⟨g62, 0, none⟩) ((tg bs (i : Int)).length) c44)), (20, (.int .i64 (((tg bs (i : Int)).length : Nat) : Int))), (21, (.int .i64 (k : Int))), (25, (.slice (some ⟨b14, 0, none⟩) bs.length bs.length)), (26, (.int .i64 (ti : Int))), (30, (.slice At ((srcsTo bs (ti : Int) i).length) ct)), (31, (.int .i64 (i : Int)))]) (by kernel_rfl) rfl ?_
      intro a76 hF77; clear hF74 a73
      refine From_buildSlice (by kernel_rfl : coreAt _ 7 = some (some 32, (Go.Op.buildSlice 27 1 #[(0, (Go.Operand.tmp 31))]), 27, none)) hF77 (by kernel_rfl) (by kernel_rfl) (k' := 8) rfl (e := 3) (size := 1) (zs := [(.int .i64 0)]) (vs := [(0, (.int .i64 (i : Int)))]) (cs := [(.int .i64 (i : Int))]) (by kernel_rfl) (by kernel_rfl) (by kernel_rfl) (by kernel_rfl) (by kernel_rfl) (by kernel_rfl) hM75 ?_
      intro b78 w79 hb78 _ hM80 _ a81 ea hF82; clear ea hF77 a76
      change Mem noS w w79 [.fam 3 (rows3.set ti nilV), .row 3 1 At ((srcsTo bs (ti : Int) i).length) ct (ints (srcsTo bs (ti : Int) i)), .blk b1 24 [nm, wk, pa, va, (.slice A bs.length c)], .row 27 1 (some ⟨b14, 0, none⟩) bs.length bs.length (slv rows3), .row 3 1 (some ⟨g62, 0, none⟩) ((tg bs (i : Int)).length) c44 (ints (tg bs (i : Int))), .row 3 1 (some ⟨b78, 0, none⟩) 1 1 [(.int .i64 (i : Int))]] at hM80
      clear hM75
      replace hF82 : Fr a81 38 [(1, (.pointer (some ⟨b1, 0, none⟩))), (3, (.slice (some ⟨b14, 0, none⟩) bs.length bs.length)), (4, (.int .i64 (i : Int))), (13, (.int .i64 ((bs.length : Nat) : Int))), (14, (.int .i64 (i : Int))), (19, (.slice (some ⟨g62, 0, none⟩) ((tg bs (i : Int)).length) c44)), (20, (.int .i64 (((tg bs (i : Int)).length : Nat) : Int))), (21, (.int .i64 (k : Int))), (25, (.slice (some ⟨b14, 0, none⟩) bs.length bs.length)), (26, (.int .i64 (ti : Int))), (30, (.slice At ((srcsTo bs (ti : Int) i).length) ct)), (32, (.slice (some ⟨b78, 0, none⟩) 1 1))] := hF82.keep (keep := [1, 3, 4, 13, 14, 19, 20, 21, 25, 26, 30, 32]) (by kernel_rfl)
      refine From_append (by kernel_rfl : coreAt _ 8 = some (some 33, (Go.Op.call { callee := (Go.Callee.builtin Go.Builtin.append), args := #[(Go.Operand.tmp 30), (Go.Operand.tmp 32)], argTypes := #[27, 27] }), 27, none)) hF82 (by kernel_rfl) (by kernel_rfl) (k' := 9) rfl (e := 3) (size := 1) (bytes := 8) (z := (.int .i64 0)) (by kernel_rfl) (by kernel_rfl) (by kernel_rfl) (by kernel_rfl) (A := At) (B := (some ⟨b78, 0, none⟩)) (n := ((srcsTo bs (ti : Int) i).length)) (cap := ct) (m := 1) (cap' := 1) (xs := (ints (srcsTo bs (ti : Int) i))) (news := [(.int .i64 (i : Int))]) (by kernel_rfl) (by kernel_rfl) hM80 1 rfl (row_rd (hM80.get 5 rfl)) rfl (by simp [Value.oneCell']) (by omega) (by simp only [maxLen]; omega) ?_
      intro A83 c84 w85 hM86 _ a87 ea hF88; clear ea hF82 a81
      change Mem noS w w85 [.fam 3 (rows3.set ti nilV), .row 3 1 A83 (((srcsTo bs (ti : Int) i).length) + 1) c84 ((ints (srcsTo bs (ti : Int) i)) ++ [(.int .i64 (i : Int))]), .blk b1 24 [nm, wk, pa, va, (.slice A bs.length c)], .row 27 1 (some ⟨b14, 0, none⟩) bs.length bs.length (slv rows3), .row 3 1 (some ⟨g62, 0, none⟩) ((tg bs (i : Int)).length) c44 (ints (tg bs (i : Int))), .row 3 1 (some ⟨b78, 0, none⟩) 1 1 [(.int .i64 (i : Int))]] at hM86
      clear hM80
      replace hM86 : Mem noS w w85 [.fam 3 (rows3.set ti nilV), .row 3 1 A83 (((srcsTo bs (ti : Int) i).length) + 1) c84 ((ints (srcsTo bs (ti : Int) i)) ++ [(.int .i64 (i : Int))]), .blk b1 24 [nm, wk, pa, va, (.slice A bs.length c)], .row 27 1 (some ⟨b14, 0, none⟩) bs.length bs.length (slv rows3), .row 3 1 (some ⟨g62, 0, none⟩) ((tg bs (i : Int)).length) c44 (ints (tg bs (i : Int)))] := hM86.pick [true, true, true, true, true, false] rfl
      replace hF88 : Fr a87 38 [(1, (.pointer (some ⟨b1, 0, none⟩))), (3, (.slice (some ⟨b14, 0, none⟩) bs.length bs.length)), (4, (.int .i64 (i : Int))), (13, (.int .i64 ((bs.length : Nat) : Int))), (14, (.int .i64 (i : Int))), (19, (.slice (some ⟨g62, 0, none⟩) ((tg bs (i : Int)).length) c44)), (20, (.int .i64 (((tg bs (i : Int)).length : Nat) : Int))), (21, (.int .i64 (k : Int))), (25, (.slice (some ⟨b14, 0, none⟩) bs.length bs.length)), (26, (.int .i64 (ti : Int))), (33, (.slice A83 (((srcsTo bs (ti : Int) i).length) + 1) c84))] := hF88.keep (keep := [1, 3, 4, 13, 14, 19, 20, 21, 25, 26, 33]) (by kernel_rfl)
      refine From_index (by kernel_rfl : coreAt _ 9 = some (some 34, (Go.Op.indexAddr 31 (Go.Operand.tmp 25) (Go.Operand.tmp 26)), 0, none)) hF88 (by kernel_rfl) (by kernel_rfl) (k' := 10) rfl (A := (some ⟨b14, 0, none⟩)) (ad := ⟨b14, 0, none⟩) (n := bs.length) (cap := bs.length) (e := 27) (size := 1) (kd := .i64) (i := (ti : Int)) (by kernel_rfl) (by kernel_rfl) rfl (by kernel_rfl) (by kernel_rfl) (by omega) (by omega) ?_
      intro a89 ea hF90; clear ea hF88 a87
      replace hF90 : Fr a89 38 [(1, (.pointer (some ⟨b1, 0, none⟩))), (3, (.slice (some ⟨b14, 0, none⟩) bs.length bs.length)), (4, (.int .i64 (i : Int))), (13, (.int .i64 ((bs.length : Nat) : Int))), (14, (.int .i64 (i : Int))), (19, (.slice (some ⟨g62, 0, none⟩) ((tg bs (i : Int)).length) c44)), (20, (.int .i64 (((tg bs (i : Int)).length : Nat) : Int))), (21, (.int .i64 (k : Int))), (33, (.slice A83 (((srcsTo bs (ti : Int) i).length) + 1) c84)), (34, (.pointer (some ((⟨b14, 0, none⟩ : Addr).add (((ti : Int)).toNat * 1)))))] := hF90.keep (keep := [1, 3, 4, 13, 14, 19, 20, 21, 33, 34]) (by kernel_rfl)
      refine From_store_row (by kernel_rfl : coreAt _ 10 = some (none, (Go.Op.store 27 (Go.Operand.tmp 34) (Go.Operand.tmp 33)), 0, none)) hF90 (by kernel_rfl) (by kernel_rfl) (k' := 11) rfl (ad := (⟨b14, 0, none⟩ : Addr)) (j := (((ti : Int)).toNat * 1)) (e := 27) (size := 1) (n := bs.length) (cap := bs.length) (v := (.slice A83 (((srcsTo bs (ti : Int) i).length) + 1) c84)) (xs := (slv rows3)) (ad' := ((⟨b14, 0, none⟩ : Addr).add (((ti : Int)).toNat * 1))) (by kernel_rfl) rfl (by kernel_rfl) (by kernel_rfl) rfl hM86 3 rfl (by omega) ?_
      intro w91 hM92 _ a93 ea hF94; clear ea hF90 a89
      change Mem noS w w91 [.fam 3 (rows3.set ti nilV), .row 3 1 A83 (((srcsTo bs (ti : Int) i).length) + 1) c84 ((ints (srcsTo bs (ti : Int) i)) ++ [(.int .i64 (i : Int))]), .blk b1 24 [nm, wk, pa, va, (.slice A bs.length c)], .row 27 1 (some ⟨b14, 0, none⟩) bs.length bs.length ((slv rows3).set (((ti : Int)).toNat * 1) (.slice A83 (((srcsTo bs (ti : Int) i).length) + 1) c84)), .row 3 1 (some ⟨g62, 0, none⟩) ((tg bs (i : Int)).length) c44 (ints (tg bs (i : Int)))] at hM92
      clear hM86
      replace hF94 : Fr a93 38 [(1, (.pointer (some ⟨b1, 0, none⟩))), (3, (.slice (some ⟨b14, 0, none⟩) bs.length bs.length)), (4, (.int .i64 (i : Int))), (13, (.int .i64 ((bs.length : Nat) : Int))), (14, (.int .i64 (i : Int))), (19, (.slice (some ⟨g62, 0, none⟩) ((tg bs (i : Int)).length) c44)), (20, (.int .i64 (((tg bs (i : Int)).length : Nat) : Int))), (21, (.int .i64 (k : Int)))] := hF94.keep (keep := [1, 3, 4, 13, 14, 19, 20, 21]) (by kernel_rfl)
      refine From_end (by kernel_rfl) ?_
      refine W_region (by kernel_rfl) ?_   -- region 9
      have hM95 : Mem noS w w91 [.fam 3 (rows3.set ti nilV), .row 3 1 A83 (((srcsTo bs (ti : Int) i).length) + 1) c84 ((ints (srcsTo bs (ti : Int) i)) ++ [(.int .i64 (i : Int))]), .blk b1 24 [nm, wk, pa, va, (.slice A bs.length c)], .row 27 1 (some ⟨b14, 0, none⟩) bs.length bs.length ((slv rows3).set (((ti : Int)).toNat * 1) (.slice A83 (((srcsTo bs (ti : Int) i).length) + 1) c84)), .row 3 1 (some ⟨g62, 0, none⟩) ((tg bs (i : Int)).length) c44 (ints (tg bs (i : Int)))] := (((((hM92.front 4 rfl).front 4 rfl).front 4 rfl).front 4 rfl).front 4 rfl)
      clear hM92
      have hrl : ti < rows3.length := (List.getElem?_eq_some_iff.1 hrt).1
      have hM96 : Mem noS w w91 [.fam 3 ((rows3.set ti nilV).set ti ⟨A83, ((srcsTo bs (ti : Int) i).length) + 1, c84, (ints (srcsTo bs (ti : Int) i)) ++ [(.int .i64 (i : Int))]⟩), .blk b1 24 [nm, wk, pa, va, (.slice A bs.length c)], .row 27 1 (some ⟨b14, 0, none⟩) bs.length bs.length ((slv rows3).set (((ti : Int)).toNat * 1) (.slice A83 (((srcsTo bs (ti : Int) i).length) + 1) c84)), .row 3 1 (some ⟨g62, 0, none⟩) ((tg bs (i : Int)).length) c44 (ints (tg bs (i : Int)))] := hM95.unfocus ti (List.getElem?_set_self hrl)
      clear hM95
      have hM97 : Mem noS w w91 [.fam 3 (rows3.set ti ⟨A83, ((srcsTo bs (ti : Int) i).length) + 1, c84, (ints (srcsTo bs (ti : Int) i)) ++ [(.int .i64 (i : Int))]⟩), .blk b1 24 [nm, wk, pa, va, (.slice A bs.length c)], .row 27 1 (some ⟨b14, 0, none⟩) bs.length bs.length (slv (rows3.set ti ⟨A83, ((srcsTo bs (ti : Int) i).length) + 1, c84, (ints (srcsTo bs (ti : Int) i)) ++ [(.int .i64 (i : Int))]⟩)), .row 3 1 (some ⟨g62, 0, none⟩) ((tg bs (i : Int)).length) c44 (ints (tg bs (i : Int)))] := hM96.cast (by rw [set_twice, slv_set]; simp only [Int.toNat_natCast, Nat.mul_one])
      clear hM96
      refine From_arith (by kernel_rfl : coreAt _ 0 = some (some 35, (Go.Op.binOp Go.BinOp.add 3 (Go.Operand.tmp 21) (Go.Operand.const (Go.Value.int Go.IntKind.i64 1)) 3), 3, none)) hF94 (by kernel_rfl) (by kernel_rfl) (k' := 1) rfl (i := (k : Int)) (j := 1) (z := ((k : Int) + 1)) (by kernel_rfl) (by kernel_rfl) rfl (by omega) (by omega) ?_
      intro a98 ea hF99; clear ea hF94 a93
      replace hF99 : Fr a98 38 [(1, (.pointer (some ⟨b1, 0, none⟩))), (3, (.slice (some ⟨b14, 0, none⟩) bs.length bs.length)), (4, (.int .i64 (i : Int))), (13, (.int .i64 ((bs.length : Nat) : Int))), (14, (.int .i64 (i : Int))), (19, (.slice (some ⟨g62, 0, none⟩) ((tg bs (i : Int)).length) c44)), (20, (.int .i64 (((tg bs (i : Int)).length : Nat) : Int))), (35, (.int .i64 ((k : Int) + 1)))] := hF99.keep (keep := [1, 3, 4, 13, 14, 19, 20, 35]) (by kernel_rfl)
      refine From_pure 1 2 [1, 3, 4, 13, 14, 19, 20, 21] hF99 (env' := [(1, (.pointer (some ⟨b1, 0, none⟩))), (3, (.slice (some ⟨b14, 0, none⟩) bs.length bs.length)), (4, (.int .i64 (i : Int))), (13, (.int .i64 ((bs.length : Nat) : Int))), (14, (.int .i64 (i : Int))), (19, (.slice (some ⟨g62, 0, none⟩) ((tg bs (i : Int)).length) c44)), (20, (.int .i64 (((tg bs (i : Int)).length : Nat) : Int))), (21, (.int .i64 ((k : Int) + 1)))]) (by kernel_rfl) rfl ?_
      intro a100 hF101; clear hF99 a98
      refine From_end (by kernel_rfl) ?_
      exact ⟨(tg bs (i : Int)).length - (k + 1), by omega, k + 1, (rows3.set ti ⟨A83, ((srcsTo bs (ti : Int) i).length) + 1, c84, (ints (srcsTo bs (ti : Int) i)) ++ [(.int .i64 (i : Int))]⟩), rfl, hF101.keep (keep := [1, 3, 4, 13, 14, 19, 20, 21]) (by kernel_rfl), hM97, by omega, by rw [← mid_set hti htn]; exact hf3.set (by simp) (by rw [List.map_append]; rfl)⟩

end Go.Proofs.Ytlkpkinmmjcbcaa
