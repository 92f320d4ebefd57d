/-
  Walks of layer 18. Printed by wip/gen/dom.py.
-/
import Derived.Test.YtlkpkinmmjcbcaaD17
import Derived.Test.YtlkpkinmmjcbcaaM12
namespace Go.Proofs.Ytlkpkinmmjcbcaa
open Go.Mor

set_option maxRecDepth 10000 in
theorem domSides_c (nm wk pa va : Value) (A : Option Addr) (c : Nat) (bs : List SB) (b : Int) (w : World) (hA : RO noS w (.blocks A bs)) :
    Calls Try.prog 8 #[(.agg #[nm, wk, pa, va, (.slice A bs.length c)]), (.int .i64 b)] w (Ret fun v w' => v = .bool true ∧ Mem noS w w' []) := by
  refine enter (N := 29) (vs := [(.agg #[nm, wk, pa, va, (.slice A bs.length c)]), (.int .i64 b)]) Try.func8 (by kernel_rfl) (by kernel_rfl) (by kernel_rfl) ?_
  intro a hF
  have hM := Mem.init w
  refine W_seq (by kernel_rfl) ?_
  refine W_region (by kernel_rfl) ?_   -- region 0
  refine From_box (by kernel_rfl : coreAt _ 0 = some (some 2, (Go.Op.box 24 (Go.Operand.tmp 0)), 0, none)) hF (by kernel_rfl) (by kernel_rfl) (k' := 1) rfl (v := (.agg #[nm, wk, pa, va, (.slice A bs.length c)])) (cs := [nm, wk, pa, va, (.slice A bs.length c)]) (by kernel_rfl) rfl hM ?_
  intro b1 w2 hb1 _ hM3 _ a4 ea hF5; clear ea hF a
  change Mem noS w w2 [.blk b1 24 [nm, wk, pa, va, (.slice A bs.length c)]] at hM3
  clear hM
  replace hF5 : Fr a4 29 [(1, (.int .i64 b)), (2, (.pointer (some ⟨b1, 0, none⟩)))] := hF5.keep (keep := [1, 2]) (by kernel_rfl)
  refine From_pure 1 2 [1, 2] hF5 (env' := [(1, (.int .i64 b)), (2, (.pointer (some ⟨b1, 0, none⟩)))]) (by kernel_rfl) rfl ?_
  intro a6 hF7; clear hF5 a4
  refine From_end (by kernel_rfl) ?_
  refine W_seq (by kernel_rfl) ?_
  refine W_seq (by kernel_rfl) ?_
  refine W_region (by kernel_rfl) ?_   -- region 1
  refine From_pure 1 1 [1, 2, 5] hF7 (env' := [(1, (.int .i64 b)), (2, (.pointer (some ⟨b1, 0, none⟩))), (5, (.pointer (some ⟨b1, 4, none⟩)))]) (by kernel_rfl) rfl ?_
  intro a8 hF9; clear hF7 a6
  refine From_load1 (by kernel_rfl : coreAt _ 1 = some (some 6, (Go.Op.load 22 (Go.Operand.tmp 5)), 22, none)) hF9 (by kernel_rfl) (by kernel_rfl) (k' := 2) rfl (ad := ⟨b1, 4, none⟩) (v := (.slice A bs.length c)) (by kernel_rfl) (by kernel_rfl) (blk_cell (hM3.get 0 rfl) rfl) ?_
  intro a10 ea hF11; clear ea hF9 a8
  replace hF11 : Fr a10 29 [(1, (.int .i64 b)), (2, (.pointer (some ⟨b1, 0, none⟩))), (6, (.slice A bs.length c))] := hF11.keep (keep := [1, 2, 6]) (by kernel_rfl)
  refine From_pure 1 3 [1, 2, 7] hF11 (env' := [(1, (.int .i64 b)), (2, (.pointer (some ⟨b1, 0, none⟩))), (7, (.int .i64 ((bs.length : Nat) : Int)))]) (by kernel_rfl) rfl ?_
  intro a12 hF13; clear hF11 a10
  refine From_cmp (by kernel_rfl : coreAt _ 3 = some (some 8, (Go.Op.binOp Go.BinOp.gtr 3 (Go.Operand.tmp 7) (Go.Operand.const (Go.Value.int Go.IntKind.i64 200)) 3), 4, none)) hF13 (by kernel_rfl) (by kernel_rfl) (k' := 4) rfl (kd := .i64) (i := ((bs.length : Nat) : Int)) (j := 200) (by kernel_rfl) (by kernel_rfl) rfl ?_
  intro Bbig hBbig a14 ea hF15; clear ea hF13 a12
  replace hF15 : Fr a14 29 [(1, (.int .i64 b)), (2, (.pointer (some ⟨b1, 0, none⟩))), (8, (.bool Bbig))] := hF15.keep (keep := [1, 2, 8]) (by kernel_rfl)
  refine From_end (by kernel_rfl) ?_
  cases Bbig
  · have cbig : ¬ (((bs.length : Nat) : Int) > 200) := by simpa using hBbig
    refine W_cond (t := 8) (B := false) (by kernel_rfl) hF15 (by kernel_rfl) (fun t => Bool.noConfusion t) (fun _ => ?_)
    refine W_skip (by kernel_rfl) ?_
    refine W_seq (by kernel_rfl) ?_
    have hm : bs.length ≤ 1000000 := by omega
    obtain ⟨Bsm, hBsm⟩ : ∃ B : Bool, B = decide (tg bs b = tg bs b) := ⟨_, rfl⟩
    obtain rfl : Bsm = true := by rw [hBsm]; exact by simp
    obtain ⟨Bsn, hBsn⟩ : ∃ B : Bool, B = decide (srcs bs b = srcs bs b) := ⟨_, rfl⟩
    obtain rfl : Bsn = true := by rw [hBsn]; exact by simp
    obtain ⟨B24, hB24⟩ : ∃ B : Bool, B = true := ⟨_, rfl⟩
    refine W_draw (N := 29) (env0 := [(1, (.int .i64 b)), (2, (.pointer (some ⟨b1, 0, none⟩))), (8, (.bool false))]) (by kernel_rfl) (by kernel_rfl) (specAt [.det (.agg #[nm, wk, pa, va, (.slice A bs.length c)]), .det (.int .i64 b), .sl (tg bs b).length (ints (tg bs b)), .det (.agg #[nm, wk, pa, va, (.slice A bs.length c)]), .det (.int .i64 b), .sl (tg bs b).length (ints (tg bs b)), .det (.bool true), .det (.bool true), .det (.agg #[nm, wk, pa, va, (.slice A bs.length c)]), .det (.int .i64 b), .sl (srcs bs b).length (ints (srcs bs b)), .det (.agg #[nm, wk, pa, va, (.slice A bs.length c)]), .det (.int .i64 b), .sl (srcs bs b).length (ints (srcs bs b)), .det (.bool true), .det (.bool true), .det (.bool true), .det (.bool B24), .det (.bool B24), .det (.bool B24)]) (by kernel_rfl) (by kernel_rfl) hF15 (by kernel_rfl) (by kernel_rfl) ((lt_succ_all (lt_succ_all (lt_succ_all (lt_succ_all (lt_succ_all (lt_succ_all (lt_succ_all (lt_succ_all (lt_succ_all (lt_succ_all (lt_succ_all (lt_succ_all (lt_succ_all (lt_succ_all (lt_succ_all (lt_succ_all (lt_succ_all (lt_succ_all (lt_succ_all (lt_succ_all lt_zero_all ?_) ?_) ?_) ?_) ?_) ?_) ?_) ?_) ?_) ?_) ?_) ?_) ?_) ?_) ?_) ?_) ?_) ?_) ?_) ?_)) ?_   -- region 3
    · intro aa_ w_ vs rest_ hK hp hF
      refine ⟨true, opok_guard (g0 := none) (by kernel_rfl) (by kernel_rfl), fun _ => ?_, fun h => Bool.noConfusion h⟩
      replace hF : Fr aa_ 29 [(2, (.pointer (some ⟨b1, 0, none⟩)))] := hF.keep (keep := [2]) (by kernel_rfl)
      refine From_loadS (by kernel_rfl : coreAt _ 0 = some (some 10, (Go.Op.load 24 (Go.Operand.tmp 2)), 24, none)) hF (by kernel_rfl) (by kernel_rfl) (k' := 1) rfl (ad := ⟨b1, 0, none⟩) (vs := [nm, wk, pa, va, (.slice A bs.length c)]) (by kernel_rfl) (by kernel_rfl) (blk_cells ((hM3.then_ hK).get 0 rfl)) ?_
      intro a2 ea _
      refine From_end (by kernel_rfl) ?_; exact op_done (d := some 10) (by kernel_rfl) ea (Kp.refl _) rfl
    · intro aa_ w_ vs rest_ hK hp hF
      refine ⟨true, opok_guard (g0 := none) (by kernel_rfl) (by kernel_rfl), fun _ => ?_, fun h => Bool.noConfusion h⟩
      replace hF : Fr aa_ 29 [(1, (.int .i64 b))] := hF.keep (keep := [1]) (by kernel_rfl)
      refine From_pure1 (by kernel_rfl : coreAt _ 0 = some (some 11, (Go.Op.move (Go.Operand.tmp 1)), 3, none)) hF (by kernel_rfl) (by kernel_rfl) (k' := 1) rfl (v := (.int .i64 b)) (by kernel_rfl) ?_
      intro a2 ea _
      refine From_end (by kernel_rfl) ?_; exact op_done (d := some 11) (by kernel_rfl) ea (Kp.refl _) rfl
    · intro aa_ w_ vs rest_ hK hp hF
      refine ⟨true, opok_guard (g0 := none) (by kernel_rfl) (by kernel_rfl), fun _ => ?_, fun h => Bool.noConfusion h⟩
      replace hF : Fr aa_ 29 [(10, (.agg #[nm, wk, pa, va, (.slice A bs.length c)])), (11, (.int .i64 b))] := hF.keep (keep := [10, 11]) (by kernel_rfl)
      refine From_call (by kernel_rfl : coreAt _ 0 = some (some 12, (Go.Op.call { callee := (Go.Callee.value (Go.Operand.func 19)), args := #[(Go.Operand.tmp 10), (Go.Operand.tmp 11)], argTypes := #[24, 3] }), 27, none)) hF (by kernel_rfl) (by kernel_rfl) (k' := 1) rfl (f := 19) (vs := [(.agg #[nm, wk, pa, va, (.slice A bs.length c)]), (.int .i64 b)]) (cap := []) (by kernel_rfl) (by kernel_rfl) (by kernel_rfl) (targets_c _ _ _ _ A c bs b w_ hm (hA.at_ (hM3.then_ hK))) ?_
      rintro _ w2 ⟨A16, c17, rfl, hm_⟩ a2 ea _
      refine From_end (by kernel_rfl) ?_; exact op_done (d := some 12) (by kernel_rfl) ea hm_.kp ⟨_, _, rfl, row_rd (hm_.get 0 rfl)⟩
    · intro aa_ w_ vs rest_ hK hp hF
      refine ⟨true, opok_guard (g0 := none) (by kernel_rfl) (by kernel_rfl), fun _ => ?_, fun h => Bool.noConfusion h⟩
      replace hF : Fr aa_ 29 [(2, (.pointer (some ⟨b1, 0, none⟩)))] := hF.keep (keep := [2]) (by kernel_rfl)
      refine From_loadS (by kernel_rfl : coreAt _ 0 = some (some 13, (Go.Op.load 24 (Go.Operand.tmp 2)), 24, none)) hF (by kernel_rfl) (by kernel_rfl) (k' := 1) rfl (ad := ⟨b1, 0, none⟩) (vs := [nm, wk, pa, va, (.slice A bs.length c)]) (by kernel_rfl) (by kernel_rfl) (blk_cells ((hM3.then_ hK).get 0 rfl)) ?_
      intro a2 ea _
      refine From_end (by kernel_rfl) ?_; exact op_done (d := some 13) (by kernel_rfl) ea (Kp.refl _) rfl
    · intro aa_ w_ vs rest_ hK hp hF
      refine ⟨true, opok_guard (g0 := none) (by kernel_rfl) (by kernel_rfl), fun _ => ?_, fun h => Bool.noConfusion h⟩
      replace hF : Fr aa_ 29 [(1, (.int .i64 b))] := hF.keep (keep := [1]) (by kernel_rfl)
      refine From_pure1 (by kernel_rfl : coreAt _ 0 = some (some 14, (Go.Op.move (Go.Operand.tmp 1)), 3, none)) hF (by kernel_rfl) (by kernel_rfl) (k' := 1) rfl (v := (.int .i64 b)) (by kernel_rfl) ?_
      intro a2 ea _
      refine From_end (by kernel_rfl) ?_; exact op_done (d := some 14) (by kernel_rfl) ea (Kp.refl _) rfl
    · intro aa_ w_ vs rest_ hK hp hF
      refine ⟨true, opok_guard (g0 := none) (by kernel_rfl) (by kernel_rfl), fun _ => ?_, fun h => Bool.noConfusion h⟩
      replace hF : Fr aa_ 29 [(13, (.agg #[nm, wk, pa, va, (.slice A bs.length c)])), (14, (.int .i64 b))] := hF.keep (keep := [13, 14]) (by kernel_rfl)
      refine From_call (by kernel_rfl : coreAt _ 0 = some (some 15, (Go.Op.call { callee := (Go.Callee.value (Go.Operand.func 20)), args := #[(Go.Operand.tmp 13), (Go.Operand.tmp 14)], argTypes := #[24, 3] }), 27, none)) hF (by kernel_rfl) (by kernel_rfl) (k' := 1) rfl (f := 20) (vs := [(.agg #[nm, wk, pa, va, (.slice A bs.length c)]), (.int .i64 b)]) (cap := []) (by kernel_rfl) (by kernel_rfl) (by kernel_rfl) (rtargets_c _ _ _ _ A c bs b w_ hm (hA.at_ (hM3.then_ hK))) ?_
      rintro _ w2 ⟨A18, c19, rfl, hm_⟩ a2 ea _
      refine From_end (by kernel_rfl) ?_; exact op_done (d := some 15) (by kernel_rfl) ea hm_.kp ⟨_, _, rfl, row_rd (hm_.get 0 rfl)⟩
    · intro aa_ w_ vs rest_ hK hp hF
      refine ⟨true, opok_guard (g0 := none) (by kernel_rfl) (by kernel_rfl), fun _ => ?_, fun h => Bool.noConfusion h⟩
      replace hF : Fr aa_ 29 [(12, vs 2), (15, vs 5)] := hF.keep (keep := [12, 15]) (by kernel_rfl)
      obtain ⟨A16, c17, e2, r2⟩ := hp 2 (mem_preds (by kernel_rfl))
      rw [e2] at hF
      obtain ⟨A18, c19, e5, r5⟩ := hp 5 (mem_preds (by kernel_rfl))
      rw [e5] at hF
      refine From_call (by kernel_rfl : coreAt _ 0 = some (some 16, (Go.Op.call { callee := (Go.Callee.value (Go.Operand.func 10)), args := #[(Go.Operand.tmp 12), (Go.Operand.tmp 15)], argTypes := #[27, 27] }), 4, none)) hF (by kernel_rfl) (by kernel_rfl) (k' := 1) rfl (f := 10) (vs := [(.slice A16 ((tg bs b).length) c17), (.slice A18 ((tg bs b).length) c19)]) (cap := []) (by kernel_rfl) (by kernel_rfl) (by kernel_rfl) (same_c (tg bs b) (tg bs b) A16 A18 c17 c19 w_ (Nat.le_trans (tg_len bs b) (by decide)) (RO.of r2) (RO.of r5)) ?_
      rintro _ w2 ⟨rfl, hm_⟩ a2 ea _
      refine From_end (by kernel_rfl) ?_; exact op_done (d := some 16) (by kernel_rfl) ea hm_.kp (congrArg Value.bool hBsm.symm)
    · intro aa_ w_ vs rest_ hK hp hF
      refine ⟨true, opok_guard (g0 := none) (by kernel_rfl) (by kernel_rfl), fun _ => ?_, fun h => Bool.noConfusion h⟩
      replace hF : Fr aa_ 29 [(16, (.bool true))] := hF.keep (keep := [16]) (by kernel_rfl)
      refine From_pure1 (by kernel_rfl : coreAt _ 0 = some (some 17, (Go.Op.move (Go.Operand.tmp 16)), 4, none)) hF (by kernel_rfl) (by kernel_rfl) (k' := 1) rfl (v := (.bool true)) (by kernel_rfl) ?_
      intro a2 ea _
      refine From_end (by kernel_rfl) ?_; exact op_done (d := some 17) (by kernel_rfl) ea (Kp.refl _) rfl
    · intro aa_ w_ vs rest_ hK hp hF
      refine ⟨true, opok_guard (g0 := some (7, true)) (by kernel_rfl) (by kernel_rfl), fun _ => ?_, fun h => Bool.noConfusion h⟩
      replace hF : Fr aa_ 29 [(2, (.pointer (some ⟨b1, 0, none⟩))), (17, (.bool true))] := hF.keep (keep := [2, 17]) (by kernel_rfl)
      refine From_loadS (by kernel_rfl : coreAt _ 0 = some (some 18, (Go.Op.load 24 (Go.Operand.tmp 2)), 24, none)) hF (by kernel_rfl) (by kernel_rfl) (k' := 1) rfl (ad := ⟨b1, 0, none⟩) (vs := [nm, wk, pa, va, (.slice A bs.length c)]) (by kernel_rfl) (by kernel_rfl) (blk_cells ((hM3.then_ hK).get 0 rfl)) ?_
      intro a2 ea _
      refine From_end (by kernel_rfl) ?_; exact op_done (d := some 18) (by kernel_rfl) ea (Kp.refl _) rfl
    · intro aa_ w_ vs rest_ hK hp hF
      refine ⟨true, opok_guard (g0 := some (7, true)) (by kernel_rfl) (by kernel_rfl), fun _ => ?_, fun h => Bool.noConfusion h⟩
      replace hF : Fr aa_ 29 [(1, (.int .i64 b)), (17, (.bool true))] := hF.keep (keep := [1, 17]) (by kernel_rfl)
      refine From_pure1 (by kernel_rfl : coreAt _ 0 = some (some 19, (Go.Op.move (Go.Operand.tmp 1)), 3, none)) hF (by kernel_rfl) (by kernel_rfl) (k' := 1) rfl (v := (.int .i64 b)) (by kernel_rfl) ?_
      intro a2 ea _
      refine From_end (by kernel_rfl) ?_; exact op_done (d := some 19) (by kernel_rfl) ea (Kp.refl _) rfl
    · intro aa_ w_ vs rest_ hK hp hF
      refine ⟨true, opok_guard (g0 := some (7, true)) (by kernel_rfl) (by kernel_rfl), fun _ => ?_, fun h => Bool.noConfusion h⟩
      replace hF : Fr aa_ 29 [(17, (.bool true)), (18, (.agg #[nm, wk, pa, va, (.slice A bs.length c)])), (19, (.int .i64 b))] := hF.keep (keep := [17, 18, 19]) (by kernel_rfl)
      refine From_call (by kernel_rfl : coreAt _ 0 = some (some 20, (Go.Op.call { callee := (Go.Callee.value (Go.Operand.func 21)), args := #[(Go.Operand.tmp 18), (Go.Operand.tmp 19)], argTypes := #[24, 3] }), 27, none)) hF (by kernel_rfl) (by kernel_rfl) (k' := 1) rfl (f := 21) (vs := [(.agg #[nm, wk, pa, va, (.slice A bs.length c)]), (.int .i64 b)]) (cap := []) (by kernel_rfl) (by kernel_rfl) (by kernel_rfl) (sources_c _ _ _ _ A c bs b w_ hm (hA.at_ (hM3.then_ hK))) ?_
      rintro _ w2 ⟨A20, c21, rfl, hm_⟩ a2 ea _
      refine From_end (by kernel_rfl) ?_; exact op_done (d := some 20) (by kernel_rfl) ea hm_.kp ⟨_, _, rfl, row_rd (hm_.get 0 rfl)⟩
    · intro aa_ w_ vs rest_ hK hp hF
      refine ⟨true, opok_guard (g0 := some (7, true)) (by kernel_rfl) (by kernel_rfl), fun _ => ?_, fun h => Bool.noConfusion h⟩
      replace hF : Fr aa_ 29 [(2, (.pointer (some ⟨b1, 0, none⟩))), (17, (.bool true))] := hF.keep (keep := [2, 17]) (by kernel_rfl)
      refine From_loadS (by kernel_rfl : coreAt _ 0 = some (some 21, (Go.Op.load 24 (Go.Operand.tmp 2)), 24, none)) hF (by kernel_rfl) (by kernel_rfl) (k' := 1) rfl (ad := ⟨b1, 0, none⟩) (vs := [nm, wk, pa, va, (.slice A bs.length c)]) (by kernel_rfl) (by kernel_rfl) (blk_cells ((hM3.then_ hK).get 0 rfl)) ?_
      intro a2 ea _
      refine From_end (by kernel_rfl) ?_; exact op_done (d := some 21) (by kernel_rfl) ea (Kp.refl _) rfl
    · intro aa_ w_ vs rest_ hK hp hF
      refine ⟨true, opok_guard (g0 := some (7, true)) (by kernel_rfl) (by kernel_rfl), fun _ => ?_, fun h => Bool.noConfusion h⟩
      replace hF : Fr aa_ 29 [(1, (.int .i64 b)), (17, (.bool true))] := hF.keep (keep := [1, 17]) (by kernel_rfl)
      refine From_pure1 (by kernel_rfl : coreAt _ 0 = some (some 22, (Go.Op.move (Go.Operand.tmp 1)), 3, none)) hF (by kernel_rfl) (by kernel_rfl) (k' := 1) rfl (v := (.int .i64 b)) (by kernel_rfl) ?_
      intro a2 ea _
      refine From_end (by kernel_rfl) ?_; exact op_done (d := some 22) (by kernel_rfl) ea (Kp.refl _) rfl
    · intro aa_ w_ vs rest_ hK hp hF
      refine ⟨true, opok_guard (g0 := some (7, true)) (by kernel_rfl) (by kernel_rfl), fun _ => ?_, fun h => Bool.noConfusion h⟩
      replace hF : Fr aa_ 29 [(17, (.bool true)), (21, (.agg #[nm, wk, pa, va, (.slice A bs.length c)])), (22, (.int .i64 b))] := hF.keep (keep := [17, 21, 22]) (by kernel_rfl)
      refine From_call (by kernel_rfl : coreAt _ 0 = some (some 23, (Go.Op.call { callee := (Go.Callee.value (Go.Operand.func 22)), args := #[(Go.Operand.tmp 21), (Go.Operand.tmp 22)], argTypes := #[24, 3] }), 27, none)) hF (by kernel_rfl) (by kernel_rfl) (k' := 1) rfl (f := 22) (vs := [(.agg #[nm, wk, pa, va, (.slice A bs.length c)]), (.int .i64 b)]) (cap := []) (by kernel_rfl) (by kernel_rfl) (by kernel_rfl) (rsources_c _ _ _ _ A c bs b w_ hm (hA.at_ (hM3.then_ hK))) ?_
      rintro _ w2 ⟨A22, c23, rfl, hm_⟩ a2 ea _
      refine From_end (by kernel_rfl) ?_; exact op_done (d := some 23) (by kernel_rfl) ea hm_.kp ⟨_, _, rfl, row_rd (hm_.get 0 rfl)⟩
    · intro aa_ w_ vs rest_ hK hp hF
      refine ⟨true, opok_guard (g0 := some (7, true)) (by kernel_rfl) (by kernel_rfl), fun _ => ?_, fun h => Bool.noConfusion h⟩
      replace hF : Fr aa_ 29 [(17, (.bool true)), (20, vs 10), (23, vs 13)] := hF.keep (keep := [17, 20, 23]) (by kernel_rfl)
      obtain ⟨A20, c21, e10, r10⟩ := hp 10 (mem_preds (by kernel_rfl))
      rw [e10] at hF
      obtain ⟨A22, c23, e13, r13⟩ := hp 13 (mem_preds (by kernel_rfl))
      rw [e13] at hF
      refine From_call (by kernel_rfl : coreAt _ 0 = some (some 24, (Go.Op.call { callee := (Go.Callee.value (Go.Operand.func 10)), args := #[(Go.Operand.tmp 20), (Go.Operand.tmp 23)], argTypes := #[27, 27] }), 4, none)) hF (by kernel_rfl) (by kernel_rfl) (k' := 1) rfl (f := 10) (vs := [(.slice A20 ((srcs bs b).length) c21), (.slice A22 ((srcs bs b).length) c23)]) (cap := []) (by kernel_rfl) (by kernel_rfl) (by kernel_rfl) (same_c (srcs bs b) (srcs bs b) A20 A22 c21 c23 w_ (Nat.le_trans (srcsTo_len bs b _) hm) (RO.of r10) (RO.of r13)) ?_
      rintro _ w2 ⟨rfl, hm_⟩ a2 ea _
      refine From_end (by kernel_rfl) ?_; exact op_done (d := some 24) (by kernel_rfl) ea hm_.kp (congrArg Value.bool hBsn.symm)
    · intro aa_ w_ vs rest_ hK hp hF
      refine ⟨true, opok_guard (g0 := none) (by kernel_rfl) (by kernel_rfl), fun _ => ?_, fun h => Bool.noConfusion h⟩
      replace hF : Fr aa_ 29 [(17, (.bool true)), (24, (.bool true))] := hF.keep (keep := [17, 24]) (by kernel_rfl)
      refine From_pure1 (by kernel_rfl : coreAt _ 0 = some (some 25, (Go.Op.pick (Go.Operand.tmp 17) (Go.Operand.tmp 24) (Go.Operand.const (Go.Value.bool false))), 4, none)) hF (by kernel_rfl) (by kernel_rfl) (k' := 1) rfl (v := (.bool true)) (by kernel_rfl) ?_
      intro a2 ea _
      refine From_end (by kernel_rfl) ?_; exact op_done (d := some 25) (by kernel_rfl) ea (Kp.refl _) rfl
    · intro aa_ w_ vs rest_ hK hp hF
      refine ⟨true, opok_guard (g0 := none) (by kernel_rfl) (by kernel_rfl), fun _ => ?_, fun h => Bool.noConfusion h⟩
      replace hF : Fr aa_ 29 [(25, (.bool true))] := hF.keep (keep := [25]) (by kernel_rfl)
      refine From_pure1 (by kernel_rfl : coreAt _ 0 = some (some 26, (Go.Op.move (Go.Operand.tmp 25)), 4, none)) hF (by kernel_rfl) (by kernel_rfl) (k' := 1) rfl (v := (.bool true)) (by kernel_rfl) ?_
      intro a2 ea _
      refine From_end (by kernel_rfl) ?_; exact op_done (d := some 26) (by kernel_rfl) ea (Kp.refl _) rfl
    · intro aa_ w_ vs rest_ hK hp hF
      refine ⟨true, opok_guard (g0 := some (16, true)) (by kernel_rfl) (by kernel_rfl), fun _ => ?_, fun h => Bool.noConfusion h⟩
      replace hF : Fr aa_ 29 [(26, (.bool true))] := hF.keep (keep := [26]) (by kernel_rfl)
      refine From_call (by kernel_rfl : coreAt _ 0 = some (some 27, (Go.Op.call { callee := (Go.Callee.value (Go.Operand.func 9)), args := #[], argTypes := #[] }), 4, none)) hF (by kernel_rfl) (by kernel_rfl) (k' := 1) rfl (f := 9) (vs := []) (cap := []) (by kernel_rfl) (by kernel_rfl) (by kernel_rfl) (awake_c w_) ?_
      rintro _ w2 ⟨rfl, hm_⟩ a2 ea _
      refine From_end (by kernel_rfl) ?_; exact op_done (d := some 27) (by kernel_rfl) ea hm_.kp (congrArg Value.bool hB24.symm)
    · intro aa_ w_ vs rest_ hK hp hF
      refine ⟨true, opok_guard (g0 := none) (by kernel_rfl) (by kernel_rfl), fun _ => ?_, fun h => Bool.noConfusion h⟩
      replace hF : Fr aa_ 29 [(26, (.bool true)), (27, (.bool B24))] := hF.keep (keep := [26, 27]) (by kernel_rfl)
      refine From_pure1 (by kernel_rfl : coreAt _ 0 = some (some 28, (Go.Op.pick (Go.Operand.tmp 26) (Go.Operand.tmp 27) (Go.Operand.const (Go.Value.bool false))), 4, none)) hF (by kernel_rfl) (by kernel_rfl) (k' := 1) rfl (v := (.bool B24)) (by kernel_rfl) ?_
      intro a2 ea _
      refine From_end (by kernel_rfl) ?_; exact op_done (d := some 28) (by kernel_rfl) ea (Kp.refl _) rfl
    · intro aa_ w_ vs rest_ hK hp hF
      refine ⟨true, opok_guard (g0 := none) (by kernel_rfl) (by kernel_rfl), fun _ => ?_, fun h => Bool.noConfusion h⟩
      replace hF : Fr aa_ 29 [(28, (.bool B24))] := hF.keep (keep := [28]) (by kernel_rfl)
      refine From_pure1 (by kernel_rfl : coreAt _ 0 = some (some 4, (Go.Op.assign (Go.Operand.tmp 28)), 4, none)) hF (by kernel_rfl) (by kernel_rfl) (k' := 1) rfl (v := (.bool B24)) (by kernel_rfl) ?_
      intro a2 ea _
      refine From_end (by kernel_rfl) ?_; exact op_done (d := some 4) (by kernel_rfl) ea (Kp.refl _) rfl
    intro a25 w27 vs hK hv hF26
    replace hF26 : Fr a25 29 [(4, (.bool B24))] := hF26.keep (keep := [4]) (by kernel_rfl)
    have hM28 := hM3.then_ hK
    clear hK hv hF15 a14 hM3; clear vs
    refine W_ret (by kernel_rfl) ?_
    refine out1 (v := (.bool B24)) hF26 rfl (by kernel_rfl) ?_
    refine ⟨_, rfl, ?_⟩
    replace hM28 : Mem noS w w27 [] := hM28.pick [false] rfl
    exact ⟨by rw [hB24], hM28⟩
  · have cbig : ((bs.length : Nat) : Int) > 200 := by simpa using hBbig
    refine W_cond (t := 8) (B := true) (by kernel_rfl) hF15 (by kernel_rfl) (fun _ => ?_) (fun t => Bool.noConfusion t)
    refine W_seq (by kernel_rfl) ?_
    refine W_region (by kernel_rfl) ?_   -- region 2
    refine From_call (by kernel_rfl : coreAt _ 0 = some (some 9, (Go.Op.call { callee := (Go.Callee.value (Go.Operand.func 9)), args := #[], argTypes := #[] }), 4, none)) hF15 (by kernel_rfl) (by kernel_rfl) (k' := 1) rfl (f := 9) (vs := []) (cap := []) (by kernel_rfl) (by kernel_rfl) (by kernel_rfl) (awake_c w2) ?_
    rintro _ w29 ⟨rfl, hM30x⟩ a31 ea hF32; clear ea hF15 a14
    have hM30 : Mem noS w w29 [.blk b1 24 [nm, wk, pa, va, (.slice A bs.length c)]] := hM3.call hM30x
    clear hM30x hM3
    replace hF32 : Fr a31 29 (putE [(1, (.int .i64 b)), (2, (.pointer (some ⟨b1, 0, none⟩))), (8, (.bool true))] (some 9) (.bool true)) := hF32
    obtain ⟨B33, hB33⟩ : ∃ B, B = true := ⟨_, rfl⟩
    rw [← hB33] at hF32
    replace hF32 : Fr a31 29 [(9, (.bool B33))] := hF32.keep (keep := [9]) (by kernel_rfl)
    refine From_pure 1 2 [4] hF32 (env' := [(4, (.bool B33))]) (by kernel_rfl) rfl ?_
    intro a34 hF35; clear hF32 a31
    refine From_end (by kernel_rfl) ?_
    refine W_ret (by kernel_rfl) ?_
    refine out1 (v := (.bool B33)) hF35 rfl (by kernel_rfl) ?_
    refine ⟨_, rfl, ?_⟩
    replace hM30 : Mem noS w w29 [] := hM30.pick [false] rfl
    exact ⟨by rw [hB33], hM30⟩

set_option maxRecDepth 10000 in
theorem domEdges_c (nm wk pa va : Value) (A : Option Addr) (c : Nat) (bs : List SB) (w : World) (hA : RO noS w (.blocks A bs)) :
    Calls Try.prog 5 #[(.agg #[nm, wk, pa, va, (.slice A bs.length c)])] w (Ret fun v w' => v = .bool true ∧ Mem noS w w' []) := by
  refine enter (N := 16) (vs := [(.agg #[nm, wk, pa, va, (.slice A bs.length c)])]) Try.func5 (by kernel_rfl) (by kernel_rfl) (by kernel_rfl) ?_
  intro a hF
  have hM := Mem.init w
  refine W_seq (by kernel_rfl) ?_
  refine W_region (by kernel_rfl) ?_   -- region 0
  refine From_box (by kernel_rfl : coreAt _ 0 = some (some 1, (Go.Op.box 24 (Go.Operand.tmp 0)), 0, none)) hF (by kernel_rfl) (by kernel_rfl) (k' := 1) rfl (v := (.agg #[nm, wk, pa, va, (.slice A bs.length c)])) (cs := [nm, wk, pa, va, (.slice A bs.length c)]) (by kernel_rfl) rfl hM ?_
  intro b1 w2 hb1 _ hM3 _ a4 ea hF5; clear ea hF a
  change Mem noS w w2 [.blk b1 24 [nm, wk, pa, va, (.slice A bs.length c)]] at hM3
  clear hM
  replace hF5 : Fr a4 16 [(1, (.pointer (some ⟨b1, 0, none⟩)))] := hF5.keep (keep := [1]) (by kernel_rfl)
  refine From_pure 1 2 [1] hF5 (env' := [(1, (.pointer (some ⟨b1, 0, none⟩)))]) (by kernel_rfl) rfl ?_
  intro a6 hF7; clear hF5 a4
  refine From_end (by kernel_rfl) ?_
  refine W_seq (by kernel_rfl) ?_
  refine W_seq (by kernel_rfl) ?_
  refine W_region (by kernel_rfl) ?_   -- region 1
  refine From_pure 1 1 [1, 3] hF7 (env' := [(1, (.pointer (some ⟨b1, 0, none⟩))), (3, (.pointer (some ⟨b1, 4, none⟩)))]) (by kernel_rfl) rfl ?_
  intro a8 hF9; clear hF7 a6
  refine From_load1 (by kernel_rfl : coreAt _ 1 = some (some 4, (Go.Op.load 22 (Go.Operand.tmp 3)), 22, none)) hF9 (by kernel_rfl) (by kernel_rfl) (k' := 2) rfl (ad := ⟨b1, 4, none⟩) (v := (.slice A bs.length c)) (by kernel_rfl) (by kernel_rfl) (blk_cell (hM3.get 0 rfl) rfl) ?_
  intro a10 ea hF11; clear ea hF9 a8
  replace hF11 : Fr a10 16 [(1, (.pointer (some ⟨b1, 0, none⟩))), (4, (.slice A bs.length c))] := hF11.keep (keep := [1, 4]) (by kernel_rfl)
  refine From_pure 1 3 [1, 5] hF11 (env' := [(1, (.pointer (some ⟨b1, 0, none⟩))), (5, (.int .i64 ((bs.length : Nat) : Int)))]) (by kernel_rfl) rfl ?_
  intro a12 hF13; clear hF11 a10
  refine From_cmp (by kernel_rfl : coreAt _ 3 = some (some 6, (Go.Op.binOp Go.BinOp.gtr 3 (Go.Operand.tmp 5) (Go.Operand.const (Go.Value.int Go.IntKind.i64 40)) 3), 4, none)) hF13 (by kernel_rfl) (by kernel_rfl) (k' := 4) rfl (kd := .i64) (i := ((bs.length : Nat) : Int)) (j := 40) (by kernel_rfl) (by kernel_rfl) rfl ?_
  intro Bbig hBbig a14 ea hF15; clear ea hF13 a12
  replace hF15 : Fr a14 16 [(1, (.pointer (some ⟨b1, 0, none⟩))), (6, (.bool Bbig))] := hF15.keep (keep := [1, 6]) (by kernel_rfl)
  refine From_end (by kernel_rfl) ?_
  cases Bbig
  · have cbig : ¬ (((bs.length : Nat) : Int) > 40) := by simpa using hBbig
    refine W_cond (t := 6) (B := false) (by kernel_rfl) hF15 (by kernel_rfl) (fun t => Bool.noConfusion t) (fun _ => ?_)
    refine W_skip (by kernel_rfl) ?_
    refine W_seq (by kernel_rfl) ?_
    have hm : bs.length ≤ 1000000 := by omega
    obtain ⟨Bsm, hBsm⟩ : ∃ B : Bool, B = decide (redgeL bs = redgeL bs) := ⟨_, rfl⟩
    obtain rfl : Bsm = true := by rw [hBsm]; exact by simp
    obtain ⟨B22, hB22⟩ : ∃ B : Bool, B = true := ⟨_, rfl⟩
    refine W_draw (N := 16) (env0 := [(1, (.pointer (some ⟨b1, 0, none⟩))), (6, (.bool false))]) (by kernel_rfl) (by kernel_rfl) (specAt [.det (.agg #[nm, wk, pa, va, (.slice A bs.length c)]), famSpec bs.length (redgeL bs), .det (.agg #[nm, wk, pa, va, (.slice A bs.length c)]), famSpec bs.length (redgeL bs), .det (.bool true), .det (.bool true), .det (.bool B22), .det (.bool B22), .det (.bool B22)]) (by kernel_rfl) (by kernel_rfl) hF15 (by kernel_rfl) (by kernel_rfl) ((lt_succ_all (lt_succ_all (lt_succ_all (lt_succ_all (lt_succ_all (lt_succ_all (lt_succ_all (lt_succ_all (lt_succ_all lt_zero_all ?_) ?_) ?_) ?_) ?_) ?_) ?_) ?_) ?_)) ?_   -- region 3
    · intro aa_ w_ vs rest_ hK hp hF
      refine ⟨true, opok_guard (g0 := none) (by kernel_rfl) (by kernel_rfl), fun _ => ?_, fun h => Bool.noConfusion h⟩
      replace hF : Fr aa_ 16 [(1, (.pointer (some ⟨b1, 0, none⟩)))] := hF.keep (keep := [1]) (by kernel_rfl)
      refine From_loadS (by kernel_rfl : coreAt _ 0 = some (some 8, (Go.Op.load 24 (Go.Operand.tmp 1)), 24, none)) hF (by kernel_rfl) (by kernel_rfl) (k' := 1) rfl (ad := ⟨b1, 0, none⟩) (vs := [nm, wk, pa, va, (.slice A bs.length c)]) (by kernel_rfl) (by kernel_rfl) (blk_cells ((hM3.then_ hK).get 0 rfl)) ?_
      intro a2 ea _
      refine From_end (by kernel_rfl) ?_; exact op_done (d := some 8) (by kernel_rfl) ea (Kp.refl _) rfl
    · intro aa_ w_ vs rest_ hK hp hF
      refine ⟨true, opok_guard (g0 := none) (by kernel_rfl) (by kernel_rfl), fun _ => ?_, fun h => Bool.noConfusion h⟩
      replace hF : Fr aa_ 16 [(8, (.agg #[nm, wk, pa, va, (.slice A bs.length c)]))] := hF.keep (keep := [8]) (by kernel_rfl)
      refine From_call (by kernel_rfl : coreAt _ 0 = some (some 9, (Go.Op.call { callee := (Go.Callee.value (Go.Operand.func 16)), args := #[(Go.Operand.tmp 8)], argTypes := #[24] }), 31, none)) hF (by kernel_rfl) (by kernel_rfl) (k' := 1) rfl (f := 16) (vs := [(.agg #[nm, wk, pa, va, (.slice A bs.length c)])]) (cap := []) (by kernel_rfl) (by kernel_rfl) (by kernel_rfl) (edge_c _ _ _ _ A c bs w_ hm (hA.at_ (hM3.then_ hK))) ?_
      rintro _ w2 ⟨A16, c17, rows18, rfl, hfrows18, hm_⟩ a2 ea _
      refine From_end (by kernel_rfl) ?_; exact op_done (d := some 9) (by kernel_rfl) ea hm_.kp ⟨_, _, _, rfl, hfrows18, row_rd (hm_.get 1 rfl), hm_.get 0 rfl⟩
    · intro aa_ w_ vs rest_ hK hp hF
      refine ⟨true, opok_guard (g0 := none) (by kernel_rfl) (by kernel_rfl), fun _ => ?_, fun h => Bool.noConfusion h⟩
      replace hF : Fr aa_ 16 [(1, (.pointer (some ⟨b1, 0, none⟩)))] := hF.keep (keep := [1]) (by kernel_rfl)
      refine From_loadS (by kernel_rfl : coreAt _ 0 = some (some 10, (Go.Op.load 24 (Go.Operand.tmp 1)), 24, none)) hF (by kernel_rfl) (by kernel_rfl) (k' := 1) rfl (ad := ⟨b1, 0, none⟩) (vs := [nm, wk, pa, va, (.slice A bs.length c)]) (by kernel_rfl) (by kernel_rfl) (blk_cells ((hM3.then_ hK).get 0 rfl)) ?_
      intro a2 ea _
      refine From_end (by kernel_rfl) ?_; exact op_done (d := some 10) (by kernel_rfl) ea (Kp.refl _) rfl
    · intro aa_ w_ vs rest_ hK hp hF
      refine ⟨true, opok_guard (g0 := none) (by kernel_rfl) (by kernel_rfl), fun _ => ?_, fun h => Bool.noConfusion h⟩
      replace hF : Fr aa_ 16 [(10, (.agg #[nm, wk, pa, va, (.slice A bs.length c)]))] := hF.keep (keep := [10]) (by kernel_rfl)
      refine From_call (by kernel_rfl : coreAt _ 0 = some (some 11, (Go.Op.call { callee := (Go.Callee.value (Go.Operand.func 17)), args := #[(Go.Operand.tmp 10)], argTypes := #[24] }), 31, none)) hF (by kernel_rfl) (by kernel_rfl) (k' := 1) rfl (f := 17) (vs := [(.agg #[nm, wk, pa, va, (.slice A bs.length c)])]) (cap := []) (by kernel_rfl) (by kernel_rfl) (by kernel_rfl) (redge_c _ _ _ _ A c bs w_ hm (hA.at_ (hM3.then_ hK))) ?_
      rintro _ w2 ⟨A19, c20, rows21, rfl, hfrows21, hm_⟩ a2 ea _
      refine From_end (by kernel_rfl) ?_; exact op_done (d := some 11) (by kernel_rfl) ea hm_.kp ⟨_, _, _, rfl, hfrows21, row_rd (hm_.get 1 rfl), hm_.get 0 rfl⟩
    · intro aa_ w_ vs rest_ hK hp hF
      refine ⟨true, opok_guard (g0 := none) (by kernel_rfl) (by kernel_rfl), fun _ => ?_, fun h => Bool.noConfusion h⟩
      replace hF : Fr aa_ 16 [(9, vs 1), (11, vs 3)] := hF.keep (keep := [9, 11]) (by kernel_rfl)
      obtain ⟨A16, c17, rows18, e1, hfrows18, r1, qr1⟩ := hp 1 (mem_preds (by kernel_rfl))
      rw [e1] at hF
      obtain ⟨A19, c20, rows21, e3, hfrows21, r3, qr3⟩ := hp 3 (mem_preds (by kernel_rfl))
      rw [e3] at hF
      refine From_call (by kernel_rfl : coreAt _ 0 = some (some 12, (Go.Op.call { callee := (Go.Callee.value (Go.Operand.func 15)), args := #[(Go.Operand.tmp 9), (Go.Operand.tmp 11)], argTypes := #[31, 31] }), 4, none)) hF (by kernel_rfl) (by kernel_rfl) (k' := 1) rfl (f := 15) (vs := [(.slice A16 bs.length c17), (.slice A19 bs.length c20)]) (cap := []) (by kernel_rfl) (by kernel_rfl) (by kernel_rfl) (lists_c (redgeL bs) (redgeL bs) rows18 rows21 A16 A19 bs.length bs.length c17 c20 w_ (by rw [redgeL_len]) (by rw [redgeL_len]) (by rw [redgeL_len]; omega) (redge_len hm) hfrows18 hfrows21 (RO.of r1) (RO.of r3) (RO.of qr1) (RO.of qr3)) ?_
      rintro _ w2 ⟨rfl, hm_⟩ a2 ea _
      refine From_end (by kernel_rfl) ?_; exact op_done (d := some 12) (by kernel_rfl) ea hm_.kp (congrArg Value.bool hBsm.symm)
    · intro aa_ w_ vs rest_ hK hp hF
      refine ⟨true, opok_guard (g0 := none) (by kernel_rfl) (by kernel_rfl), fun _ => ?_, fun h => Bool.noConfusion h⟩
      replace hF : Fr aa_ 16 [(12, (.bool true))] := hF.keep (keep := [12]) (by kernel_rfl)
      refine From_pure1 (by kernel_rfl : coreAt _ 0 = some (some 13, (Go.Op.move (Go.Operand.tmp 12)), 4, none)) hF (by kernel_rfl) (by kernel_rfl) (k' := 1) rfl (v := (.bool true)) (by kernel_rfl) ?_
      intro a2 ea _
      refine From_end (by kernel_rfl) ?_; exact op_done (d := some 13) (by kernel_rfl) ea (Kp.refl _) rfl
    · intro aa_ w_ vs rest_ hK hp hF
      refine ⟨true, opok_guard (g0 := some (5, true)) (by kernel_rfl) (by kernel_rfl), fun _ => ?_, fun h => Bool.noConfusion h⟩
      replace hF : Fr aa_ 16 [(13, (.bool true))] := hF.keep (keep := [13]) (by kernel_rfl)
      refine From_call (by kernel_rfl : coreAt _ 0 = some (some 14, (Go.Op.call { callee := (Go.Callee.value (Go.Operand.func 9)), args := #[], argTypes := #[] }), 4, none)) hF (by kernel_rfl) (by kernel_rfl) (k' := 1) rfl (f := 9) (vs := []) (cap := []) (by kernel_rfl) (by kernel_rfl) (by kernel_rfl) (awake_c w_) ?_
      rintro _ w2 ⟨rfl, hm_⟩ a2 ea _
      refine From_end (by kernel_rfl) ?_; exact op_done (d := some 14) (by kernel_rfl) ea hm_.kp (congrArg Value.bool hB22.symm)
    · intro aa_ w_ vs rest_ hK hp hF
      refine ⟨true, opok_guard (g0 := none) (by kernel_rfl) (by kernel_rfl), fun _ => ?_, fun h => Bool.noConfusion h⟩
      replace hF : Fr aa_ 16 [(13, (.bool true)), (14, (.bool B22))] := hF.keep (keep := [13, 14]) (by kernel_rfl)
      refine From_pure1 (by kernel_rfl : coreAt _ 0 = some (some 15, (Go.Op.pick (Go.Operand.tmp 13) (Go.Operand.tmp 14) (Go.Operand.const (Go.Value.bool false))), 4, none)) hF (by kernel_rfl) (by kernel_rfl) (k' := 1) rfl (v := (.bool B22)) (by kernel_rfl) ?_
      intro a2 ea _
      refine From_end (by kernel_rfl) ?_; exact op_done (d := some 15) (by kernel_rfl) ea (Kp.refl _) rfl
    · intro aa_ w_ vs rest_ hK hp hF
      refine ⟨true, opok_guard (g0 := none) (by kernel_rfl) (by kernel_rfl), fun _ => ?_, fun h => Bool.noConfusion h⟩
      replace hF : Fr aa_ 16 [(15, (.bool B22))] := hF.keep (keep := [15]) (by kernel_rfl)
      refine From_pure1 (by kernel_rfl : coreAt _ 0 = some (some 2, (Go.Op.assign (Go.Operand.tmp 15)), 4, none)) hF (by kernel_rfl) (by kernel_rfl) (k' := 1) rfl (v := (.bool B22)) (by kernel_rfl) ?_
      intro a2 ea _
      refine From_end (by kernel_rfl) ?_; exact op_done (d := some 2) (by kernel_rfl) ea (Kp.refl _) rfl
    intro a23 w25 vs hK hv hF24
    replace hF24 : Fr a23 16 [(2, (.bool B22))] := hF24.keep (keep := [2]) (by kernel_rfl)
    have hM26 := hM3.then_ hK
    clear hK hv hF15 a14 hM3; clear vs
    refine W_ret (by kernel_rfl) ?_
    refine out1 (v := (.bool B22)) hF24 rfl (by kernel_rfl) ?_
    refine ⟨_, rfl, ?_⟩
    replace hM26 : Mem noS w w25 [] := hM26.pick [false] rfl
    exact ⟨by rw [hB22], hM26⟩
  · have cbig : ((bs.length : Nat) : Int) > 40 := by simpa using hBbig
    refine W_cond (t := 6) (B := true) (by kernel_rfl) hF15 (by kernel_rfl) (fun _ => ?_) (fun t => Bool.noConfusion t)
    refine W_seq (by kernel_rfl) ?_
    refine W_region (by kernel_rfl) ?_   -- region 2
    refine From_call (by kernel_rfl : coreAt _ 0 = some (some 7, (Go.Op.call { callee := (Go.Callee.value (Go.Operand.func 9)), args := #[], argTypes := #[] }), 4, none)) hF15 (by kernel_rfl) (by kernel_rfl) (k' := 1) rfl (f := 9) (vs := []) (cap := []) (by kernel_rfl) (by kernel_rfl) (by kernel_rfl) (awake_c w2) ?_
    rintro _ w27 ⟨rfl, hM28x⟩ a29 ea hF30; clear ea hF15 a14
    have hM28 : Mem noS w w27 [.blk b1 24 [nm, wk, pa, va, (.slice A bs.length c)]] := hM3.call hM28x
    clear hM28x hM3
    replace hF30 : Fr a29 16 (putE [(1, (.pointer (some ⟨b1, 0, none⟩))), (6, (.bool true))] (some 7) (.bool true)) := hF30
    obtain ⟨B31, hB31⟩ : ∃ B, B = true := ⟨_, rfl⟩
    rw [← hB31] at hF30
    replace hF30 : Fr a29 16 [(7, (.bool B31))] := hF30.keep (keep := [7]) (by kernel_rfl)
    refine From_pure 1 2 [2] hF30 (env' := [(2, (.bool B31))]) (by kernel_rfl) rfl ?_
    intro a32 hF33; clear hF30 a29
    refine From_end (by kernel_rfl) ?_
    refine W_ret (by kernel_rfl) ?_
    refine out1 (v := (.bool B31)) hF33 rfl (by kernel_rfl) ?_
    refine ⟨_, rfl, ?_⟩
    replace hM28 : Mem noS w w27 [] := hM28.pick [false] rfl
    exact ⟨by rw [hB31], hM28⟩

end Go.Proofs.Ytlkpkinmmjcbcaa
