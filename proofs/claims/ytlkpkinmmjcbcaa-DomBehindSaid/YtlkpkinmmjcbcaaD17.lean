/-
  Walks of layer 18. Printed by wip/gen/dom.py.
-/
import Derived.Test.YtlkpkinmmjcbcaaD16
namespace Go.Proofs.Ytlkpkinmmjcbcaa
open Go.Mor

set_option maxRecDepth 10000 in
theorem domOrders_c (nm wk pa va : Value) (A : Option Addr) (c : Nat) (bs : List SB) (w : World) (hA : RO noS w (.blocks A bs)) :
    Calls Try.prog 3 #[(.agg #[nm, wk, pa, va, (.slice A bs.length c)])] w (Ret fun v w' => v = .bool true ∧ Mem noS w w' []) := by
  refine enter (N := 16) (vs := [(.agg #[nm, wk, pa, va, (.slice A bs.length c)])]) Try.func3 (by kernel_rfl) (by kernel_rfl) (by kernel_rfl) ?_
  intro a hF
  have hM := Mem.init w
  refine W_seq (by kernel_rfl) ?_
  refine W_region (by kernel_rfl) ?_   -- region 0
  refine From_box (by kernel_rfl : coreAt _ 0 = some (some 1, (Go.Op.box 24 (Go.Operand.tmp 0)), 0, none)) hF (by kernel_rfl) (by kernel_rfl) (k' := 1) rfl (v := (.agg #[nm, wk, pa, va, (.slice A bs.length c)])) (cs := [nm, wk, pa, va, (.slice A bs.length c)]) (by kernel_rfl) rfl hM ?_
  intro b1 w2 hb1 _ hM3 _ a4 ea hF5; clear ea hF a
  change Mem noS w w2 [.blk b1 24 [nm, wk, pa, va, (.slice A bs.length c)]] at hM3
  clear hM
  replace hF5 : Fr a4 16 [(1, (.pointer (some ⟨b1, 0, none⟩)))] := hF5.keep (keep := [1]) (by kernel_rfl)
  refine From_pure 1 2 [1] hF5 (env' := [(1, (.pointer (some ⟨b1, 0, none⟩)))]) (by kernel_rfl) rfl ?_
  intro a6 hF7; clear hF5 a4
  refine From_end (by kernel_rfl) ?_
  refine W_seq (by kernel_rfl) ?_
  refine W_seq (by kernel_rfl) ?_
  refine W_region (by kernel_rfl) ?_   -- region 1
  refine From_pure 1 1 [1, 3] hF7 (env' := [(1, (.pointer (some ⟨b1, 0, none⟩))), (3, (.pointer (some ⟨b1, 4, none⟩)))]) (by kernel_rfl) rfl ?_
  intro a8 hF9; clear hF7 a6
  refine From_load1 (by kernel_rfl : coreAt _ 1 = some (some 4, (Go.Op.load 22 (Go.Operand.tmp 3)), 22, none)) hF9 (by kernel_rfl) (by kernel_rfl) (k' := 2) rfl (ad := ⟨b1, 4, none⟩) (v := (.slice A bs.length c)) (by kernel_rfl) (by kernel_rfl) (blk_cell (hM3.get 0 rfl) rfl) ?_
  intro a10 ea hF11; clear ea hF9 a8
  replace hF11 : Fr a10 16 [(1, (.pointer (some ⟨b1, 0, none⟩))), (4, (.slice A bs.length c))] := hF11.keep (keep := [1, 4]) (by kernel_rfl)
  refine From_pure 1 3 [1, 5] hF11 (env' := [(1, (.pointer (some ⟨b1, 0, none⟩))), (5, (.int .i64 ((bs.length : Nat) : Int)))]) (by kernel_rfl) rfl ?_
  intro a12 hF13; clear hF11 a10
  refine From_cmp (by kernel_rfl : coreAt _ 3 = some (some 6, (Go.Op.binOp Go.BinOp.gtr 3 (Go.Operand.tmp 5) (Go.Operand.const (Go.Value.int Go.IntKind.i64 200)) 3), 4, none)) hF13 (by kernel_rfl) (by kernel_rfl) (k' := 4) rfl (kd := .i64) (i := ((bs.length : Nat) : Int)) (j := 200) (by kernel_rfl) (by kernel_rfl) rfl ?_
  intro Bbig hBbig a14 ea hF15; clear ea hF13 a12
  replace hF15 : Fr a14 16 [(1, (.pointer (some ⟨b1, 0, none⟩))), (6, (.bool Bbig))] := hF15.keep (keep := [1, 6]) (by kernel_rfl)
  refine From_end (by kernel_rfl) ?_
  cases Bbig
  · have cbig : ¬ (((bs.length : Nat) : Int) > 200) := by simpa using hBbig
    refine W_cond (t := 6) (B := false) (by kernel_rfl) hF15 (by kernel_rfl) (fun t => Bool.noConfusion t) (fun _ => ?_)
    refine W_skip (by kernel_rfl) ?_
    refine W_seq (by kernel_rfl) ?_
    have hm : bs.length ≤ 1000000 := by omega
    obtain ⟨Bsm, hBsm⟩ : ∃ B : Bool, B = decide (orderL bs = orderL bs) := ⟨_, rfl⟩
    obtain rfl : Bsm = true := by rw [hBsm]; exact by simp
    obtain ⟨B20, hB20⟩ : ∃ B : Bool, B = true := ⟨_, rfl⟩
    refine W_draw (N := 16) (env0 := [(1, (.pointer (some ⟨b1, 0, none⟩))), (6, (.bool false))]) (by kernel_rfl) (by kernel_rfl) (specAt [.det (.agg #[nm, wk, pa, va, (.slice A bs.length c)]), .sl (orderL bs).length (ints (orderL bs)), .det (.agg #[nm, wk, pa, va, (.slice A bs.length c)]), .sl (orderL bs).length (ints (orderL bs)), .det (.bool true), .det (.bool true), .det (.bool B20), .det (.bool B20), .det (.bool B20)]) (by kernel_rfl) (by kernel_rfl) hF15 (by kernel_rfl) (by kernel_rfl) ((lt_succ_all (lt_succ_all (lt_succ_all (lt_succ_all (lt_succ_all (lt_succ_all (lt_succ_all (lt_succ_all (lt_succ_all lt_zero_all ?_) ?_) ?_) ?_) ?_) ?_) ?_) ?_) ?_)) ?_   -- region 3
    · intro aa_ w_ vs rest_ hK hp hF
      refine ⟨true, opok_guard (g0 := none) (by kernel_rfl) (by kernel_rfl), fun _ => ?_, fun h => Bool.noConfusion h⟩
      replace hF : Fr aa_ 16 [(1, (.pointer (some ⟨b1, 0, none⟩)))] := hF.keep (keep := [1]) (by kernel_rfl)
      refine From_loadS (by kernel_rfl : coreAt _ 0 = some (some 8, (Go.Op.load 24 (Go.Operand.tmp 1)), 24, none)) hF (by kernel_rfl) (by kernel_rfl) (k' := 1) rfl (ad := ⟨b1, 0, none⟩) (vs := [nm, wk, pa, va, (.slice A bs.length c)]) (by kernel_rfl) (by kernel_rfl) (blk_cells ((hM3.then_ hK).get 0 rfl)) ?_
      intro a2 ea _
      refine From_end (by kernel_rfl) ?_; exact op_done (d := some 8) (by kernel_rfl) ea (Kp.refl _) rfl
    · intro aa_ w_ vs rest_ hK hp hF
      refine ⟨true, opok_guard (g0 := none) (by kernel_rfl) (by kernel_rfl), fun _ => ?_, fun h => Bool.noConfusion h⟩
      replace hF : Fr aa_ 16 [(8, (.agg #[nm, wk, pa, va, (.slice A bs.length c)]))] := hF.keep (keep := [8]) (by kernel_rfl)
      refine From_call (by kernel_rfl : coreAt _ 0 = some (some 9, (Go.Op.call { callee := (Go.Callee.value (Go.Operand.func 11)), args := #[(Go.Operand.tmp 8)], argTypes := #[24] }), 27, none)) hF (by kernel_rfl) (by kernel_rfl) (k' := 1) rfl (f := 11) (vs := [(.agg #[nm, wk, pa, va, (.slice A bs.length c)])]) (cap := []) (by kernel_rfl) (by kernel_rfl) (by kernel_rfl) (order_c _ _ _ _ A c bs w_ hm (hA.at_ (hM3.then_ hK))) ?_
      rintro _ w2 ⟨A16, c17, rfl, hm_⟩ a2 ea _
      refine From_end (by kernel_rfl) ?_; exact op_done (d := some 9) (by kernel_rfl) ea hm_.kp ⟨_, _, rfl, row_rd (hm_.get 0 rfl)⟩
    · intro aa_ w_ vs rest_ hK hp hF
      refine ⟨true, opok_guard (g0 := none) (by kernel_rfl) (by kernel_rfl), fun _ => ?_, fun h => Bool.noConfusion h⟩
      replace hF : Fr aa_ 16 [(1, (.pointer (some ⟨b1, 0, none⟩)))] := hF.keep (keep := [1]) (by kernel_rfl)
      refine From_loadS (by kernel_rfl : coreAt _ 0 = some (some 10, (Go.Op.load 24 (Go.Operand.tmp 1)), 24, none)) hF (by kernel_rfl) (by kernel_rfl) (k' := 1) rfl (ad := ⟨b1, 0, none⟩) (vs := [nm, wk, pa, va, (.slice A bs.length c)]) (by kernel_rfl) (by kernel_rfl) (blk_cells ((hM3.then_ hK).get 0 rfl)) ?_
      intro a2 ea _
      refine From_end (by kernel_rfl) ?_; exact op_done (d := some 10) (by kernel_rfl) ea (Kp.refl _) rfl
    · intro aa_ w_ vs rest_ hK hp hF
      refine ⟨true, opok_guard (g0 := none) (by kernel_rfl) (by kernel_rfl), fun _ => ?_, fun h => Bool.noConfusion h⟩
      replace hF : Fr aa_ 16 [(10, (.agg #[nm, wk, pa, va, (.slice A bs.length c)]))] := hF.keep (keep := [10]) (by kernel_rfl)
      refine From_call (by kernel_rfl : coreAt _ 0 = some (some 11, (Go.Op.call { callee := (Go.Callee.value (Go.Operand.func 12)), args := #[(Go.Operand.tmp 10)], argTypes := #[24] }), 27, none)) hF (by kernel_rfl) (by kernel_rfl) (k' := 1) rfl (f := 12) (vs := [(.agg #[nm, wk, pa, va, (.slice A bs.length c)])]) (cap := []) (by kernel_rfl) (by kernel_rfl) (by kernel_rfl) (rorder_c _ _ _ _ A c bs w_ hm (hA.at_ (hM3.then_ hK))) ?_
      rintro _ w2 ⟨A18, c19, rfl, hm_⟩ a2 ea _
      refine From_end (by kernel_rfl) ?_; exact op_done (d := some 11) (by kernel_rfl) ea hm_.kp ⟨_, _, rfl, row_rd (hm_.get 0 rfl)⟩
    · intro aa_ w_ vs rest_ hK hp hF
      refine ⟨true, opok_guard (g0 := none) (by kernel_rfl) (by kernel_rfl), fun _ => ?_, fun h => Bool.noConfusion h⟩
      replace hF : Fr aa_ 16 [(9, vs 1), (11, vs 3)] := hF.keep (keep := [9, 11]) (by kernel_rfl)
      obtain ⟨A16, c17, e1, r1⟩ := hp 1 (mem_preds (by kernel_rfl))
      rw [e1] at hF
      obtain ⟨A18, c19, e3, r3⟩ := hp 3 (mem_preds (by kernel_rfl))
      rw [e3] at hF
      refine From_call (by kernel_rfl : coreAt _ 0 = some (some 12, (Go.Op.call { callee := (Go.Callee.value (Go.Operand.func 10)), args := #[(Go.Operand.tmp 9), (Go.Operand.tmp 11)], argTypes := #[27, 27] }), 4, none)) hF (by kernel_rfl) (by kernel_rfl) (k' := 1) rfl (f := 10) (vs := [(.slice A16 ((orderL bs).length) c17), (.slice A18 ((orderL bs).length) c19)]) (cap := []) (by kernel_rfl) (by kernel_rfl) (by kernel_rfl) (same_c (orderL bs) (orderL bs) A16 A18 c17 c19 w_ (Nat.le_trans (orderL_len bs) hm) (RO.of r1) (RO.of r3)) ?_
      rintro _ w2 ⟨rfl, hm_⟩ a2 ea _
      refine From_end (by kernel_rfl) ?_; exact op_done (d := some 12) (by kernel_rfl) ea hm_.kp (congrArg Value.bool hBsm.symm)
    · intro aa_ w_ vs rest_ hK hp hF
      refine ⟨true, opok_guard (g0 := none) (by kernel_rfl) (by kernel_rfl), fun _ => ?_, fun h => Bool.noConfusion h⟩
      replace hF : Fr aa_ 16 [(12, (.bool true))] := hF.keep (keep := [12]) (by kernel_rfl)
      refine From_pure1 (by kernel_rfl : coreAt _ 0 = some (some 13, (Go.Op.move (Go.Operand.tmp 12)), 4, none)) hF (by kernel_rfl) (by kernel_rfl) (k' := 1) rfl (v := (.bool true)) (by kernel_rfl) ?_
      intro a2 ea _
      refine From_end (by kernel_rfl) ?_; exact op_done (d := some 13) (by kernel_rfl) ea (Kp.refl _) rfl
    · intro aa_ w_ vs rest_ hK hp hF
      refine ⟨true, opok_guard (g0 := some (5, true)) (by kernel_rfl) (by kernel_rfl), fun _ => ?_, fun h => Bool.noConfusion h⟩
      replace hF : Fr aa_ 16 [(13, (.bool true))] := hF.keep (keep := [13]) (by kernel_rfl)
      refine From_call (by kernel_rfl : coreAt _ 0 = some (some 14, (Go.Op.call { callee := (Go.Callee.value (Go.Operand.func 9)), args := #[], argTypes := #[] }), 4, none)) hF (by kernel_rfl) (by kernel_rfl) (k' := 1) rfl (f := 9) (vs := []) (cap := []) (by kernel_rfl) (by kernel_rfl) (by kernel_rfl) (awake_c w_) ?_
      rintro _ w2 ⟨rfl, hm_⟩ a2 ea _
      refine From_end (by kernel_rfl) ?_; exact op_done (d := some 14) (by kernel_rfl) ea hm_.kp (congrArg Value.bool hB20.symm)
    · intro aa_ w_ vs rest_ hK hp hF
      refine ⟨true, opok_guard (g0 := none) (by kernel_rfl) (by kernel_rfl), fun _ => ?_, fun h => Bool.noConfusion h⟩
      replace hF : Fr aa_ 16 [(13, (.bool true)), (14, (.bool B20))] := hF.keep (keep := [13, 14]) (by kernel_rfl)
      refine From_pure1 (by kernel_rfl : coreAt _ 0 = some (some 15, (Go.Op.pick (Go.Operand.tmp 13) (Go.Operand.tmp 14) (Go.Operand.const (Go.Value.bool false))), 4, none)) hF (by kernel_rfl) (by kernel_rfl) (k' := 1) rfl (v := (.bool B20)) (by kernel_rfl) ?_
      intro a2 ea _
      refine From_end (by kernel_rfl) ?_; exact op_done (d := some 15) (by kernel_rfl) ea (Kp.refl _) rfl
    · intro aa_ w_ vs rest_ hK hp hF
      refine ⟨true, opok_guard (g0 := none) (by kernel_rfl) (by kernel_rfl), fun _ => ?_, fun h => Bool.noConfusion h⟩
      replace hF : Fr aa_ 16 [(15, (.bool B20))] := hF.keep (keep := [15]) (by kernel_rfl)
      refine From_pure1 (by kernel_rfl : coreAt _ 0 = some (some 2, (Go.Op.assign (Go.Operand.tmp 15)), 4, none)) hF (by kernel_rfl) (by kernel_rfl) (k' := 1) rfl (v := (.bool B20)) (by kernel_rfl) ?_
      intro a2 ea _
      refine From_end (by kernel_rfl) ?_; exact op_done (d := some 2) (by kernel_rfl) ea (Kp.refl _) rfl
    intro a21 w23 vs hK hv hF22
    replace hF22 : Fr a21 16 [(2, (.bool B20))] := hF22.keep (keep := [2]) (by kernel_rfl)
    have hM24 := hM3.then_ hK
    clear hK hv hF15 a14 hM3; clear vs
    refine W_ret (by kernel_rfl) ?_
    refine out1 (v := (.bool B20)) hF22 rfl (by kernel_rfl) ?_
    refine ⟨_, rfl, ?_⟩
    replace hM24 : Mem noS w w23 [] := hM24.pick [false] rfl
    exact ⟨by rw [hB20], hM24⟩
  · have cbig : ((bs.length : Nat) : Int) > 200 := by simpa using hBbig
    refine W_cond (t := 6) (B := true) (by kernel_rfl) hF15 (by kernel_rfl) (fun _ => ?_) (fun t => Bool.noConfusion t)
    refine W_seq (by kernel_rfl) ?_
    refine W_region (by kernel_rfl) ?_   -- region 2
    refine From_call (by kernel_rfl : coreAt _ 0 = some (some 7, (Go.Op.call { callee := (Go.Callee.value (Go.Operand.func 9)), args := #[], argTypes := #[] }), 4, none)) hF15 (by kernel_rfl) (by kernel_rfl) (k' := 1) rfl (f := 9) (vs := []) (cap := []) (by kernel_rfl) (by kernel_rfl) (by kernel_rfl) (awake_c w2) ?_
    rintro _ w25 ⟨rfl, hM26x⟩ a27 ea hF28; clear ea hF15 a14
    have hM26 : Mem noS w w25 [.blk b1 24 [nm, wk, pa, va, (.slice A bs.length c)]] := hM3.call hM26x
    clear hM26x hM3
    replace hF28 : Fr a27 16 (putE [(1, (.pointer (some ⟨b1, 0, none⟩))), (6, (.bool true))] (some 7) (.bool true)) := hF28
    obtain ⟨B29, hB29⟩ : ∃ B, B = true := ⟨_, rfl⟩
    rw [← hB29] at hF28
    replace hF28 : Fr a27 16 [(7, (.bool B29))] := hF28.keep (keep := [7]) (by kernel_rfl)
    refine From_pure 1 2 [2] hF28 (env' := [(2, (.bool B29))]) (by kernel_rfl) rfl ?_
    intro a30 hF31; clear hF28 a27
    refine From_end (by kernel_rfl) ?_
    refine W_ret (by kernel_rfl) ?_
    refine out1 (v := (.bool B29)) hF31 rfl (by kernel_rfl) ?_
    refine ⟨_, rfl, ?_⟩
    replace hM26 : Mem noS w w25 [] := hM26.pick [false] rfl
    exact ⟨by rw [hB29], hM26⟩

set_option maxRecDepth 10000 in
theorem domAboves_c (nm wk pa va : Value) (A : Option Addr) (c : Nat) (bs : List SB) (w : World) (hA : RO noS w (.blocks A bs)) :
    Calls Try.prog 4 #[(.agg #[nm, wk, pa, va, (.slice A bs.length c)])] w (Ret fun v w' => v = .bool true ∧ Mem noS w w' []) := by
  refine enter (N := 16) (vs := [(.agg #[nm, wk, pa, va, (.slice A bs.length c)])]) Try.func4 (by kernel_rfl) (by kernel_rfl) (by kernel_rfl) ?_
  intro a hF
  have hM := Mem.init w
  refine W_seq (by kernel_rfl) ?_
  refine W_region (by kernel_rfl) ?_   -- region 0
  refine From_box (by kernel_rfl : coreAt _ 0 = some (some 1, (Go.Op.box 24 (Go.Operand.tmp 0)), 0, none)) hF (by kernel_rfl) (by kernel_rfl) (k' := 1) rfl (v := (.agg #[nm, wk, pa, va, (.slice A bs.length c)])) (cs := [nm, wk, pa, va, (.slice A bs.length c)]) (by kernel_rfl) rfl hM ?_
  intro b1 w2 hb1 _ hM3 _ a4 ea hF5; clear ea hF a
  change Mem noS w w2 [.blk b1 24 [nm, wk, pa, va, (.slice A bs.length c)]] at hM3
  clear hM
  replace hF5 : Fr a4 16 [(1, (.pointer (some ⟨b1, 0, none⟩)))] := hF5.keep (keep := [1]) (by kernel_rfl)
  refine From_pure 1 2 [1] hF5 (env' := [(1, (.pointer (some ⟨b1, 0, none⟩)))]) (by kernel_rfl) rfl ?_
  intro a6 hF7; clear hF5 a4
  refine From_end (by kernel_rfl) ?_
  refine W_seq (by kernel_rfl) ?_
  refine W_seq (by kernel_rfl) ?_
  refine W_region (by kernel_rfl) ?_   -- region 1
  refine From_pure 1 1 [1, 3] hF7 (env' := [(1, (.pointer (some ⟨b1, 0, none⟩))), (3, (.pointer (some ⟨b1, 4, none⟩)))]) (by kernel_rfl) rfl ?_
  intro a8 hF9; clear hF7 a6
  refine From_load1 (by kernel_rfl : coreAt _ 1 = some (some 4, (Go.Op.load 22 (Go.Operand.tmp 3)), 22, none)) hF9 (by kernel_rfl) (by kernel_rfl) (k' := 2) rfl (ad := ⟨b1, 4, none⟩) (v := (.slice A bs.length c)) (by kernel_rfl) (by kernel_rfl) (blk_cell (hM3.get 0 rfl) rfl) ?_
  intro a10 ea hF11; clear ea hF9 a8
  replace hF11 : Fr a10 16 [(1, (.pointer (some ⟨b1, 0, none⟩))), (4, (.slice A bs.length c))] := hF11.keep (keep := [1, 4]) (by kernel_rfl)
  refine From_pure 1 3 [1, 5] hF11 (env' := [(1, (.pointer (some ⟨b1, 0, none⟩))), (5, (.int .i64 ((bs.length : Nat) : Int)))]) (by kernel_rfl) rfl ?_
  intro a12 hF13; clear hF11 a10
  refine From_cmp (by kernel_rfl : coreAt _ 3 = some (some 6, (Go.Op.binOp Go.BinOp.gtr 3 (Go.Operand.tmp 5) (Go.Operand.const (Go.Value.int Go.IntKind.i64 60)) 3), 4, none)) hF13 (by kernel_rfl) (by kernel_rfl) (k' := 4) rfl (kd := .i64) (i := ((bs.length : Nat) : Int)) (j := 60) (by kernel_rfl) (by kernel_rfl) rfl ?_
  intro Bbig hBbig a14 ea hF15; clear ea hF13 a12
  replace hF15 : Fr a14 16 [(1, (.pointer (some ⟨b1, 0, none⟩))), (6, (.bool Bbig))] := hF15.keep (keep := [1, 6]) (by kernel_rfl)
  refine From_end (by kernel_rfl) ?_
  cases Bbig
  · have cbig : ¬ (((bs.length : Nat) : Int) > 60) := by simpa using hBbig
    refine W_cond (t := 6) (B := false) (by kernel_rfl) hF15 (by kernel_rfl) (fun t => Bool.noConfusion t) (fun _ => ?_)
    refine W_skip (by kernel_rfl) ?_
    refine W_seq (by kernel_rfl) ?_
    have hm : bs.length ≤ 1000000 := by omega
    obtain ⟨Bsm, hBsm⟩ : ∃ B : Bool, B = decide (raboveL bs = raboveL bs) := ⟨_, rfl⟩
    obtain rfl : Bsm = true := by rw [hBsm]; exact by simp
    obtain ⟨B20, hB20⟩ : ∃ B : Bool, B = true := ⟨_, rfl⟩
    refine W_draw (N := 16) (env0 := [(1, (.pointer (some ⟨b1, 0, none⟩))), (6, (.bool false))]) (by kernel_rfl) (by kernel_rfl) (specAt [.det (.agg #[nm, wk, pa, va, (.slice A bs.length c)]), .sl (raboveL bs).length (ints (raboveL bs)), .det (.agg #[nm, wk, pa, va, (.slice A bs.length c)]), .sl (raboveL bs).length (ints (raboveL bs)), .det (.bool true), .det (.bool true), .det (.bool B20), .det (.bool B20), .det (.bool B20)]) (by kernel_rfl) (by kernel_rfl) hF15 (by kernel_rfl) (by kernel_rfl) ((lt_succ_all (lt_succ_all (lt_succ_all (lt_succ_all (lt_succ_all (lt_succ_all (lt_succ_all (lt_succ_all (lt_succ_all lt_zero_all ?_) ?_) ?_) ?_) ?_) ?_) ?_) ?_) ?_)) ?_   -- region 3
    · intro aa_ w_ vs rest_ hK hp hF
      refine ⟨true, opok_guard (g0 := none) (by kernel_rfl) (by kernel_rfl), fun _ => ?_, fun h => Bool.noConfusion h⟩
      replace hF : Fr aa_ 16 [(1, (.pointer (some ⟨b1, 0, none⟩)))] := hF.keep (keep := [1]) (by kernel_rfl)
      refine From_loadS (by kernel_rfl : coreAt _ 0 = some (some 8, (Go.Op.load 24 (Go.Operand.tmp 1)), 24, none)) hF (by kernel_rfl) (by kernel_rfl) (k' := 1) rfl (ad := ⟨b1, 0, none⟩) (vs := [nm, wk, pa, va, (.slice A bs.length c)]) (by kernel_rfl) (by kernel_rfl) (blk_cells ((hM3.then_ hK).get 0 rfl)) ?_
      intro a2 ea _
      refine From_end (by kernel_rfl) ?_; exact op_done (d := some 8) (by kernel_rfl) ea (Kp.refl _) rfl
    · intro aa_ w_ vs rest_ hK hp hF
      refine ⟨true, opok_guard (g0 := none) (by kernel_rfl) (by kernel_rfl), fun _ => ?_, fun h => Bool.noConfusion h⟩
      replace hF : Fr aa_ 16 [(8, (.agg #[nm, wk, pa, va, (.slice A bs.length c)]))] := hF.keep (keep := [8]) (by kernel_rfl)
      refine From_call (by kernel_rfl : coreAt _ 0 = some (some 9, (Go.Op.call { callee := (Go.Callee.value (Go.Operand.func 13)), args := #[(Go.Operand.tmp 8)], argTypes := #[24] }), 27, none)) hF (by kernel_rfl) (by kernel_rfl) (k' := 1) rfl (f := 13) (vs := [(.agg #[nm, wk, pa, va, (.slice A bs.length c)])]) (cap := []) (by kernel_rfl) (by kernel_rfl) (by kernel_rfl) (above_c _ _ _ _ A c bs w_ hm (hA.at_ (hM3.then_ hK))) ?_
      rintro _ w2 ⟨A16, c17, rfl, hm_⟩ a2 ea _
      refine From_end (by kernel_rfl) ?_; exact op_done (d := some 9) (by kernel_rfl) ea hm_.kp ⟨_, _, rfl, row_rd (hm_.get 0 rfl)⟩
    · intro aa_ w_ vs rest_ hK hp hF
      refine ⟨true, opok_guard (g0 := none) (by kernel_rfl) (by kernel_rfl), fun _ => ?_, fun h => Bool.noConfusion h⟩
      replace hF : Fr aa_ 16 [(1, (.pointer (some ⟨b1, 0, none⟩)))] := hF.keep (keep := [1]) (by kernel_rfl)
      refine From_loadS (by kernel_rfl : coreAt _ 0 = some (some 10, (Go.Op.load 24 (Go.Operand.tmp 1)), 24, none)) hF (by kernel_rfl) (by kernel_rfl) (k' := 1) rfl (ad := ⟨b1, 0, none⟩) (vs := [nm, wk, pa, va, (.slice A bs.length c)]) (by kernel_rfl) (by kernel_rfl) (blk_cells ((hM3.then_ hK).get 0 rfl)) ?_
      intro a2 ea _
      refine From_end (by kernel_rfl) ?_; exact op_done (d := some 10) (by kernel_rfl) ea (Kp.refl _) rfl
    · intro aa_ w_ vs rest_ hK hp hF
      refine ⟨true, opok_guard (g0 := none) (by kernel_rfl) (by kernel_rfl), fun _ => ?_, fun h => Bool.noConfusion h⟩
      replace hF : Fr aa_ 16 [(10, (.agg #[nm, wk, pa, va, (.slice A bs.length c)]))] := hF.keep (keep := [10]) (by kernel_rfl)
      refine From_call (by kernel_rfl : coreAt _ 0 = some (some 11, (Go.Op.call { callee := (Go.Callee.value (Go.Operand.func 14)), args := #[(Go.Operand.tmp 10)], argTypes := #[24] }), 27, none)) hF (by kernel_rfl) (by kernel_rfl) (k' := 1) rfl (f := 14) (vs := [(.agg #[nm, wk, pa, va, (.slice A bs.length c)])]) (cap := []) (by kernel_rfl) (by kernel_rfl) (by kernel_rfl) (rabove_c _ _ _ _ A c bs w_ hm (hA.at_ (hM3.then_ hK))) ?_
      rintro _ w2 ⟨A18, c19, rfl, hm_⟩ a2 ea _
      refine From_end (by kernel_rfl) ?_; exact op_done (d := some 11) (by kernel_rfl) ea hm_.kp ⟨_, _, rfl, row_rd (hm_.get 0 rfl)⟩
    · intro aa_ w_ vs rest_ hK hp hF
      refine ⟨true, opok_guard (g0 := none) (by kernel_rfl) (by kernel_rfl), fun _ => ?_, fun h => Bool.noConfusion h⟩
      replace hF : Fr aa_ 16 [(9, vs 1), (11, vs 3)] := hF.keep (keep := [9, 11]) (by kernel_rfl)
      obtain ⟨A16, c17, e1, r1⟩ := hp 1 (mem_preds (by kernel_rfl))
      rw [e1] at hF
      obtain ⟨A18, c19, e3, r3⟩ := hp 3 (mem_preds (by kernel_rfl))
      rw [e3] at hF
      refine From_call (by kernel_rfl : coreAt _ 0 = some (some 12, (Go.Op.call { callee := (Go.Callee.value (Go.Operand.func 10)), args := #[(Go.Operand.tmp 9), (Go.Operand.tmp 11)], argTypes := #[27, 27] }), 4, none)) hF (by kernel_rfl) (by kernel_rfl) (k' := 1) rfl (f := 10) (vs := [(.slice A16 ((raboveL bs).length) c17), (.slice A18 ((raboveL bs).length) c19)]) (cap := []) (by kernel_rfl) (by kernel_rfl) (by kernel_rfl) (same_c (raboveL bs) (raboveL bs) A16 A18 c17 c19 w_ (by rw [raboveL_len]; omega) (RO.of r1) (RO.of r3)) ?_
      rintro _ w2 ⟨rfl, hm_⟩ a2 ea _
      refine From_end (by kernel_rfl) ?_; exact op_done (d := some 12) (by kernel_rfl) ea hm_.kp (congrArg Value.bool hBsm.symm)
    · intro aa_ w_ vs rest_ hK hp hF
      refine ⟨true, opok_guard (g0 := none) (by kernel_rfl) (by kernel_rfl), fun _ => ?_, fun h => Bool.noConfusion h⟩
      replace hF : Fr aa_ 16 [(12, (.bool true))] := hF.keep (keep := [12]) (by kernel_rfl)
      refine From_pure1 (by kernel_rfl : coreAt _ 0 = some (some 13, (Go.Op.move (Go.Operand.tmp 12)), 4, none)) hF (by kernel_rfl) (by kernel_rfl) (k' := 1) rfl (v := (.bool true)) (by kernel_rfl) ?_
      intro a2 ea _
      refine From_end (by kernel_rfl) ?_; exact op_done (d := some 13) (by kernel_rfl) ea (Kp.refl _) rfl
    · intro aa_ w_ vs rest_ hK hp hF
      refine ⟨true, opok_guard (g0 := some (5, true)) (by kernel_rfl) (by kernel_rfl), fun _ => ?_, fun h => Bool.noConfusion h⟩
      replace hF : Fr aa_ 16 [(13, (.bool true))] := hF.keep (keep := [13]) (by kernel_rfl)
      refine From_call (by kernel_rfl : coreAt _ 0 = some (some 14, (Go.Op.call { callee := (Go.Callee.value (Go.Operand.func 9)), args := #[], argTypes := #[] }), 4, none)) hF (by kernel_rfl) (by kernel_rfl) (k' := 1) rfl (f := 9) (vs := []) (cap := []) (by kernel_rfl) (by kernel_rfl) (by kernel_rfl) (awake_c w_) ?_
      rintro _ w2 ⟨rfl, hm_⟩ a2 ea _
      refine From_end (by kernel_rfl) ?_; exact op_done (d := some 14) (by kernel_rfl) ea hm_.kp (congrArg Value.bool hB20.symm)
    · intro aa_ w_ vs rest_ hK hp hF
      refine ⟨true, opok_guard (g0 := none) (by kernel_rfl) (by kernel_rfl), fun _ => ?_, fun h => Bool.noConfusion h⟩
      replace hF : Fr aa_ 16 [(13, (.bool true)), (14, (.bool B20))] := hF.keep (keep := [13, 14]) (by kernel_rfl)
      refine From_pure1 (by kernel_rfl : coreAt _ 0 = some (some 15, (Go.Op.pick (Go.Operand.tmp 13) (Go.Operand.tmp 14) (Go.Operand.const (Go.Value.bool false))), 4, none)) hF (by kernel_rfl) (by kernel_rfl) (k' := 1) rfl (v := (.bool B20)) (by kernel_rfl) ?_
      intro a2 ea _
      refine From_end (by kernel_rfl) ?_; exact op_done (d := some 15) (by kernel_rfl) ea (Kp.refl _) rfl
    · intro aa_ w_ vs rest_ hK hp hF
      refine ⟨true, opok_guard (g0 := none) (by kernel_rfl) (by kernel_rfl), fun _ => ?_, fun h => Bool.noConfusion h⟩
      replace hF : Fr aa_ 16 [(15, (.bool B20))] := hF.keep (keep := [15]) (by kernel_rfl)
      refine From_pure1 (by kernel_rfl : coreAt _ 0 = some (some 2, (Go.Op.assign (Go.Operand.tmp 15)), 4, none)) hF (by kernel_rfl) (by kernel_rfl) (k' := 1) rfl (v := (.bool B20)) (by kernel_rfl) ?_
      intro a2 ea _
      refine From_end (by kernel_rfl) ?_; exact op_done (d := some 2) (by kernel_rfl) ea (Kp.refl _) rfl
    intro a21 w23 vs hK hv hF22
    replace hF22 : Fr a21 16 [(2, (.bool B20))] := hF22.keep (keep := [2]) (by kernel_rfl)
    have hM24 := hM3.then_ hK
    clear hK hv hF15 a14 hM3; clear vs
    refine W_ret (by kernel_rfl) ?_
    refine out1 (v := (.bool B20)) hF22 rfl (by kernel_rfl) ?_
    refine ⟨_, rfl, ?_⟩
    replace hM24 : Mem noS w w23 [] := hM24.pick [false] rfl
    exact ⟨by rw [hB20], hM24⟩
  · have cbig : ((bs.length : Nat) : Int) > 60 := by simpa using hBbig
    refine W_cond (t := 6) (B := true) (by kernel_rfl) hF15 (by kernel_rfl) (fun _ => ?_) (fun t => Bool.noConfusion t)
    refine W_seq (by kernel_rfl) ?_
    refine W_region (by kernel_rfl) ?_   -- region 2
    refine From_call (by kernel_rfl : coreAt _ 0 = some (some 7, (Go.Op.call { callee := (Go.Callee.value (Go.Operand.func 9)), args := #[], argTypes := #[] }), 4, none)) hF15 (by kernel_rfl) (by kernel_rfl) (k' := 1) rfl (f := 9) (vs := []) (cap := []) (by kernel_rfl) (by kernel_rfl) (by kernel_rfl) (awake_c w2) ?_
    rintro _ w25 ⟨rfl, hM26x⟩ a27 ea hF28; clear ea hF15 a14
    have hM26 : Mem noS w w25 [.blk b1 24 [nm, wk, pa, va, (.slice A bs.length c)]] := hM3.call hM26x
    clear hM26x hM3
    replace hF28 : Fr a27 16 (putE [(1, (.pointer (some ⟨b1, 0, none⟩))), (6, (.bool true))] (some 7) (.bool true)) := hF28
    obtain ⟨B29, hB29⟩ : ∃ B, B = true := ⟨_, rfl⟩
    rw [← hB29] at hF28
    replace hF28 : Fr a27 16 [(7, (.bool B29))] := hF28.keep (keep := [7]) (by kernel_rfl)
    refine From_pure 1 2 [2] hF28 (env' := [(2, (.bool B29))]) (by kernel_rfl) rfl ?_
    intro a30 hF31; clear hF28 a27
    refine From_end (by kernel_rfl) ?_
    refine W_ret (by kernel_rfl) ?_
    refine out1 (v := (.bool B29)) hF31 rfl (by kernel_rfl) ?_
    refine ⟨_, rfl, ?_⟩
    replace hM26 : Mem noS w w25 [] := hM26.pick [false] rfl
    exact ⟨by rw [hB29], hM26⟩

end Go.Proofs.Ytlkpkinmmjcbcaa
