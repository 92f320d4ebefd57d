/-
  Walks of layer 18. Printed by wip/gen/dom.py.
-/
import Derived.Test.YtlkpkinmmjcbcaaD1
import Derived.Test.YtlkpkinmmjcbcaaD2
namespace Go.Proofs.Ytlkpkinmmjcbcaa
open Go.Mor

set_option maxRecDepth 10000 in
theorem newbits_c (n : Nat) (w : World) (hn : n ≤ 1000000) :
    Calls Try.prog 24 #[(.int .i64 (n : Int))] w (Ret fun v w' => ∃ g, v = .slice (some ⟨g, 0, none⟩) ((n + 63) / 64) ((n + 63) / 64) ∧ Mem noS w w' [.row 61 1 (some ⟨g, 0, none⟩) ((n + 63) / 64) ((n + 63) / 64) (u64s (List.replicate ((n + 63) / 64) 0))]) := by
  refine enter (N := 8) (vs := [(.int .i64 (n : Int))]) Try.func24 (by kernel_rfl) (by kernel_rfl) (by kernel_rfl) ?_
  intro a hF
  have hM := Mem.init w
  refine W_seq (by kernel_rfl) ?_
  refine W_region (by kernel_rfl) ?_   -- region 0
  refine From_pure 1 1 [0] hF (env' := [(0, (.int .i64 (n : Int)))]) (by kernel_rfl) rfl ?_
  intro a1 hF2; clear hF a
  refine From_end (by kernel_rfl) ?_
  refine W_seq (by kernel_rfl) ?_
  refine W_region (by kernel_rfl) ?_   -- region 1
  refine From_pure 1 1 [3] hF2 (env' := [(3, (.int .i64 (n : Int)))]) (by kernel_rfl) rfl ?_
  intro a3 hF4; clear hF2 a1
  refine From_arith (by kernel_rfl : coreAt _ 1 = some (some 4, (Go.Op.binOp Go.BinOp.add 3 (Go.Operand.tmp 3) (Go.Operand.const (Go.Value.int Go.IntKind.i64 64)) 3), 3, none)) hF4 (by kernel_rfl) (by kernel_rfl) (k' := 2) rfl (i := (n : Int)) (j := 64) (z := ((n : Int) + 64)) (by kernel_rfl) (by kernel_rfl) rfl (by omega) (by omega) ?_
  intro a5 ea hF6; clear ea hF4 a3
  replace hF6 : Fr a5 8 [(4, (.int .i64 ((n : Int) + 64)))] := hF6.keep (keep := [4]) (by kernel_rfl)
  refine From_arith (by kernel_rfl : coreAt _ 2 = some (some 5, (Go.Op.binOp Go.BinOp.sub 3 (Go.Operand.tmp 4) (Go.Operand.const (Go.Value.int Go.IntKind.i64 1)) 3), 3, none)) hF6 (by kernel_rfl) (by kernel_rfl) (k' := 3) rfl (i := ((n : Int) + 64)) (j := 1) (z := (((n : Int) + 64) - 1)) (by kernel_rfl) (by kernel_rfl) rfl (by omega) (by omega) ?_
  intro a7 ea hF8; clear ea hF6 a5
  replace hF8 : Fr a7 8 [(5, (.int .i64 (((n : Int) + 64) - 1)))] := hF8.keep (keep := [5]) (by kernel_rfl)
  refine From_binI (by kernel_rfl : coreAt _ 3 = some (some 6, (Go.Op.binOp Go.BinOp.quo 3 (Go.Operand.tmp 5) (Go.Operand.const (Go.Value.int Go.IntKind.i64 64)) 3), 3, none)) hF8 (by kernel_rfl) (by kernel_rfl) (k' := 4) rfl (kd := .i64) (kd' := .i64) (i := (n : Int) + 64 - 1) (j := 64) (z := .int .i64 ((((n + 63) / 64) : Nat) : Int)) (by kernel_rfl) (by kernel_rfl) (fun w => by have h := bin_quoN (P := Try.prog) (t := 3) (i := n + 63) 64 (by omega) (by decide) w; rw [show ((n + 63 : Nat) : Int) = (n : Int) + 64 - 1 by omega] at h; exact h) ?_
  intro a9 ea hF10; clear ea hF8 a7
  replace hF10 : Fr a9 8 [(6, (.int .i64 ((((n + 63) / 64) : Nat) : Int)))] := hF10.keep (keep := [6]) (by kernel_rfl)
  refine From_make1 (by kernel_rfl : coreAt _ 4 = some (some 7, (Go.Op.makeSlice 44 (Go.Operand.tmp 6) (Go.Operand.tmp 6)), 44, none)) hF10 (by kernel_rfl) (by kernel_rfl) (k' := 5) rfl (e := 61) (bytes := 8) (z := (.int .u64 0)) (n := ((n + 63) / 64)) (i := ((((n + 63) / 64) : Nat) : Int)) (by kernel_rfl) (by kernel_rfl) rfl (by kernel_rfl) (by kernel_rfl) rfl (by omega) (by simp only [maxLen]; omega) hM ?_
  intro b11 w12 hb11 _ hM13 _ a14 ea hF15; clear ea hF10 a9
  change Mem noS w w12 [.row 61 1 (some ⟨b11, 0, none⟩) ((n + 63) / 64) ((n + 63) / 64) (List.replicate ((n + 63) / 64) (.int .u64 0))] at hM13
  clear hM
  replace hF15 : Fr a14 8 [(7, (.slice (some ⟨b11, 0, none⟩) ((n + 63) / 64) ((n + 63) / 64)))] := hF15.keep (keep := [7]) (by kernel_rfl)
  refine From_pure 1 6 [2] hF15 (env' := [(2, (.slice (some ⟨b11, 0, none⟩) ((n + 63) / 64) ((n + 63) / 64)))]) (by kernel_rfl) rfl ?_
  intro a16 hF17; clear hF15 a14
  refine From_end (by kernel_rfl) ?_
  refine W_ret (by kernel_rfl) ?_
  refine out1 (v := (.slice (some ⟨b11, 0, none⟩) ((n + 63) / 64) ((n + 63) / 64))) hF17 rfl (by kernel_rfl) ?_
  refine ⟨_, rfl, ?_⟩
  exact ⟨b11, rfl, hM13.cast (by simp [u64s])⟩

set_option maxRecDepth 10000 in
theorem put_c (ws : List Nat) (n i : Nat) (A : Option Addr) (c : Nat) (w : World) (hfit : Fit ws) (hi0 : i ≤ 1000000) (hn : n = ws.length) (hi : i / 64 < ws.length) (hrow : (Res.row 61 1 A n c (u64s ws)).holds w) :
    Calls Try.prog 25 #[(.slice A n c), (.int .i64 (i : Int))] w (Ret fun v w' => v = .tuple #[] ∧ Mem (Res.row 61 1 A n c (u64s ws)).fp w w' [.row 61 1 A n c (u64s (putw ws i))]) := by
  subst hn
  refine enter (N := 14) (vs := [(.slice A ws.length c), (.int .i64 (i : Int))]) Try.func25 (by kernel_rfl) (by kernel_rfl) (by kernel_rfl) ?_
  intro a hF
  have hM := Mem.initS hrow
  obtain ⟨g0, hg0⟩ := row_some (hM.get 0 rfl) (show 0 < ws.length by omega)
  subst hg0
  refine W_drawJ (N := 14) (env0 := [(0, (.slice (some ⟨g0, 0, none⟩) ws.length c)), (1, (.int .i64 (i : Int)))]) (by kernel_rfl) (by kernel_rfl) (specAt [.det (.slice (some ⟨g0, 0, none⟩) ws.length c), .det (.int .i64 (i : Int)), .det (.int .i64 ((i / 64 : Nat) : Int)), .det (.pointer (some ((⟨g0, 0, none⟩ : Addr).add ((((i / 64 : Nat) : Int)).toNat * 1)))), .det (.int .u64 ((ws.getD (i / 64) 0 : Nat) : Int)), .det (.int .i64 (i : Int)), .det (.int .i64 ((i % 64 : Nat) : Int)), .det (.int .u64 ((2 ^ (i % 64) : Nat) : Int)), .det (.int .u64 ((ws.getD (i / 64) 0 ||| 2 ^ (i % 64) : Nat) : Int)), .det (.pointer (some ((⟨g0, 0, none⟩ : Addr).add ((((i / 64 : Nat) : Int)).toNat * 1)))), .det undef]) (fun ls vs w_ => match ls 10 with | true => (Mem (Res.row 61 1 (some ⟨g0, 0, none⟩) ws.length c (u64s ws)).fp w w_ [.row 61 1 (some ⟨g0, 0, none⟩) ws.length c (u64s (putw ws i))]) | false => (Mem (Res.row 61 1 (some ⟨g0, 0, none⟩) ws.length c (u64s ws)).fp w w_ [.row 61 1 (some ⟨g0, 0, none⟩) ws.length c (u64s ws)])) (by kernel_rfl) (by kernel_rfl) hF (by kernel_rfl) (by kernel_rfl) (plain_ok (.det (.det (.det (.det (.det (.det (.det (.det (.det (.det (.det .nil)))))))))))) (hM.then_ (Mem.drew _)) (lt_succ_all (lt_succ_all (lt_succ_all (lt_succ_all (lt_succ_all (lt_succ_all (lt_succ_all (lt_succ_all (lt_succ_all (lt_succ_all (lt_succ_all lt_zero_all ?_) ?_) ?_) ?_) ?_) ?_) ?_) ?_) ?_) ?_) ?_) ?_   -- region 0
  · intro aa_ w_ ls vs rest_ hJ hi_ hc_ hp hF
    refine ⟨true, opok_guard (g0 := none) (by kernel_rfl) (by kernel_rfl), fun _ => ?_, fun h => Bool.noConfusion h⟩
    replace hF : Fr aa_ 14 [(0, (.slice (some ⟨g0, 0, none⟩) ws.length c))] := hF.keep (keep := [0]) (by kernel_rfl)
    refine From_pure1 (by kernel_rfl : coreAt _ 0 = some (some 4, (Go.Op.move (Go.Operand.tmp 0)), 44, none)) hF (by kernel_rfl) (by kernel_rfl) (k' := 1) rfl (v := (.slice (some ⟨g0, 0, none⟩) ws.length c)) (by kernel_rfl) ?_
    intro a2 ea _
    refine From_end (by kernel_rfl) ?_; exact op_doneJ (d := some 4) (by kernel_rfl) ea rfl hJ
  · intro aa_ w_ ls vs rest_ hJ hi_ hc_ hp hF
    refine ⟨true, opok_guard (g0 := none) (by kernel_rfl) (by kernel_rfl), fun _ => ?_, fun h => Bool.noConfusion h⟩
    replace hF : Fr aa_ 14 [(1, (.int .i64 (i : Int)))] := hF.keep (keep := [1]) (by kernel_rfl)
    refine From_pure1 (by kernel_rfl : coreAt _ 0 = some (some 5, (Go.Op.move (Go.Operand.tmp 1)), 3, none)) hF (by kernel_rfl) (by kernel_rfl) (k' := 1) rfl (v := (.int .i64 (i : Int))) (by kernel_rfl) ?_
    intro a2 ea _
    refine From_end (by kernel_rfl) ?_; exact op_doneJ (d := some 5) (by kernel_rfl) ea rfl hJ
  · intro aa_ w_ ls vs rest_ hJ hi_ hc_ hp hF
    refine ⟨true, opok_guard (g0 := none) (by kernel_rfl) (by kernel_rfl), fun _ => ?_, fun h => Bool.noConfusion h⟩
    replace hF : Fr aa_ 14 [(5, (.int .i64 (i : Int)))] := hF.keep (keep := [5]) (by kernel_rfl)
    refine From_binI (by kernel_rfl : coreAt _ 0 = some (some 6, (Go.Op.binOp Go.BinOp.quo 3 (Go.Operand.tmp 5) (Go.Operand.const (Go.Value.int Go.IntKind.i64 64)) 3), 3, none)) hF (by kernel_rfl) (by kernel_rfl) (k' := 1) rfl (kd := .i64) (kd' := .i64) (i := (i : Int)) (j := 64) (z := .int .i64 ((i / 64 : Nat) : Int)) (by kernel_rfl) (by kernel_rfl) (fun w => bin_quoN 64 (by omega) (by decide) w) ?_
    intro a2 ea _
    refine From_end (by kernel_rfl) ?_; exact op_doneJ (d := some 6) (by kernel_rfl) ea rfl hJ
  · intro aa_ w_ ls vs rest_ hJ hi_ hc_ hp hF
    refine ⟨true, opok_guard (g0 := none) (by kernel_rfl) (by kernel_rfl), fun _ => ?_, fun h => Bool.noConfusion h⟩
    replace hF : Fr aa_ 14 [(4, (.slice (some ⟨g0, 0, none⟩) ws.length c)), (6, (.int .i64 ((i / 64 : Nat) : Int)))] := hF.keep (keep := [4, 6]) (by kernel_rfl)
    refine From_index (by kernel_rfl : coreAt _ 0 = some (some 7, (Go.Op.indexAddr 44 (Go.Operand.tmp 4) (Go.Operand.tmp 6)), 0, none)) hF (by kernel_rfl) (by kernel_rfl) (k' := 1) rfl (A := (some ⟨g0, 0, none⟩)) (ad := ⟨g0, 0, none⟩) (n := ws.length) (cap := c) (e := 61) (size := 1) (kd := .i64) (i := ((i / 64 : Nat) : Int)) (by kernel_rfl) (by kernel_rfl) rfl (by kernel_rfl) (by kernel_rfl) (by omega) (by omega) ?_
    intro a2 ea _
    refine From_end (by kernel_rfl) ?_; exact op_doneJ (d := some 7) (by kernel_rfl) ea rfl hJ
  · intro aa_ w_ ls vs rest_ hJ hi_ hc_ hp hF
    refine ⟨true, opok_guard (g0 := none) (by kernel_rfl) (by kernel_rfl), fun _ => ?_, fun h => Bool.noConfusion h⟩
    replace hF : Fr aa_ 14 [(7, (.pointer (some ((⟨g0, 0, none⟩ : Addr).add ((((i / 64 : Nat) : Int)).toNat * 1)))))] := hF.keep (keep := [7]) (by kernel_rfl)
    have f10 : ls 10 = false := notyet hc_ hi_ (n := 11) (by kernel_rfl)
    have hM_ := hJ
    simp only [f10] at hM_
    refine From_load1 (by kernel_rfl : coreAt _ 0 = some (some 8, (Go.Op.load 61 (Go.Operand.tmp 7)), 61, none)) hF (by kernel_rfl) (by kernel_rfl) (k' := 1) rfl (ad := ((⟨g0, 0, none⟩ : Addr).add ((((i / 64 : Nat) : Int)).toNat * 1))) (v := (.int .u64 ((ws.getD (i / 64) 0 : Nat) : Int))) (by kernel_rfl) (by kernel_rfl) (rd_get1 (row_rd (hM_.get 0 rfl)) rfl (u64s_get (by omega))) ?_
    intro a2 ea _
    refine From_end (by kernel_rfl) ?_; exact op_doneJ (d := some 8) (by kernel_rfl) ea rfl hJ
  · intro aa_ w_ ls vs rest_ hJ hi_ hc_ hp hF
    refine ⟨true, opok_guard (g0 := none) (by kernel_rfl) (by kernel_rfl), fun _ => ?_, fun h => Bool.noConfusion h⟩
    replace hF : Fr aa_ 14 [(1, (.int .i64 (i : Int)))] := hF.keep (keep := [1]) (by kernel_rfl)
    refine From_pure1 (by kernel_rfl : coreAt _ 0 = some (some 9, (Go.Op.move (Go.Operand.tmp 1)), 3, none)) hF (by kernel_rfl) (by kernel_rfl) (k' := 1) rfl (v := (.int .i64 (i : Int))) (by kernel_rfl) ?_
    intro a2 ea _
    refine From_end (by kernel_rfl) ?_; exact op_doneJ (d := some 9) (by kernel_rfl) ea rfl hJ
  · intro aa_ w_ ls vs rest_ hJ hi_ hc_ hp hF
    refine ⟨true, opok_guard (g0 := none) (by kernel_rfl) (by kernel_rfl), fun _ => ?_, fun h => Bool.noConfusion h⟩
    replace hF : Fr aa_ 14 [(9, (.int .i64 (i : Int)))] := hF.keep (keep := [9]) (by kernel_rfl)
    refine From_binI (by kernel_rfl : coreAt _ 0 = some (some 10, (Go.Op.binOp Go.BinOp.rem 3 (Go.Operand.tmp 9) (Go.Operand.const (Go.Value.int Go.IntKind.i64 64)) 3), 3, none)) hF (by kernel_rfl) (by kernel_rfl) (k' := 1) rfl (kd := .i64) (kd' := .i64) (i := (i : Int)) (j := 64) (z := .int .i64 ((i % 64 : Nat) : Int)) (by kernel_rfl) (by kernel_rfl) (fun w => bin_remN 64 (by decide) w) ?_
    intro a2 ea _
    refine From_end (by kernel_rfl) ?_; exact op_doneJ (d := some 10) (by kernel_rfl) ea rfl hJ
  · intro aa_ w_ ls vs rest_ hJ hi_ hc_ hp hF
    refine ⟨true, opok_guard (g0 := none) (by kernel_rfl) (by kernel_rfl), fun _ => ?_, fun h => Bool.noConfusion h⟩
    replace hF : Fr aa_ 14 [(10, (.int .i64 ((i % 64 : Nat) : Int)))] := hF.keep (keep := [10]) (by kernel_rfl)
    refine From_binI (by kernel_rfl : coreAt _ 0 = some (some 11, (Go.Op.binOp Go.BinOp.shl 61 (Go.Operand.const (Go.Value.int Go.IntKind.u64 1)) (Go.Operand.tmp 10) 3), 61, none)) hF (by kernel_rfl) (by kernel_rfl) (k' := 1) rfl (kd := .u64) (kd' := .i64) (i := 1) (j := ((i % 64 : Nat) : Int)) (z := .int .u64 ((2 ^ (i % 64) : Nat) : Int)) (by kernel_rfl) (by kernel_rfl) (fun w => bin_shl (Nat.mod_lt _ (by decide)) w) ?_
    intro a2 ea _
    refine From_end (by kernel_rfl) ?_; exact op_doneJ (d := some 11) (by kernel_rfl) ea rfl hJ
  · intro aa_ w_ ls vs rest_ hJ hi_ hc_ hp hF
    refine ⟨true, opok_guard (g0 := none) (by kernel_rfl) (by kernel_rfl), fun _ => ?_, fun h => Bool.noConfusion h⟩
    replace hF : Fr aa_ 14 [(8, (.int .u64 ((ws.getD (i / 64) 0 : Nat) : Int))), (11, (.int .u64 ((2 ^ (i % 64) : Nat) : Int)))] := hF.keep (keep := [8, 11]) (by kernel_rfl)
    refine From_binI (by kernel_rfl : coreAt _ 0 = some (some 12, (Go.Op.binOp Go.BinOp.or 61 (Go.Operand.tmp 8) (Go.Operand.tmp 11) 61), 61, none)) hF (by kernel_rfl) (by kernel_rfl) (k' := 1) rfl (kd := .u64) (kd' := .u64) (i := ((ws.getD (i / 64) 0 : Nat) : Int)) (j := ((2 ^ (i % 64) : Nat) : Int)) (z := .int .u64 ((ws.getD (i / 64) 0 ||| 2 ^ (i % 64) : Nat) : Int)) (by kernel_rfl) (by kernel_rfl) (fun w => bin_or (hfit.get _) (two_pow_le (Nat.mod_lt _ (by decide))) w) ?_
    intro a2 ea _
    refine From_end (by kernel_rfl) ?_; exact op_doneJ (d := some 12) (by kernel_rfl) ea rfl hJ
  · intro aa_ w_ ls vs rest_ hJ hi_ hc_ hp hF
    refine ⟨true, opok_guard (g0 := none) (by kernel_rfl) (by kernel_rfl), fun _ => ?_, fun h => Bool.noConfusion h⟩
    replace hF : Fr aa_ 14 [(4, (.slice (some ⟨g0, 0, none⟩) ws.length c)), (6, (.int .i64 ((i / 64 : Nat) : Int)))] := hF.keep (keep := [4, 6]) (by kernel_rfl)
    refine From_index (by kernel_rfl : coreAt _ 0 = some (some 13, (Go.Op.indexAddr 44 (Go.Operand.tmp 4) (Go.Operand.tmp 6)), 0, none)) hF (by kernel_rfl) (by kernel_rfl) (k' := 1) rfl (A := (some ⟨g0, 0, none⟩)) (ad := ⟨g0, 0, none⟩) (n := ws.length) (cap := c) (e := 61) (size := 1) (kd := .i64) (i := ((i / 64 : Nat) : Int)) (by kernel_rfl) (by kernel_rfl) rfl (by kernel_rfl) (by kernel_rfl) (by omega) (by omega) ?_
    intro a2 ea _
    refine From_end (by kernel_rfl) ?_; exact op_doneJ (d := some 13) (by kernel_rfl) ea rfl hJ
  · intro aa_ w_ ls vs rest_ hJ hi_ hc_ hp hF
    refine ⟨true, opok_guard (g0 := none) (by kernel_rfl) (by kernel_rfl), fun _ => ?_, fun h => Bool.noConfusion h⟩
    replace hF : Fr aa_ 14 [(12, (.int .u64 ((ws.getD (i / 64) 0 ||| 2 ^ (i % 64) : Nat) : Int))), (13, (.pointer (some ((⟨g0, 0, none⟩ : Addr).add ((((i / 64 : Nat) : Int)).toNat * 1)))))] := hF.keep (keep := [12, 13]) (by kernel_rfl)
    have f10 : ls 10 = false := hi_
    have hM_ := hJ
    simp only [f10] at hM_
    refine From_store_row (by kernel_rfl : coreAt _ 0 = some (none, (Go.Op.store 61 (Go.Operand.tmp 13) (Go.Operand.tmp 12)), 0, none)) hF (by kernel_rfl) (by kernel_rfl) (k' := 1) rfl (ad := (⟨g0, 0, none⟩ : Addr)) (j := ((((i / 64 : Nat) : Int)).toNat * 1)) (e := 61) (size := 1) (n := ws.length) (cap := c) (v := (.int .u64 ((ws.getD (i / 64) 0 ||| 2 ^ (i % 64) : Nat) : Int))) (xs := (u64s ws)) (ad' := ((⟨g0, 0, none⟩ : Addr).add ((((i / 64 : Nat) : Int)).toNat * 1))) (by kernel_rfl) rfl (by kernel_rfl) (by kernel_rfl) rfl hM_ 0 rfl (by omega) ?_
    intro w2 hm2 _ a2 ea _
    refine From_end (by kernel_rfl) ?_; refine op_doneJ (d := none) (by kernel_rfl) ea rfl ?_
    show Mem (Res.row 61 1 (some ⟨g0, 0, none⟩) ws.length c (u64s ws)).fp w w2 [.row 61 1 (some ⟨g0, 0, none⟩) ws.length c (u64s (putw ws i))]
    exact hm2.cast (by show [Res.row _ _ _ _ _ _] = _; rw [putw, u64s_set, Int.toNat_natCast, Nat.mul_one])
  intro a1 w3 ls vs hall hM4 hv hF2
  simp only [show ls 10 = true from hall 10 (by decide)] at hM4
  replace hF2 : Fr a1 14 [] := hF2.keep (keep := []) (by kernel_rfl)
  clear hall hv hF a hM; clear vs ls
  refine out0 hF2 rfl ?_
  refine ⟨_, rfl, ?_⟩
  exact ⟨rfl, hM4⟩

set_option maxRecDepth 10000 in
theorem hasb_c (ws : List Nat) (n i : Nat) (A : Option Addr) (c : Nat) (w : World) (hfit : Fit ws) (hi0 : i ≤ 1000000) (hn : n = ws.length) (hi : i / 64 < ws.length) (hA : RO noS w (.rd A (u64s ws))) :
    Calls Try.prog 26 #[(.slice A n c), (.int .i64 (i : Int))] w (Ret fun v w' => v = .bool (tb ws i) ∧ Mem noS w w' []) := by
  subst hn
  refine enter (N := 15) (vs := [(.slice A ws.length c), (.int .i64 (i : Int))]) Try.func26 (by kernel_rfl) (by kernel_rfl) (by kernel_rfl) ?_
  intro a hF
  have hM := Mem.init w
  refine W_seq (by kernel_rfl) ?_
  refine W_region (by kernel_rfl) ?_   -- region 0
  refine From_pure 1 1 [0, 1] hF (env' := [(0, (.slice A ws.length c)), (1, (.int .i64 (i : Int)))]) (by kernel_rfl) rfl ?_
  intro a1 hF2; clear hF a
  refine From_end (by kernel_rfl) ?_
  refine W_seq (by kernel_rfl) ?_
  refine W_region (by kernel_rfl) ?_   -- region 1
  refine From_pure 2 2 [1, 5, 6] hF2 (env' := [(1, (.int .i64 (i : Int))), (5, (.slice A ws.length c)), (6, (.int .i64 (i : Int)))]) (by kernel_rfl) rfl ?_
  intro a3 hF4; clear hF2 a1
  refine From_binI (by kernel_rfl : coreAt _ 2 = some (some 7, (Go.Op.binOp Go.BinOp.quo 3 (Go.Operand.tmp 6) (Go.Operand.const (Go.Value.int Go.IntKind.i64 64)) 3), 3, none)) hF4 (by kernel_rfl) (by kernel_rfl) (k' := 3) rfl (kd := .i64) (kd' := .i64) (i := (i : Int)) (j := 64) (z := .int .i64 ((i / 64 : Nat) : Int)) (by kernel_rfl) (by kernel_rfl) (fun w => bin_quoN 64 (by omega) (by decide) w) ?_
  intro a5 ea hF6; clear ea hF4 a3
  replace hF6 : Fr a5 15 [(1, (.int .i64 (i : Int))), (5, (.slice A ws.length c)), (7, (.int .i64 ((i / 64 : Nat) : Int)))] := hF6.keep (keep := [1, 5, 7]) (by kernel_rfl)
  obtain ⟨ad7, rfl⟩ := rd_some (hM.ro hA) (by rw [u64s_len]; omega)
  refine From_index (by kernel_rfl : coreAt _ 3 = some (some 8, (Go.Op.indexAddr 44 (Go.Operand.tmp 5) (Go.Operand.tmp 7)), 0, none)) hF6 (by kernel_rfl) (by kernel_rfl) (k' := 4) rfl (A := (some ad7)) (ad := ad7) (n := ws.length) (cap := c) (e := 61) (size := 1) (kd := .i64) (i := ((i / 64 : Nat) : Int)) (by kernel_rfl) (by kernel_rfl) rfl (by kernel_rfl) (by kernel_rfl) (by omega) (by omega) ?_
  intro a8 ea hF9; clear ea hF6 a5
  replace hF9 : Fr a8 15 [(1, (.int .i64 (i : Int))), (8, (.pointer (some ((ad7 : Addr).add ((((i / 64 : Nat) : Int)).toNat * 1)))))] := hF9.keep (keep := [1, 8]) (by kernel_rfl)
  refine From_load1 (by kernel_rfl : coreAt _ 4 = some (some 9, (Go.Op.load 61 (Go.Operand.tmp 8)), 61, none)) hF9 (by kernel_rfl) (by kernel_rfl) (k' := 5) rfl (ad := ((ad7 : Addr).add ((((i / 64 : Nat) : Int)).toNat * 1))) (v := (.int .u64 ((ws.getD (i / 64) 0 : Nat) : Int))) (by kernel_rfl) (by kernel_rfl) (rd_get1 (hM.ro hA) rfl (u64s_get (by omega))) ?_
  intro a10 ea hF11; clear ea hF9 a8
  replace hF11 : Fr a10 15 [(1, (.int .i64 (i : Int))), (9, (.int .u64 ((ws.getD (i / 64) 0 : Nat) : Int)))] := hF11.keep (keep := [1, 9]) (by kernel_rfl)
  refine From_pure 1 6 [9, 10] hF11 (env' := [(9, (.int .u64 ((ws.getD (i / 64) 0 : Nat) : Int))), (10, (.int .i64 (i : Int)))]) (by kernel_rfl) rfl ?_
  intro a12 hF13; clear hF11 a10
  refine From_binI (by kernel_rfl : coreAt _ 6 = some (some 11, (Go.Op.binOp Go.BinOp.rem 3 (Go.Operand.tmp 10) (Go.Operand.const (Go.Value.int Go.IntKind.i64 64)) 3), 3, none)) hF13 (by kernel_rfl) (by kernel_rfl) (k' := 7) rfl (kd := .i64) (kd' := .i64) (i := (i : Int)) (j := 64) (z := .int .i64 ((i % 64 : Nat) : Int)) (by kernel_rfl) (by kernel_rfl) (fun w => bin_remN 64 (by decide) w) ?_
  intro a14 ea hF15; clear ea hF13 a12
  replace hF15 : Fr a14 15 [(9, (.int .u64 ((ws.getD (i / 64) 0 : Nat) : Int))), (11, (.int .i64 ((i % 64 : Nat) : Int)))] := hF15.keep (keep := [9, 11]) (by kernel_rfl)
  refine From_binI (by kernel_rfl : coreAt _ 7 = some (some 12, (Go.Op.binOp Go.BinOp.shr 61 (Go.Operand.tmp 9) (Go.Operand.tmp 11) 3), 61, none)) hF15 (by kernel_rfl) (by kernel_rfl) (k' := 8) rfl (kd := .u64) (kd' := .i64) (i := ((ws.getD (i / 64) 0 : Nat) : Int)) (j := ((i % 64 : Nat) : Int)) (z := .int .u64 ((ws.getD (i / 64) 0 / 2 ^ (i % 64) : Nat) : Int)) (by kernel_rfl) (by kernel_rfl) (fun w => bin_shr (Nat.mod_lt _ (by decide)) w) ?_
  intro a16 ea hF17; clear ea hF15 a14
  replace hF17 : Fr a16 15 [(12, (.int .u64 ((ws.getD (i / 64) 0 / 2 ^ (i % 64) : Nat) : Int)))] := hF17.keep (keep := [12]) (by kernel_rfl)
  refine From_binI (by kernel_rfl : coreAt _ 8 = some (some 13, (Go.Op.binOp Go.BinOp.and 61 (Go.Operand.tmp 12) (Go.Operand.const (Go.Value.int Go.IntKind.u64 1)) 61), 61, none)) hF17 (by kernel_rfl) (by kernel_rfl) (k' := 9) rfl (kd := .u64) (kd' := .u64) (i := ((ws.getD (i / 64) 0 / 2 ^ (i % 64) : Nat) : Int)) (j := 1) (z := .int .u64 ((ws.getD (i / 64) 0 / 2 ^ (i % 64) &&& 1 : Nat) : Int)) (by kernel_rfl) (by kernel_rfl) (fun w => bin_and1 (Nat.lt_of_le_of_lt (Nat.div_le_self _ _) (hfit.get _)) w) ?_
  intro a18 ea hF19; clear ea hF17 a16
  replace hF19 : Fr a18 15 [(13, (.int .u64 ((ws.getD (i / 64) 0 / 2 ^ (i % 64) &&& 1 : Nat) : Int)))] := hF19.keep (keep := [13]) (by kernel_rfl)
  refine From_cmp (by kernel_rfl : coreAt _ 9 = some (some 14, (Go.Op.binOp Go.BinOp.eql 61 (Go.Operand.tmp 13) (Go.Operand.const (Go.Value.int Go.IntKind.u64 1)) 61), 4, none)) hF19 (by kernel_rfl) (by kernel_rfl) (k' := 10) rfl (kd := .u64) (i := ((ws.getD (i / 64) 0 / 2 ^ (i % 64) &&& 1 : Nat) : Int)) (j := 1) (by kernel_rfl) (by kernel_rfl) rfl ?_
  intro Bh hBh a20 ea hF21; clear ea hF19 a18
  replace hF21 : Fr a20 15 [(14, (.bool Bh))] := hF21.keep (keep := [14]) (by kernel_rfl)
  refine From_pure 1 11 [4] hF21 (env' := [(4, (.bool Bh))]) (by kernel_rfl) rfl ?_
  intro a22 hF23; clear hF21 a20
  refine From_end (by kernel_rfl) ?_
  refine W_ret (by kernel_rfl) ?_
  refine out1 (v := (.bool Bh)) hF23 rfl (by kernel_rfl) ?_
  refine ⟨_, rfl, ?_⟩
  exact ⟨by rw [hBh, bit_of]; rfl, hM⟩

set_option maxRecDepth 10000 in
theorem reverse_c (l : List Int) (A : Option Addr) (c : Nat) (w : World) (hm : l.length ≤ 1000000) (hrow : (Res.row 3 1 A l.length c (ints l)).holds w) :
    Calls Try.prog 27 #[(.slice A l.length c)] w (Ret fun v w' => v = .tuple #[] ∧ Mem (Res.row 3 1 A l.length c (ints l)).fp w w' [.row 3 1 A l.length c (ints l.reverse)]) := by
  refine enter (N := 28) (vs := [(.slice A l.length c)]) Try.func27 (by kernel_rfl) (by kernel_rfl) (by kernel_rfl) ?_
  intro a hF
  have hM := Mem.initS hrow
  refine W_seq (by kernel_rfl) ?_
  refine W_region (by kernel_rfl) ?_   -- region 0
  refine From_pure 2 2 [0, 5] hF (env' := [(0, (.slice A l.length c)), (5, (.int .i64 ((l.length : Nat) : Int)))]) (by kernel_rfl) rfl ?_
  intro a1 hF2; clear hF a
  refine From_arith (by kernel_rfl : coreAt _ 2 = some (some 6, (Go.Op.binOp Go.BinOp.sub 3 (Go.Operand.tmp 5) (Go.Operand.const (Go.Value.int Go.IntKind.i64 1)) 3), 3, none)) hF2 (by kernel_rfl) (by kernel_rfl) (k' := 3) rfl (i := ((l.length : Nat) : Int)) (j := 1) (z := (((l.length : Nat) : Int) - 1)) (by kernel_rfl) (by kernel_rfl) rfl (by omega) (by omega) ?_
  intro a3 ea hF4; clear ea hF2 a1
  replace hF4 : Fr a3 28 [(0, (.slice A l.length c)), (6, (.int .i64 (((l.length : Nat) : Int) - 1)))] := hF4.keep (keep := [0, 6]) (by kernel_rfl)
  refine From_pure 2 5 [0, 2, 3] hF4 (env' := [(0, (.slice A l.length c)), (2, (.int .i64 0)), (3, (.int .i64 (((l.length : Nat) : Int) - 1)))]) (by kernel_rfl) rfl ?_
  intro a5 hF6; clear hF4 a3
  refine From_end (by kernel_rfl) ?_
  refine W_block (id := 0) (by kernel_rfl) ?_
  replace hF6 : Fr a5 28 [(0, .slice A l.length c), (2, .int .i64 ((0 : Nat) : Int)), (3, .int .i64 ((l.length : Int) - 1 - ((0 : Nat) : Int)))] := by rw [show ((l.length : Int) - 1 - ((0 : Nat) : Int)) = (l.length : Int) - 1 by omega]; exact hF6.keep (keep := [0, 2, 3]) (by kernel_rfl)
  refine W_loop (by kernel_rfl) (fun n_ a_ w_ => ∃ (k : Nat) (m : List Int), n_ = l.length - k ∧ Fr a_ 28 [(0, (.slice A l.length c)), (2, (.int .i64 (k : Int))), (3, (.int .i64 ((l.length : Int) - 1 - (k : Int))))] ∧ Mem (Res.row 3 1 A l.length c (ints l)).fp w w_ [.row 3 1 A l.length c (ints m)] ∧ (2 * k ≤ l.length) ∧ (Swapped l m k)) (n := _) ⟨0, l, rfl, hF6.keep (keep := [0, 2, 3]) (by kernel_rfl), hM, by omega, swapped_start l⟩ ?_
  clear hF6 a5 hM; rintro n a9 w7 ⟨k, m, rfl, hF10, hM8, hk, hs⟩
  refine W_seq (by kernel_rfl) ?_
  refine W_seq (by kernel_rfl) ?_
  refine W_region (by kernel_rfl) ?_   -- region 1
  refine From_pure 2 2 [0, 2, 3, 7, 8] hF10 (env' := [(0, (.slice A l.length c)), (2, (.int .i64 (k : Int))), (3, (.int .i64 ((l.length : Int) - 1 - (k : Int)))), (7, (.int .i64 (k : Int))), (8, (.int .i64 ((l.length : Int) - 1 - (k : Int))))]) (by kernel_rfl) rfl ?_
  intro a11 hF12; clear hF10 a9
  refine From_cmp (by kernel_rfl : coreAt _ 2 = some (some 9, (Go.Op.binOp Go.BinOp.lss 3 (Go.Operand.tmp 7) (Go.Operand.tmp 8) 3), 4, none)) hF12 (by kernel_rfl) (by kernel_rfl) (k' := 3) rfl (kd := .i64) (i := (k : Int)) (j := ((l.length : Int) - 1 - (k : Int))) (by kernel_rfl) (by kernel_rfl) rfl ?_
  intro Blt hBlt a13 ea hF14; clear ea hF12 a11
  replace hF14 : Fr a13 28 [(0, (.slice A l.length c)), (2, (.int .i64 (k : Int))), (3, (.int .i64 ((l.length : Int) - 1 - (k : Int)))), (9, (.bool Blt))] := hF14.keep (keep := [0, 2, 3, 9]) (by kernel_rfl)
  refine From_end (by kernel_rfl) ?_
  cases Blt
  · have clt : ¬ ((k : Int) < ((l.length : Int) - 1 - (k : Int))) := by simpa using hBlt
    refine W_cond (t := 9) (B := false) (by kernel_rfl) hF14 (by kernel_rfl) (fun t => Bool.noConfusion t) (fun _ => ?_)
    refine W_exit (id := 0) (by kernel_rfl) ?_
    refine inB_hit rfl ?_
    refine out0 hF14 rfl ?_
    refine ⟨_, rfl, ?_⟩
    exact ⟨rfl, hM8.cast (by rw [swapped_end hs (by omega)])⟩
  · have clt : (k : Int) < ((l.length : Int) - 1 - (k : Int)) := by simpa using hBlt
    refine W_cond (t := 9) (B := true) (by kernel_rfl) hF14 (by kernel_rfl) (fun _ => ?_) (fun t => Bool.noConfusion t)
    refine W_skip (by kernel_rfl) ?_
    refine W_seq (by kernel_rfl) ?_
    refine W_block (id := 1) (by kernel_rfl) ?_
    obtain ⟨q, hq⟩ : ∃ q : Nat, ((l.length : Int) - 1 - (k : Int)) = (q : Int) := ⟨l.length - 1 - k, by omega⟩
    rw [hq] at hF14 clt; have hml : m.length = l.length := hs.1
    obtain ⟨g0, hg0⟩ := row_some (hM8.get 0 rfl) (show 0 < l.length by omega)
    subst hg0
    refine W_drawJ (N := 28) (env0 := [(0, (.slice (some ⟨g0, 0, none⟩) l.length c)), (2, (.int .i64 (k : Int))), (3, (.int .i64 (q : Int))), (9, (.bool true))]) (by kernel_rfl) (by kernel_rfl) (specAt [.det (.slice (some ⟨g0, 0, none⟩) l.length c), .det (.int .i64 (k : Int)), .det (.slice (some ⟨g0, 0, none⟩) l.length c), .det (.int .i64 (q : Int)), .det (.slice (some ⟨g0, 0, none⟩) l.length c), .det (.int .i64 (q : Int)), .det (.pointer (some ((⟨g0, 0, none⟩ : Addr).add (((q : Int)).toNat * 1)))), .det (.int .i64 (m.getD (q : Int).toNat 0)), .det (.slice (some ⟨g0, 0, none⟩) l.length c), .det (.int .i64 (k : Int)), .det (.pointer (some ((⟨g0, 0, none⟩ : Addr).add (((k : Int)).toNat * 1)))), .det (.int .i64 (m.getD (k : Int).toNat 0)), .det (.pointer (some ((⟨g0, 0, none⟩ : Addr).add (((k : Int)).toNat * 1)))), .det undef, .det (.pointer (some ((⟨g0, 0, none⟩ : Addr).add (((q : Int)).toNat * 1)))), .det undef]) (fun ls vs w_ => match ls 15 with | true => (Mem (Res.row 3 1 (some ⟨g0, 0, none⟩) l.length c (ints l)).fp w w_ [.row 3 1 (some ⟨g0, 0, none⟩) l.length c (((ints m).set (((k : Int)).toNat * 1) (.int .i64 (m.getD (q : Int).toNat 0))).set (((q : Int)).toNat * 1) (.int .i64 (m.getD (k : Int).toNat 0)))]) | false => (match ls 13 with | true => (Mem (Res.row 3 1 (some ⟨g0, 0, none⟩) l.length c (ints l)).fp w w_ [.row 3 1 (some ⟨g0, 0, none⟩) l.length c ((ints m).set (((k : Int)).toNat * 1) (.int .i64 (m.getD (q : Int).toNat 0)))]) | false => (Mem (Res.row 3 1 (some ⟨g0, 0, none⟩) l.length c (ints l)).fp w w_ [.row 3 1 (some ⟨g0, 0, none⟩) l.length c (ints m)]))) (by kernel_rfl) (by kernel_rfl) hF14 (by kernel_rfl) (by kernel_rfl) (plain_ok (.det (.det (.det (.det (.det (.det (.det (.det (.det (.det (.det (.det (.det (.det (.det (.det .nil))))))))))))))))) (hM8.then_ (Mem.drew _)) (lt_succ_all (lt_succ_all (lt_succ_all (lt_succ_all (lt_succ_all (lt_succ_all (lt_succ_all (lt_succ_all (lt_succ_all (lt_succ_all (lt_succ_all (lt_succ_all (lt_succ_all (lt_succ_all (lt_succ_all (lt_succ_all lt_zero_all ?_) ?_) ?_) ?_) ?_) ?_) ?_) ?_) ?_) ?_) ?_) ?_) ?_) ?_) ?_) ?_) ?_   -- region 3
    · intro aa_ w_ ls vs rest_ hJ hi_ hc_ hp hF
      refine ⟨true, opok_guard (g0 := none) (by kernel_rfl) (by kernel_rfl), fun _ => ?_, fun h => Bool.noConfusion h⟩
      replace hF : Fr aa_ 28 [(0, (.slice (some ⟨g0, 0, none⟩) l.length c))] := hF.keep (keep := [0]) (by kernel_rfl)
      refine From_pure1 (by kernel_rfl : coreAt _ 0 = some (some 14, (Go.Op.move (Go.Operand.tmp 0)), 27, none)) hF (by kernel_rfl) (by kernel_rfl) (k' := 1) rfl (v := (.slice (some ⟨g0, 0, none⟩) l.length c)) (by kernel_rfl) ?_
      intro a2 ea _
      refine From_end (by kernel_rfl) ?_; exact op_doneJ (d := some 14) (by kernel_rfl) ea rfl hJ
    · intro aa_ w_ ls vs rest_ hJ hi_ hc_ hp hF
      refine ⟨true, opok_guard (g0 := none) (by kernel_rfl) (by kernel_rfl), fun _ => ?_, fun h => Bool.noConfusion h⟩
      replace hF : Fr aa_ 28 [(2, (.int .i64 (k : Int)))] := hF.keep (keep := [2]) (by kernel_rfl)
      refine From_pure1 (by kernel_rfl : coreAt _ 0 = some (some 15, (Go.Op.move (Go.Operand.tmp 2)), 3, none)) hF (by kernel_rfl) (by kernel_rfl) (k' := 1) rfl (v := (.int .i64 (k : Int))) (by kernel_rfl) ?_
      intro a2 ea _
      refine From_end (by kernel_rfl) ?_; exact op_doneJ (d := some 15) (by kernel_rfl) ea rfl hJ
    · intro aa_ w_ ls vs rest_ hJ hi_ hc_ hp hF
      refine ⟨true, opok_guard (g0 := none) (by kernel_rfl) (by kernel_rfl), fun _ => ?_, fun h => Bool.noConfusion h⟩
      replace hF : Fr aa_ 28 [(0, (.slice (some ⟨g0, 0, none⟩) l.length c))] := hF.keep (keep := [0]) (by kernel_rfl)
      refine From_pure1 (by kernel_rfl : coreAt _ 0 = some (some 16, (Go.Op.move (Go.Operand.tmp 0)), 27, none)) hF (by kernel_rfl) (by kernel_rfl) (k' := 1) rfl (v := (.slice (some ⟨g0, 0, none⟩) l.length c)) (by kernel_rfl) ?_
      intro a2 ea _
      refine From_end (by kernel_rfl) ?_; exact op_doneJ (d := some 16) (by kernel_rfl) ea rfl hJ
    · intro aa_ w_ ls vs rest_ hJ hi_ hc_ hp hF
      refine ⟨true, opok_guard (g0 := none) (by kernel_rfl) (by kernel_rfl), fun _ => ?_, fun h => Bool.noConfusion h⟩
      replace hF : Fr aa_ 28 [(3, (.int .i64 (q : Int)))] := hF.keep (keep := [3]) (by kernel_rfl)
      refine From_pure1 (by kernel_rfl : coreAt _ 0 = some (some 17, (Go.Op.move (Go.Operand.tmp 3)), 3, none)) hF (by kernel_rfl) (by kernel_rfl) (k' := 1) rfl (v := (.int .i64 (q : Int))) (by kernel_rfl) ?_
      intro a2 ea _
      refine From_end (by kernel_rfl) ?_; exact op_doneJ (d := some 17) (by kernel_rfl) ea rfl hJ
    · intro aa_ w_ ls vs rest_ hJ hi_ hc_ hp hF
      refine ⟨true, opok_guard (g0 := none) (by kernel_rfl) (by kernel_rfl), fun _ => ?_, fun h => Bool.noConfusion h⟩
      replace hF : Fr aa_ 28 [(0, (.slice (some ⟨g0, 0, none⟩) l.length c))] := hF.keep (keep := [0]) (by kernel_rfl)
      refine From_pure1 (by kernel_rfl : coreAt _ 0 = some (some 18, (Go.Op.move (Go.Operand.tmp 0)), 27, none)) hF (by kernel_rfl) (by kernel_rfl) (k' := 1) rfl (v := (.slice (some ⟨g0, 0, none⟩) l.length c)) (by kernel_rfl) ?_
      intro a2 ea _
      refine From_end (by kernel_rfl) ?_; exact op_doneJ (d := some 18) (by kernel_rfl) ea rfl hJ
    · intro aa_ w_ ls vs rest_ hJ hi_ hc_ hp hF
      refine ⟨true, opok_guard (g0 := none) (by kernel_rfl) (by kernel_rfl), fun _ => ?_, fun h => Bool.noConfusion h⟩
      replace hF : Fr aa_ 28 [(3, (.int .i64 (q : Int)))] := hF.keep (keep := [3]) (by kernel_rfl)
      refine From_pure1 (by kernel_rfl : coreAt _ 0 = some (some 19, (Go.Op.move (Go.Operand.tmp 3)), 3, none)) hF (by kernel_rfl) (by kernel_rfl) (k' := 1) rfl (v := (.int .i64 (q : Int))) (by kernel_rfl) ?_
      intro a2 ea _
      refine From_end (by kernel_rfl) ?_; exact op_doneJ (d := some 19) (by kernel_rfl) ea rfl hJ
    · intro aa_ w_ ls vs rest_ hJ hi_ hc_ hp hF
      refine ⟨true, opok_guard (g0 := none) (by kernel_rfl) (by kernel_rfl), fun _ => ?_, fun h => Bool.noConfusion h⟩
      replace hF : Fr aa_ 28 [(18, (.slice (some ⟨g0, 0, none⟩) l.length c)), (19, (.int .i64 (q : Int)))] := hF.keep (keep := [18, 19]) (by kernel_rfl)
      refine From_index (by kernel_rfl : coreAt _ 0 = some (some 20, (Go.Op.indexAddr 27 (Go.Operand.tmp 18) (Go.Operand.tmp 19)), 0, none)) hF (by kernel_rfl) (by kernel_rfl) (k' := 1) rfl (A := (some ⟨g0, 0, none⟩)) (ad := ⟨g0, 0, none⟩) (n := l.length) (cap := c) (e := 3) (size := 1) (kd := .i64) (i := (q : Int)) (by kernel_rfl) (by kernel_rfl) rfl (by kernel_rfl) (by kernel_rfl) (by omega) (by omega) ?_
      intro a2 ea _
      refine From_end (by kernel_rfl) ?_; exact op_doneJ (d := some 20) (by kernel_rfl) ea rfl hJ
    · intro aa_ w_ ls vs rest_ hJ hi_ hc_ hp hF
      refine ⟨true, opok_guard (g0 := none) (by kernel_rfl) (by kernel_rfl), fun _ => ?_, fun h => Bool.noConfusion h⟩
      replace hF : Fr aa_ 28 [(20, (.pointer (some ((⟨g0, 0, none⟩ : Addr).add (((q : Int)).toNat * 1)))))] := hF.keep (keep := [20]) (by kernel_rfl)
      have f13 : ls 13 = false := notyet hc_ hi_ (n := 16) (by kernel_rfl)
      have f15 : ls 15 = false := notyet hc_ hi_ (n := 16) (by kernel_rfl)
      have hM_ := hJ
      simp only [f13, f15] at hM_
      refine From_load1 (by kernel_rfl : coreAt _ 0 = some (some 21, (Go.Op.load 3 (Go.Operand.tmp 20)), 3, none)) hF (by kernel_rfl) (by kernel_rfl) (k' := 1) rfl (ad := ((⟨g0, 0, none⟩ : Addr).add (((q : Int)).toNat * 1))) (v := (.int .i64 (m.getD (q : Int).toNat 0))) (by kernel_rfl) (by kernel_rfl) (rd_int (row_rd (hM_.get 0 rfl)) rfl (by omega) (by omega)) ?_
      intro a2 ea _
      refine From_end (by kernel_rfl) ?_; exact op_doneJ (d := some 21) (by kernel_rfl) ea rfl hJ
    · intro aa_ w_ ls vs rest_ hJ hi_ hc_ hp hF
      refine ⟨true, opok_guard (g0 := none) (by kernel_rfl) (by kernel_rfl), fun _ => ?_, fun h => Bool.noConfusion h⟩
      replace hF : Fr aa_ 28 [(0, (.slice (some ⟨g0, 0, none⟩) l.length c))] := hF.keep (keep := [0]) (by kernel_rfl)
      refine From_pure1 (by kernel_rfl : coreAt _ 0 = some (some 22, (Go.Op.move (Go.Operand.tmp 0)), 27, none)) hF (by kernel_rfl) (by kernel_rfl) (k' := 1) rfl (v := (.slice (some ⟨g0, 0, none⟩) l.length c)) (by kernel_rfl) ?_
      intro a2 ea _
      refine From_end (by kernel_rfl) ?_; exact op_doneJ (d := some 22) (by kernel_rfl) ea rfl hJ
    · intro aa_ w_ ls vs rest_ hJ hi_ hc_ hp hF
      refine ⟨true, opok_guard (g0 := none) (by kernel_rfl) (by kernel_rfl), fun _ => ?_, fun h => Bool.noConfusion h⟩
      replace hF : Fr aa_ 28 [(2, (.int .i64 (k : Int)))] := hF.keep (keep := [2]) (by kernel_rfl)
      refine From_pure1 (by kernel_rfl : coreAt _ 0 = some (some 23, (Go.Op.move (Go.Operand.tmp 2)), 3, none)) hF (by kernel_rfl) (by kernel_rfl) (k' := 1) rfl (v := (.int .i64 (k : Int))) (by kernel_rfl) ?_
      intro a2 ea _
      refine From_end (by kernel_rfl) ?_; exact op_doneJ (d := some 23) (by kernel_rfl) ea rfl hJ
    · intro aa_ w_ ls vs rest_ hJ hi_ hc_ hp hF
      refine ⟨true, opok_guard (g0 := none) (by kernel_rfl) (by kernel_rfl), fun _ => ?_, fun h => Bool.noConfusion h⟩
      replace hF : Fr aa_ 28 [(22, (.slice (some ⟨g0, 0, none⟩) l.length c)), (23, (.int .i64 (k : Int)))] := hF.keep (keep := [22, 23]) (by kernel_rfl)
      refine From_index (by kernel_rfl : coreAt _ 0 = some (some 24, (Go.Op.indexAddr 27 (Go.Operand.tmp 22) (Go.Operand.tmp 23)), 0, none)) hF (by kernel_rfl) (by kernel_rfl) (k' := 1) rfl (A := (some ⟨g0, 0, none⟩)) (ad := ⟨g0, 0, none⟩) (n := l.length) (cap := c) (e := 3) (size := 1) (kd := .i64) (i := (k : Int)) (by kernel_rfl) (by kernel_rfl) rfl (by kernel_rfl) (by kernel_rfl) (by omega) (by omega) ?_
      intro a2 ea _
      refine From_end (by kernel_rfl) ?_; exact op_doneJ (d := some 24) (by kernel_rfl) ea rfl hJ
    · intro aa_ w_ ls vs rest_ hJ hi_ hc_ hp hF
      refine ⟨true, opok_guard (g0 := none) (by kernel_rfl) (by kernel_rfl), fun _ => ?_, fun h => Bool.noConfusion h⟩
      replace hF : Fr aa_ 28 [(24, (.pointer (some ((⟨g0, 0, none⟩ : Addr).add (((k : Int)).toNat * 1)))))] := hF.keep (keep := [24]) (by kernel_rfl)
      have f13 : ls 13 = false := notyet hc_ hi_ (n := 16) (by kernel_rfl)
      have f15 : ls 15 = false := notyet hc_ hi_ (n := 16) (by kernel_rfl)
      have hM_ := hJ
      simp only [f13, f15] at hM_
      refine From_load1 (by kernel_rfl : coreAt _ 0 = some (some 25, (Go.Op.load 3 (Go.Operand.tmp 24)), 3, none)) hF (by kernel_rfl) (by kernel_rfl) (k' := 1) rfl (ad := ((⟨g0, 0, none⟩ : Addr).add (((k : Int)).toNat * 1))) (v := (.int .i64 (m.getD (k : Int).toNat 0))) (by kernel_rfl) (by kernel_rfl) (rd_int (row_rd (hM_.get 0 rfl)) rfl (by omega) (by omega)) ?_
      intro a2 ea _
      refine From_end (by kernel_rfl) ?_; exact op_doneJ (d := some 25) (by kernel_rfl) ea rfl hJ
    · intro aa_ w_ ls vs rest_ hJ hi_ hc_ hp hF
      refine ⟨true, opok_guard (g0 := none) (by kernel_rfl) (by kernel_rfl), fun _ => ?_, fun h => Bool.noConfusion h⟩
      replace hF : Fr aa_ 28 [(14, (.slice (some ⟨g0, 0, none⟩) l.length c)), (15, (.int .i64 (k : Int)))] := hF.keep (keep := [14, 15]) (by kernel_rfl)
      refine From_index (by kernel_rfl : coreAt _ 0 = some (some 26, (Go.Op.indexAddr 27 (Go.Operand.tmp 14) (Go.Operand.tmp 15)), 0, none)) hF (by kernel_rfl) (by kernel_rfl) (k' := 1) rfl (A := (some ⟨g0, 0, none⟩)) (ad := ⟨g0, 0, none⟩) (n := l.length) (cap := c) (e := 3) (size := 1) (kd := .i64) (i := (k : Int)) (by kernel_rfl) (by kernel_rfl) rfl (by kernel_rfl) (by kernel_rfl) (by omega) (by omega) ?_
      intro a2 ea _
      refine From_end (by kernel_rfl) ?_; exact op_doneJ (d := some 26) (by kernel_rfl) ea rfl hJ
    · intro aa_ w_ ls vs rest_ hJ hi_ hc_ hp hF
      refine ⟨true, opok_guard (g0 := none) (by kernel_rfl) (by kernel_rfl), fun _ => ?_, fun h => Bool.noConfusion h⟩
      replace hF : Fr aa_ 28 [(21, (.int .i64 (m.getD (q : Int).toNat 0))), (26, (.pointer (some ((⟨g0, 0, none⟩ : Addr).add (((k : Int)).toNat * 1)))))] := hF.keep (keep := [21, 26]) (by kernel_rfl)
      have f13 : ls 13 = false := hi_
      have f15 : ls 15 = false := notyet hc_ hi_ (n := 16) (by kernel_rfl)
      have hM_ := hJ
      simp only [f13, f15] at hM_
      refine From_store_row (by kernel_rfl : coreAt _ 0 = some (none, (Go.Op.store 3 (Go.Operand.tmp 26) (Go.Operand.tmp 21)), 0, none)) hF (by kernel_rfl) (by kernel_rfl) (k' := 1) rfl (ad := (⟨g0, 0, none⟩ : Addr)) (j := (((k : Int)).toNat * 1)) (e := 3) (size := 1) (n := l.length) (cap := c) (v := (.int .i64 (m.getD (q : Int).toNat 0))) (xs := (ints m)) (ad' := ((⟨g0, 0, none⟩ : Addr).add (((k : Int)).toNat * 1))) (by kernel_rfl) rfl (by kernel_rfl) (by kernel_rfl) rfl hM_ 0 rfl (by omega) ?_
      intro w2 hm2 _ a2 ea _
      refine From_end (by kernel_rfl) ?_; refine op_doneJ (d := none) (by kernel_rfl) ea rfl ?_
      show match ls 15 with | true => (Mem (Res.row 3 1 (some ⟨g0, 0, none⟩) l.length c (ints l)).fp w w2 [.row 3 1 (some ⟨g0, 0, none⟩) l.length c (((ints m).set (((k : Int)).toNat * 1) (.int .i64 (m.getD (q : Int).toNat 0))).set (((q : Int)).toNat * 1) (.int .i64 (m.getD (k : Int).toNat 0)))]) | false => (Mem (Res.row 3 1 (some ⟨g0, 0, none⟩) l.length c (ints l)).fp w w2 [.row 3 1 (some ⟨g0, 0, none⟩) l.length c ((ints m).set (((k : Int)).toNat * 1) (.int .i64 (m.getD (q : Int).toNat 0)))])
      rw [f15]
      exact hm2
    · intro aa_ w_ ls vs rest_ hJ hi_ hc_ hp hF
      refine ⟨true, opok_guard (g0 := none) (by kernel_rfl) (by kernel_rfl), fun _ => ?_, fun h => Bool.noConfusion h⟩
      replace hF : Fr aa_ 28 [(16, (.slice (some ⟨g0, 0, none⟩) l.length c)), (17, (.int .i64 (q : Int)))] := hF.keep (keep := [16, 17]) (by kernel_rfl)
      refine From_index (by kernel_rfl : coreAt _ 0 = some (some 27, (Go.Op.indexAddr 27 (Go.Operand.tmp 16) (Go.Operand.tmp 17)), 0, none)) hF (by kernel_rfl) (by kernel_rfl) (k' := 1) rfl (A := (some ⟨g0, 0, none⟩)) (ad := ⟨g0, 0, none⟩) (n := l.length) (cap := c) (e := 3) (size := 1) (kd := .i64) (i := (q : Int)) (by kernel_rfl) (by kernel_rfl) rfl (by kernel_rfl) (by kernel_rfl) (by omega) (by omega) ?_
      intro a2 ea _
      refine From_end (by kernel_rfl) ?_; exact op_doneJ (d := some 27) (by kernel_rfl) ea rfl hJ
    · intro aa_ w_ ls vs rest_ hJ hi_ hc_ hp hF
      refine ⟨true, opok_guard (g0 := none) (by kernel_rfl) (by kernel_rfl), fun _ => ?_, fun h => Bool.noConfusion h⟩
      replace hF : Fr aa_ 28 [(25, (.int .i64 (m.getD (k : Int).toNat 0))), (27, (.pointer (some ((⟨g0, 0, none⟩ : Addr).add (((q : Int)).toNat * 1)))))] := hF.keep (keep := [25, 27]) (by kernel_rfl)
      have f13 : ls 13 = true := donebefore hc_ (fun k hk => (hp k hk).1) (n := 16) (by kernel_rfl)
      have f15 : ls 15 = false := hi_
      have hM_ := hJ
      simp only [f13, f15] at hM_
      refine From_store_row (by kernel_rfl : coreAt _ 0 = some (none, (Go.Op.store 3 (Go.Operand.tmp 27) (Go.Operand.tmp 25)), 0, none)) hF (by kernel_rfl) (by kernel_rfl) (k' := 1) rfl (ad := (⟨g0, 0, none⟩ : Addr)) (j := (((q : Int)).toNat * 1)) (e := 3) (size := 1) (n := l.length) (cap := c) (v := (.int .i64 (m.getD (k : Int).toNat 0))) (xs := ((ints m).set (((k : Int)).toNat * 1) (.int .i64 (m.getD (q : Int).toNat 0)))) (ad' := ((⟨g0, 0, none⟩ : Addr).add (((q : Int)).toNat * 1))) (by kernel_rfl) rfl (by kernel_rfl) (by kernel_rfl) rfl hM_ 0 rfl (by omega) ?_
      intro w2 hm2 _ a2 ea _
      refine From_end (by kernel_rfl) ?_; refine op_doneJ (d := none) (by kernel_rfl) ea rfl ?_
      show Mem (Res.row 3 1 (some ⟨g0, 0, none⟩) l.length c (ints l)).fp w w2 [.row 3 1 (some ⟨g0, 0, none⟩) l.length c (((ints m).set (((k : Int)).toNat * 1) (.int .i64 (m.getD (q : Int).toNat 0))).set (((q : Int)).toNat * 1) (.int .i64 (m.getD (k : Int).toNat 0)))]
      exact hm2
    intro a15 w17 ls vs hall hM18 hv hF16
    simp only [show ls 15 = true from hall 15 (by decide)] at hM18
    replace hF16 : Fr a15 28 [(0, (.slice (some ⟨g0, 0, none⟩) l.length c)), (2, (.int .i64 (k : Int))), (3, (.int .i64 (q : Int)))] := hF16.keep (keep := [0, 2, 3]) (by kernel_rfl)
    clear hall hv hF14 a13 hM8; clear vs ls
    refine W_region (by kernel_rfl) ?_   -- region 2
    refine From_pure 1 1 [0, 3, 10] hF16 (env' := [(0, (.slice (some ⟨g0, 0, none⟩) l.length c)), (3, (.int .i64 (q : Int))), (10, (.int .i64 (k : Int)))]) (by kernel_rfl) rfl ?_
    intro a19 hF20; clear hF16 a15
    refine From_arith (by kernel_rfl : coreAt _ 1 = some (some 11, (Go.Op.binOp Go.BinOp.add 3 (Go.Operand.tmp 10) (Go.Operand.const (Go.Value.int Go.IntKind.i64 1)) 3), 3, none)) hF20 (by kernel_rfl) (by kernel_rfl) (k' := 2) rfl (i := (k : Int)) (j := 1) (z := ((k : Int) + 1)) (by kernel_rfl) (by kernel_rfl) rfl (by omega) (by omega) ?_
    intro a21 ea hF22; clear ea hF20 a19
    replace hF22 : Fr a21 28 [(0, (.slice (some ⟨g0, 0, none⟩) l.length c)), (3, (.int .i64 (q : Int))), (11, (.int .i64 ((k : Int) + 1)))] := hF22.keep (keep := [0, 3, 11]) (by kernel_rfl)
    refine From_pure 1 3 [0, 11, 12] hF22 (env' := [(0, (.slice (some ⟨g0, 0, none⟩) l.length c)), (11, (.int .i64 ((k : Int) + 1))), (12, (.int .i64 (q : Int)))]) (by kernel_rfl) rfl ?_
    intro a23 hF24; clear hF22 a21
    refine From_arith (by kernel_rfl : coreAt _ 3 = some (some 13, (Go.Op.binOp Go.BinOp.sub 3 (Go.Operand.tmp 12) (Go.Operand.const (Go.Value.int Go.IntKind.i64 1)) 3), 3, none)) hF24 (by kernel_rfl) (by kernel_rfl) (k' := 4) rfl (i := (q : Int)) (j := 1) (z := ((q : Int) - 1)) (by kernel_rfl) (by kernel_rfl) rfl (by omega) (by omega) ?_
    intro a25 ea hF26; clear ea hF24 a23
    replace hF26 : Fr a25 28 [(0, (.slice (some ⟨g0, 0, none⟩) l.length c)), (11, (.int .i64 ((k : Int) + 1))), (13, (.int .i64 ((q : Int) - 1)))] := hF26.keep (keep := [0, 11, 13]) (by kernel_rfl)
    refine From_pure 2 6 [0, 2, 3] hF26 (env' := [(0, (.slice (some ⟨g0, 0, none⟩) l.length c)), (2, (.int .i64 ((k : Int) + 1))), (3, (.int .i64 ((q : Int) - 1)))]) (by kernel_rfl) rfl ?_
    intro a27 hF28; clear hF26 a25
    refine From_end (by kernel_rfl) ?_
    replace hF28 : Fr a27 28 [(0, .slice (some ⟨g0, 0, none⟩) l.length c), (2, .int .i64 ((k + 1 : Nat) : Int)), (3, .int .i64 ((l.length : Int) - 1 - ((k + 1 : Nat) : Int)))] := by rw [show ((l.length : Int) - 1 - ((k + 1 : Nat) : Int)) = (q : Int) - 1 by omega]; exact hF28.keep (keep := [0, 2, 3]) (by kernel_rfl)
    exact ⟨l.length - (k + 1), by omega, k + 1, (m.set k (m.getD q 0)).set q (m.getD k 0), rfl, hF28.keep (keep := [0, 2, 3]) (by kernel_rfl), (hM18.cast (by rw [ints_set, ints_set]; simp only [Int.toNat_natCast, Nat.mul_one])), by omega, swapped_next hs (by omega)⟩

end Go.Proofs.Ytlkpkinmmjcbcaa
