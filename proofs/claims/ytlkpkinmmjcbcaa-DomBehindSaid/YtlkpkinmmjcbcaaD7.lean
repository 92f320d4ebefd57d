/-
  Walks of layer 18. Printed by wip/gen/dom.py.
-/
import Derived.Test.YtlkpkinmmjcbcaaD6
import Derived.Test.YtlkpkinmmjcbcaaM2
namespace Go.Proofs.Ytlkpkinmmjcbcaa
open Go.Mor

set_option maxRecDepth 10000 in
theorem over_c (nm wk pa va : Value) (A : Option Addr) (c : Nat) (bs : List SB) (w : World) (hm : bs.length ≤ 1000000) (hA : RO noS w (.blocks A bs)) :
    Calls Try.prog 31 #[(.agg #[nm, wk, pa, va, (.slice A bs.length c)])] w (Ret fun v w' => ∃ A' c' rows, v = .slice A' bs.length c' ∧ FamOf Value.bool rows (overL bs) ∧ Mem noS w w' [.fam 4 rows, .row 33 1 A' bs.length c' (slv rows)]) := by
  refine enter (N := 54) (vs := [(.agg #[nm, wk, pa, va, (.slice A bs.length c)])]) Try.func31 (by kernel_rfl) (by kernel_rfl) (by kernel_rfl) ?_
  intro a hF
  have hM := Mem.init w
  refine W_seq (by kernel_rfl) ?_
  refine W_region (by kernel_rfl) ?_   -- region 0
  refine From_box (by kernel_rfl : coreAt _ 0 = some (some 1, (Go.Op.box 24 (Go.Operand.tmp 0)), 0, none)) hF (by kernel_rfl) (by kernel_rfl) (k' := 1) rfl (v := (.agg #[nm, wk, pa, va, (.slice A bs.length c)])) (cs := [nm, wk, pa, va, (.slice A bs.length c)]) (by kernel_rfl) rfl hM ?_
  intro b1 w2 hb1 _ hM3 _ a4 ea hF5; clear ea hF a
  change Mem noS w w2 [.blk b1 24 [nm, wk, pa, va, (.slice A bs.length c)]] at hM3
  clear hM
  replace hF5 : Fr a4 54 [(1, (.pointer (some ⟨b1, 0, none⟩)))] := hF5.keep (keep := [1]) (by kernel_rfl)
  refine From_pure 1 2 [1] hF5 (env' := [(1, (.pointer (some ⟨b1, 0, none⟩)))]) (by kernel_rfl) rfl ?_
  intro a6 hF7; clear hF5 a4
  refine From_end (by kernel_rfl) ?_
  refine W_seq (by kernel_rfl) ?_
  refine W_region (by kernel_rfl) ?_   -- region 1
  refine From_loadS (by kernel_rfl : coreAt _ 0 = some (some 9, (Go.Op.load 24 (Go.Operand.tmp 1)), 24, none)) hF7 (by kernel_rfl) (by kernel_rfl) (k' := 1) rfl (ad := ⟨b1, 0, none⟩) (vs := [nm, wk, pa, va, (.slice A bs.length c)]) (by kernel_rfl) (by kernel_rfl) (blk_cells (hM3.get 0 rfl)) ?_
  intro a8 ea hF9; clear ea hF7 a6
  replace hF9 : Fr a8 54 [(1, (.pointer (some ⟨b1, 0, none⟩))), (9, (.agg #[nm, wk, pa, va, (.slice A bs.length c)]))] := hF9.keep (keep := [1, 9]) (by kernel_rfl)
  refine From_call (by kernel_rfl : coreAt _ 1 = some (some 10, (Go.Op.call { callee := (Go.Callee.value (Go.Operand.func 18)), args := #[(Go.Operand.tmp 9), (Go.Operand.const (Go.Value.int Go.IntKind.i64 (-1)))], argTypes := #[24, 3] }), 33, none)) hF9 (by kernel_rfl) (by kernel_rfl) (k' := 2) rfl (f := 18) (vs := [(.agg #[nm, wk, pa, va, (.slice A bs.length c)]), (.int .i64 (-1))]) (cap := []) (by kernel_rfl) (by kernel_rfl) (by kernel_rfl) (walk_c _ _ _ _ A c bs (-1) w2 hm (hA.at_ hM3)) ?_
  rintro _ w12 ⟨A10, c11, rfl, hM13x⟩ a14 ea hF15; clear ea hF9 a8
  have hM13 : Mem noS w w12 [.blk b1 24 [nm, wk, pa, va, (.slice A bs.length c)], .row 4 1 A10 bs.length c11 (bools (walkL bs (-1)))] := hM3.call hM13x
  clear hM13x hM3
  replace hF15 : Fr a14 54 [(1, (.pointer (some ⟨b1, 0, none⟩))), (10, (.slice A10 bs.length c11))] := hF15.keep (keep := [1, 10]) (by kernel_rfl)
  refine From_pure 1 3 [1, 3] hF15 (env' := [(1, (.pointer (some ⟨b1, 0, none⟩))), (3, (.slice A10 bs.length c11))]) (by kernel_rfl) rfl ?_
  intro a16 hF17; clear hF15 a14
  refine From_end (by kernel_rfl) ?_
  refine W_seq (by kernel_rfl) ?_
  refine W_region (by kernel_rfl) ?_   -- region 2
  refine From_pure 1 1 [1, 3, 4] hF17 (env' := [(1, (.pointer (some ⟨b1, 0, none⟩))), (3, (.slice A10 bs.length c11)), (4, (.slice none 0 0))]) (by kernel_rfl) rfl ?_
  intro a18 hF19; clear hF17 a16
  refine From_end (by kernel_rfl) ?_
  refine W_seq (by kernel_rfl) ?_
  refine W_seq (by kernel_rfl) ?_
  refine W_region (by kernel_rfl) ?_   -- region 3
  refine From_pure 1 1 [1, 3, 4, 5] hF19 (env' := [(1, (.pointer (some ⟨b1, 0, none⟩))), (3, (.slice A10 bs.length c11)), (4, (.slice none 0 0)), (5, (.int .i64 0))]) (by kernel_rfl) rfl ?_
  intro a20 hF21; clear hF19 a18
  refine From_end (by kernel_rfl) ?_
  refine W_block (id := 0) (by kernel_rfl) ?_
  have hlo := overL_len bs
  refine W_loop (by kernel_rfl) (fun n_ a_ w_ => ∃ (d : Nat) (rows : List RowV) (A2 : Option Addr) (c2 : Nat), n_ = bs.length - d ∧ Fr a_ 54 [(1, (.pointer (some ⟨b1, 0, none⟩))), (3, (.slice A10 bs.length c11)), (4, (.slice A2 d c2)), (5, (.int .i64 (d : Int)))] ∧ Mem noS w w_ [.fam 4 rows, .blk b1 24 [nm, wk, pa, va, (.slice A bs.length c)], .row 4 1 A10 bs.length c11 (bools (walkL bs (-1))), .row 33 1 A2 d c2 (slv rows)] ∧ (d ≤ bs.length) ∧ (FamOf Value.bool rows ((overL bs).take d))) (n := _) ⟨0, [], none, 0, rfl, hF21.keep (keep := [1, 3, 4, 5]) (by kernel_rfl), (((((hM13.pick [true, true] rfl).call (Mem.nilfam _ 4 0)).call (Mem.nilrow _ 33 1)).front 2 rfl).cast rfl), by omega, rfl⟩ ?_
  clear hF21 a20 hM13; rintro n a24 w22 ⟨d, rows, A2, c2, rfl, hF25, hM23, hd, hf⟩
  refine W_seq (by kernel_rfl) ?_
  refine W_seq (by kernel_rfl) ?_
  refine W_region (by kernel_rfl) ?_   -- region 4
  refine From_pure 2 2 [1, 3, 4, 5, 11, 12] hF25 (env' := [(1, (.pointer (some ⟨b1, 0, none⟩))), (3, (.slice A10 bs.length c11)), (4, (.slice A2 d c2)), (5, (.int .i64 (d : Int))), (11, (.int .i64 (d : Int))), (12, (.pointer (some ⟨b1, 4, none⟩)))]) (by kernel_rfl) rfl ?_
  intro a26 hF27; clear hF25 a24
  refine From_load1 (by kernel_rfl : coreAt _ 2 = some (some 13, (Go.Op.load 22 (Go.Operand.tmp 12)), 22, none)) hF27 (by kernel_rfl) (by kernel_rfl) (k' := 3) rfl (ad := ⟨b1, 4, none⟩) (v := (.slice A bs.length c)) (by kernel_rfl) (by kernel_rfl) (blk_cell (hM23.get 1 rfl) rfl) ?_
  intro a28 ea hF29; clear ea hF27 a26
  replace hF29 : Fr a28 54 [(1, (.pointer (some ⟨b1, 0, none⟩))), (3, (.slice A10 bs.length c11)), (4, (.slice A2 d c2)), (5, (.int .i64 (d : Int))), (11, (.int .i64 (d : Int))), (13, (.slice A bs.length c))] := hF29.keep (keep := [1, 3, 4, 5, 11, 13]) (by kernel_rfl)
  refine From_pure 1 4 [1, 3, 4, 5, 11, 14] hF29 (env' := [(1, (.pointer (some ⟨b1, 0, none⟩))), (3, (.slice A10 bs.length c11)), (4, (.slice A2 d c2)), (5, (.int .i64 (d : Int))), (11, (.int .i64 (d : Int))), (14, (.int .i64 ((bs.length : Nat) : Int)))]) (by kernel_rfl) rfl ?_
  intro a30 hF31; clear hF29 a28
  refine From_cmp (by kernel_rfl : coreAt _ 4 = some (some 15, (Go.Op.binOp Go.BinOp.lss 3 (Go.Operand.tmp 11) (Go.Operand.tmp 14) 3), 4, none)) hF31 (by kernel_rfl) (by kernel_rfl) (k' := 5) rfl (kd := .i64) (i := (d : Int)) (j := ((bs.length : Nat) : Int)) (by kernel_rfl) (by kernel_rfl) rfl ?_
  intro Bd hBd a32 ea hF33; clear ea hF31 a30
  replace hF33 : Fr a32 54 [(1, (.pointer (some ⟨b1, 0, none⟩))), (3, (.slice A10 bs.length c11)), (4, (.slice A2 d c2)), (5, (.int .i64 (d : Int))), (15, (.bool Bd))] := hF33.keep (keep := [1, 3, 4, 5, 15]) (by kernel_rfl)
  refine From_end (by kernel_rfl) ?_
  cases Bd
  · have cd : ¬ ((d : Int) < ((bs.length : Nat) : Int)) := by simpa using hBd
    refine W_cond (t := 15) (B := false) (by kernel_rfl) hF33 (by kernel_rfl) (fun t => Bool.noConfusion t) (fun _ => ?_)
    refine W_exit (id := 0) (by kernel_rfl) ?_
    refine inB_hit rfl ?_
    refine W_seq (by kernel_rfl) ?_
    refine W_region (by kernel_rfl) ?_   -- region 14
    refine From_pure 2 2 [2] hF33 (env' := [(2, (.slice A2 d c2))]) (by kernel_rfl) rfl ?_
    intro a34 hF35; clear hF33 a32
    refine From_end (by kernel_rfl) ?_
    refine W_ret (by kernel_rfl) ?_
    refine out1 (v := (.slice A2 d c2)) hF35 rfl (by kernel_rfl) ?_
    refine ⟨_, rfl, ?_⟩
    obtain rfl : d = bs.length := by omega
    have hM36 : Mem noS w w22 [.fam 4 rows, .row 33 1 A2 bs.length c2 (slv rows)] := (((hM23.front 3 rfl).front 1 rfl).pick [true, true, false, false] rfl)
    clear hM23
    exact ⟨_, _, rows, rfl, hf.all (by omega), hM36⟩
  · have cd : (d : Int) < ((bs.length : Nat) : Int) := by simpa using hBd
    refine W_cond (t := 15) (B := true) (by kernel_rfl) hF33 (by kernel_rfl) (fun _ => ?_) (fun t => Bool.noConfusion t)
    refine W_skip (by kernel_rfl) ?_
    refine W_seq (by kernel_rfl) ?_
    refine W_block (id := 1) (by kernel_rfl) ?_
    refine W_seq (by kernel_rfl) ?_
    refine W_region (by kernel_rfl) ?_   -- region 6
    have hdn : d < bs.length := by omega
    refine From_pure 1 1 [1, 3, 4, 5, 18] hF33 (env' := [(1, (.pointer (some ⟨b1, 0, none⟩))), (3, (.slice A10 bs.length c11)), (4, (.slice A2 d c2)), (5, (.int .i64 (d : Int))), (18, (.pointer (some ⟨b1, 4, none⟩)))]) (by kernel_rfl) rfl ?_
    intro a37 hF38; clear hF33 a32
    refine From_load1 (by kernel_rfl : coreAt _ 1 = some (some 19, (Go.Op.load 22 (Go.Operand.tmp 18)), 22, none)) hF38 (by kernel_rfl) (by kernel_rfl) (k' := 2) rfl (ad := ⟨b1, 4, none⟩) (v := (.slice A bs.length c)) (by kernel_rfl) (by kernel_rfl) (blk_cell (hM23.get 1 rfl) rfl) ?_
    intro a39 ea hF40; clear ea hF38 a37
    replace hF40 : Fr a39 54 [(1, (.pointer (some ⟨b1, 0, none⟩))), (3, (.slice A10 bs.length c11)), (4, (.slice A2 d c2)), (5, (.int .i64 (d : Int))), (19, (.slice A bs.length c))] := hF40.keep (keep := [1, 3, 4, 5, 19]) (by kernel_rfl)
    refine From_pure 1 3 [1, 3, 4, 5, 20] hF40 (env' := [(1, (.pointer (some ⟨b1, 0, none⟩))), (3, (.slice A10 bs.length c11)), (4, (.slice A2 d c2)), (5, (.int .i64 (d : Int))), (20, (.int .i64 ((bs.length : Nat) : Int)))]) (by kernel_rfl) rfl ?_
    intro a41 hF42; clear hF40 a39
    refine From_make1 (by kernel_rfl : coreAt _ 3 = some (some 21, (Go.Op.makeSlice 33 (Go.Operand.tmp 20) (Go.Operand.tmp 20)), 33, none)) hF42 (by kernel_rfl) (by kernel_rfl) (k' := 4) rfl (e := 4) (bytes := 1) (z := (.bool false)) (n := bs.length) (i := ((bs.length : Nat) : Int)) (by kernel_rfl) (by kernel_rfl) rfl (by kernel_rfl) (by kernel_rfl) rfl (by omega) (by simp only [maxLen]; omega) hM23 ?_
    intro b43 w44 hb43 _ hM45 _ a46 ea hF47; clear ea hF42 a41
    change Mem noS w w44 [.fam 4 rows, .blk b1 24 [nm, wk, pa, va, (.slice A bs.length c)], .row 4 1 A10 bs.length c11 (bools (walkL bs (-1))), .row 33 1 A2 d c2 (slv rows), .row 4 1 (some ⟨b43, 0, none⟩) bs.length bs.length (List.replicate bs.length (.bool false))] at hM45
    clear hM23
    replace hF47 : Fr a46 54 [(1, (.pointer (some ⟨b1, 0, none⟩))), (3, (.slice A10 bs.length c11)), (4, (.slice A2 d c2)), (5, (.int .i64 (d : Int))), (21, (.slice (some ⟨b43, 0, none⟩) bs.length bs.length))] := hF47.keep (keep := [1, 3, 4, 5, 21]) (by kernel_rfl)
    refine From_pure 1 5 [1, 3, 4, 5, 6] hF47 (env' := [(1, (.pointer (some ⟨b1, 0, none⟩))), (3, (.slice A10 bs.length c11)), (4, (.slice A2 d c2)), (5, (.int .i64 (d : Int))), (6, (.slice (some ⟨b43, 0, none⟩) bs.length bs.length))]) (by kernel_rfl) rfl ?_
    intro a48 hF49; clear hF47 a46
    refine From_end (by kernel_rfl) ?_
    refine W_seq (by kernel_rfl) ?_
    refine W_seq (by kernel_rfl) ?_
    refine W_region (by kernel_rfl) ?_   -- region 7
    have hM50 : Mem noS w w44 [.fam 4 rows, .blk b1 24 [nm, wk, pa, va, (.slice A bs.length c)], .row 4 1 A10 bs.length c11 (bools (walkL bs (-1))), .row 33 1 A2 d c2 (slv rows), .row 4 1 (some ⟨b43, 0, none⟩) bs.length bs.length (bools (List.replicate bs.length false))] := hM45.cast (by simp [bools])
    clear hM45
    refine From_pure 2 2 [1, 3, 4, 5, 6, 22, 23] hF49 (env' := [(1, (.pointer (some ⟨b1, 0, none⟩))), (3, (.slice A10 bs.length c11)), (4, (.slice A2 d c2)), (5, (.int .i64 (d : Int))), (6, (.slice (some ⟨b43, 0, none⟩) bs.length bs.length)), (22, (.slice A10 bs.length c11)), (23, (.int .i64 (d : Int)))]) (by kernel_rfl) rfl ?_
    intro a51 hF52; clear hF49 a48
    obtain ⟨g54, rfl⟩ := row_some (hM50.get 2 rfl) (by omega)
    refine From_index (by kernel_rfl : coreAt _ 2 = some (some 24, (Go.Op.indexAddr 33 (Go.Operand.tmp 22) (Go.Operand.tmp 23)), 0, none)) hF52 (by kernel_rfl) (by kernel_rfl) (k' := 3) rfl (A := (some ⟨g54, 0, none⟩)) (ad := ⟨g54, 0, none⟩) (n := bs.length) (cap := c11) (e := 4) (size := 1) (kd := .i64) (i := (d : Int)) (by kernel_rfl) (by kernel_rfl) rfl (by kernel_rfl) (by kernel_rfl) (by omega) (by omega) ?_
    intro a55 ea hF56; clear ea hF52 a51
    replace hF56 : Fr a55 54 [(1, (.pointer (some ⟨b1, 0, none⟩))), (3, (.slice (some ⟨g54, 0, none⟩) bs.length c11)), (4, (.slice A2 d c2)), (5, (.int .i64 (d : Int))), (6, (.slice (some ⟨b43, 0, none⟩) bs.length bs.length)), (24, (.pointer (some ((⟨g54, 0, none⟩ : Addr).add (((d : Int)).toNat * 1)))))] := hF56.keep (keep := [1, 3, 4, 5, 6, 24]) (by kernel_rfl)
    refine From_load1 (by kernel_rfl : coreAt _ 3 = some (some 25, (Go.Op.load 4 (Go.Operand.tmp 24)), 4, none)) hF56 (by kernel_rfl) (by kernel_rfl) (k' := 4) rfl (ad := ((⟨g54, 0, none⟩ : Addr).add (((d : Int)).toNat * 1))) (v := (.bool ((walkL bs (-1)).getD d false))) (by kernel_rfl) (by kernel_rfl) (rd_get1 (row_rd (hM50.get 2 rfl)) rfl (bools_get (by rw [walkL_len]; omega))) ?_
    intro a57 ea hF58; clear ea hF56 a55
    replace hF58 : Fr a57 54 [(1, (.pointer (some ⟨b1, 0, none⟩))), (3, (.slice (some ⟨g54, 0, none⟩) bs.length c11)), (4, (.slice A2 d c2)), (5, (.int .i64 (d : Int))), (6, (.slice (some ⟨b43, 0, none⟩) bs.length bs.length)), (25, (.bool ((walkL bs (-1)).getD d false)))] := hF58.keep (keep := [1, 3, 4, 5, 6, 25]) (by kernel_rfl)
    obtain ⟨Ball, hBall⟩ : ∃ B, B = (walkL bs (-1)).getD d false := ⟨_, rfl⟩
    rw [← hBall] at hF58
    replace hF58 : Fr a57 54 [(1, (.pointer (some ⟨b1, 0, none⟩))), (3, (.slice (some ⟨g54, 0, none⟩) bs.length c11)), (4, (.slice A2 d c2)), (5, (.int .i64 (d : Int))), (6, (.slice (some ⟨b43, 0, none⟩) bs.length bs.length)), (25, (.bool Ball))] := hF58.keep (keep := [1, 3, 4, 5, 6, 25]) (by kernel_rfl)
    refine From_end (by kernel_rfl) ?_
    cases Ball
    · have call : ((walkL bs (-1)).getD d false) = false := hBall.symm
      refine W_cond (t := 25) (B := false) (by kernel_rfl) hF58 (by kernel_rfl) (fun t => Bool.noConfusion t) (fun _ => ?_)
      refine W_skip (by kernel_rfl) ?_
      refine W_region (by kernel_rfl) ?_   -- region 13
      refine From_pure 2 2 [1, 3, 5, 49, 50] hF58 (env' := [(1, (.pointer (some ⟨b1, 0, none⟩))), (3, (.slice (some ⟨g54, 0, none⟩) bs.length c11)), (5, (.int .i64 (d : Int))), (49, (.slice A2 d c2)), (50, (.slice (some ⟨b43, 0, none⟩) bs.length bs.length))]) (by kernel_rfl) rfl ?_
      intro a59 hF60; clear hF58 a57
      refine From_buildSlice (by kernel_rfl : coreAt _ 2 = some (some 51, (Go.Op.buildSlice 57 1 #[(0, (Go.Operand.tmp 50))]), 57, none)) hF60 (by kernel_rfl) (by kernel_rfl) (k' := 3) rfl (e := 33) (size := 1) (zs := [(.slice none 0 0)]) (vs := [(0, (.slice (some ⟨b43, 0, none⟩) bs.length bs.length))]) (cs := [(.slice (some ⟨b43, 0, none⟩) bs.length bs.length)]) (by kernel_rfl) (by kernel_rfl) (by kernel_rfl) (by kernel_rfl) (by kernel_rfl) (by kernel_rfl) hM50 ?_
      intro b61 w62 hb61 _ hM63 _ a64 ea hF65; clear ea hF60 a59
      change Mem noS w w62 [.fam 4 rows, .blk b1 24 [nm, wk, pa, va, (.slice A bs.length c)], .row 4 1 (some ⟨g54, 0, none⟩) bs.length c11 (bools (walkL bs (-1))), .row 33 1 A2 d c2 (slv rows), .row 4 1 (some ⟨b43, 0, none⟩) bs.length bs.length (bools (List.replicate bs.length false)), .row 33 1 (some ⟨b61, 0, none⟩) 1 1 [(.slice (some ⟨b43, 0, none⟩) bs.length bs.length)]] at hM63
      clear hM50
      replace hF65 : Fr a64 54 [(1, (.pointer (some ⟨b1, 0, none⟩))), (3, (.slice (some ⟨g54, 0, none⟩) bs.length c11)), (5, (.int .i64 (d : Int))), (49, (.slice A2 d c2)), (51, (.slice (some ⟨b61, 0, none⟩) 1 1))] := hF65.keep (keep := [1, 3, 5, 49, 51]) (by kernel_rfl)
      refine From_append (by kernel_rfl : coreAt _ 3 = some (some 52, (Go.Op.call { callee := (Go.Callee.builtin Go.Builtin.append), args := #[(Go.Operand.tmp 49), (Go.Operand.tmp 51)], argTypes := #[57, 57] }), 57, none)) hF65 (by kernel_rfl) (by kernel_rfl) (k' := 4) rfl (e := 33) (size := 1) (bytes := 24) (z := (.slice none 0 0)) (by kernel_rfl) (by kernel_rfl) (by kernel_rfl) (by kernel_rfl) (A := A2) (B := (some ⟨b61, 0, none⟩)) (n := d) (cap := c2) (m := 1) (cap' := 1) (xs := (slv rows)) (news := [(.slice (some ⟨b43, 0, none⟩) bs.length bs.length)]) (by kernel_rfl) (by kernel_rfl) hM63 3 rfl (row_rd (hM63.get 5 rfl)) rfl (by simp [Value.oneCell']) (by omega) (by simp only [maxLen]; omega) ?_
      intro A66 c67 w68 hM69 _ a70 ea hF71; clear ea hF65 a64
      change Mem noS w w68 [.fam 4 rows, .blk b1 24 [nm, wk, pa, va, (.slice A bs.length c)], .row 4 1 (some ⟨g54, 0, none⟩) bs.length c11 (bools (walkL bs (-1))), .row 33 1 A66 (d + 1) c67 ((slv rows) ++ [(.slice (some ⟨b43, 0, none⟩) bs.length bs.length)]), .row 4 1 (some ⟨b43, 0, none⟩) bs.length bs.length (bools (List.replicate bs.length false)), .row 33 1 (some ⟨b61, 0, none⟩) 1 1 [(.slice (some ⟨b43, 0, none⟩) bs.length bs.length)]] at hM69
      clear hM63
      replace hM69 : Mem noS w w68 [.fam 4 rows, .blk b1 24 [nm, wk, pa, va, (.slice A bs.length c)], .row 4 1 (some ⟨g54, 0, none⟩) bs.length c11 (bools (walkL bs (-1))), .row 33 1 A66 (d + 1) c67 ((slv rows) ++ [(.slice (some ⟨b43, 0, none⟩) bs.length bs.length)]), .row 4 1 (some ⟨b43, 0, none⟩) bs.length bs.length (bools (List.replicate bs.length false))] := hM69.pick [true, true, true, true, true, false] rfl
      replace hF71 : Fr a70 54 [(1, (.pointer (some ⟨b1, 0, none⟩))), (3, (.slice (some ⟨g54, 0, none⟩) bs.length c11)), (5, (.int .i64 (d : Int))), (52, (.slice A66 (d + 1) c67))] := hF71.keep (keep := [1, 3, 5, 52]) (by kernel_rfl)
      refine From_pure 1 5 [1, 3, 4, 5] hF71 (env' := [(1, (.pointer (some ⟨b1, 0, none⟩))), (3, (.slice (some ⟨g54, 0, none⟩) bs.length c11)), (4, (.slice A66 (d + 1) c67)), (5, (.int .i64 (d : Int)))]) (by kernel_rfl) rfl ?_
      intro a72 hF73; clear hF71 a70
      refine From_end (by kernel_rfl) ?_
      refine W_region (by kernel_rfl) ?_   -- region 5
      refine From_pure 1 1 [1, 3, 4, 16] hF73 (env' := [(1, (.pointer (some ⟨b1, 0, none⟩))), (3, (.slice (some ⟨g54, 0, none⟩) bs.length c11)), (4, (.slice A66 (d + 1) c67)), (16, (.int .i64 (d : Int)))]) (by kernel_rfl) rfl ?_
      intro a74 hF75; clear hF73 a72
      refine From_arith (by kernel_rfl : coreAt _ 1 = some (some 17, (Go.Op.binOp Go.BinOp.add 3 (Go.Operand.tmp 16) (Go.Operand.const (Go.Value.int Go.IntKind.i64 1)) 3), 3, none)) hF75 (by kernel_rfl) (by kernel_rfl) (k' := 2) rfl (i := (d : Int)) (j := 1) (z := ((d : Int) + 1)) (by kernel_rfl) (by kernel_rfl) rfl (by omega) (by omega) ?_
      intro a76 ea hF77; clear ea hF75 a74
      replace hF77 : Fr a76 54 [(1, (.pointer (some ⟨b1, 0, none⟩))), (3, (.slice (some ⟨g54, 0, none⟩) bs.length c11)), (4, (.slice A66 (d + 1) c67)), (17, (.int .i64 ((d : Int) + 1)))] := hF77.keep (keep := [1, 3, 4, 17]) (by kernel_rfl)
      refine From_pure 1 3 [1, 3, 4, 5] hF77 (env' := [(1, (.pointer (some ⟨b1, 0, none⟩))), (3, (.slice (some ⟨g54, 0, none⟩) bs.length c11)), (4, (.slice A66 (d + 1) c67)), (5, (.int .i64 ((d : Int) + 1)))]) (by kernel_rfl) rfl ?_
      intro a78 hF79; clear hF77 a76
      refine From_end (by kernel_rfl) ?_
      have hM80 : Mem noS w w68 [.fam 4 rows, .row 4 1 (some ⟨b43, 0, none⟩) bs.length bs.length (bools (List.replicate bs.length false)), .blk b1 24 [nm, wk, pa, va, (.slice A bs.length c)], .row 4 1 (some ⟨g54, 0, none⟩) bs.length c11 (bools (walkL bs (-1))), .row 33 1 A66 (d + 1) c67 ((slv rows) ++ [(.slice (some ⟨b43, 0, none⟩) bs.length bs.length)])] := (((((hM69.front 3 rfl).front 3 rfl).front 3 rfl).front 4 rfl).front 4 rfl)
      clear hM69
      have hM81 : Mem noS w w68 [.fam 4 (rows ++ [⟨(some ⟨b43, 0, none⟩), bs.length, bs.length, bools (List.replicate bs.length false)⟩]), .blk b1 24 [nm, wk, pa, va, (.slice A bs.length c)], .row 4 1 (some ⟨g54, 0, none⟩) bs.length c11 (bools (walkL bs (-1))), .row 33 1 A66 (d + 1) c67 ((slv rows) ++ [(.slice (some ⟨b43, 0, none⟩) bs.length bs.length)])] := hM80.push
      clear hM80
      have hM82 : Mem noS w w68 [.fam 4 (rows ++ [⟨(some ⟨b43, 0, none⟩), bs.length, bs.length, bools (List.replicate bs.length false)⟩]), .blk b1 24 [nm, wk, pa, va, (.slice A bs.length c)], .row 4 1 (some ⟨g54, 0, none⟩) bs.length c11 (bools (walkL bs (-1))), .row 33 1 A66 (d + 1) c67 (slv (rows ++ [⟨(some ⟨b43, 0, none⟩), bs.length, bs.length, bools (List.replicate bs.length false)⟩]))] := hM81.cast (by rw [slv_append])
      clear hM81
      exact ⟨bs.length - (d + 1), by omega, d + 1, (rows ++ [⟨(some ⟨b43, 0, none⟩), bs.length, bs.length, bools (List.replicate bs.length false)⟩]), A66, c67, rfl, hF79.keep (keep := [1, 3, 4, 5]) (by kernel_rfl), hM82, by omega, hf.next (overL_row hdn (over_none (by rw [← walkL_get hdn]; exact call))) (by simp) rfl⟩
    · have call : ((walkL bs (-1)).getD d false) = true := hBall.symm
      refine W_cond (t := 25) (B := true) (by kernel_rfl) hF58 (by kernel_rfl) (fun _ => ?_) (fun t => Bool.noConfusion t)
      refine W_seq (by kernel_rfl) ?_
      refine W_region (by kernel_rfl) ?_   -- region 8
      refine From_loadS (by kernel_rfl : coreAt _ 0 = some (some 26, (Go.Op.load 24 (Go.Operand.tmp 1)), 24, none)) hF58 (by kernel_rfl) (by kernel_rfl) (k' := 1) rfl (ad := ⟨b1, 0, none⟩) (vs := [nm, wk, pa, va, (.slice A bs.length c)]) (by kernel_rfl) (by kernel_rfl) (blk_cells (hM50.get 1 rfl)) ?_
      intro a83 ea hF84; clear ea hF58 a57
      replace hF84 : Fr a83 54 [(1, (.pointer (some ⟨b1, 0, none⟩))), (3, (.slice (some ⟨g54, 0, none⟩) bs.length c11)), (4, (.slice A2 d c2)), (5, (.int .i64 (d : Int))), (6, (.slice (some ⟨b43, 0, none⟩) bs.length bs.length)), (26, (.agg #[nm, wk, pa, va, (.slice A bs.length c)]))] := hF84.keep (keep := [1, 3, 4, 5, 6, 26]) (by kernel_rfl)
      refine From_pure 1 2 [1, 3, 4, 5, 6, 26, 27] hF84 (env' := [(1, (.pointer (some ⟨b1, 0, none⟩))), (3, (.slice (some ⟨g54, 0, none⟩) bs.length c11)), (4, (.slice A2 d c2)), (5, (.int .i64 (d : Int))), (6, (.slice (some ⟨b43, 0, none⟩) bs.length bs.length)), (26, (.agg #[nm, wk, pa, va, (.slice A bs.length c)])), (27, (.int .i64 (d : Int)))]) (by kernel_rfl) rfl ?_
      intro a85 hF86; clear hF84 a83
      refine From_call (by kernel_rfl : coreAt _ 2 = some (some 28, (Go.Op.call { callee := (Go.Callee.value (Go.Operand.func 18)), args := #[(Go.Operand.tmp 26), (Go.Operand.tmp 27)], argTypes := #[24, 3] }), 33, none)) hF86 (by kernel_rfl) (by kernel_rfl) (k' := 3) rfl (f := 18) (vs := [(.agg #[nm, wk, pa, va, (.slice A bs.length c)]), (.int .i64 (d : Int))]) (cap := []) (by kernel_rfl) (by kernel_rfl) (by kernel_rfl) (walk_c _ _ _ _ A c bs (d : Int) w44 hm (hA.at_ hM50)) ?_
      rintro _ w89 ⟨A87, c88, rfl, hM90x⟩ a91 ea hF92; clear ea hF86 a85
      have hM90 : Mem noS w w89 [.fam 4 rows, .blk b1 24 [nm, wk, pa, va, (.slice A bs.length c)], .row 4 1 (some ⟨g54, 0, none⟩) bs.length c11 (bools (walkL bs (-1))), .row 33 1 A2 d c2 (slv rows), .row 4 1 (some ⟨b43, 0, none⟩) bs.length bs.length (bools (List.replicate bs.length false)), .row 4 1 A87 bs.length c88 (bools (walkL bs (d : Int)))] := hM50.call hM90x
      clear hM90x hM50
      replace hF92 : Fr a91 54 [(1, (.pointer (some ⟨b1, 0, none⟩))), (3, (.slice (some ⟨g54, 0, none⟩) bs.length c11)), (4, (.slice A2 d c2)), (5, (.int .i64 (d : Int))), (6, (.slice (some ⟨b43, 0, none⟩) bs.length bs.length)), (28, (.slice A87 bs.length c88))] := hF92.keep (keep := [1, 3, 4, 5, 6, 28]) (by kernel_rfl)
      refine From_pure 1 4 [1, 3, 4, 5, 6, 7] hF92 (env' := [(1, (.pointer (some ⟨b1, 0, none⟩))), (3, (.slice (some ⟨g54, 0, none⟩) bs.length c11)), (4, (.slice A2 d c2)), (5, (.int .i64 (d : Int))), (6, (.slice (some ⟨b43, 0, none⟩) bs.length bs.length)), (7, (.slice A87 bs.length c88))]) (by kernel_rfl) rfl ?_
      intro a93 hF94; clear hF92 a91
      refine From_end (by kernel_rfl) ?_
      refine W_seq (by kernel_rfl) ?_
      refine W_region (by kernel_rfl) ?_   -- region 9
      refine From_pure 1 1 [1, 3, 4, 5, 6, 7, 8] hF94 (env' := [(1, (.pointer (some ⟨b1, 0, none⟩))), (3, (.slice (some ⟨g54, 0, none⟩) bs.length c11)), (4, (.slice A2 d c2)), (5, (.int .i64 (d : Int))), (6, (.slice (some ⟨b43, 0, none⟩) bs.length bs.length)), (7, (.slice A87 bs.length c88)), (8, (.int .i64 0))]) (by kernel_rfl) rfl ?_
      intro a95 hF96; clear hF94 a93
      refine From_end (by kernel_rfl) ?_
      refine W_block (id := 2) (by kernel_rfl) ?_
      have hwd : walkB bs (-1) (d : Int) = true := by rw [← walkL_get hdn]; exact call
      refine W_loop (by kernel_rfl) (fun n_ a_ w_ => ∃ (b : Nat) (m : List Bool), n_ = bs.length - b ∧ Fr a_ 54 [(1, (.pointer (some ⟨b1, 0, none⟩))), (3, (.slice (some ⟨g54, 0, none⟩) bs.length c11)), (4, (.slice A2 d c2)), (5, (.int .i64 (d : Int))), (6, (.slice (some ⟨b43, 0, none⟩) bs.length bs.length)), (7, (.slice A87 bs.length c88)), (8, (.int .i64 (b : Int)))] ∧ Mem noS w w_ [.fam 4 rows, .blk b1 24 [nm, wk, pa, va, (.slice A bs.length c)], .row 4 1 (some ⟨g54, 0, none⟩) bs.length c11 (bools (walkL bs (-1))), .row 33 1 A2 d c2 (slv rows), .row 4 1 (some ⟨b43, 0, none⟩) bs.length bs.length (bools m), .row 4 1 A87 bs.length c88 (bools (walkL bs (d : Int)))] ∧ (b ≤ bs.length) ∧ (BoolsOf bs.length m (overTo bs (d : Int) b))) (n := _) ⟨0, List.replicate bs.length false, rfl, hF96.keep (keep := [1, 3, 4, 5, 6, 7, 8]) (by kernel_rfl), hM90, by omega, over_start bs _⟩ ?_
      clear hF96 a95 hM90; rintro n a99 w97 ⟨b, m, rfl, hF100, hM98, hb, hm2⟩
      refine W_seq (by kernel_rfl) ?_
      refine W_seq (by kernel_rfl) ?_
      refine W_region (by kernel_rfl) ?_   -- region 10
      refine From_pure 3 3 [1, 3, 4, 5, 6, 7, 8, 29, 31] hF100 (env' := [(1, (.pointer (some ⟨b1, 0, none⟩))), (3, (.slice (some ⟨g54, 0, none⟩) bs.length c11)), (4, (.slice A2 d c2)), (5, (.int .i64 (d : Int))), (6, (.slice (some ⟨b43, 0, none⟩) bs.length bs.length)), (7, (.slice A87 bs.length c88)), (8, (.int .i64 (b : Int))), (29, (.int .i64 (b : Int))), (31, (.int .i64 ((bs.length : Nat) : Int)))]) (by kernel_rfl) rfl ?_
      intro a101 hF102; clear hF100 a99
      refine From_cmp (by kernel_rfl : coreAt _ 3 = some (some 32, (Go.Op.binOp Go.BinOp.lss 3 (Go.Operand.tmp 29) (Go.Operand.tmp 31) 3), 4, none)) hF102 (by kernel_rfl) (by kernel_rfl) (k' := 4) rfl (kd := .i64) (i := (b : Int)) (j := ((bs.length : Nat) : Int)) (by kernel_rfl) (by kernel_rfl) rfl ?_
      intro Bb hBb a103 ea hF104; clear ea hF102 a101
      replace hF104 : Fr a103 54 [(1, (.pointer (some ⟨b1, 0, none⟩))), (3, (.slice (some ⟨g54, 0, none⟩) bs.length c11)), (4, (.slice A2 d c2)), (5, (.int .i64 (d : Int))), (6, (.slice (some ⟨b43, 0, none⟩) bs.length bs.length)), (7, (.slice A87 bs.length c88)), (8, (.int .i64 (b : Int))), (32, (.bool Bb))] := hF104.keep (keep := [1, 3, 4, 5, 6, 7, 8, 32]) (by kernel_rfl)
      refine From_end (by kernel_rfl) ?_
      cases Bb
      · have cb : ¬ ((b : Int) < ((bs.length : Nat) : Int)) := by simpa using hBb
        refine W_cond (t := 32) (B := false) (by kernel_rfl) hF104 (by kernel_rfl) (fun t => Bool.noConfusion t) (fun _ => ?_)
        refine W_exit (id := 2) (by kernel_rfl) ?_
        refine inB_hit rfl ?_
        refine W_region (by kernel_rfl) ?_   -- region 13
        refine From_pure 2 2 [1, 3, 5, 49, 50] hF104 (env' := [(1, (.pointer (some ⟨b1, 0, none⟩))), (3, (.slice (some ⟨g54, 0, none⟩) bs.length c11)), (5, (.int .i64 (d : Int))), (49, (.slice A2 d c2)), (50, (.slice (some ⟨b43, 0, none⟩) bs.length bs.length))]) (by kernel_rfl) rfl ?_
        intro a105 hF106; clear hF104 a103
        refine From_buildSlice (by kernel_rfl : coreAt _ 2 = some (some 51, (Go.Op.buildSlice 57 1 #[(0, (Go.Operand.tmp 50))]), 57, none)) hF106 (by kernel_rfl) (by kernel_rfl) (k' := 3) rfl (e := 33) (size := 1) (zs := [(.slice none 0 0)]) (vs := [(0, (.slice (some ⟨b43, 0, none⟩) bs.length bs.length))]) (cs := [(.slice (some ⟨b43, 0, none⟩) bs.length bs.length)]) (by kernel_rfl) (by kernel_rfl) (by kernel_rfl) (by kernel_rfl) (by kernel_rfl) (by kernel_rfl) hM98 ?_
        intro b107 w108 hb107 _ hM109 _ a110 ea hF111; clear ea hF106 a105
        change Mem noS w w108 [.fam 4 rows, .blk b1 24 [nm, wk, pa, va, (.slice A bs.length c)], .row 4 1 (some ⟨g54, 0, none⟩) bs.length c11 (bools (walkL bs (-1))), .row 33 1 A2 d c2 (slv rows), .row 4 1 (some ⟨b43, 0, none⟩) bs.length bs.length (bools m), .row 4 1 A87 bs.length c88 (bools (walkL bs (d : Int))), .row 33 1 (some ⟨b107, 0, none⟩) 1 1 [(.slice (some ⟨b43, 0, none⟩) bs.length bs.length)]] at hM109
        clear hM98
        replace hF111 : Fr a110 54 [(1, (.pointer (some ⟨b1, 0, none⟩))), (3, (.slice (some ⟨g54, 0, none⟩) bs.length c11)), (5, (.int .i64 (d : Int))), (49, (.slice A2 d c2)), (51, (.slice (some ⟨b107, 0, none⟩) 1 1))] := hF111.keep (keep := [1, 3, 5, 49, 51]) (by kernel_rfl)
        refine From_append (by kernel_rfl : coreAt _ 3 = some (some 52, (Go.Op.call { callee := (Go.Callee.builtin Go.Builtin.append), args := #[(Go.Operand.tmp 49), (Go.Operand.tmp 51)], argTypes := #[57, 57] }), 57, none)) hF111 (by kernel_rfl) (by kernel_rfl) (k' := 4) rfl (e := 33) (size := 1) (bytes := 24) (z := (.slice none 0 0)) (by kernel_rfl) (by kernel_rfl) (by kernel_rfl) (by kernel_rfl) (A := A2) (B := (some ⟨b107, 0, none⟩)) (n := d) (cap := c2) (m := 1) (cap' := 1) (xs := (slv rows)) (news := [(.slice (some ⟨b43, 0, none⟩) bs.length bs.length)]) (by kernel_rfl) (by kernel_rfl) hM109 3 rfl (row_rd (hM109.get 6 rfl)) rfl (by simp [Value.oneCell']) (by omega) (by simp only [maxLen]; omega) ?_
        intro A112 c113 w114 hM115 _ a116 ea hF117; clear ea hF111 a110
        change Mem noS w w114 [.fam 4 rows, .blk b1 24 [nm, wk, pa, va, (.slice A bs.length c)], .row 4 1 (some ⟨g54, 0, none⟩) bs.length c11 (bools (walkL bs (-1))), .row 33 1 A112 (d + 1) c113 ((slv rows) ++ [(.slice (some ⟨b43, 0, none⟩) bs.length bs.length)]), .row 4 1 (some ⟨b43, 0, none⟩) bs.length bs.length (bools m), .row 4 1 A87 bs.length c88 (bools (walkL bs (d : Int))), .row 33 1 (some ⟨b107, 0, none⟩) 1 1 [(.slice (some ⟨b43, 0, none⟩) bs.length bs.length)]] at hM115
        clear hM109
        replace hM115 : Mem noS w w114 [.fam 4 rows, .blk b1 24 [nm, wk, pa, va, (.slice A bs.length c)], .row 4 1 (some ⟨g54, 0, none⟩) bs.length c11 (bools (walkL bs (-1))), .row 33 1 A112 (d + 1) c113 ((slv rows) ++ [(.slice (some ⟨b43, 0, none⟩) bs.length bs.length)]), .row 4 1 (some ⟨b43, 0, none⟩) bs.length bs.length (bools m), .row 4 1 A87 bs.length c88 (bools (walkL bs (d : Int)))] := hM115.pick [true, true, true, true, true, true, false] rfl
        replace hF117 : Fr a116 54 [(1, (.pointer (some ⟨b1, 0, none⟩))), (3, (.slice (some ⟨g54, 0, none⟩) bs.length c11)), (5, (.int .i64 (d : Int))), (52, (.slice A112 (d + 1) c113))] := hF117.keep (keep := [1, 3, 5, 52]) (by kernel_rfl)
        refine From_pure 1 5 [1, 3, 4, 5] hF117 (env' := [(1, (.pointer (some ⟨b1, 0, none⟩))), (3, (.slice (some ⟨g54, 0, none⟩) bs.length c11)), (4, (.slice A112 (d + 1) c113)), (5, (.int .i64 (d : Int)))]) (by kernel_rfl) rfl ?_
        intro a118 hF119; clear hF117 a116
        refine From_end (by kernel_rfl) ?_
        refine W_region (by kernel_rfl) ?_   -- region 5
        refine From_pure 1 1 [1, 3, 4, 16] hF119 (env' := [(1, (.pointer (some ⟨b1, 0, none⟩))), (3, (.slice (some ⟨g54, 0, none⟩) bs.length c11)), (4, (.slice A112 (d + 1) c113)), (16, (.int .i64 (d : Int)))]) (by kernel_rfl) rfl ?_
        intro a120 hF121; clear hF119 a118
        refine From_arith (by kernel_rfl : coreAt _ 1 = some (some 17, (Go.Op.binOp Go.BinOp.add 3 (Go.Operand.tmp 16) (Go.Operand.const (Go.Value.int Go.IntKind.i64 1)) 3), 3, none)) hF121 (by kernel_rfl) (by kernel_rfl) (k' := 2) rfl (i := (d : Int)) (j := 1) (z := ((d : Int) + 1)) (by kernel_rfl) (by kernel_rfl) rfl (by omega) (by omega) ?_
        intro a122 ea hF123; clear ea hF121 a120
        replace hF123 : Fr a122 54 [(1, (.pointer (some ⟨b1, 0, none⟩))), (3, (.slice (some ⟨g54, 0, none⟩) bs.length c11)), (4, (.slice A112 (d + 1) c113)), (17, (.int .i64 ((d : Int) + 1)))] := hF123.keep (keep := [1, 3, 4, 17]) (by kernel_rfl)
        refine From_pure 1 3 [1, 3, 4, 5] hF123 (env' := [(1, (.pointer (some ⟨b1, 0, none⟩))), (3, (.slice (some ⟨g54, 0, none⟩) bs.length c11)), (4, (.slice A112 (d + 1) c113)), (5, (.int .i64 ((d : Int) + 1)))]) (by kernel_rfl) rfl ?_
        intro a124 hF125; clear hF123 a122
        refine From_end (by kernel_rfl) ?_
        have hM126 : Mem noS w w114 [.fam 4 rows, .row 4 1 (some ⟨b43, 0, none⟩) bs.length bs.length (bools m), .blk b1 24 [nm, wk, pa, va, (.slice A bs.length c)], .row 4 1 (some ⟨g54, 0, none⟩) bs.length c11 (bools (walkL bs (-1))), .row 33 1 A112 (d + 1) c113 ((slv rows) ++ [(.slice (some ⟨b43, 0, none⟩) bs.length bs.length)])] := ((((((hM115.front 3 rfl).front 3 rfl).front 3 rfl).front 4 rfl).front 4 rfl).pick [true, true, true, true, true, false] rfl)
        clear hM115
        have hM127 : Mem noS w w114 [.fam 4 (rows ++ [⟨(some ⟨b43, 0, none⟩), bs.length, bs.length, bools m⟩]), .blk b1 24 [nm, wk, pa, va, (.slice A bs.length c)], .row 4 1 (some ⟨g54, 0, none⟩) bs.length c11 (bools (walkL bs (-1))), .row 33 1 A112 (d + 1) c113 ((slv rows) ++ [(.slice (some ⟨b43, 0, none⟩) bs.length bs.length)])] := hM126.push
        clear hM126
        have hM128 : Mem noS w w114 [.fam 4 (rows ++ [⟨(some ⟨b43, 0, none⟩), bs.length, bs.length, bools m⟩]), .blk b1 24 [nm, wk, pa, va, (.slice A bs.length c)], .row 4 1 (some ⟨g54, 0, none⟩) bs.length c11 (bools (walkL bs (-1))), .row 33 1 A112 (d + 1) c113 (slv (rows ++ [⟨(some ⟨b43, 0, none⟩), bs.length, bs.length, bools m⟩]))] := hM127.cast (by rw [slv_append])
        clear hM127
        exact ⟨bs.length - (d + 1), by omega, d + 1, (rows ++ [⟨(some ⟨b43, 0, none⟩), bs.length, bs.length, bools m⟩]), A112, c113, rfl, hF125.keep (keep := [1, 3, 4, 5]) (by kernel_rfl), hM128, by omega, hf.next (overL_row hdn (over_done hm2 (by omega))) (by simp [hm2.1]) rfl⟩
      · have cb : (b : Int) < ((bs.length : Nat) : Int) := by simpa using hBb
        refine W_cond (t := 32) (B := true) (by kernel_rfl) hF104 (by kernel_rfl) (fun _ => ?_) (fun t => Bool.noConfusion t)
        refine W_skip (by kernel_rfl) ?_
        refine W_seq (by kernel_rfl) ?_
        refine W_block (id := 3) (by kernel_rfl) ?_
        refine W_region (by kernel_rfl) ?_   -- region 12
        have hbn : b < bs.length := by omega
        refine From_pure 4 4 [1, 3, 4, 5, 6, 7, 8, 35, 36, 37, 38] hF104 (env' := [(1, (.pointer (some ⟨b1, 0, none⟩))), (3, (.slice (some ⟨g54, 0, none⟩) bs.length c11)), (4, (.slice A2 d c2)), (5, (.int .i64 (d : Int))), (6, (.slice (some ⟨b43, 0, none⟩) bs.length bs.length)), (7, (.slice A87 bs.length c88)), (8, (.int .i64 (b : Int))), (35, (.slice (some ⟨b43, 0, none⟩) bs.length bs.length)), (36, (.int .i64 (b : Int))), (37, (.slice (some ⟨g54, 0, none⟩) bs.length c11)), (38, (.int .i64 (b : Int)))]) (by kernel_rfl) rfl ?_
        intro a129 hF130; clear hF104 a103
        refine From_index (by kernel_rfl : coreAt _ 4 = some (some 39, (Go.Op.indexAddr 33 (Go.Operand.tmp 37) (Go.Operand.tmp 38)), 0, none)) hF130 (by kernel_rfl) (by kernel_rfl) (k' := 5) rfl (A := (some ⟨g54, 0, none⟩)) (ad := ⟨g54, 0, none⟩) (n := bs.length) (cap := c11) (e := 4) (size := 1) (kd := .i64) (i := (b : Int)) (by kernel_rfl) (by kernel_rfl) rfl (by kernel_rfl) (by kernel_rfl) (by omega) (by omega) ?_
        intro a131 ea hF132; clear ea hF130 a129
        replace hF132 : Fr a131 54 [(1, (.pointer (some ⟨b1, 0, none⟩))), (3, (.slice (some ⟨g54, 0, none⟩) bs.length c11)), (4, (.slice A2 d c2)), (5, (.int .i64 (d : Int))), (6, (.slice (some ⟨b43, 0, none⟩) bs.length bs.length)), (7, (.slice A87 bs.length c88)), (8, (.int .i64 (b : Int))), (35, (.slice (some ⟨b43, 0, none⟩) bs.length bs.length)), (36, (.int .i64 (b : Int))), (39, (.pointer (some ((⟨g54, 0, none⟩ : Addr).add (((b : Int)).toNat * 1)))))] := hF132.keep (keep := [1, 3, 4, 5, 6, 7, 8, 35, 36, 39]) (by kernel_rfl)
        refine From_load1 (by kernel_rfl : coreAt _ 5 = some (some 40, (Go.Op.load 4 (Go.Operand.tmp 39)), 4, none)) hF132 (by kernel_rfl) (by kernel_rfl) (k' := 6) rfl (ad := ((⟨g54, 0, none⟩ : Addr).add (((b : Int)).toNat * 1))) (v := (.bool ((walkL bs (-1)).getD b false))) (by kernel_rfl) (by kernel_rfl) (rd_get1 (row_rd (hM98.get 2 rfl)) rfl (bools_get (by rw [walkL_len]; omega))) ?_
        intro a133 ea hF134; clear ea hF132 a131
        replace hF134 : Fr a133 54 [(1, (.pointer (some ⟨b1, 0, none⟩))), (3, (.slice (some ⟨g54, 0, none⟩) bs.length c11)), (4, (.slice A2 d c2)), (5, (.int .i64 (d : Int))), (6, (.slice (some ⟨b43, 0, none⟩) bs.length bs.length)), (7, (.slice A87 bs.length c88)), (8, (.int .i64 (b : Int))), (35, (.slice (some ⟨b43, 0, none⟩) bs.length bs.length)), (36, (.int .i64 (b : Int))), (40, (.bool ((walkL bs (-1)).getD b false)))] := hF134.keep (keep := [1, 3, 4, 5, 6, 7, 8, 35, 36, 40]) (by kernel_rfl)
        obtain ⟨Bab, hBab⟩ : ∃ B, B = (walkL bs (-1)).getD b false := ⟨_, rfl⟩
        rw [← hBab] at hF134
        replace hF134 : Fr a133 54 [(1, (.pointer (some ⟨b1, 0, none⟩))), (3, (.slice (some ⟨g54, 0, none⟩) bs.length c11)), (4, (.slice A2 d c2)), (5, (.int .i64 (d : Int))), (6, (.slice (some ⟨b43, 0, none⟩) bs.length bs.length)), (7, (.slice A87 bs.length c88)), (8, (.int .i64 (b : Int))), (35, (.slice (some ⟨b43, 0, none⟩) bs.length bs.length)), (36, (.int .i64 (b : Int))), (40, (.bool Bab))] := hF134.keep (keep := [1, 3, 4, 5, 6, 7, 8, 35, 36, 40]) (by kernel_rfl)
        refine From_pure 1 7 [1, 3, 4, 5, 6, 7, 8, 35, 36, 41] hF134 (env' := [(1, (.pointer (some ⟨b1, 0, none⟩))), (3, (.slice (some ⟨g54, 0, none⟩) bs.length c11)), (4, (.slice A2 d c2)), (5, (.int .i64 (d : Int))), (6, (.slice (some ⟨b43, 0, none⟩) bs.length bs.length)), (7, (.slice A87 bs.length c88)), (8, (.int .i64 (b : Int))), (35, (.slice (some ⟨b43, 0, none⟩) bs.length bs.length)), (36, (.int .i64 (b : Int))), (41, (.bool Bab))]) (by kernel_rfl) rfl ?_
        intro a135 hF136; clear hF134 a133
        cases Bab
        · have cab : ((walkL bs (-1)).getD b false) = false := hBab.symm
          have hwb : walkB bs (-1) (b : Int) = false := by rw [← walkL_get hbn]; exact cab
          refine From_pure 6 13 [1, 3, 4, 5, 6, 7, 8, 35, 36, 47] hF136 (env' := [(1, (.pointer (some ⟨b1, 0, none⟩))), (3, (.slice (some ⟨g54, 0, none⟩) bs.length c11)), (4, (.slice A2 d c2)), (5, (.int .i64 (d : Int))), (6, (.slice (some ⟨b43, 0, none⟩) bs.length bs.length)), (7, (.slice A87 bs.length c88)), (8, (.int .i64 (b : Int))), (35, (.slice (some ⟨b43, 0, none⟩) bs.length bs.length)), (36, (.int .i64 (b : Int))), (47, (.bool false))]) (by kernel_rfl) rfl ?_
          intro a137 hF138; clear hF136 a135
          refine From_index (by kernel_rfl : coreAt _ 13 = some (some 48, (Go.Op.indexAddr 33 (Go.Operand.tmp 35) (Go.Operand.tmp 36)), 0, none)) hF138 (by kernel_rfl) (by kernel_rfl) (k' := 14) rfl (A := (some ⟨b43, 0, none⟩)) (ad := ⟨b43, 0, none⟩) (n := bs.length) (cap := bs.length) (e := 4) (size := 1) (kd := .i64) (i := (b : Int)) (by kernel_rfl) (by kernel_rfl) rfl (by kernel_rfl) (by kernel_rfl) (by omega) (by omega) ?_
          intro a139 ea hF140; clear ea hF138 a137
          replace hF140 : Fr a139 54 [(1, (.pointer (some ⟨b1, 0, none⟩))), (3, (.slice (some ⟨g54, 0, none⟩) bs.length c11)), (4, (.slice A2 d c2)), (5, (.int .i64 (d : Int))), (6, (.slice (some ⟨b43, 0, none⟩) bs.length bs.length)), (7, (.slice A87 bs.length c88)), (8, (.int .i64 (b : Int))), (47, (.bool false)), (48, (.pointer (some ((⟨b43, 0, none⟩ : Addr).add (((b : Int)).toNat * 1)))))] := hF140.keep (keep := [1, 3, 4, 5, 6, 7, 8, 47, 48]) (by kernel_rfl)
          refine From_store_row (by kernel_rfl : coreAt _ 14 = some (none, (Go.Op.store 4 (Go.Operand.tmp 48) (Go.Operand.tmp 47)), 0, none)) hF140 (by kernel_rfl) (by kernel_rfl) (k' := 15) rfl (ad := (⟨b43, 0, none⟩ : Addr)) (j := (((b : Int)).toNat * 1)) (e := 4) (size := 1) (n := bs.length) (cap := bs.length) (v := (.bool false)) (xs := (bools m)) (ad' := ((⟨b43, 0, none⟩ : Addr).add (((b : Int)).toNat * 1))) (by kernel_rfl) rfl (by kernel_rfl) (by kernel_rfl) rfl hM98 4 rfl (by omega) ?_
          intro w141 hM142 _ a143 ea hF144; clear ea hF140 a139
          change Mem noS w w141 [.fam 4 rows, .blk b1 24 [nm, wk, pa, va, (.slice A bs.length c)], .row 4 1 (some ⟨g54, 0, none⟩) bs.length c11 (bools (walkL bs (-1))), .row 33 1 A2 d c2 (slv rows), .row 4 1 (some ⟨b43, 0, none⟩) bs.length bs.length ((bools m).set (((b : Int)).toNat * 1) (.bool false)), .row 4 1 A87 bs.length c88 (bools (walkL bs (d : Int)))] at hM142
          clear hM98
          replace hF144 : Fr a143 54 [(1, (.pointer (some ⟨b1, 0, none⟩))), (3, (.slice (some ⟨g54, 0, none⟩) bs.length c11)), (4, (.slice A2 d c2)), (5, (.int .i64 (d : Int))), (6, (.slice (some ⟨b43, 0, none⟩) bs.length bs.length)), (7, (.slice A87 bs.length c88)), (8, (.int .i64 (b : Int)))] := hF144.keep (keep := [1, 3, 4, 5, 6, 7, 8]) (by kernel_rfl)
          refine From_end (by kernel_rfl) ?_
          refine W_region (by kernel_rfl) ?_   -- region 11
          refine From_pure 1 1 [1, 3, 4, 5, 6, 7, 33] hF144 (env' := [(1, (.pointer (some ⟨b1, 0, none⟩))), (3, (.slice (some ⟨g54, 0, none⟩) bs.length c11)), (4, (.slice A2 d c2)), (5, (.int .i64 (d : Int))), (6, (.slice (some ⟨b43, 0, none⟩) bs.length bs.length)), (7, (.slice A87 bs.length c88)), (33, (.int .i64 (b : Int)))]) (by kernel_rfl) rfl ?_
          intro a145 hF146; clear hF144 a143
          refine From_arith (by kernel_rfl : coreAt _ 1 = some (some 34, (Go.Op.binOp Go.BinOp.add 3 (Go.Operand.tmp 33) (Go.Operand.const (Go.Value.int Go.IntKind.i64 1)) 3), 3, none)) hF146 (by kernel_rfl) (by kernel_rfl) (k' := 2) rfl (i := (b : Int)) (j := 1) (z := ((b : Int) + 1)) (by kernel_rfl) (by kernel_rfl) rfl (by omega) (by omega) ?_
          intro a147 ea hF148; clear ea hF146 a145
          replace hF148 : Fr a147 54 [(1, (.pointer (some ⟨b1, 0, none⟩))), (3, (.slice (some ⟨g54, 0, none⟩) bs.length c11)), (4, (.slice A2 d c2)), (5, (.int .i64 (d : Int))), (6, (.slice (some ⟨b43, 0, none⟩) bs.length bs.length)), (7, (.slice A87 bs.length c88)), (34, (.int .i64 ((b : Int) + 1)))] := hF148.keep (keep := [1, 3, 4, 5, 6, 7, 34]) (by kernel_rfl)
          refine From_pure 1 3 [1, 3, 4, 5, 6, 7, 8] hF148 (env' := [(1, (.pointer (some ⟨b1, 0, none⟩))), (3, (.slice (some ⟨g54, 0, none⟩) bs.length c11)), (4, (.slice A2 d c2)), (5, (.int .i64 (d : Int))), (6, (.slice (some ⟨b43, 0, none⟩) bs.length bs.length)), (7, (.slice A87 bs.length c88)), (8, (.int .i64 ((b : Int) + 1)))]) (by kernel_rfl) rfl ?_
          intro a149 hF150; clear hF148 a147
          refine From_end (by kernel_rfl) ?_
          exact ⟨bs.length - (b + 1), by omega, b + 1, m.set b false, rfl, hF150.keep (keep := [1, 3, 4, 5, 6, 7, 8]) (by kernel_rfl), (hM142.cast (by rw [bools_set]; simp only [Int.toNat_natCast, Nat.mul_one])), by omega, over_next hm2 hbn (over_off hwb)⟩
        · have cab : ((walkL bs (-1)).getD b false) = true := hBab.symm
          have hwb : walkB bs (-1) (b : Int) = true := by rw [← walkL_get hbn]; exact cab
          refine From_pure 2 9 [1, 3, 4, 5, 6, 7, 8, 35, 36, 41, 42, 43] hF136 (env' := [(1, (.pointer (some ⟨b1, 0, none⟩))), (3, (.slice (some ⟨g54, 0, none⟩) bs.length c11)), (4, (.slice A2 d c2)), (5, (.int .i64 (d : Int))), (6, (.slice (some ⟨b43, 0, none⟩) bs.length bs.length)), (7, (.slice A87 bs.length c88)), (8, (.int .i64 (b : Int))), (35, (.slice (some ⟨b43, 0, none⟩) bs.length bs.length)), (36, (.int .i64 (b : Int))), (41, (.bool true)), (42, (.slice A87 bs.length c88)), (43, (.int .i64 (b : Int)))]) (by kernel_rfl) rfl ?_
          intro a151 hF152; clear hF136 a135
          obtain ⟨g154, rfl⟩ := row_some (hM98.get 5 rfl) (by omega)
          refine From_index (by kernel_rfl : coreAt _ 9 = some (some 44, (Go.Op.indexAddr 33 (Go.Operand.tmp 42) (Go.Operand.tmp 43)), 0, some (6, true))) hF152 (by kernel_rfl) (by kernel_rfl) (k' := 10) rfl (A := (some ⟨g154, 0, none⟩)) (ad := ⟨g154, 0, none⟩) (n := bs.length) (cap := c88) (e := 4) (size := 1) (kd := .i64) (i := (b : Int)) (by kernel_rfl) (by kernel_rfl) rfl (by kernel_rfl) (by kernel_rfl) (by omega) (by omega) ?_
          intro a155 ea hF156; clear ea hF152 a151
          replace hF156 : Fr a155 54 [(1, (.pointer (some ⟨b1, 0, none⟩))), (3, (.slice (some ⟨g54, 0, none⟩) bs.length c11)), (4, (.slice A2 d c2)), (5, (.int .i64 (d : Int))), (6, (.slice (some ⟨b43, 0, none⟩) bs.length bs.length)), (7, (.slice (some ⟨g154, 0, none⟩) bs.length c88)), (8, (.int .i64 (b : Int))), (35, (.slice (some ⟨b43, 0, none⟩) bs.length bs.length)), (36, (.int .i64 (b : Int))), (41, (.bool true)), (44, (.pointer (some ((⟨g154, 0, none⟩ : Addr).add (((b : Int)).toNat * 1)))))] := hF156.keep (keep := [1, 3, 4, 5, 6, 7, 8, 35, 36, 41, 44]) (by kernel_rfl)
          refine From_load1 (by kernel_rfl : coreAt _ 10 = some (some 45, (Go.Op.load 4 (Go.Operand.tmp 44)), 4, some (6, true))) hF156 (by kernel_rfl) (by kernel_rfl) (k' := 11) rfl (ad := ((⟨g154, 0, none⟩ : Addr).add (((b : Int)).toNat * 1))) (v := (.bool ((walkL bs (d : Int)).getD b false))) (by kernel_rfl) (by kernel_rfl) (rd_get1 (row_rd (hM98.get 5 rfl)) rfl (bools_get (by rw [walkL_len]; omega))) ?_
          intro a157 ea hF158; clear ea hF156 a155
          replace hF158 : Fr a157 54 [(1, (.pointer (some ⟨b1, 0, none⟩))), (3, (.slice (some ⟨g54, 0, none⟩) bs.length c11)), (4, (.slice A2 d c2)), (5, (.int .i64 (d : Int))), (6, (.slice (some ⟨b43, 0, none⟩) bs.length bs.length)), (7, (.slice (some ⟨g154, 0, none⟩) bs.length c88)), (8, (.int .i64 (b : Int))), (35, (.slice (some ⟨b43, 0, none⟩) bs.length bs.length)), (36, (.int .i64 (b : Int))), (41, (.bool true)), (45, (.bool ((walkL bs (d : Int)).getD b false)))] := hF158.keep (keep := [1, 3, 4, 5, 6, 7, 8, 35, 36, 41, 45]) (by kernel_rfl)
          refine From_pure 2 13 [1, 3, 4, 5, 6, 7, 8, 35, 36, 47] hF158 (env' := [(1, (.pointer (some ⟨b1, 0, none⟩))), (3, (.slice (some ⟨g54, 0, none⟩) bs.length c11)), (4, (.slice A2 d c2)), (5, (.int .i64 (d : Int))), (6, (.slice (some ⟨b43, 0, none⟩) bs.length bs.length)), (7, (.slice (some ⟨g154, 0, none⟩) bs.length c88)), (8, (.int .i64 (b : Int))), (35, (.slice (some ⟨b43, 0, none⟩) bs.length bs.length)), (36, (.int .i64 (b : Int))), (47, (.bool (!(walkL bs (d : Int)).getD b false)))]) (by kernel_rfl) rfl ?_
          intro a159 hF160; clear hF158 a157
          refine From_index (by kernel_rfl : coreAt _ 13 = some (some 48, (Go.Op.indexAddr 33 (Go.Operand.tmp 35) (Go.Operand.tmp 36)), 0, none)) hF160 (by kernel_rfl) (by kernel_rfl) (k' := 14) rfl (A := (some ⟨b43, 0, none⟩)) (ad := ⟨b43, 0, none⟩) (n := bs.length) (cap := bs.length) (e := 4) (size := 1) (kd := .i64) (i := (b : Int)) (by kernel_rfl) (by kernel_rfl) rfl (by kernel_rfl) (by kernel_rfl) (by omega) (by omega) ?_
          intro a161 ea hF162; clear ea hF160 a159
          replace hF162 : Fr a161 54 [(1, (.pointer (some ⟨b1, 0, none⟩))), (3, (.slice (some ⟨g54, 0, none⟩) bs.length c11)), (4, (.slice A2 d c2)), (5, (.int .i64 (d : Int))), (6, (.slice (some ⟨b43, 0, none⟩) bs.length bs.length)), (7, (.slice (some ⟨g154, 0, none⟩) bs.length c88)), (8, (.int .i64 (b : Int))), (47, (.bool (!(walkL bs (d : Int)).getD b false))), (48, (.pointer (some ((⟨b43, 0, none⟩ : Addr).add (((b : Int)).toNat * 1)))))] := hF162.keep (keep := [1, 3, 4, 5, 6, 7, 8, 47, 48]) (by kernel_rfl)
          refine From_store_row (by kernel_rfl : coreAt _ 14 = some (none, (Go.Op.store 4 (Go.Operand.tmp 48) (Go.Operand.tmp 47)), 0, none)) hF162 (by kernel_rfl) (by kernel_rfl) (k' := 15) rfl (ad := (⟨b43, 0, none⟩ : Addr)) (j := (((b : Int)).toNat * 1)) (e := 4) (size := 1) (n := bs.length) (cap := bs.length) (v := (.bool (!(walkL bs (d : Int)).getD b false))) (xs := (bools m)) (ad' := ((⟨b43, 0, none⟩ : Addr).add (((b : Int)).toNat * 1))) (by kernel_rfl) rfl (by kernel_rfl) (by kernel_rfl) rfl hM98 4 rfl (by omega) ?_
          intro w163 hM164 _ a165 ea hF166; clear ea hF162 a161
          change Mem noS w w163 [.fam 4 rows, .blk b1 24 [nm, wk, pa, va, (.slice A bs.length c)], .row 4 1 (some ⟨g54, 0, none⟩) bs.length c11 (bools (walkL bs (-1))), .row 33 1 A2 d c2 (slv rows), .row 4 1 (some ⟨b43, 0, none⟩) bs.length bs.length ((bools m).set (((b : Int)).toNat * 1) (.bool (!(walkL bs (d : Int)).getD b false))), .row 4 1 (some ⟨g154, 0, none⟩) bs.length c88 (bools (walkL bs (d : Int)))] at hM164
          clear hM98
          replace hF166 : Fr a165 54 [(1, (.pointer (some ⟨b1, 0, none⟩))), (3, (.slice (some ⟨g54, 0, none⟩) bs.length c11)), (4, (.slice A2 d c2)), (5, (.int .i64 (d : Int))), (6, (.slice (some ⟨b43, 0, none⟩) bs.length bs.length)), (7, (.slice (some ⟨g154, 0, none⟩) bs.length c88)), (8, (.int .i64 (b : Int)))] := hF166.keep (keep := [1, 3, 4, 5, 6, 7, 8]) (by kernel_rfl)
          refine From_end (by kernel_rfl) ?_
          refine W_region (by kernel_rfl) ?_   -- region 11
          refine From_pure 1 1 [1, 3, 4, 5, 6, 7, 33] hF166 (env' := [(1, (.pointer (some ⟨b1, 0, none⟩))), (3, (.slice (some ⟨g54, 0, none⟩) bs.length c11)), (4, (.slice A2 d c2)), (5, (.int .i64 (d : Int))), (6, (.slice (some ⟨b43, 0, none⟩) bs.length bs.length)), (7, (.slice (some ⟨g154, 0, none⟩) bs.length c88)), (33, (.int .i64 (b : Int)))]) (by kernel_rfl) rfl ?_
          intro a167 hF168; clear hF166 a165
          refine From_arith (by kernel_rfl : coreAt _ 1 = some (some 34, (Go.Op.binOp Go.BinOp.add 3 (Go.Operand.tmp 33) (Go.Operand.const (Go.Value.int Go.IntKind.i64 1)) 3), 3, none)) hF168 (by kernel_rfl) (by kernel_rfl) (k' := 2) rfl (i := (b : Int)) (j := 1) (z := ((b : Int) + 1)) (by kernel_rfl) (by kernel_rfl) rfl (by omega) (by omega) ?_
          intro a169 ea hF170; clear ea hF168 a167
          replace hF170 : Fr a169 54 [(1, (.pointer (some ⟨b1, 0, none⟩))), (3, (.slice (some ⟨g54, 0, none⟩) bs.length c11)), (4, (.slice A2 d c2)), (5, (.int .i64 (d : Int))), (6, (.slice (some ⟨b43, 0, none⟩) bs.length bs.length)), (7, (.slice (some ⟨g154, 0, none⟩) bs.length c88)), (34, (.int .i64 ((b : Int) + 1)))] := hF170.keep (keep := [1, 3, 4, 5, 6, 7, 34]) (by kernel_rfl)
          refine From_pure 1 3 [1, 3, 4, 5, 6, 7, 8] hF170 (env' := [(1, (.pointer (some ⟨b1, 0, none⟩))), (3, (.slice (some ⟨g54, 0, none⟩) bs.length c11)), (4, (.slice A2 d c2)), (5, (.int .i64 (d : Int))), (6, (.slice (some ⟨b43, 0, none⟩) bs.length bs.length)), (7, (.slice (some ⟨g154, 0, none⟩) bs.length c88)), (8, (.int .i64 ((b : Int) + 1)))]) (by kernel_rfl) rfl ?_
          intro a171 hF172; clear hF170 a169
          refine From_end (by kernel_rfl) ?_
          exact ⟨bs.length - (b + 1), by omega, b + 1, m.set b (!((walkL bs (d : Int)).getD b false)), rfl, hF172.keep (keep := [1, 3, 4, 5, 6, 7, 8]) (by kernel_rfl), (hM164.cast (by rw [bools_set]; simp only [Int.toNat_natCast, Nat.mul_one])), by omega, over_next hm2 hbn ((congrArg _ (walkL_get hbn)).trans (over_val hwd hwb))⟩

end Go.Proofs.Ytlkpkinmmjcbcaa
