/-
  Walks of layer 18. Printed by wip/gen/dom.py.
-/
import Derived.Test.YtlkpkinmmjcbcaaD5
import Derived.Test.YtlkpkinmmjcbcaaM1
namespace Go.Proofs.Ytlkpkinmmjcbcaa
open Go.Mor

set_option maxRecDepth 10000 in
theorem walk_c (nm wk pa va : Value) (A : Option Addr) (c : Nat) (bs : List SB) (bar : Int) (w : World) (hm : bs.length ≤ 1000000) (hA : RO noS w (.blocks A bs)) :
    Calls Try.prog 18 #[(.agg #[nm, wk, pa, va, (.slice A bs.length c)]), (.int .i64 bar)] w (Ret fun v w' => ∃ A' c', v = .slice A' bs.length c' ∧ Mem noS w w' [.row 4 1 A' bs.length c' (bools (walkL bs bar))]) := by
  refine enter (N := 74) (vs := [(.agg #[nm, wk, pa, va, (.slice A bs.length c)]), (.int .i64 bar)]) Try.func18 (by kernel_rfl) (by kernel_rfl) (by kernel_rfl) ?_
  intro a hF
  have hM := Mem.init w
  refine W_seq (by kernel_rfl) ?_
  refine W_region (by kernel_rfl) ?_   -- region 0
  refine From_box (by kernel_rfl : coreAt _ 0 = some (some 2, (Go.Op.box 24 (Go.Operand.tmp 0)), 0, none)) hF (by kernel_rfl) (by kernel_rfl) (k' := 1) rfl (v := (.agg #[nm, wk, pa, va, (.slice A bs.length c)])) (cs := [nm, wk, pa, va, (.slice A bs.length c)]) (by kernel_rfl) rfl hM ?_
  intro b1 w2 hb1 _ hM3 _ a4 ea hF5; clear ea hF a
  change Mem noS w w2 [.blk b1 24 [nm, wk, pa, va, (.slice A bs.length c)]] at hM3
  clear hM
  replace hF5 : Fr a4 74 [(1, (.int .i64 bar)), (2, (.pointer (some ⟨b1, 0, none⟩)))] := hF5.keep (keep := [1, 2]) (by kernel_rfl)
  refine From_pure 1 2 [1, 2] hF5 (env' := [(1, (.int .i64 bar)), (2, (.pointer (some ⟨b1, 0, none⟩)))]) (by kernel_rfl) rfl ?_
  intro a6 hF7; clear hF5 a4
  refine From_end (by kernel_rfl) ?_
  refine W_seq (by kernel_rfl) ?_
  refine W_region (by kernel_rfl) ?_   -- region 1
  refine From_pure 1 1 [1, 2, 10] hF7 (env' := [(1, (.int .i64 bar)), (2, (.pointer (some ⟨b1, 0, none⟩))), (10, (.pointer (some ⟨b1, 4, none⟩)))]) (by kernel_rfl) rfl ?_
  intro a8 hF9; clear hF7 a6
  refine From_load1 (by kernel_rfl : coreAt _ 1 = some (some 11, (Go.Op.load 22 (Go.Operand.tmp 10)), 22, none)) hF9 (by kernel_rfl) (by kernel_rfl) (k' := 2) rfl (ad := ⟨b1, 4, none⟩) (v := (.slice A bs.length c)) (by kernel_rfl) (by kernel_rfl) (blk_cell (hM3.get 0 rfl) rfl) ?_
  intro a10 ea hF11; clear ea hF9 a8
  replace hF11 : Fr a10 74 [(1, (.int .i64 bar)), (2, (.pointer (some ⟨b1, 0, none⟩))), (11, (.slice A bs.length c))] := hF11.keep (keep := [1, 2, 11]) (by kernel_rfl)
  refine From_pure 1 3 [1, 2, 12] hF11 (env' := [(1, (.int .i64 bar)), (2, (.pointer (some ⟨b1, 0, none⟩))), (12, (.int .i64 ((bs.length : Nat) : Int)))]) (by kernel_rfl) rfl ?_
  intro a12 hF13; clear hF11 a10
  refine From_make1 (by kernel_rfl : coreAt _ 3 = some (some 13, (Go.Op.makeSlice 33 (Go.Operand.tmp 12) (Go.Operand.tmp 12)), 33, none)) hF13 (by kernel_rfl) (by kernel_rfl) (k' := 4) rfl (e := 4) (bytes := 1) (z := (.bool false)) (n := bs.length) (i := ((bs.length : Nat) : Int)) (by kernel_rfl) (by kernel_rfl) rfl (by kernel_rfl) (by kernel_rfl) rfl (by omega) (by simp only [maxLen]; omega) hM3 ?_
  intro b14 w15 hb14 _ hM16 _ a17 ea hF18; clear ea hF13 a12
  change Mem noS w w15 [.blk b1 24 [nm, wk, pa, va, (.slice A bs.length c)], .row 4 1 (some ⟨b14, 0, none⟩) bs.length bs.length (List.replicate bs.length (.bool false))] at hM16
  clear hM3
  replace hF18 : Fr a17 74 [(1, (.int .i64 bar)), (2, (.pointer (some ⟨b1, 0, none⟩))), (13, (.slice (some ⟨b14, 0, none⟩) bs.length bs.length))] := hF18.keep (keep := [1, 2, 13]) (by kernel_rfl)
  refine From_pure 1 5 [1, 2, 5] hF18 (env' := [(1, (.int .i64 bar)), (2, (.pointer (some ⟨b1, 0, none⟩))), (5, (.slice (some ⟨b14, 0, none⟩) bs.length bs.length))]) (by kernel_rfl) rfl ?_
  intro a19 hF20; clear hF18 a17
  refine From_end (by kernel_rfl) ?_
  refine W_seq (by kernel_rfl) ?_
  refine W_seq (by kernel_rfl) ?_
  refine W_region (by kernel_rfl) ?_   -- region 2
  refine From_pure 1 1 [1, 2, 5, 14] hF20 (env' := [(1, (.int .i64 bar)), (2, (.pointer (some ⟨b1, 0, none⟩))), (5, (.slice (some ⟨b14, 0, none⟩) bs.length bs.length)), (14, (.pointer (some ⟨b1, 4, none⟩)))]) (by kernel_rfl) rfl ?_
  intro a21 hF22; clear hF20 a19
  refine From_load1 (by kernel_rfl : coreAt _ 1 = some (some 15, (Go.Op.load 22 (Go.Operand.tmp 14)), 22, none)) hF22 (by kernel_rfl) (by kernel_rfl) (k' := 2) rfl (ad := ⟨b1, 4, none⟩) (v := (.slice A bs.length c)) (by kernel_rfl) (by kernel_rfl) (blk_cell (hM16.get 0 rfl) rfl) ?_
  intro a23 ea hF24; clear ea hF22 a21
  replace hF24 : Fr a23 74 [(1, (.int .i64 bar)), (2, (.pointer (some ⟨b1, 0, none⟩))), (5, (.slice (some ⟨b14, 0, none⟩) bs.length bs.length)), (15, (.slice A bs.length c))] := hF24.keep (keep := [1, 2, 5, 15]) (by kernel_rfl)
  refine From_pure 1 3 [1, 2, 5, 16] hF24 (env' := [(1, (.int .i64 bar)), (2, (.pointer (some ⟨b1, 0, none⟩))), (5, (.slice (some ⟨b14, 0, none⟩) bs.length bs.length)), (16, (.int .i64 ((bs.length : Nat) : Int)))]) (by kernel_rfl) rfl ?_
  intro a25 hF26; clear hF24 a23
  refine From_cmp (by kernel_rfl : coreAt _ 3 = some (some 17, (Go.Op.binOp Go.BinOp.eql 3 (Go.Operand.tmp 16) (Go.Operand.const (Go.Value.int Go.IntKind.i64 0)) 3), 4, none)) hF26 (by kernel_rfl) (by kernel_rfl) (k' := 4) rfl (kd := .i64) (i := ((bs.length : Nat) : Int)) (j := 0) (by kernel_rfl) (by kernel_rfl) rfl ?_
  intro Bz hBz a27 ea hF28; clear ea hF26 a25
  replace hF28 : Fr a27 74 [(1, (.int .i64 bar)), (2, (.pointer (some ⟨b1, 0, none⟩))), (5, (.slice (some ⟨b14, 0, none⟩) bs.length bs.length)), (17, (.bool Bz))] := hF28.keep (keep := [1, 2, 5, 17]) (by kernel_rfl)
  refine From_pure 1 5 [1, 2, 5, 18] hF28 (env' := [(1, (.int .i64 bar)), (2, (.pointer (some ⟨b1, 0, none⟩))), (5, (.slice (some ⟨b14, 0, none⟩) bs.length bs.length)), (18, (.bool Bz))]) (by kernel_rfl) rfl ?_
  intro a29 hF30; clear hF28 a27
  cases Bz
  · have cz : ¬ (((bs.length : Nat) : Int) = 0) := by simpa using hBz
    refine From_pure 1 6 [1, 2, 5, 18, 19] hF30 (env' := [(1, (.int .i64 bar)), (2, (.pointer (some ⟨b1, 0, none⟩))), (5, (.slice (some ⟨b14, 0, none⟩) bs.length bs.length)), (18, (.bool false)), (19, (.int .i64 bar))]) (by kernel_rfl) rfl ?_
    intro a31 hF32; clear hF30 a29
    refine From_cmp (by kernel_rfl : coreAt _ 6 = some (some 20, (Go.Op.binOp Go.BinOp.eql 3 (Go.Operand.tmp 19) (Go.Operand.const (Go.Value.int Go.IntKind.i64 0)) 3), 4, some (4, false))) hF32 (by kernel_rfl) (by kernel_rfl) (k' := 7) rfl (kd := .i64) (i := bar) (j := 0) (by kernel_rfl) (by kernel_rfl) rfl ?_
    intro Bb hBb a33 ea hF34; clear ea hF32 a31
    replace hF34 : Fr a33 74 [(1, (.int .i64 bar)), (2, (.pointer (some ⟨b1, 0, none⟩))), (5, (.slice (some ⟨b14, 0, none⟩) bs.length bs.length)), (18, (.bool false)), (20, (.bool Bb))] := hF34.keep (keep := [1, 2, 5, 18, 20]) (by kernel_rfl)
    refine From_pure 1 8 [1, 2, 5, 21] hF34 (env' := [(1, (.int .i64 bar)), (2, (.pointer (some ⟨b1, 0, none⟩))), (5, (.slice (some ⟨b14, 0, none⟩) bs.length bs.length)), (21, (.bool Bb))]) (by kernel_rfl) rfl ?_
    intro a35 hF36; clear hF34 a33
    refine From_end (by kernel_rfl) ?_
    cases Bb
    · have cb : ¬ (bar = 0) := by simpa using hBb
      refine W_cond (t := 21) (B := false) (by kernel_rfl) hF36 (by kernel_rfl) (fun t => Bool.noConfusion t) (fun _ => ?_)
      refine W_skip (by kernel_rfl) ?_
      refine W_seq (by kernel_rfl) ?_
      refine W_region (by kernel_rfl) ?_   -- region 4
      refine From_pure 1 1 [1, 2, 5, 23] hF36 (env' := [(1, (.int .i64 bar)), (2, (.pointer (some ⟨b1, 0, none⟩))), (5, (.slice (some ⟨b14, 0, none⟩) bs.length bs.length)), (23, (.slice (some ⟨b14, 0, none⟩) bs.length bs.length))]) (by kernel_rfl) rfl ?_
      intro a37 hF38; clear hF36 a35
      refine From_index (by kernel_rfl : coreAt _ 1 = some (some 24, (Go.Op.indexAddr 33 (Go.Operand.tmp 23) (Go.Operand.const (Go.Value.int Go.IntKind.i64 0))), 0, none)) hF38 (by kernel_rfl) (by kernel_rfl) (k' := 2) rfl (A := (some ⟨b14, 0, none⟩)) (ad := ⟨b14, 0, none⟩) (n := bs.length) (cap := bs.length) (e := 4) (size := 1) (kd := .i64) (i := 0) (by kernel_rfl) (by kernel_rfl) rfl (by kernel_rfl) (by kernel_rfl) (by omega) (by omega) ?_
      intro a39 ea hF40; clear ea hF38 a37
      replace hF40 : Fr a39 74 [(1, (.int .i64 bar)), (2, (.pointer (some ⟨b1, 0, none⟩))), (5, (.slice (some ⟨b14, 0, none⟩) bs.length bs.length)), (24, (.pointer (some ((⟨b14, 0, none⟩ : Addr).add ((0 : Int).toNat * 1)))))] := hF40.keep (keep := [1, 2, 5, 24]) (by kernel_rfl)
      refine From_store_row (by kernel_rfl : coreAt _ 2 = some (none, (Go.Op.store 4 (Go.Operand.tmp 24) (Go.Operand.const (Go.Value.bool true))), 0, none)) hF40 (by kernel_rfl) (by kernel_rfl) (k' := 3) rfl (ad := (⟨b14, 0, none⟩ : Addr)) (j := ((0 : Int).toNat * 1)) (e := 4) (size := 1) (n := bs.length) (cap := bs.length) (v := (.bool true)) (xs := (List.replicate bs.length (.bool false))) (ad' := ((⟨b14, 0, none⟩ : Addr).add ((0 : Int).toNat * 1))) (by kernel_rfl) rfl (by kernel_rfl) (by kernel_rfl) rfl hM16 1 rfl (by omega) ?_
      intro w41 hM42 _ a43 ea hF44; clear ea hF40 a39
      change Mem noS w w41 [.blk b1 24 [nm, wk, pa, va, (.slice A bs.length c)], .row 4 1 (some ⟨b14, 0, none⟩) bs.length bs.length ((List.replicate bs.length (.bool false)).set ((0 : Int).toNat * 1) (.bool true))] at hM42
      clear hM16
      replace hF44 : Fr a43 74 [(1, (.int .i64 bar)), (2, (.pointer (some ⟨b1, 0, none⟩))), (5, (.slice (some ⟨b14, 0, none⟩) bs.length bs.length))] := hF44.keep (keep := [1, 2, 5]) (by kernel_rfl)
      refine From_end (by kernel_rfl) ?_
      refine W_seq (by kernel_rfl) ?_
      refine W_region (by kernel_rfl) ?_   -- region 5
      refine From_buildSlice (by kernel_rfl : coreAt _ 0 = some (some 25, (Go.Op.buildSlice 27 1 #[(0, (Go.Operand.const (Go.Value.int Go.IntKind.i64 0)))]), 27, none)) hF44 (by kernel_rfl) (by kernel_rfl) (k' := 1) rfl (e := 3) (size := 1) (zs := [(.int .i64 0)]) (vs := [(0, (.int .i64 0))]) (cs := [(.int .i64 0)]) (by kernel_rfl) (by kernel_rfl) (by kernel_rfl) (by kernel_rfl) (by kernel_rfl) (by kernel_rfl) hM42 ?_
      intro b45 w46 hb45 _ hM47 _ a48 ea hF49; clear ea hF44 a43
      change Mem noS w w46 [.blk b1 24 [nm, wk, pa, va, (.slice A bs.length c)], .row 4 1 (some ⟨b14, 0, none⟩) bs.length bs.length ((List.replicate bs.length (.bool false)).set ((0 : Int).toNat * 1) (.bool true)), .row 3 1 (some ⟨b45, 0, none⟩) 1 1 [(.int .i64 0)]] at hM47
      clear hM42
      replace hF49 : Fr a48 74 [(1, (.int .i64 bar)), (2, (.pointer (some ⟨b1, 0, none⟩))), (5, (.slice (some ⟨b14, 0, none⟩) bs.length bs.length)), (25, (.slice (some ⟨b45, 0, none⟩) 1 1))] := hF49.keep (keep := [1, 2, 5, 25]) (by kernel_rfl)
      refine From_pure 1 2 [1, 2, 5, 6] hF49 (env' := [(1, (.int .i64 bar)), (2, (.pointer (some ⟨b1, 0, none⟩))), (5, (.slice (some ⟨b14, 0, none⟩) bs.length bs.length)), (6, (.slice (some ⟨b45, 0, none⟩) 1 1))]) (by kernel_rfl) rfl ?_
      intro a50 hF51; clear hF49 a48
      refine From_end (by kernel_rfl) ?_
      refine W_seq (by kernel_rfl) ?_
      refine W_seq (by kernel_rfl) ?_
      refine W_region (by kernel_rfl) ?_   -- region 6
      refine From_pure 1 1 [1, 2, 5, 6, 7] hF51 (env' := [(1, (.int .i64 bar)), (2, (.pointer (some ⟨b1, 0, none⟩))), (5, (.slice (some ⟨b14, 0, none⟩) bs.length bs.length)), (6, (.slice (some ⟨b45, 0, none⟩) 1 1)), (7, (.int .i64 0))]) (by kernel_rfl) rfl ?_
      intro a52 hF53; clear hF51 a50
      refine From_end (by kernel_rfl) ?_
      refine W_block (id := 0) (by kernel_rfl) ?_
      refine W_loop (by kernel_rfl) (fun n_ a_ w_ => ∃ (i : Nat) (S : Int → Bool) (inl : List Bool) (todo : List Int) (A2 : Option Addr) (n2 : Nat) (c2 : Nat), n_ = bs.length - i ∧ Fr a_ 74 [(1, (.int .i64 bar)), (2, (.pointer (some ⟨b1, 0, none⟩))), (5, (.slice (some ⟨b14, 0, none⟩) bs.length bs.length)), (6, (.slice A2 n2 c2)), (7, (.int .i64 (i : Int)))] ∧ Mem noS w w_ [.blk b1 24 [nm, wk, pa, va, (.slice A bs.length c)], .row 4 1 (some ⟨b14, 0, none⟩) bs.length bs.length (bools inl), .row 3 1 A2 n2 c2 (ints todo)] ∧ (BoolsOf bs.length inl S) ∧ (BFS (tg bs) bar S todo i 0) ∧ (todo.length + unmet bs.length S ≤ bs.length) ∧ (n2 = todo.length) ∧ (i ≤ todo.length)) (n := _) ⟨0, addS (fun _ => false) 0, (List.replicate bs.length false).set 0 true, [0], (some ⟨b45, 0, none⟩), 1, 1, rfl, hF53.keep (keep := [1, 2, 5, 6, 7]) (by kernel_rfl), (hM47.cast (by simp [bools, ints, List.map_set])), (BoolsOf.start bs.length).put (by omega), BFS.start _ _, by have := unmet_add (n := bs.length) (S := fun _ => false) (t := 0) (by omega) (by omega) rfl; have := unmet_le bs.length (fun _ => false); simp only [List.length_cons, List.length_nil]; omega, rfl, by omega⟩ ?_
      clear hF53 a52 hM47; rintro n a56 w54 ⟨i, S, inl, todo, A2, n2, c2, rfl, hF57, hM55, hin, hbf, hcnt, hn2, hi⟩
      refine W_seq (by kernel_rfl) ?_
      refine W_seq (by kernel_rfl) ?_
      refine W_region (by kernel_rfl) ?_   -- region 7
      refine From_pure 3 3 [1, 2, 5, 6, 7, 26, 28] hF57 (env' := [(1, (.int .i64 bar)), (2, (.pointer (some ⟨b1, 0, none⟩))), (5, (.slice (some ⟨b14, 0, none⟩) bs.length bs.length)), (6, (.slice A2 n2 c2)), (7, (.int .i64 (i : Int))), (26, (.int .i64 (i : Int))), (28, (.int .i64 ((n2 : Nat) : Int)))]) (by kernel_rfl) rfl ?_
      intro a58 hF59; clear hF57 a56
      refine From_cmp (by kernel_rfl : coreAt _ 3 = some (some 29, (Go.Op.binOp Go.BinOp.lss 3 (Go.Operand.tmp 26) (Go.Operand.tmp 28) 3), 4, none)) hF59 (by kernel_rfl) (by kernel_rfl) (k' := 4) rfl (kd := .i64) (i := (i : Int)) (j := ((n2 : Nat) : Int)) (by kernel_rfl) (by kernel_rfl) rfl ?_
      intro Bw hBw a60 ea hF61; clear ea hF59 a58
      replace hF61 : Fr a60 74 [(1, (.int .i64 bar)), (2, (.pointer (some ⟨b1, 0, none⟩))), (5, (.slice (some ⟨b14, 0, none⟩) bs.length bs.length)), (6, (.slice A2 n2 c2)), (7, (.int .i64 (i : Int))), (29, (.bool Bw))] := hF61.keep (keep := [1, 2, 5, 6, 7, 29]) (by kernel_rfl)
      refine From_end (by kernel_rfl) ?_
      cases Bw
      · have cw : ¬ ((i : Int) < ((n2 : Nat) : Int)) := by simpa using hBw
        refine W_cond (t := 29) (B := false) (by kernel_rfl) hF61 (by kernel_rfl) (fun t => Bool.noConfusion t) (fun _ => ?_)
        refine W_exit (id := 0) (by kernel_rfl) ?_
        refine inB_hit rfl ?_
        refine W_seq (by kernel_rfl) ?_
        refine W_region (by kernel_rfl) ?_   -- region 16
        refine From_pure 2 2 [4] hF61 (env' := [(4, (.slice (some ⟨b14, 0, none⟩) bs.length bs.length))]) (by kernel_rfl) rfl ?_
        intro a62 hF63; clear hF61 a60
        refine From_end (by kernel_rfl) ?_
        refine W_ret (by kernel_rfl) ?_
        refine out1 (v := (.slice (some ⟨b14, 0, none⟩) bs.length bs.length)) hF63 rfl (by kernel_rfl) ?_
        refine ⟨_, rfl, ?_⟩
        replace hM55 : Mem noS w w54 [.row 4 1 (some ⟨b14, 0, none⟩) bs.length bs.length (bools inl)] := hM55.pick [false, true, false] rfl
        exact ⟨_, _, rfl, (hM55).cast (by rw [walk_ret hin hbf (by omega) (by omega)])⟩
      · have cw : (i : Int) < ((n2 : Nat) : Int) := by simpa using hBw
        refine W_cond (t := 29) (B := true) (by kernel_rfl) hF61 (by kernel_rfl) (fun _ => ?_) (fun t => Bool.noConfusion t)
        refine W_skip (by kernel_rfl) ?_
        refine W_seq (by kernel_rfl) ?_
        refine W_block (id := 1) (by kernel_rfl) ?_
        refine W_seq (by kernel_rfl) ?_
        obtain ⟨b, hb⟩ : ∃ b, todo[i]? = some b := ⟨_, List.getElem?_eq_getElem (by omega)⟩
        obtain ⟨g3, rfl⟩ := row_some (hM55.get 2 rfl) (by omega)
        have htl := tg_len bs b
        refine W_drawJ (N := 74) (env0 := [(1, (.int .i64 bar)), (2, (.pointer (some ⟨b1, 0, none⟩))), (5, (.slice (some ⟨b14, 0, none⟩) bs.length bs.length)), (6, (.slice (some ⟨g3, 0, none⟩) n2 c2)), (7, (.int .i64 (i : Int))), (29, (.bool true))]) (by kernel_rfl) (by kernel_rfl) (specAt [.det (.agg #[nm, wk, pa, va, (.slice A bs.length c)]), .det (.slice (some ⟨g3, 0, none⟩) n2 c2), .det (.int .i64 (i : Int)), .det (.pointer (some ((⟨g3, 0, none⟩ : Addr).add (((i : Int)).toNat * 1)))), .det (.int .i64 b), Spec.free, Spec.free]) (fun ls vs w_ => match ls 6 with | true => (∃ (A64 : Option Addr) (c65 : Nat), vs 6 = (.slice A64 ((tg bs b).length) c65) ∧ Mem noS w w_ [.blk b1 24 [nm, wk, pa, va, (.slice A bs.length c)], .row 4 1 (some ⟨b14, 0, none⟩) bs.length bs.length (bools inl), .row 3 1 (some ⟨g3, 0, none⟩) n2 c2 (ints todo), .row 3 1 A64 ((tg bs b).length) c65 (ints (tg bs b))]) | false => (match ls 5 with | true => (∃ (A64 : Option Addr) (c65 : Nat), vs 5 = (.slice A64 ((tg bs b).length) c65) ∧ Mem noS w w_ [.blk b1 24 [nm, wk, pa, va, (.slice A bs.length c)], .row 4 1 (some ⟨b14, 0, none⟩) bs.length bs.length (bools inl), .row 3 1 (some ⟨g3, 0, none⟩) n2 c2 (ints todo), .row 3 1 A64 ((tg bs b).length) c65 (ints (tg bs b))]) | false => (Mem noS w w_ [.blk b1 24 [nm, wk, pa, va, (.slice A bs.length c)], .row 4 1 (some ⟨b14, 0, none⟩) bs.length bs.length (bools inl), .row 3 1 (some ⟨g3, 0, none⟩) n2 c2 (ints todo)]))) (by kernel_rfl) (by kernel_rfl) hF61 (by kernel_rfl) (by kernel_rfl) (plain_ok (.det (.det (.det (.det (.det (.free (.free .nil)))))))) (hM55.then_ (Mem.drew _)) (lt_succ_all (lt_succ_all (lt_succ_all (lt_succ_all (lt_succ_all (lt_succ_all (lt_succ_all lt_zero_all ?_) ?_) ?_) ?_) ?_) ?_) ?_) ?_   -- region 9
        · intro aa_ w_ ls vs rest_ hJ hi_ hc_ hp hF
          refine ⟨true, opok_guard (g0 := none) (by kernel_rfl) (by kernel_rfl), fun _ => ?_, fun h => Bool.noConfusion h⟩
          replace hF : Fr aa_ 74 [(2, (.pointer (some ⟨b1, 0, none⟩)))] := hF.keep (keep := [2]) (by kernel_rfl)
          have f5 : ls 5 = false := notyet hc_ hi_ (n := 7) (by kernel_rfl)
          have f6 : ls 6 = false := notyet hc_ hi_ (n := 7) (by kernel_rfl)
          have hM_ := hJ
          simp only [f5, f6] at hM_
          refine From_loadS (by kernel_rfl : coreAt _ 0 = some (some 32, (Go.Op.load 24 (Go.Operand.tmp 2)), 24, none)) hF (by kernel_rfl) (by kernel_rfl) (k' := 1) rfl (ad := ⟨b1, 0, none⟩) (vs := [nm, wk, pa, va, (.slice A bs.length c)]) (by kernel_rfl) (by kernel_rfl) (blk_cells (hM_.get 0 rfl)) ?_
          intro a2 ea _
          refine From_end (by kernel_rfl) ?_; exact op_doneJ (d := some 32) (by kernel_rfl) ea rfl hJ
        · intro aa_ w_ ls vs rest_ hJ hi_ hc_ hp hF
          refine ⟨true, opok_guard (g0 := none) (by kernel_rfl) (by kernel_rfl), fun _ => ?_, fun h => Bool.noConfusion h⟩
          replace hF : Fr aa_ 74 [(6, (.slice (some ⟨g3, 0, none⟩) n2 c2))] := hF.keep (keep := [6]) (by kernel_rfl)
          refine From_pure1 (by kernel_rfl : coreAt _ 0 = some (some 33, (Go.Op.move (Go.Operand.tmp 6)), 27, none)) hF (by kernel_rfl) (by kernel_rfl) (k' := 1) rfl (v := (.slice (some ⟨g3, 0, none⟩) n2 c2)) (by kernel_rfl) ?_
          intro a2 ea _
          refine From_end (by kernel_rfl) ?_; exact op_doneJ (d := some 33) (by kernel_rfl) ea rfl hJ
        · intro aa_ w_ ls vs rest_ hJ hi_ hc_ hp hF
          refine ⟨true, opok_guard (g0 := none) (by kernel_rfl) (by kernel_rfl), fun _ => ?_, fun h => Bool.noConfusion h⟩
          replace hF : Fr aa_ 74 [(7, (.int .i64 (i : Int)))] := hF.keep (keep := [7]) (by kernel_rfl)
          refine From_pure1 (by kernel_rfl : coreAt _ 0 = some (some 34, (Go.Op.move (Go.Operand.tmp 7)), 3, none)) hF (by kernel_rfl) (by kernel_rfl) (k' := 1) rfl (v := (.int .i64 (i : Int))) (by kernel_rfl) ?_
          intro a2 ea _
          refine From_end (by kernel_rfl) ?_; exact op_doneJ (d := some 34) (by kernel_rfl) ea rfl hJ
        · intro aa_ w_ ls vs rest_ hJ hi_ hc_ hp hF
          refine ⟨true, opok_guard (g0 := none) (by kernel_rfl) (by kernel_rfl), fun _ => ?_, fun h => Bool.noConfusion h⟩
          replace hF : Fr aa_ 74 [(33, (.slice (some ⟨g3, 0, none⟩) n2 c2)), (34, (.int .i64 (i : Int)))] := hF.keep (keep := [33, 34]) (by kernel_rfl)
          refine From_index (by kernel_rfl : coreAt _ 0 = some (some 35, (Go.Op.indexAddr 27 (Go.Operand.tmp 33) (Go.Operand.tmp 34)), 0, none)) hF (by kernel_rfl) (by kernel_rfl) (k' := 1) rfl (A := (some ⟨g3, 0, none⟩)) (ad := ⟨g3, 0, none⟩) (n := n2) (cap := c2) (e := 3) (size := 1) (kd := .i64) (i := (i : Int)) (by kernel_rfl) (by kernel_rfl) rfl (by kernel_rfl) (by kernel_rfl) (by omega) (by omega) ?_
          intro a2 ea _
          refine From_end (by kernel_rfl) ?_; exact op_doneJ (d := some 35) (by kernel_rfl) ea rfl hJ
        · intro aa_ w_ ls vs rest_ hJ hi_ hc_ hp hF
          refine ⟨true, opok_guard (g0 := none) (by kernel_rfl) (by kernel_rfl), fun _ => ?_, fun h => Bool.noConfusion h⟩
          replace hF : Fr aa_ 74 [(35, (.pointer (some ((⟨g3, 0, none⟩ : Addr).add (((i : Int)).toNat * 1)))))] := hF.keep (keep := [35]) (by kernel_rfl)
          have f5 : ls 5 = false := notyet hc_ hi_ (n := 7) (by kernel_rfl)
          have f6 : ls 6 = false := notyet hc_ hi_ (n := 7) (by kernel_rfl)
          have hM_ := hJ
          simp only [f5, f6] at hM_
          refine From_load1 (by kernel_rfl : coreAt _ 0 = some (some 36, (Go.Op.load 3 (Go.Operand.tmp 35)), 3, none)) hF (by kernel_rfl) (by kernel_rfl) (k' := 1) rfl (ad := ((⟨g3, 0, none⟩ : Addr).add (((i : Int)).toNat * 1))) (v := (.int .i64 b)) (by kernel_rfl) (by kernel_rfl) (rd_at (row_rd (hM_.get 2 rfl)) rfl hb) ?_
          intro a2 ea _
          refine From_end (by kernel_rfl) ?_; exact op_doneJ (d := some 36) (by kernel_rfl) ea rfl hJ
        · intro aa_ w_ ls vs rest_ hJ hi_ hc_ hp hF
          refine ⟨true, opok_guard (g0 := none) (by kernel_rfl) (by kernel_rfl), fun _ => ?_, fun h => Bool.noConfusion h⟩
          replace hF : Fr aa_ 74 [(32, (.agg #[nm, wk, pa, va, (.slice A bs.length c)])), (36, (.int .i64 b))] := hF.keep (keep := [32, 36]) (by kernel_rfl)
          have f5 : ls 5 = false := hi_
          have f6 : ls 6 = false := notyet hc_ hi_ (n := 7) (by kernel_rfl)
          have hM_ := hJ
          simp only [f5, f6] at hM_
          refine From_call (by kernel_rfl : coreAt _ 0 = some (some 37, (Go.Op.call { callee := (Go.Callee.value (Go.Operand.func 20)), args := #[(Go.Operand.tmp 32), (Go.Operand.tmp 36)], argTypes := #[24, 3] }), 27, none)) hF (by kernel_rfl) (by kernel_rfl) (k' := 1) rfl (f := 20) (vs := [(.agg #[nm, wk, pa, va, (.slice A bs.length c)]), (.int .i64 b)]) (cap := []) (by kernel_rfl) (by kernel_rfl) (by kernel_rfl) (rtargets_c _ _ _ _ A c bs b w_ hm (hA.at_ hM_)) ?_
          rintro _ w2 ⟨A64p, c65p, rfl, hm2⟩ a2 ea _
          have hm3 := hM_.call hm2
          refine From_end (by kernel_rfl) ?_; refine op_doneJ (d := some 37) (by kernel_rfl) ea trivial ?_
          show match ls 6 with | true => (∃ (A64 : Option Addr) (c65 : Nat), vs 6 = (.slice A64 ((tg bs b).length) c65) ∧ Mem noS w w2 [.blk b1 24 [nm, wk, pa, va, (.slice A bs.length c)], .row 4 1 (some ⟨b14, 0, none⟩) bs.length bs.length (bools inl), .row 3 1 (some ⟨g3, 0, none⟩) n2 c2 (ints todo), .row 3 1 A64 ((tg bs b).length) c65 (ints (tg bs b))]) | false => (∃ (A64 : Option Addr) (c65 : Nat), ((.slice A64p ((tg bs b).length) c65p) : Value) = (.slice A64 ((tg bs b).length) c65) ∧ Mem noS w w2 [.blk b1 24 [nm, wk, pa, va, (.slice A bs.length c)], .row 4 1 (some ⟨b14, 0, none⟩) bs.length bs.length (bools inl), .row 3 1 (some ⟨g3, 0, none⟩) n2 c2 (ints todo), .row 3 1 A64 ((tg bs b).length) c65 (ints (tg bs b))])
          rw [f6]
          exact ⟨A64p, c65p, rfl, hm3⟩
        · intro aa_ w_ ls vs rest_ hJ hi_ hc_ hp hF
          refine ⟨true, opok_guard (g0 := none) (by kernel_rfl) (by kernel_rfl), fun _ => ?_, fun h => Bool.noConfusion h⟩
          replace hF : Fr aa_ 74 [(37, vs 5)] := hF.keep (keep := [37]) (by kernel_rfl)
          have f5 : ls 5 = true := donebefore hc_ (fun k hk => (hp k hk).1) (n := 7) (by kernel_rfl)
          have f6 : ls 6 = false := hi_
          have hM_ := hJ
          simp only [f5, f6] at hM_
          obtain ⟨A64p, c65p, e_, hm2⟩ := hM_
          rw [e_] at hF
          refine From_pure1 (by kernel_rfl : coreAt _ 0 = some (some 8, (Go.Op.assign (Go.Operand.tmp 37)), 27, none)) hF (by kernel_rfl) (by kernel_rfl) (k' := 1) rfl (v := (.slice A64p ((tg bs b).length) c65p)) (by kernel_rfl) ?_
          intro a2 ea _
          refine From_end (by kernel_rfl) ?_; refine op_doneJ (d := some 8) (by kernel_rfl) ea trivial ?_
          show ∃ (A64 : Option Addr) (c65 : Nat), ((.slice A64p ((tg bs b).length) c65p) : Value) = (.slice A64 ((tg bs b).length) c65) ∧ Mem noS w w_ [.blk b1 24 [nm, wk, pa, va, (.slice A bs.length c)], .row 4 1 (some ⟨b14, 0, none⟩) bs.length bs.length (bools inl), .row 3 1 (some ⟨g3, 0, none⟩) n2 c2 (ints todo), .row 3 1 A64 ((tg bs b).length) c65 (ints (tg bs b))]
          exact ⟨A64p, c65p, rfl, hm2⟩
        intro a66 w68 ls vs hall hM69 hv hF67
        simp only [show ls 6 = true from hall 6 (by decide)] at hM69
        replace hF67 : Fr a66 74 [(1, (.int .i64 bar)), (2, (.pointer (some ⟨b1, 0, none⟩))), (5, (.slice (some ⟨b14, 0, none⟩) bs.length bs.length)), (6, (.slice (some ⟨g3, 0, none⟩) n2 c2)), (7, (.int .i64 (i : Int))), (8, vs 6)] := hF67.keep (keep := [1, 2, 5, 6, 7, 8]) (by kernel_rfl)
        obtain ⟨A64, c65, e_, hM69⟩ := hM69
        rw [e_] at hF67; clear e_
        clear hall hv hF61 a60 hM55; clear vs ls
        refine W_seq (by kernel_rfl) ?_
        refine W_region (by kernel_rfl) ?_   -- region 10
        refine From_pure 1 1 [1, 2, 5, 6, 7, 8, 9] hF67 (env' := [(1, (.int .i64 bar)), (2, (.pointer (some ⟨b1, 0, none⟩))), (5, (.slice (some ⟨b14, 0, none⟩) bs.length bs.length)), (6, (.slice (some ⟨g3, 0, none⟩) n2 c2)), (7, (.int .i64 (i : Int))), (8, (.slice A64 ((tg bs b).length) c65)), (9, (.int .i64 0))]) (by kernel_rfl) rfl ?_
        intro a70 hF71; clear hF67 a66
        refine From_end (by kernel_rfl) ?_
        refine W_block (id := 2) (by kernel_rfl) ?_
        refine W_loop (by kernel_rfl) (fun n_ a_ w_ => ∃ (k : Nat) (S2 : Int → Bool) (inl2 : List Bool) (todo2 : List Int) (A4 : Option Addr) (n4 : Nat) (c4 : Nat), n_ = (tg bs b).length - k ∧ Fr a_ 74 [(1, (.int .i64 bar)), (2, (.pointer (some ⟨b1, 0, none⟩))), (5, (.slice (some ⟨b14, 0, none⟩) bs.length bs.length)), (6, (.slice A4 n4 c4)), (7, (.int .i64 (i : Int))), (8, (.slice A64 ((tg bs b).length) c65)), (9, (.int .i64 (k : Int)))] ∧ Mem noS w w_ [.blk b1 24 [nm, wk, pa, va, (.slice A bs.length c)], .row 4 1 (some ⟨b14, 0, none⟩) bs.length bs.length (bools inl2), .row 3 1 A4 n4 c4 (ints todo2), .row 3 1 A64 ((tg bs b).length) c65 (ints (tg bs b))] ∧ (k ≤ (tg bs b).length) ∧ (BoolsOf bs.length inl2 S2) ∧ (BFS (tg bs) bar S2 todo2 i k) ∧ (todo2[i]? = some b) ∧ (todo2.length + unmet bs.length S2 ≤ bs.length) ∧ (n4 = todo2.length)) (n := _) ⟨0, S, inl, todo, (some ⟨g3, 0, none⟩), n2, c2, rfl, hF71.keep (keep := [1, 2, 5, 6, 7, 8, 9]) (by kernel_rfl), hM69, by omega, hin, hbf, hb, hcnt, hn2⟩ ?_
        clear hF71 a70 hM69; rintro n a74 w72 ⟨k, S2, inl2, todo2, A4, n4, c4, rfl, hF75, hM73, hk, hin2, hbf2, hb2, hcnt2, hn4⟩
        refine W_seq (by kernel_rfl) ?_
        refine W_seq (by kernel_rfl) ?_
        refine W_region (by kernel_rfl) ?_   -- region 11
        refine From_pure 3 3 [1, 2, 5, 6, 7, 8, 9, 38, 40] hF75 (env' := [(1, (.int .i64 bar)), (2, (.pointer (some ⟨b1, 0, none⟩))), (5, (.slice (some ⟨b14, 0, none⟩) bs.length bs.length)), (6, (.slice A4 n4 c4)), (7, (.int .i64 (i : Int))), (8, (.slice A64 ((tg bs b).length) c65)), (9, (.int .i64 (k : Int))), (38, (.int .i64 (k : Int))), (40, (.int .i64 (((tg bs b).length : Nat) : Int)))]) (by kernel_rfl) rfl ?_
        intro a76 hF77; clear hF75 a74
        refine From_cmp (by kernel_rfl : coreAt _ 3 = some (some 41, (Go.Op.binOp Go.BinOp.lss 3 (Go.Operand.tmp 38) (Go.Operand.tmp 40) 3), 4, none)) hF77 (by kernel_rfl) (by kernel_rfl) (k' := 4) rfl (kd := .i64) (i := (k : Int)) (j := (((tg bs b).length : Nat) : Int)) (by kernel_rfl) (by kernel_rfl) rfl ?_
        intro Bk hBk a78 ea hF79; clear ea hF77 a76
        replace hF79 : Fr a78 74 [(1, (.int .i64 bar)), (2, (.pointer (some ⟨b1, 0, none⟩))), (5, (.slice (some ⟨b14, 0, none⟩) bs.length bs.length)), (6, (.slice A4 n4 c4)), (7, (.int .i64 (i : Int))), (8, (.slice A64 ((tg bs b).length) c65)), (9, (.int .i64 (k : Int))), (41, (.bool Bk))] := hF79.keep (keep := [1, 2, 5, 6, 7, 8, 9, 41]) (by kernel_rfl)
        refine From_end (by kernel_rfl) ?_
        cases Bk
        · have ck : ¬ ((k : Int) < (((tg bs b).length : Nat) : Int)) := by simpa using hBk
          refine W_cond (t := 41) (B := false) (by kernel_rfl) hF79 (by kernel_rfl) (fun t => Bool.noConfusion t) (fun _ => ?_)
          refine W_exit (id := 2) (by kernel_rfl) ?_
          refine inB_hit rfl ?_
          refine W_region (by kernel_rfl) ?_   -- region 8
          refine From_pure 1 1 [1, 2, 5, 6, 30] hF79 (env' := [(1, (.int .i64 bar)), (2, (.pointer (some ⟨b1, 0, none⟩))), (5, (.slice (some ⟨b14, 0, none⟩) bs.length bs.length)), (6, (.slice A4 n4 c4)), (30, (.int .i64 (i : Int)))]) (by kernel_rfl) rfl ?_
          intro a80 hF81; clear hF79 a78
          refine From_arith (by kernel_rfl : coreAt _ 1 = some (some 31, (Go.Op.binOp Go.BinOp.add 3 (Go.Operand.tmp 30) (Go.Operand.const (Go.Value.int Go.IntKind.i64 1)) 3), 3, none)) hF81 (by kernel_rfl) (by kernel_rfl) (k' := 2) rfl (i := (i : Int)) (j := 1) (z := ((i : Int) + 1)) (by kernel_rfl) (by kernel_rfl) rfl (by omega) (by omega) ?_
          intro a82 ea hF83; clear ea hF81 a80
          replace hF83 : Fr a82 74 [(1, (.int .i64 bar)), (2, (.pointer (some ⟨b1, 0, none⟩))), (5, (.slice (some ⟨b14, 0, none⟩) bs.length bs.length)), (6, (.slice A4 n4 c4)), (31, (.int .i64 ((i : Int) + 1)))] := hF83.keep (keep := [1, 2, 5, 6, 31]) (by kernel_rfl)
          refine From_pure 1 3 [1, 2, 5, 6, 7] hF83 (env' := [(1, (.int .i64 bar)), (2, (.pointer (some ⟨b1, 0, none⟩))), (5, (.slice (some ⟨b14, 0, none⟩) bs.length bs.length)), (6, (.slice A4 n4 c4)), (7, (.int .i64 ((i : Int) + 1)))]) (by kernel_rfl) rfl ?_
          intro a84 hF85; clear hF83 a82
          refine From_end (by kernel_rfl) ?_
          exact ⟨bs.length - (i + 1), by have := (List.getElem?_eq_some_iff.1 hb2).1; omega, i + 1, S2, inl2, todo2, A4, n4, c4, rfl, hF85.keep (keep := [1, 2, 5, 6, 7]) (by kernel_rfl), (hM73.pick [true, true, true, false] rfl), hin2, hbf2.next hb2 (by omega), hcnt2, hn4, by have := (List.getElem?_eq_some_iff.1 hb2).1; omega⟩
        · have ck : (k : Int) < (((tg bs b).length : Nat) : Int) := by simpa using hBk
          refine W_cond (t := 41) (B := true) (by kernel_rfl) hF79 (by kernel_rfl) (fun _ => ?_) (fun t => Bool.noConfusion t)
          refine W_skip (by kernel_rfl) ?_
          refine W_seq (by kernel_rfl) ?_
          refine W_block (id := 3) (by kernel_rfl) ?_
          refine W_seq (by kernel_rfl) ?_
          refine W_region (by kernel_rfl) ?_   -- region 13
          obtain ⟨ti, hti, htn⟩ := tg_at (bs := bs) (b := b) (k := k) (by omega)
          refine From_pure 3 3 [1, 2, 5, 6, 7, 8, 9, 44, 45, 46] hF79 (env' := [(1, (.int .i64 bar)), (2, (.pointer (some ⟨b1, 0, none⟩))), (5, (.slice (some ⟨b14, 0, none⟩) bs.length bs.length)), (6, (.slice A4 n4 c4)), (7, (.int .i64 (i : Int))), (8, (.slice A64 ((tg bs b).length) c65)), (9, (.int .i64 (k : Int))), (44, (.slice (some ⟨b14, 0, none⟩) bs.length bs.length)), (45, (.slice A64 ((tg bs b).length) c65)), (46, (.int .i64 (k : Int)))]) (by kernel_rfl) rfl ?_
          intro a86 hF87; clear hF79 a78
          obtain ⟨g89, rfl⟩ := row_some (hM73.get 3 rfl) (by omega)
          refine From_index (by kernel_rfl : coreAt _ 3 = some (some 47, (Go.Op.indexAddr 27 (Go.Operand.tmp 45) (Go.Operand.tmp 46)), 0, none)) hF87 (by kernel_rfl) (by kernel_rfl) (k' := 4) rfl (A := (some ⟨g89, 0, none⟩)) (ad := ⟨g89, 0, none⟩) (n := ((tg bs b).length)) (cap := c65) (e := 3) (size := 1) (kd := .i64) (i := (k : Int)) (by kernel_rfl) (by kernel_rfl) rfl (by kernel_rfl) (by kernel_rfl) (by omega) (by omega) ?_
          intro a90 ea hF91; clear ea hF87 a86
          replace hF91 : Fr a90 74 [(1, (.int .i64 bar)), (2, (.pointer (some ⟨b1, 0, none⟩))), (5, (.slice (some ⟨b14, 0, none⟩) bs.length bs.length)), (6, (.slice A4 n4 c4)), (7, (.int .i64 (i : Int))), (8, (.slice (some ⟨g89, 0, none⟩) ((tg bs b).length) c65)), (9, (.int .i64 (k : Int))), (44, (.slice (some ⟨b14, 0, none⟩) bs.length bs.length)), (47, (.pointer (some ((⟨g89, 0, none⟩ : Addr).add (((k : Int)).toNat * 1)))))] := hF91.keep (keep := [1, 2, 5, 6, 7, 8, 9, 44, 47]) (by kernel_rfl)
          refine From_load1 (by kernel_rfl : coreAt _ 4 = some (some 48, (Go.Op.load 3 (Go.Operand.tmp 47)), 3, none)) hF91 (by kernel_rfl) (by kernel_rfl) (k' := 5) rfl (ad := ((⟨g89, 0, none⟩ : Addr).add (((k : Int)).toNat * 1))) (v := (.int .i64 (ti : Int))) (by kernel_rfl) (by kernel_rfl) (rd_at (row_rd (hM73.get 3 rfl)) rfl hti) ?_
          intro a92 ea hF93; clear ea hF91 a90
          replace hF93 : Fr a92 74 [(1, (.int .i64 bar)), (2, (.pointer (some ⟨b1, 0, none⟩))), (5, (.slice (some ⟨b14, 0, none⟩) bs.length bs.length)), (6, (.slice A4 n4 c4)), (7, (.int .i64 (i : Int))), (8, (.slice (some ⟨g89, 0, none⟩) ((tg bs b).length) c65)), (9, (.int .i64 (k : Int))), (44, (.slice (some ⟨b14, 0, none⟩) bs.length bs.length)), (48, (.int .i64 (ti : Int)))] := hF93.keep (keep := [1, 2, 5, 6, 7, 8, 9, 44, 48]) (by kernel_rfl)
          refine From_index (by kernel_rfl : coreAt _ 5 = some (some 49, (Go.Op.indexAddr 33 (Go.Operand.tmp 44) (Go.Operand.tmp 48)), 0, none)) hF93 (by kernel_rfl) (by kernel_rfl) (k' := 6) rfl (A := (some ⟨b14, 0, none⟩)) (ad := ⟨b14, 0, none⟩) (n := bs.length) (cap := bs.length) (e := 4) (size := 1) (kd := .i64) (i := (ti : Int)) (by kernel_rfl) (by kernel_rfl) rfl (by kernel_rfl) (by kernel_rfl) (by omega) (by omega) ?_
          intro a94 ea hF95; clear ea hF93 a92
          replace hF95 : Fr a94 74 [(1, (.int .i64 bar)), (2, (.pointer (some ⟨b1, 0, none⟩))), (5, (.slice (some ⟨b14, 0, none⟩) bs.length bs.length)), (6, (.slice A4 n4 c4)), (7, (.int .i64 (i : Int))), (8, (.slice (some ⟨g89, 0, none⟩) ((tg bs b).length) c65)), (9, (.int .i64 (k : Int))), (49, (.pointer (some ((⟨b14, 0, none⟩ : Addr).add (((ti : Int)).toNat * 1)))))] := hF95.keep (keep := [1, 2, 5, 6, 7, 8, 9, 49]) (by kernel_rfl)
          refine From_load1 (by kernel_rfl : coreAt _ 6 = some (some 50, (Go.Op.load 4 (Go.Operand.tmp 49)), 4, none)) hF95 (by kernel_rfl) (by kernel_rfl) (k' := 7) rfl (ad := ((⟨b14, 0, none⟩ : Addr).add (((ti : Int)).toNat * 1))) (v := (.bool (inl2.getD ti false))) (by kernel_rfl) (by kernel_rfl) (rd_get1 (row_rd (hM73.get 1 rfl)) rfl (bools_get (by rw [hin2.1]; exact htn))) ?_
          intro a96 ea hF97; clear ea hF95 a94
          replace hF97 : Fr a96 74 [(1, (.int .i64 bar)), (2, (.pointer (some ⟨b1, 0, none⟩))), (5, (.slice (some ⟨b14, 0, none⟩) bs.length bs.length)), (6, (.slice A4 n4 c4)), (7, (.int .i64 (i : Int))), (8, (.slice (some ⟨g89, 0, none⟩) ((tg bs b).length) c65)), (9, (.int .i64 (k : Int))), (50, (.bool (inl2.getD ti false)))] := hF97.keep (keep := [1, 2, 5, 6, 7, 8, 9, 50]) (by kernel_rfl)
          obtain ⟨Bin, hBin⟩ : ∃ B, B = inl2.getD ti false := ⟨_, rfl⟩
          rw [← hBin] at hF97
          replace hF97 : Fr a96 74 [(1, (.int .i64 bar)), (2, (.pointer (some ⟨b1, 0, none⟩))), (5, (.slice (some ⟨b14, 0, none⟩) bs.length bs.length)), (6, (.slice A4 n4 c4)), (7, (.int .i64 (i : Int))), (8, (.slice (some ⟨g89, 0, none⟩) ((tg bs b).length) c65)), (9, (.int .i64 (k : Int))), (50, (.bool Bin))] := hF97.keep (keep := [1, 2, 5, 6, 7, 8, 9, 50]) (by kernel_rfl)
          refine From_pure 2 9 [1, 2, 5, 6, 7, 8, 9, 52] hF97 (env' := [(1, (.int .i64 bar)), (2, (.pointer (some ⟨b1, 0, none⟩))), (5, (.slice (some ⟨b14, 0, none⟩) bs.length bs.length)), (6, (.slice A4 n4 c4)), (7, (.int .i64 (i : Int))), (8, (.slice (some ⟨g89, 0, none⟩) ((tg bs b).length) c65)), (9, (.int .i64 (k : Int))), (52, (.bool (!Bin)))]) (by kernel_rfl) rfl ?_
          intro a98 hF99; clear hF97 a96
          cases Bin
          · have cin : (inl2.getD ti false) = false := hBin.symm
            have hSt : S2 (ti : Int) = false := by rw [← hin2.2 ti htn]; exact cin
            refine From_pure 2 11 [1, 2, 5, 6, 7, 8, 9, 52, 53, 54] hF99 (env' := [(1, (.int .i64 bar)), (2, (.pointer (some ⟨b1, 0, none⟩))), (5, (.slice (some ⟨b14, 0, none⟩) bs.length bs.length)), (6, (.slice A4 n4 c4)), (7, (.int .i64 (i : Int))), (8, (.slice (some ⟨g89, 0, none⟩) ((tg bs b).length) c65)), (9, (.int .i64 (k : Int))), (52, (.bool true)), (53, (.slice (some ⟨g89, 0, none⟩) ((tg bs b).length) c65)), (54, (.int .i64 (k : Int)))]) (by kernel_rfl) rfl ?_
            intro a100 hF101; clear hF99 a98
            refine From_index (by kernel_rfl : coreAt _ 11 = some (some 55, (Go.Op.indexAddr 27 (Go.Operand.tmp 53) (Go.Operand.tmp 54)), 0, some (8, true))) hF101 (by kernel_rfl) (by kernel_rfl) (k' := 12) rfl (A := (some ⟨g89, 0, none⟩)) (ad := ⟨g89, 0, none⟩) (n := ((tg bs b).length)) (cap := c65) (e := 3) (size := 1) (kd := .i64) (i := (k : Int)) (by kernel_rfl) (by kernel_rfl) rfl (by kernel_rfl) (by kernel_rfl) (by omega) (by omega) ?_
            intro a102 ea hF103; clear ea hF101 a100
            replace hF103 : Fr a102 74 [(1, (.int .i64 bar)), (2, (.pointer (some ⟨b1, 0, none⟩))), (5, (.slice (some ⟨b14, 0, none⟩) bs.length bs.length)), (6, (.slice A4 n4 c4)), (7, (.int .i64 (i : Int))), (8, (.slice (some ⟨g89, 0, none⟩) ((tg bs b).length) c65)), (9, (.int .i64 (k : Int))), (52, (.bool true)), (55, (.pointer (some ((⟨g89, 0, none⟩ : Addr).add (((k : Int)).toNat * 1)))))] := hF103.keep (keep := [1, 2, 5, 6, 7, 8, 9, 52, 55]) (by kernel_rfl)
            refine From_load1 (by kernel_rfl : coreAt _ 12 = some (some 56, (Go.Op.load 3 (Go.Operand.tmp 55)), 3, some (8, true))) hF103 (by kernel_rfl) (by kernel_rfl) (k' := 13) rfl (ad := ((⟨g89, 0, none⟩ : Addr).add (((k : Int)).toNat * 1))) (v := (.int .i64 (ti : Int))) (by kernel_rfl) (by kernel_rfl) (rd_at (row_rd (hM73.get 3 rfl)) rfl hti) ?_
            intro a104 ea hF105; clear ea hF103 a102
            replace hF105 : Fr a104 74 [(1, (.int .i64 bar)), (2, (.pointer (some ⟨b1, 0, none⟩))), (5, (.slice (some ⟨b14, 0, none⟩) bs.length bs.length)), (6, (.slice A4 n4 c4)), (7, (.int .i64 (i : Int))), (8, (.slice (some ⟨g89, 0, none⟩) ((tg bs b).length) c65)), (9, (.int .i64 (k : Int))), (52, (.bool true)), (56, (.int .i64 (ti : Int)))] := hF105.keep (keep := [1, 2, 5, 6, 7, 8, 9, 52, 56]) (by kernel_rfl)
            refine From_pure 1 14 [1, 2, 5, 6, 7, 8, 9, 52, 56, 57] hF105 (env' := [(1, (.int .i64 bar)), (2, (.pointer (some ⟨b1, 0, none⟩))), (5, (.slice (some ⟨b14, 0, none⟩) bs.length bs.length)), (6, (.slice A4 n4 c4)), (7, (.int .i64 (i : Int))), (8, (.slice (some ⟨g89, 0, none⟩) ((tg bs b).length) c65)), (9, (.int .i64 (k : Int))), (52, (.bool true)), (56, (.int .i64 (ti : Int))), (57, (.int .i64 bar))]) (by kernel_rfl) rfl ?_
            intro a106 hF107; clear hF105 a104
            refine From_cmp (by kernel_rfl : coreAt _ 14 = some (some 58, (Go.Op.binOp Go.BinOp.neq 3 (Go.Operand.tmp 56) (Go.Operand.tmp 57) 3), 4, some (8, true))) hF107 (by kernel_rfl) (by kernel_rfl) (k' := 15) rfl (kd := .i64) (i := (ti : Int)) (j := bar) (by kernel_rfl) (by kernel_rfl) rfl ?_
            intro Bbar hBbar a108 ea hF109; clear ea hF107 a106
            replace hF109 : Fr a108 74 [(1, (.int .i64 bar)), (2, (.pointer (some ⟨b1, 0, none⟩))), (5, (.slice (some ⟨b14, 0, none⟩) bs.length bs.length)), (6, (.slice A4 n4 c4)), (7, (.int .i64 (i : Int))), (8, (.slice (some ⟨g89, 0, none⟩) ((tg bs b).length) c65)), (9, (.int .i64 (k : Int))), (52, (.bool true)), (58, (.bool Bbar))] := hF109.keep (keep := [1, 2, 5, 6, 7, 8, 9, 52, 58]) (by kernel_rfl)
            refine From_pure 1 16 [1, 2, 5, 6, 7, 8, 9, 59] hF109 (env' := [(1, (.int .i64 bar)), (2, (.pointer (some ⟨b1, 0, none⟩))), (5, (.slice (some ⟨b14, 0, none⟩) bs.length bs.length)), (6, (.slice A4 n4 c4)), (7, (.int .i64 (i : Int))), (8, (.slice (some ⟨g89, 0, none⟩) ((tg bs b).length) c65)), (9, (.int .i64 (k : Int))), (59, (.bool Bbar))]) (by kernel_rfl) rfl ?_
            intro a110 hF111; clear hF109 a108
            refine From_end (by kernel_rfl) ?_
            cases Bbar
            · have cbar : ¬ ((ti : Int) ≠ bar) := by simpa using hBbar
              refine W_cond (t := 59) (B := false) (by kernel_rfl) hF111 (by kernel_rfl) (fun t => Bool.noConfusion t) (fun _ => ?_)
              refine W_skip (by kernel_rfl) ?_
              refine W_region (by kernel_rfl) ?_   -- region 12
              refine From_pure 1 1 [1, 2, 5, 6, 7, 8, 42] hF111 (env' := [(1, (.int .i64 bar)), (2, (.pointer (some ⟨b1, 0, none⟩))), (5, (.slice (some ⟨b14, 0, none⟩) bs.length bs.length)), (6, (.slice A4 n4 c4)), (7, (.int .i64 (i : Int))), (8, (.slice (some ⟨g89, 0, none⟩) ((tg bs b).length) c65)), (42, (.int .i64 (k : Int)))]) (by kernel_rfl) rfl ?_
              intro a112 hF113; clear hF111 a110
              refine From_arith (by kernel_rfl : coreAt _ 1 = some (some 43, (Go.Op.binOp Go.BinOp.add 3 (Go.Operand.tmp 42) (Go.Operand.const (Go.Value.int Go.IntKind.i64 1)) 3), 3, none)) hF113 (by kernel_rfl) (by kernel_rfl) (k' := 2) rfl (i := (k : Int)) (j := 1) (z := ((k : Int) + 1)) (by kernel_rfl) (by kernel_rfl) rfl (by omega) (by omega) ?_
              intro a114 ea hF115; clear ea hF113 a112
              replace hF115 : Fr a114 74 [(1, (.int .i64 bar)), (2, (.pointer (some ⟨b1, 0, none⟩))), (5, (.slice (some ⟨b14, 0, none⟩) bs.length bs.length)), (6, (.slice A4 n4 c4)), (7, (.int .i64 (i : Int))), (8, (.slice (some ⟨g89, 0, none⟩) ((tg bs b).length) c65)), (43, (.int .i64 ((k : Int) + 1)))] := hF115.keep (keep := [1, 2, 5, 6, 7, 8, 43]) (by kernel_rfl)
              refine From_pure 1 3 [1, 2, 5, 6, 7, 8, 9] hF115 (env' := [(1, (.int .i64 bar)), (2, (.pointer (some ⟨b1, 0, none⟩))), (5, (.slice (some ⟨b14, 0, none⟩) bs.length bs.length)), (6, (.slice A4 n4 c4)), (7, (.int .i64 (i : Int))), (8, (.slice (some ⟨g89, 0, none⟩) ((tg bs b).length) c65)), (9, (.int .i64 ((k : Int) + 1)))]) (by kernel_rfl) rfl ?_
              intro a116 hF117; clear hF115 a114
              refine From_end (by kernel_rfl) ?_
              exact ⟨(tg bs b).length - (k + 1), by omega, k + 1, S2, inl2, todo2, A4, n4, c4, rfl, hF117.keep (keep := [1, 2, 5, 6, 7, 8, 9]) (by kernel_rfl), hM73, by omega, hin2, hbf2.skip hb2 hti (.inr (by omega)), hb2, hcnt2, hn4⟩
            · have cbar : (ti : Int) ≠ bar := by simpa using hBbar
              refine W_cond (t := 59) (B := true) (by kernel_rfl) hF111 (by kernel_rfl) (fun _ => ?_) (fun t => Bool.noConfusion t)
              refine W_seq (by kernel_rfl) ?_
              refine W_region (by kernel_rfl) ?_   -- region 14
              refine From_pure 3 3 [1, 2, 5, 6, 7, 8, 9, 60, 61, 62] hF111 (env' := [(1, (.int .i64 bar)), (2, (.pointer (some ⟨b1, 0, none⟩))), (5, (.slice (some ⟨b14, 0, none⟩) bs.length bs.length)), (6, (.slice A4 n4 c4)), (7, (.int .i64 (i : Int))), (8, (.slice (some ⟨g89, 0, none⟩) ((tg bs b).length) c65)), (9, (.int .i64 (k : Int))), (60, (.slice (some ⟨b14, 0, none⟩) bs.length bs.length)), (61, (.slice (some ⟨g89, 0, none⟩) ((tg bs b).length) c65)), (62, (.int .i64 (k : Int)))]) (by kernel_rfl) rfl ?_
              intro a118 hF119; clear hF111 a110
              refine From_index (by kernel_rfl : coreAt _ 3 = some (some 63, (Go.Op.indexAddr 27 (Go.Operand.tmp 61) (Go.Operand.tmp 62)), 0, none)) hF119 (by kernel_rfl) (by kernel_rfl) (k' := 4) rfl (A := (some ⟨g89, 0, none⟩)) (ad := ⟨g89, 0, none⟩) (n := ((tg bs b).length)) (cap := c65) (e := 3) (size := 1) (kd := .i64) (i := (k : Int)) (by kernel_rfl) (by kernel_rfl) rfl (by kernel_rfl) (by kernel_rfl) (by omega) (by omega) ?_
              intro a120 ea hF121; clear ea hF119 a118
              replace hF121 : Fr a120 74 [(1, (.int .i64 bar)), (2, (.pointer (some ⟨b1, 0, none⟩))), (5, (.slice (some ⟨b14, 0, none⟩) bs.length bs.length)), (6, (.slice A4 n4 c4)), (7, (.int .i64 (i : Int))), (8, (.slice (some ⟨g89, 0, none⟩) ((tg bs b).length) c65)), (9, (.int .i64 (k : Int))), (60, (.slice (some ⟨b14, 0, none⟩) bs.length bs.length)), (63, (.pointer (some ((⟨g89, 0, none⟩ : Addr).add (((k : Int)).toNat * 1)))))] := hF121.keep (keep := [1, 2, 5, 6, 7, 8, 9, 60, 63]) (by kernel_rfl)
              refine From_load1 (by kernel_rfl : coreAt _ 4 = some (some 64, (Go.Op.load 3 (Go.Operand.tmp 63)), 3, none)) hF121 (by kernel_rfl) (by kernel_rfl) (k' := 5) rfl (ad := ((⟨g89, 0, none⟩ : Addr).add (((k : Int)).toNat * 1))) (v := (.int .i64 (ti : Int))) (by kernel_rfl) (by kernel_rfl) (rd_at (row_rd (hM73.get 3 rfl)) rfl hti) ?_
              intro a122 ea hF123; clear ea hF121 a120
              replace hF123 : Fr a122 74 [(1, (.int .i64 bar)), (2, (.pointer (some ⟨b1, 0, none⟩))), (5, (.slice (some ⟨b14, 0, none⟩) bs.length bs.length)), (6, (.slice A4 n4 c4)), (7, (.int .i64 (i : Int))), (8, (.slice (some ⟨g89, 0, none⟩) ((tg bs b).length) c65)), (9, (.int .i64 (k : Int))), (60, (.slice (some ⟨b14, 0, none⟩) bs.length bs.length)), (64, (.int .i64 (ti : Int)))] := hF123.keep (keep := [1, 2, 5, 6, 7, 8, 9, 60, 64]) (by kernel_rfl)
              refine From_index (by kernel_rfl : coreAt _ 5 = some (some 65, (Go.Op.indexAddr 33 (Go.Operand.tmp 60) (Go.Operand.tmp 64)), 0, none)) hF123 (by kernel_rfl) (by kernel_rfl) (k' := 6) rfl (A := (some ⟨b14, 0, none⟩)) (ad := ⟨b14, 0, none⟩) (n := bs.length) (cap := bs.length) (e := 4) (size := 1) (kd := .i64) (i := (ti : Int)) (by kernel_rfl) (by kernel_rfl) rfl (by kernel_rfl) (by kernel_rfl) (by omega) (by omega) ?_
              intro a124 ea hF125; clear ea hF123 a122
              replace hF125 : Fr a124 74 [(1, (.int .i64 bar)), (2, (.pointer (some ⟨b1, 0, none⟩))), (5, (.slice (some ⟨b14, 0, none⟩) bs.length bs.length)), (6, (.slice A4 n4 c4)), (7, (.int .i64 (i : Int))), (8, (.slice (some ⟨g89, 0, none⟩) ((tg bs b).length) c65)), (9, (.int .i64 (k : Int))), (65, (.pointer (some ((⟨b14, 0, none⟩ : Addr).add (((ti : Int)).toNat * 1)))))] := hF125.keep (keep := [1, 2, 5, 6, 7, 8, 9, 65]) (by kernel_rfl)
              refine From_store_row (by kernel_rfl : coreAt _ 6 = some (none, (Go.Op.store 4 (Go.Operand.tmp 65) (Go.Operand.const (Go.Value.bool true))), 0, none)) hF125 (by kernel_rfl) (by kernel_rfl) (k' := 7) rfl (ad := (⟨b14, 0, none⟩ : Addr)) (j := (((ti : Int)).toNat * 1)) (e := 4) (size := 1) (n := bs.length) (cap := bs.length) (v := (.bool true)) (xs := (bools inl2)) (ad' := ((⟨b14, 0, none⟩ : Addr).add (((ti : Int)).toNat * 1))) (by kernel_rfl) rfl (by kernel_rfl) (by kernel_rfl) rfl hM73 1 rfl (by omega) ?_
              intro w126 hM127 _ a128 ea hF129; clear ea hF125 a124
              change Mem noS w w126 [.blk b1 24 [nm, wk, pa, va, (.slice A bs.length c)], .row 4 1 (some ⟨b14, 0, none⟩) bs.length bs.length ((bools inl2).set (((ti : Int)).toNat * 1) (.bool true)), .row 3 1 A4 n4 c4 (ints todo2), .row 3 1 (some ⟨g89, 0, none⟩) ((tg bs b).length) c65 (ints (tg bs b))] at hM127
              clear hM73
              replace hF129 : Fr a128 74 [(1, (.int .i64 bar)), (2, (.pointer (some ⟨b1, 0, none⟩))), (5, (.slice (some ⟨b14, 0, none⟩) bs.length bs.length)), (6, (.slice A4 n4 c4)), (7, (.int .i64 (i : Int))), (8, (.slice (some ⟨g89, 0, none⟩) ((tg bs b).length) c65)), (9, (.int .i64 (k : Int)))] := hF129.keep (keep := [1, 2, 5, 6, 7, 8, 9]) (by kernel_rfl)
              refine From_end (by kernel_rfl) ?_
              refine W_region (by kernel_rfl) ?_   -- region 15
              have hM130 : Mem noS w w126 [.blk b1 24 [nm, wk, pa, va, (.slice A bs.length c)], .row 4 1 (some ⟨b14, 0, none⟩) bs.length bs.length (bools (inl2.set ti true)), .row 3 1 A4 n4 c4 (ints todo2), .row 3 1 (some ⟨g89, 0, none⟩) ((tg bs b).length) c65 (ints (tg bs b))] := hM127.cast (by rw [bools_set]; simp only [Int.toNat_natCast, Nat.mul_one])
              clear hM127
              refine From_pure 3 3 [1, 2, 5, 7, 8, 9, 66, 67, 68] hF129 (env' := [(1, (.int .i64 bar)), (2, (.pointer (some ⟨b1, 0, none⟩))), (5, (.slice (some ⟨b14, 0, none⟩) bs.length bs.length)), (7, (.int .i64 (i : Int))), (8, (.slice (some ⟨g89, 0, none⟩) ((tg bs b).length) c65)), (9, (.int .i64 (k : Int))), (66, (.slice A4 n4 c4)), (67, (.slice (some ⟨g89, 0, none⟩) ((tg bs b).length) c65)), (68, (.int .i64 (k : Int)))]) (by kernel_rfl) rfl ?_
              intro a131 hF132; clear hF129 a128
              refine From_index (by kernel_rfl : coreAt _ 3 = some (some 69, (Go.Op.indexAddr 27 (Go.Operand.tmp 67) (Go.Operand.tmp 68)), 0, none)) hF132 (by kernel_rfl) (by kernel_rfl) (k' := 4) rfl (A := (some ⟨g89, 0, none⟩)) (ad := ⟨g89, 0, none⟩) (n := ((tg bs b).length)) (cap := c65) (e := 3) (size := 1) (kd := .i64) (i := (k : Int)) (by kernel_rfl) (by kernel_rfl) rfl (by kernel_rfl) (by kernel_rfl) (by omega) (by omega) ?_
              intro a133 ea hF134; clear ea hF132 a131
              replace hF134 : Fr a133 74 [(1, (.int .i64 bar)), (2, (.pointer (some ⟨b1, 0, none⟩))), (5, (.slice (some ⟨b14, 0, none⟩) bs.length bs.length)), (7, (.int .i64 (i : Int))), (8, (.slice (some ⟨g89, 0, none⟩) ((tg bs b).length) c65)), (9, (.int .i64 (k : Int))), (66, (.slice A4 n4 c4)), (69, (.pointer (some ((⟨g89, 0, none⟩ : Addr).add (((k : Int)).toNat * 1)))))] := hF134.keep (keep := [1, 2, 5, 7, 8, 9, 66, 69]) (by kernel_rfl)
              refine From_load1 (by kernel_rfl : coreAt _ 4 = some (some 70, (Go.Op.load 3 (Go.Operand.tmp 69)), 3, none)) hF134 (by kernel_rfl) (by kernel_rfl) (k' := 5) rfl (ad := ((⟨g89, 0, none⟩ : Addr).add (((k : Int)).toNat * 1))) (v := (.int .i64 (ti : Int))) (by kernel_rfl) (by kernel_rfl) (rd_at (row_rd (hM130.get 3 rfl)) rfl hti) ?_
              intro a135 ea hF136; clear ea hF134 a133
              replace hF136 : Fr a135 74 [(1, (.int .i64 bar)), (2, (.pointer (some ⟨b1, 0, none⟩))), (5, (.slice (some ⟨b14, 0, none⟩) bs.length bs.length)), (7, (.int .i64 (i : Int))), (8, (.slice (some ⟨g89, 0, none⟩) ((tg bs b).length) c65)), (9, (.int .i64 (k : Int))), (66, (.slice A4 n4 c4)), (70, (.int .i64 (ti : Int)))] := hF136.keep (keep := [1, 2, 5, 7, 8, 9, 66, 70]) (by kernel_rfl)
              refine From_buildSlice (by kernel_rfl : coreAt _ 5 = some (some 71, (Go.Op.buildSlice 27 1 #[(0, (Go.Operand.tmp 70))]), 27, none)) hF136 (by kernel_rfl) (by kernel_rfl) (k' := 6) rfl (e := 3) (size := 1) (zs := [(.int .i64 0)]) (vs := [(0, (.int .i64 (ti : Int)))]) (cs := [(.int .i64 (ti : Int))]) (by kernel_rfl) (by kernel_rfl) (by kernel_rfl) (by kernel_rfl) (by kernel_rfl) (by kernel_rfl) hM130 ?_
              intro b137 w138 hb137 _ hM139 _ a140 ea hF141; clear ea hF136 a135
              change Mem noS w w138 [.blk b1 24 [nm, wk, pa, va, (.slice A bs.length c)], .row 4 1 (some ⟨b14, 0, none⟩) bs.length bs.length (bools (inl2.set ti true)), .row 3 1 A4 n4 c4 (ints todo2), .row 3 1 (some ⟨g89, 0, none⟩) ((tg bs b).length) c65 (ints (tg bs b)), .row 3 1 (some ⟨b137, 0, none⟩) 1 1 [(.int .i64 (ti : Int))]] at hM139
              clear hM130
              replace hF141 : Fr a140 74 [(1, (.int .i64 bar)), (2, (.pointer (some ⟨b1, 0, none⟩))), (5, (.slice (some ⟨b14, 0, none⟩) bs.length bs.length)), (7, (.int .i64 (i : Int))), (8, (.slice (some ⟨g89, 0, none⟩) ((tg bs b).length) c65)), (9, (.int .i64 (k : Int))), (66, (.slice A4 n4 c4)), (71, (.slice (some ⟨b137, 0, none⟩) 1 1))] := hF141.keep (keep := [1, 2, 5, 7, 8, 9, 66, 71]) (by kernel_rfl)
              refine From_append (by kernel_rfl : coreAt _ 6 = some (some 72, (Go.Op.call { callee := (Go.Callee.builtin Go.Builtin.append), args := #[(Go.Operand.tmp 66), (Go.Operand.tmp 71)], argTypes := #[27, 27] }), 27, none)) hF141 (by kernel_rfl) (by kernel_rfl) (k' := 7) rfl (e := 3) (size := 1) (bytes := 8) (z := (.int .i64 0)) (by kernel_rfl) (by kernel_rfl) (by kernel_rfl) (by kernel_rfl) (A := A4) (B := (some ⟨b137, 0, none⟩)) (n := n4) (cap := c4) (m := 1) (cap' := 1) (xs := (ints todo2)) (news := [(.int .i64 (ti : Int))]) (by kernel_rfl) (by kernel_rfl) hM139 2 rfl (row_rd (hM139.get 4 rfl)) rfl (by simp [Value.oneCell']) (by omega) (by simp only [maxLen]; omega) ?_
              intro A142 c143 w144 hM145 _ a146 ea hF147; clear ea hF141 a140
              change Mem noS w w144 [.blk b1 24 [nm, wk, pa, va, (.slice A bs.length c)], .row 4 1 (some ⟨b14, 0, none⟩) bs.length bs.length (bools (inl2.set ti true)), .row 3 1 A142 (n4 + 1) c143 ((ints todo2) ++ [(.int .i64 (ti : Int))]), .row 3 1 (some ⟨g89, 0, none⟩) ((tg bs b).length) c65 (ints (tg bs b)), .row 3 1 (some ⟨b137, 0, none⟩) 1 1 [(.int .i64 (ti : Int))]] at hM145
              clear hM139
              replace hM145 : Mem noS w w144 [.blk b1 24 [nm, wk, pa, va, (.slice A bs.length c)], .row 4 1 (some ⟨b14, 0, none⟩) bs.length bs.length (bools (inl2.set ti true)), .row 3 1 A142 (n4 + 1) c143 ((ints todo2) ++ [(.int .i64 (ti : Int))]), .row 3 1 (some ⟨g89, 0, none⟩) ((tg bs b).length) c65 (ints (tg bs b))] := hM145.pick [true, true, true, true, false] rfl
              replace hF147 : Fr a146 74 [(1, (.int .i64 bar)), (2, (.pointer (some ⟨b1, 0, none⟩))), (5, (.slice (some ⟨b14, 0, none⟩) bs.length bs.length)), (7, (.int .i64 (i : Int))), (8, (.slice (some ⟨g89, 0, none⟩) ((tg bs b).length) c65)), (9, (.int .i64 (k : Int))), (72, (.slice A142 (n4 + 1) c143))] := hF147.keep (keep := [1, 2, 5, 7, 8, 9, 72]) (by kernel_rfl)
              refine From_pure 1 8 [1, 2, 5, 6, 7, 8, 9] hF147 (env' := [(1, (.int .i64 bar)), (2, (.pointer (some ⟨b1, 0, none⟩))), (5, (.slice (some ⟨b14, 0, none⟩) bs.length bs.length)), (6, (.slice A142 (n4 + 1) c143)), (7, (.int .i64 (i : Int))), (8, (.slice (some ⟨g89, 0, none⟩) ((tg bs b).length) c65)), (9, (.int .i64 (k : Int)))]) (by kernel_rfl) rfl ?_
              intro a148 hF149; clear hF147 a146
              refine From_end (by kernel_rfl) ?_
              refine W_region (by kernel_rfl) ?_   -- region 12
              refine From_pure 1 1 [1, 2, 5, 6, 7, 8, 42] hF149 (env' := [(1, (.int .i64 bar)), (2, (.pointer (some ⟨b1, 0, none⟩))), (5, (.slice (some ⟨b14, 0, none⟩) bs.length bs.length)), (6, (.slice A142 (n4 + 1) c143)), (7, (.int .i64 (i : Int))), (8, (.slice (some ⟨g89, 0, none⟩) ((tg bs b).length) c65)), (42, (.int .i64 (k : Int)))]) (by kernel_rfl) rfl ?_
              intro a150 hF151; clear hF149 a148
              refine From_arith (by kernel_rfl : coreAt _ 1 = some (some 43, (Go.Op.binOp Go.BinOp.add 3 (Go.Operand.tmp 42) (Go.Operand.const (Go.Value.int Go.IntKind.i64 1)) 3), 3, none)) hF151 (by kernel_rfl) (by kernel_rfl) (k' := 2) rfl (i := (k : Int)) (j := 1) (z := ((k : Int) + 1)) (by kernel_rfl) (by kernel_rfl) rfl (by omega) (by omega) ?_
              intro a152 ea hF153; clear ea hF151 a150
              replace hF153 : Fr a152 74 [(1, (.int .i64 bar)), (2, (.pointer (some ⟨b1, 0, none⟩))), (5, (.slice (some ⟨b14, 0, none⟩) bs.length bs.length)), (6, (.slice A142 (n4 + 1) c143)), (7, (.int .i64 (i : Int))), (8, (.slice (some ⟨g89, 0, none⟩) ((tg bs b).length) c65)), (43, (.int .i64 ((k : Int) + 1)))] := hF153.keep (keep := [1, 2, 5, 6, 7, 8, 43]) (by kernel_rfl)
              refine From_pure 1 3 [1, 2, 5, 6, 7, 8, 9] hF153 (env' := [(1, (.int .i64 bar)), (2, (.pointer (some ⟨b1, 0, none⟩))), (5, (.slice (some ⟨b14, 0, none⟩) bs.length bs.length)), (6, (.slice A142 (n4 + 1) c143)), (7, (.int .i64 (i : Int))), (8, (.slice (some ⟨g89, 0, none⟩) ((tg bs b).length) c65)), (9, (.int .i64 ((k : Int) + 1)))]) (by kernel_rfl) rfl ?_
              intro a154 hF155; clear hF153 a152
              refine From_end (by kernel_rfl) ?_
              exact ⟨(tg bs b).length - (k + 1), by omega, k + 1, addS S2 (ti : Int), inl2.set ti true, todo2 ++ [(ti : Int)], A142, (n4 + 1), c143, rfl, hF155.keep (keep := [1, 2, 5, 6, 7, 8, 9]) (by kernel_rfl), (hM145.cast (by rw [ints_append]; rfl)), by omega, hin2.put htn, hbf2.push hb2 hti (by omega), by rw [List.getElem?_append_left (List.getElem?_eq_some_iff.1 hb2).1]; exact hb2, by have := unmet_add (n := bs.length) (S := S2) (t := (ti : Int)) (by omega) (by omega) hSt; simp only [List.length_append, List.length_cons, List.length_nil]; omega, by simp [hn4]⟩
          · have cin : (inl2.getD ti false) = true := hBin.symm
            have hSt : S2 (ti : Int) = true := by rw [← hin2.2 ti htn]; exact cin
            refine From_pure 7 16 [1, 2, 5, 6, 7, 8, 9, 59] hF99 (env' := [(1, (.int .i64 bar)), (2, (.pointer (some ⟨b1, 0, none⟩))), (5, (.slice (some ⟨b14, 0, none⟩) bs.length bs.length)), (6, (.slice A4 n4 c4)), (7, (.int .i64 (i : Int))), (8, (.slice (some ⟨g89, 0, none⟩) ((tg bs b).length) c65)), (9, (.int .i64 (k : Int))), (59, (.bool false))]) (by kernel_rfl) rfl ?_
            intro a156 hF157; clear hF99 a98
            refine From_end (by kernel_rfl) ?_
            refine W_cond (t := 59) (B := false) (by kernel_rfl) hF157 (by kernel_rfl) (fun t => Bool.noConfusion t) (fun _ => ?_)
            refine W_skip (by kernel_rfl) ?_
            refine W_region (by kernel_rfl) ?_   -- region 12
            refine From_pure 1 1 [1, 2, 5, 6, 7, 8, 42] hF157 (env' := [(1, (.int .i64 bar)), (2, (.pointer (some ⟨b1, 0, none⟩))), (5, (.slice (some ⟨b14, 0, none⟩) bs.length bs.length)), (6, (.slice A4 n4 c4)), (7, (.int .i64 (i : Int))), (8, (.slice (some ⟨g89, 0, none⟩) ((tg bs b).length) c65)), (42, (.int .i64 (k : Int)))]) (by kernel_rfl) rfl ?_
            intro a158 hF159; clear hF157 a156
            refine From_arith (by kernel_rfl : coreAt _ 1 = some (some 43, (Go.Op.binOp Go.BinOp.add 3 (Go.Operand.tmp 42) (Go.Operand.const (Go.Value.int Go.IntKind.i64 1)) 3), 3, none)) hF159 (by kernel_rfl) (by kernel_rfl) (k' := 2) rfl (i := (k : Int)) (j := 1) (z := ((k : Int) + 1)) (by kernel_rfl) (by kernel_rfl) rfl (by omega) (by omega) ?_
            intro a160 ea hF161; clear ea hF159 a158
            replace hF161 : Fr a160 74 [(1, (.int .i64 bar)), (2, (.pointer (some ⟨b1, 0, none⟩))), (5, (.slice (some ⟨b14, 0, none⟩) bs.length bs.length)), (6, (.slice A4 n4 c4)), (7, (.int .i64 (i : Int))), (8, (.slice (some ⟨g89, 0, none⟩) ((tg bs b).length) c65)), (43, (.int .i64 ((k : Int) + 1)))] := hF161.keep (keep := [1, 2, 5, 6, 7, 8, 43]) (by kernel_rfl)
            refine From_pure 1 3 [1, 2, 5, 6, 7, 8, 9] hF161 (env' := [(1, (.int .i64 bar)), (2, (.pointer (some ⟨b1, 0, none⟩))), (5, (.slice (some ⟨b14, 0, none⟩) bs.length bs.length)), (6, (.slice A4 n4 c4)), (7, (.int .i64 (i : Int))), (8, (.slice (some ⟨g89, 0, none⟩) ((tg bs b).length) c65)), (9, (.int .i64 ((k : Int) + 1)))]) (by kernel_rfl) rfl ?_
            intro a162 hF163; clear hF161 a160
            refine From_end (by kernel_rfl) ?_
            exact ⟨(tg bs b).length - (k + 1), by omega, k + 1, S2, inl2, todo2, A4, n4, c4, rfl, hF163.keep (keep := [1, 2, 5, 6, 7, 8, 9]) (by kernel_rfl), hM73, by omega, hin2, hbf2.skip hb2 hti (.inl hSt), hb2, hcnt2, hn4⟩
    · have cb : bar = 0 := by simpa using hBb
      refine W_cond (t := 21) (B := true) (by kernel_rfl) hF36 (by kernel_rfl) (fun _ => ?_) (fun t => Bool.noConfusion t)
      refine W_seq (by kernel_rfl) ?_
      refine W_region (by kernel_rfl) ?_   -- region 3
      refine From_pure 2 2 [4] hF36 (env' := [(4, (.slice (some ⟨b14, 0, none⟩) bs.length bs.length))]) (by kernel_rfl) rfl ?_
      intro a164 hF165; clear hF36 a35
      refine From_end (by kernel_rfl) ?_
      refine W_ret (by kernel_rfl) ?_
      refine out1 (v := (.slice (some ⟨b14, 0, none⟩) bs.length bs.length)) hF165 rfl (by kernel_rfl) ?_
      refine ⟨_, rfl, ?_⟩
      replace hM16 : Mem noS w w15 [.row 4 1 (some ⟨b14, 0, none⟩) bs.length bs.length (List.replicate bs.length (.bool false))] := hM16.pick [false, true] rfl
      exact ⟨_, _, rfl, (hM16).cast (by rw [← walk_none (bar := bar) (by omega)]; simp [bools])⟩
  · have cz : ((bs.length : Nat) : Int) = 0 := by simpa using hBz
    refine From_pure 3 8 [1, 2, 5, 21] hF30 (env' := [(1, (.int .i64 bar)), (2, (.pointer (some ⟨b1, 0, none⟩))), (5, (.slice (some ⟨b14, 0, none⟩) bs.length bs.length)), (21, (.bool true))]) (by kernel_rfl) rfl ?_
    intro a166 hF167; clear hF30 a29
    refine From_end (by kernel_rfl) ?_
    refine W_cond (t := 21) (B := true) (by kernel_rfl) hF167 (by kernel_rfl) (fun _ => ?_) (fun t => Bool.noConfusion t)
    refine W_seq (by kernel_rfl) ?_
    refine W_region (by kernel_rfl) ?_   -- region 3
    refine From_pure 2 2 [4] hF167 (env' := [(4, (.slice (some ⟨b14, 0, none⟩) bs.length bs.length))]) (by kernel_rfl) rfl ?_
    intro a168 hF169; clear hF167 a166
    refine From_end (by kernel_rfl) ?_
    refine W_ret (by kernel_rfl) ?_
    refine out1 (v := (.slice (some ⟨b14, 0, none⟩) bs.length bs.length)) hF169 rfl (by kernel_rfl) ?_
    refine ⟨_, rfl, ?_⟩
    replace hM16 : Mem noS w w15 [.row 4 1 (some ⟨b14, 0, none⟩) bs.length bs.length (List.replicate bs.length (.bool false))] := hM16.pick [false, true] rfl
    exact ⟨_, _, rfl, (hM16).cast (by rw [← walk_none (bar := bar) (by omega)]; simp [bools])⟩

end Go.Proofs.Ytlkpkinmmjcbcaa
