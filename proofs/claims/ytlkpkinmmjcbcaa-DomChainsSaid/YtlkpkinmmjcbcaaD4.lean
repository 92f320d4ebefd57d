/-
  Walks of layer 18. Printed by wip/gen/dom.py.
-/
import Derived.Test.YtlkpkinmmjcbcaaD3
namespace Go.Proofs.Ytlkpkinmmjcbcaa
open Go.Mor

set_option maxRecDepth 10000 in
theorem order_c (nm wk pa va : Value) (A : Option Addr) (c : Nat) (bs : List SB) (w : World) (hm : bs.length ≤ 1000000) (hA : RO noS w (.blocks A bs)) :
    Calls Try.prog 11 #[(.agg #[nm, wk, pa, va, (.slice A bs.length c)])] w (Ret fun v w' => ∃ A' c', v = .slice A' (orderL bs).length c' ∧ Mem noS w w' [.row 3 1 A' (orderL bs).length c' (ints (orderL bs))]) := by
  refine enter (N := 83) (vs := [(.agg #[nm, wk, pa, va, (.slice A bs.length c)])]) Try.func11 (by kernel_rfl) (by kernel_rfl) (by kernel_rfl) ?_
  intro a hF
  have hM := Mem.init w
  refine W_seq (by kernel_rfl) ?_
  refine W_region (by kernel_rfl) ?_   -- region 0
  refine From_box (by kernel_rfl : coreAt _ 0 = some (some 1, (Go.Op.box 24 (Go.Operand.tmp 0)), 0, none)) hF (by kernel_rfl) (by kernel_rfl) (k' := 1) rfl (v := (.agg #[nm, wk, pa, va, (.slice A bs.length c)])) (cs := [nm, wk, pa, va, (.slice A bs.length c)]) (by kernel_rfl) rfl hM ?_
  intro b1 w2 hb1 _ hM3 _ a4 ea hF5; clear ea hF a
  change Mem noS w w2 [.blk b1 24 [nm, wk, pa, va, (.slice A bs.length c)]] at hM3
  clear hM
  replace hF5 : Fr a4 83 [(1, (.pointer (some ⟨b1, 0, none⟩)))] := hF5.keep (keep := [1]) (by kernel_rfl)
  refine From_pure 1 2 [1] hF5 (env' := [(1, (.pointer (some ⟨b1, 0, none⟩)))]) (by kernel_rfl) rfl ?_
  intro a6 hF7; clear hF5 a4
  refine From_end (by kernel_rfl) ?_
  refine W_seq (by kernel_rfl) ?_
  refine W_seq (by kernel_rfl) ?_
  refine W_region (by kernel_rfl) ?_   -- region 1
  refine From_pure 1 1 [1, 9] hF7 (env' := [(1, (.pointer (some ⟨b1, 0, none⟩))), (9, (.pointer (some ⟨b1, 4, none⟩)))]) (by kernel_rfl) rfl ?_
  intro a8 hF9; clear hF7 a6
  refine From_load1 (by kernel_rfl : coreAt _ 1 = some (some 10, (Go.Op.load 22 (Go.Operand.tmp 9)), 22, none)) hF9 (by kernel_rfl) (by kernel_rfl) (k' := 2) rfl (ad := ⟨b1, 4, none⟩) (v := (.slice A bs.length c)) (by kernel_rfl) (by kernel_rfl) (blk_cell (hM3.get 0 rfl) rfl) ?_
  intro a10 ea hF11; clear ea hF9 a8
  replace hF11 : Fr a10 83 [(1, (.pointer (some ⟨b1, 0, none⟩))), (10, (.slice A bs.length c))] := hF11.keep (keep := [1, 10]) (by kernel_rfl)
  refine From_pure 1 3 [1, 11] hF11 (env' := [(1, (.pointer (some ⟨b1, 0, none⟩))), (11, (.int .i64 ((bs.length : Nat) : Int)))]) (by kernel_rfl) rfl ?_
  intro a12 hF13; clear hF11 a10
  refine From_cmp (by kernel_rfl : coreAt _ 3 = some (some 12, (Go.Op.binOp Go.BinOp.eql 3 (Go.Operand.tmp 11) (Go.Operand.const (Go.Value.int Go.IntKind.i64 0)) 3), 4, none)) hF13 (by kernel_rfl) (by kernel_rfl) (k' := 4) rfl (kd := .i64) (i := ((bs.length : Nat) : Int)) (j := 0) (by kernel_rfl) (by kernel_rfl) rfl ?_
  intro Bz hBz a14 ea hF15; clear ea hF13 a12
  replace hF15 : Fr a14 83 [(1, (.pointer (some ⟨b1, 0, none⟩))), (12, (.bool Bz))] := hF15.keep (keep := [1, 12]) (by kernel_rfl)
  refine From_end (by kernel_rfl) ?_
  cases Bz
  · have cz : ¬ (((bs.length : Nat) : Int) = 0) := by simpa using hBz
    refine W_cond (t := 12) (B := false) (by kernel_rfl) hF15 (by kernel_rfl) (fun t => Bool.noConfusion t) (fun _ => ?_)
    refine W_skip (by kernel_rfl) ?_
    refine W_seq (by kernel_rfl) ?_
    refine W_region (by kernel_rfl) ?_   -- region 3
    refine From_pure 1 1 [1, 13] hF15 (env' := [(1, (.pointer (some ⟨b1, 0, none⟩))), (13, (.pointer (some ⟨b1, 4, none⟩)))]) (by kernel_rfl) rfl ?_
    intro a16 hF17; clear hF15 a14
    refine From_load1 (by kernel_rfl : coreAt _ 1 = some (some 14, (Go.Op.load 22 (Go.Operand.tmp 13)), 22, none)) hF17 (by kernel_rfl) (by kernel_rfl) (k' := 2) rfl (ad := ⟨b1, 4, none⟩) (v := (.slice A bs.length c)) (by kernel_rfl) (by kernel_rfl) (blk_cell (hM3.get 0 rfl) rfl) ?_
    intro a18 ea hF19; clear ea hF17 a16
    replace hF19 : Fr a18 83 [(1, (.pointer (some ⟨b1, 0, none⟩))), (14, (.slice A bs.length c))] := hF19.keep (keep := [1, 14]) (by kernel_rfl)
    refine From_pure 1 3 [1, 15] hF19 (env' := [(1, (.pointer (some ⟨b1, 0, none⟩))), (15, (.int .i64 ((bs.length : Nat) : Int)))]) (by kernel_rfl) rfl ?_
    intro a20 hF21; clear hF19 a18
    refine From_call (by kernel_rfl : coreAt _ 3 = some (some 16, (Go.Op.call { callee := (Go.Callee.value (Go.Operand.func 24)), args := #[(Go.Operand.tmp 15)], argTypes := #[3] }), 44, none)) hF21 (by kernel_rfl) (by kernel_rfl) (k' := 4) rfl (f := 24) (vs := [(.int .i64 ((bs.length : Nat) : Int))]) (cap := []) (by kernel_rfl) (by kernel_rfl) (by kernel_rfl) (newbits_c bs.length w2 (by omega)) ?_
    rintro _ w23 ⟨g22, rfl, hM24x⟩ a25 ea hF26; clear ea hF21 a20
    have hM24 : Mem noS w w23 [.blk b1 24 [nm, wk, pa, va, (.slice A bs.length c)], .row 61 1 (some ⟨g22, 0, none⟩) ((bs.length + 63) / 64) ((bs.length + 63) / 64) (u64s (List.replicate ((bs.length + 63) / 64) 0))] := hM3.call hM24x
    clear hM24x hM3
    replace hF26 : Fr a25 83 [(1, (.pointer (some ⟨b1, 0, none⟩))), (16, (.slice (some ⟨g22, 0, none⟩) ((bs.length + 63) / 64) ((bs.length + 63) / 64)))] := hF26.keep (keep := [1, 16]) (by kernel_rfl)
    refine From_pure 1 5 [1, 3] hF26 (env' := [(1, (.pointer (some ⟨b1, 0, none⟩))), (3, (.slice (some ⟨g22, 0, none⟩) ((bs.length + 63) / 64) ((bs.length + 63) / 64)))]) (by kernel_rfl) rfl ?_
    intro a27 hF28; clear hF26 a25
    refine From_end (by kernel_rfl) ?_
    refine W_seq (by kernel_rfl) ?_
    refine W_region (by kernel_rfl) ?_   -- region 4
    refine From_pure 1 1 [1, 3, 17] hF28 (env' := [(1, (.pointer (some ⟨b1, 0, none⟩))), (3, (.slice (some ⟨g22, 0, none⟩) ((bs.length + 63) / 64) ((bs.length + 63) / 64))), (17, (.slice (some ⟨g22, 0, none⟩) ((bs.length + 63) / 64) ((bs.length + 63) / 64)))]) (by kernel_rfl) rfl ?_
    intro a29 hF30; clear hF28 a27
    refine From_call (by kernel_rfl : coreAt _ 1 = some (some 18, (Go.Op.call { callee := (Go.Callee.value (Go.Operand.func 25)), args := #[(Go.Operand.tmp 17), (Go.Operand.const (Go.Value.int Go.IntKind.i64 0))], argTypes := #[44, 3] }), 0, none)) hF30 (by kernel_rfl) (by kernel_rfl) (k' := 2) rfl (f := 25) (vs := [(.slice (some ⟨g22, 0, none⟩) ((bs.length + 63) / 64) ((bs.length + 63) / 64)), (.int .i64 0)]) (cap := []) (by kernel_rfl) (by kernel_rfl) (by kernel_rfl) (put_c (List.replicate ((bs.length + 63) / 64) 0) ((bs.length + 63) / 64) 0 (some ⟨g22, 0, none⟩) ((bs.length + 63) / 64) w23 (Fit.zero _) (by omega) (by simp) (by simp; omega) (hM24.get 1 rfl)) ?_
    rintro _ w31 ⟨rfl, hM32x⟩ a33 ea hF34; clear ea hF30 a29
    have hM32 : Mem noS w w31 [.blk b1 24 [nm, wk, pa, va, (.slice A bs.length c)], .row 61 1 (some ⟨g22, 0, none⟩) ((bs.length + 63) / 64) ((bs.length + 63) / 64) (u64s (putw (List.replicate ((bs.length + 63) / 64) 0) 0))] := hM24.mod 1 rfl hM32x
    clear hM32x hM24
    replace hF34 : Fr a33 83 [(1, (.pointer (some ⟨b1, 0, none⟩))), (3, (.slice (some ⟨g22, 0, none⟩) ((bs.length + 63) / 64) ((bs.length + 63) / 64)))] := hF34.keep (keep := [1, 3]) (by kernel_rfl)
    refine From_end (by kernel_rfl) ?_
    refine W_seq (by kernel_rfl) ?_
    refine W_region (by kernel_rfl) ?_   -- region 5
    refine From_pure 1 1 [1, 3, 4] hF34 (env' := [(1, (.pointer (some ⟨b1, 0, none⟩))), (3, (.slice (some ⟨g22, 0, none⟩) ((bs.length + 63) / 64) ((bs.length + 63) / 64))), (4, (.slice none 0 0))]) (by kernel_rfl) rfl ?_
    intro a35 hF36; clear hF34 a33
    refine From_end (by kernel_rfl) ?_
    refine W_seq (by kernel_rfl) ?_
    refine W_region (by kernel_rfl) ?_   -- region 6
    refine From_pure 1 1 [1, 3, 4, 19] hF36 (env' := [(1, (.pointer (some ⟨b1, 0, none⟩))), (3, (.slice (some ⟨g22, 0, none⟩) ((bs.length + 63) / 64) ((bs.length + 63) / 64))), (4, (.slice none 0 0)), (19, (.agg #[(.int .i64 0), (.int .i64 0)]))]) (by kernel_rfl) rfl ?_
    intro a37 hF38; clear hF36 a35
    refine From_buildSlice (by kernel_rfl : coreAt _ 1 = some (some 20, (Go.Op.buildSlice 49 1 #[(0, (Go.Operand.tmp 19))]), 49, none)) hF38 (by kernel_rfl) (by kernel_rfl) (k' := 2) rfl (e := 48) (size := 2) (zs := [(.int .i64 0), (.int .i64 0)]) (vs := [(0, (.agg #[(.int .i64 0), (.int .i64 0)]))]) (cs := [(.int .i64 0), (.int .i64 0)]) (by kernel_rfl) (by kernel_rfl) (by kernel_rfl) (by kernel_rfl) (by kernel_rfl) (by kernel_rfl) hM32 ?_
    intro b39 w40 hb39 _ hM41 _ a42 ea hF43; clear ea hF38 a37
    change Mem noS w w40 [.blk b1 24 [nm, wk, pa, va, (.slice A bs.length c)], .row 61 1 (some ⟨g22, 0, none⟩) ((bs.length + 63) / 64) ((bs.length + 63) / 64) (u64s (putw (List.replicate ((bs.length + 63) / 64) 0) 0)), .row 48 2 (some ⟨b39, 0, none⟩) 1 1 [(.int .i64 0), (.int .i64 0)]] at hM41
    clear hM32
    replace hF43 : Fr a42 83 [(1, (.pointer (some ⟨b1, 0, none⟩))), (3, (.slice (some ⟨g22, 0, none⟩) ((bs.length + 63) / 64) ((bs.length + 63) / 64))), (4, (.slice none 0 0)), (20, (.slice (some ⟨b39, 0, none⟩) 1 1))] := hF43.keep (keep := [1, 3, 4, 20]) (by kernel_rfl)
    refine From_pure 1 3 [1, 3, 4, 5] hF43 (env' := [(1, (.pointer (some ⟨b1, 0, none⟩))), (3, (.slice (some ⟨g22, 0, none⟩) ((bs.length + 63) / 64) ((bs.length + 63) / 64))), (4, (.slice none 0 0)), (5, (.slice (some ⟨b39, 0, none⟩) 1 1))]) (by kernel_rfl) rfl ?_
    intro a44 hF45; clear hF43 a42
    refine From_end (by kernel_rfl) ?_
    refine W_seq (by kernel_rfl) ?_
    refine W_block (id := 0) (by kernel_rfl) ?_
    obtain ⟨s0, hk0, hl0⟩ := left_kids bs
    refine W_loop (by kernel_rfl) (fun n_ a_ w_ => ∃ (ws : List Nat) (S : Int → Bool) (way : List (Int × Nat)) (A3 : Option Addr) (c3 : Nat) (A2 : Option Addr) (n2 : Nat) (c2 : Nat) (o : List Int), n_ = 4 * unmet bs.length S + wsum (tg bs) way ∧ Fr a_ 83 [(1, (.pointer (some ⟨b1, 0, none⟩))), (3, (.slice (some ⟨g22, 0, none⟩) ((bs.length + 63) / 64) ((bs.length + 63) / 64))), (4, (.slice A2 n2 c2)), (5, (.slice A3 way.length c3))] ∧ Mem noS w w_ [.blk b1 24 [nm, wk, pa, va, (.slice A bs.length c)], .row 61 1 (some ⟨g22, 0, none⟩) ((bs.length + 63) / 64) ((bs.length + 63) / 64) (u64s ws), .row 48 2 A3 way.length c3 (stkC way), .row 3 1 A2 n2 c2 (ints o)] ∧ (Met bs.length ws S) ∧ (Fin_ (tg bs) way (S, o) (leftL bs)) ∧ (WayOk (tg bs) way) ∧ (o.length + way.length + unmet bs.length S ≤ bs.length) ∧ (n2 = o.length)) (n := _) ⟨putw (List.replicate ((bs.length + 63) / 64) 0) 0, addS (fun _ => false) 0, [(0, 0)], (some ⟨b39, 0, none⟩), 1, none, 0, 0, [], rfl, hF45.keep (keep := [1, 3, 4, 5]) (by kernel_rfl), (hM41.call (Mem.nilrow _ 3 1)), (Met.start bs.length).put (by omega), ⟨s0, hk0, hl0⟩, way_one _ _, by have := unmet_add (n := bs.length) (S := fun _ => false) (t := 0) (by omega) (by omega) rfl; have := unmet_le bs.length (fun _ => false); simp only [List.length_cons, List.length_nil]; omega, rfl⟩ ?_
    clear hF45 a44 hM41; rintro n a48 w46 ⟨ws, S, way, A3, c3, A2, n2, c2, o, rfl, hF49, hM47, hmet, hfin, hway, hcnt, hn2⟩
    refine W_seq (by kernel_rfl) ?_
    refine W_seq (by kernel_rfl) ?_
    refine W_region (by kernel_rfl) ?_   -- region 7
    refine From_pure 2 2 [1, 3, 4, 5, 22] hF49 (env' := [(1, (.pointer (some ⟨b1, 0, none⟩))), (3, (.slice (some ⟨g22, 0, none⟩) ((bs.length + 63) / 64) ((bs.length + 63) / 64))), (4, (.slice A2 n2 c2)), (5, (.slice A3 way.length c3)), (22, (.int .i64 ((way.length : Nat) : Int)))]) (by kernel_rfl) rfl ?_
    intro a50 hF51; clear hF49 a48
    refine From_cmp (by kernel_rfl : coreAt _ 2 = some (some 23, (Go.Op.binOp Go.BinOp.gtr 3 (Go.Operand.tmp 22) (Go.Operand.const (Go.Value.int Go.IntKind.i64 0)) 3), 4, none)) hF51 (by kernel_rfl) (by kernel_rfl) (k' := 3) rfl (kd := .i64) (i := ((way.length : Nat) : Int)) (j := 0) (by kernel_rfl) (by kernel_rfl) rfl ?_
    intro Bw hBw a52 ea hF53; clear ea hF51 a50
    replace hF53 : Fr a52 83 [(1, (.pointer (some ⟨b1, 0, none⟩))), (3, (.slice (some ⟨g22, 0, none⟩) ((bs.length + 63) / 64) ((bs.length + 63) / 64))), (4, (.slice A2 n2 c2)), (5, (.slice A3 way.length c3)), (23, (.bool Bw))] := hF53.keep (keep := [1, 3, 4, 5, 23]) (by kernel_rfl)
    refine From_end (by kernel_rfl) ?_
    cases Bw
    · have cw : ¬ (((way.length : Nat) : Int) > 0) := by simpa using hBw
      refine W_cond (t := 23) (B := false) (by kernel_rfl) hF53 (by kernel_rfl) (fun t => Bool.noConfusion t) (fun _ => ?_)
      refine W_exit (id := 0) (by kernel_rfl) ?_
      refine inB_hit rfl ?_
      refine W_seq (by kernel_rfl) ?_
      refine W_region (by kernel_rfl) ?_   -- region 18
      obtain rfl : way = [] := by cases way with | nil => rfl | cons p r => simp at cw
      have hol : o = leftL bs := hfin
      simp only [List.length_nil] at hcnt
      subst hn2
      refine From_pure 1 1 [4, 80] hF53 (env' := [(4, (.slice A2 o.length c2)), (80, (.slice A2 o.length c2))]) (by kernel_rfl) rfl ?_
      intro a54 hF55; clear hF53 a52
      refine From_call (by kernel_rfl : coreAt _ 1 = some (some 81, (Go.Op.call { callee := (Go.Callee.value (Go.Operand.func 27)), args := #[(Go.Operand.tmp 80)], argTypes := #[27] }), 0, none)) hF55 (by kernel_rfl) (by kernel_rfl) (k' := 2) rfl (f := 27) (vs := [(.slice A2 o.length c2)]) (cap := []) (by kernel_rfl) (by kernel_rfl) (by kernel_rfl) (reverse_c o A2 c2 w46 (by omega) (hM47.get 3 rfl)) ?_
      rintro _ w56 ⟨rfl, hM57x⟩ a58 ea hF59; clear ea hF55 a54
      have hM57 : Mem noS w w56 [.blk b1 24 [nm, wk, pa, va, (.slice A bs.length c)], .row 61 1 (some ⟨g22, 0, none⟩) ((bs.length + 63) / 64) ((bs.length + 63) / 64) (u64s ws), .row 48 2 A3 [].length c3 (stkC []), .row 3 1 A2 o.length c2 (ints o.reverse)] := hM47.mod 3 rfl hM57x
      clear hM57x hM47
      replace hF59 : Fr a58 83 [(4, (.slice A2 o.length c2))] := hF59.keep (keep := [4]) (by kernel_rfl)
      refine From_end (by kernel_rfl) ?_
      refine W_seq (by kernel_rfl) ?_
      refine W_region (by kernel_rfl) ?_   -- region 19
      refine From_pure 2 2 [2] hF59 (env' := [(2, (.slice A2 o.length c2))]) (by kernel_rfl) rfl ?_
      intro a60 hF61; clear hF59 a58
      refine From_end (by kernel_rfl) ?_
      refine W_ret (by kernel_rfl) ?_
      refine out1 (v := (.slice A2 o.length c2)) hF61 rfl (by kernel_rfl) ?_
      refine ⟨_, rfl, ?_⟩
      exact row_ret (hM57.pick [false, false, false, true] rfl) (by unfold orderL; rw [if_neg (by omega), hol]) (by simp)
    · have cw : ((way.length : Nat) : Int) > 0 := by simpa using hBw
      refine W_cond (t := 23) (B := true) (by kernel_rfl) hF53 (by kernel_rfl) (fun _ => ?_) (fun t => Bool.noConfusion t)
      refine W_skip (by kernel_rfl) ?_
      refine W_block (id := 1) (by kernel_rfl) ?_
      refine W_seq (by kernel_rfl) ?_
      refine W_region (by kernel_rfl) ?_   -- region 8
      obtain ⟨b, k, rest, rfl⟩ : ∃ b k rest, way = (b, k) :: rest := by
        cases way with
        | nil => simp at cw
        | cons p rest => exact ⟨p.1, p.2, rest, rfl⟩
      have hkl := hway _ (List.mem_cons_self ..)
      simp only at hkl
      have hlw : ((b, k) :: rest).length = rest.length + 1 := rfl
      have hcnt2 := hcnt
      simp only [List.length_cons] at hcnt2
      have hsz := row_le (hM47.get 2 rfl)
      obtain ⟨g3, rfl⟩ := row_some (hM47.get 2 rfl) (Nat.succ_pos _)
      refine From_pure 3 3 [1, 3, 4, 5, 24, 26] hF53 (env' := [(1, (.pointer (some ⟨b1, 0, none⟩))), (3, (.slice (some ⟨g22, 0, none⟩) ((bs.length + 63) / 64) ((bs.length + 63) / 64))), (4, (.slice A2 n2 c2)), (5, (.slice (some ⟨g3, 0, none⟩) (((b, k) :: rest).length) c3)), (24, (.slice (some ⟨g3, 0, none⟩) (((b, k) :: rest).length) c3)), (26, (.int .i64 ((((b, k) :: rest).length : Nat) : Int)))]) (by kernel_rfl) rfl ?_
      intro a62 hF63; clear hF53 a52
      refine From_arith (by kernel_rfl : coreAt _ 3 = some (some 27, (Go.Op.binOp Go.BinOp.sub 3 (Go.Operand.tmp 26) (Go.Operand.const (Go.Value.int Go.IntKind.i64 1)) 3), 3, none)) hF63 (by kernel_rfl) (by kernel_rfl) (k' := 4) rfl (i := ((((b, k) :: rest).length : Nat) : Int)) (j := 1) (z := ((rest.length : Nat) : Int)) (by kernel_rfl) (by kernel_rfl) (congrArg some (by rw [hlw]; omega)) (by omega) (by omega) ?_
      intro a64 ea hF65; clear ea hF63 a62
      replace hF65 : Fr a64 83 [(1, (.pointer (some ⟨b1, 0, none⟩))), (3, (.slice (some ⟨g22, 0, none⟩) ((bs.length + 63) / 64) ((bs.length + 63) / 64))), (4, (.slice A2 n2 c2)), (5, (.slice (some ⟨g3, 0, none⟩) (((b, k) :: rest).length) c3)), (24, (.slice (some ⟨g3, 0, none⟩) (((b, k) :: rest).length) c3)), (27, (.int .i64 ((rest.length : Nat) : Int)))] := hF65.keep (keep := [1, 3, 4, 5, 24, 27]) (by kernel_rfl)
      refine From_index (by kernel_rfl : coreAt _ 4 = some (some 28, (Go.Op.indexAddr 49 (Go.Operand.tmp 24) (Go.Operand.tmp 27)), 0, none)) hF65 (by kernel_rfl) (by kernel_rfl) (k' := 5) rfl (A := (some ⟨g3, 0, none⟩)) (ad := ⟨g3, 0, none⟩) (n := (((b, k) :: rest).length)) (cap := c3) (e := 48) (size := 2) (kd := .i64) (i := ((rest.length : Nat) : Int)) (by kernel_rfl) (by kernel_rfl) rfl (by kernel_rfl) (by kernel_rfl) (by omega) (by omega) ?_
      intro a66 ea hF67; clear ea hF65 a64
      replace hF67 : Fr a66 83 [(1, (.pointer (some ⟨b1, 0, none⟩))), (3, (.slice (some ⟨g22, 0, none⟩) ((bs.length + 63) / 64) ((bs.length + 63) / 64))), (4, (.slice A2 n2 c2)), (5, (.slice (some ⟨g3, 0, none⟩) (((b, k) :: rest).length) c3)), (28, (.pointer (some ((⟨g3, 0, none⟩ : Addr).add ((((rest.length : Nat) : Int)).toNat * 2)))))] := hF67.keep (keep := [1, 3, 4, 5, 28]) (by kernel_rfl)
      refine From_pure 1 6 [1, 3, 4, 5, 6] hF67 (env' := [(1, (.pointer (some ⟨b1, 0, none⟩))), (3, (.slice (some ⟨g22, 0, none⟩) ((bs.length + 63) / 64) ((bs.length + 63) / 64))), (4, (.slice A2 n2 c2)), (5, (.slice (some ⟨g3, 0, none⟩) (((b, k) :: rest).length) c3)), (6, (.pointer (some ((⟨g3, 0, none⟩ : Addr).add ((((rest.length : Nat) : Int)).toNat * 2)))))]) (by kernel_rfl) rfl ?_
      intro a68 hF69; clear hF67 a66
      refine From_end (by kernel_rfl) ?_
      refine W_seq (by kernel_rfl) ?_
      refine W_drawJ (N := 83) (env0 := [(1, (.pointer (some ⟨b1, 0, none⟩))), (3, (.slice (some ⟨g22, 0, none⟩) ((bs.length + 63) / 64) ((bs.length + 63) / 64))), (4, (.slice A2 n2 c2)), (5, (.slice (some ⟨g3, 0, none⟩) (((b, k) :: rest).length) c3)), (6, (.pointer (some ((⟨g3, 0, none⟩ : Addr).add ((((rest.length : Nat) : Int)).toNat * 2)))))]) (by kernel_rfl) (by kernel_rfl) (specAt [.det (.agg #[nm, wk, pa, va, (.slice A bs.length c)]), .det (.pointer (some ((⟨g3, 0, none⟩ : Addr).add ((((rest.length : Nat) : Int)).toNat * 2)))), .det (.pointer (some ((⟨g3, 0, none⟩ : Addr).add ((((rest.length : Nat) : Int)).toNat * 2)))), .det (.pointer (some ((⟨g3, 0, none⟩ : Addr).add ((((rest.length : Nat) : Int)).toNat * 2)))), .det (.int .i64 b), Spec.free, Spec.free]) (fun ls vs w_ => match ls 6 with | true => (∃ (A70 : Option Addr) (c71 : Nat), vs 6 = (.slice A70 ((tg bs b).length) c71) ∧ Mem noS w w_ [.blk b1 24 [nm, wk, pa, va, (.slice A bs.length c)], .row 61 1 (some ⟨g22, 0, none⟩) ((bs.length + 63) / 64) ((bs.length + 63) / 64) (u64s ws), .row 48 2 (some ⟨g3, 0, none⟩) (((b, k) :: rest).length) c3 (stkC ((b, k) :: rest)), .row 3 1 A2 n2 c2 (ints o), .row 3 1 A70 ((tg bs b).length) c71 (ints (tg bs b))]) | false => (match ls 5 with | true => (∃ (A70 : Option Addr) (c71 : Nat), vs 5 = (.slice A70 ((tg bs b).length) c71) ∧ Mem noS w w_ [.blk b1 24 [nm, wk, pa, va, (.slice A bs.length c)], .row 61 1 (some ⟨g22, 0, none⟩) ((bs.length + 63) / 64) ((bs.length + 63) / 64) (u64s ws), .row 48 2 (some ⟨g3, 0, none⟩) (((b, k) :: rest).length) c3 (stkC ((b, k) :: rest)), .row 3 1 A2 n2 c2 (ints o), .row 3 1 A70 ((tg bs b).length) c71 (ints (tg bs b))]) | false => (Mem noS w w_ [.blk b1 24 [nm, wk, pa, va, (.slice A bs.length c)], .row 61 1 (some ⟨g22, 0, none⟩) ((bs.length + 63) / 64) ((bs.length + 63) / 64) (u64s ws), .row 48 2 (some ⟨g3, 0, none⟩) (((b, k) :: rest).length) c3 (stkC ((b, k) :: rest)), .row 3 1 A2 n2 c2 (ints o)]))) (by kernel_rfl) (by kernel_rfl) hF69 (by kernel_rfl) (by kernel_rfl) (plain_ok (.det (.det (.det (.det (.det (.free (.free .nil)))))))) (hM47.then_ (Mem.drew _)) (lt_succ_all (lt_succ_all (lt_succ_all (lt_succ_all (lt_succ_all (lt_succ_all (lt_succ_all lt_zero_all ?_) ?_) ?_) ?_) ?_) ?_) ?_) ?_   -- region 9
      · intro aa_ w_ ls vs rest_ hJ hi_ hc_ hp hF
        refine ⟨true, opok_guard (g0 := none) (by kernel_rfl) (by kernel_rfl), fun _ => ?_, fun h => Bool.noConfusion h⟩
        replace hF : Fr aa_ 83 [(1, (.pointer (some ⟨b1, 0, none⟩)))] := hF.keep (keep := [1]) (by kernel_rfl)
        have f5 : ls 5 = false := notyet hc_ hi_ (n := 7) (by kernel_rfl)
        have f6 : ls 6 = false := notyet hc_ hi_ (n := 7) (by kernel_rfl)
        have hM_ := hJ
        simp only [f5, f6] at hM_
        refine From_loadS (by kernel_rfl : coreAt _ 0 = some (some 29, (Go.Op.load 24 (Go.Operand.tmp 1)), 24, none)) hF (by kernel_rfl) (by kernel_rfl) (k' := 1) rfl (ad := ⟨b1, 0, none⟩) (vs := [nm, wk, pa, va, (.slice A bs.length c)]) (by kernel_rfl) (by kernel_rfl) (blk_cells (hM_.get 0 rfl)) ?_
        intro a2 ea _
        refine From_end (by kernel_rfl) ?_; exact op_doneJ (d := some 29) (by kernel_rfl) ea rfl hJ
      · intro aa_ w_ ls vs rest_ hJ hi_ hc_ hp hF
        refine ⟨true, opok_guard (g0 := none) (by kernel_rfl) (by kernel_rfl), fun _ => ?_, fun h => Bool.noConfusion h⟩
        replace hF : Fr aa_ 83 [(6, (.pointer (some ((⟨g3, 0, none⟩ : Addr).add ((((rest.length : Nat) : Int)).toNat * 2)))))] := hF.keep (keep := [6]) (by kernel_rfl)
        refine From_pure1 (by kernel_rfl : coreAt _ 0 = some (some 30, (Go.Op.move (Go.Operand.tmp 6)), 50, none)) hF (by kernel_rfl) (by kernel_rfl) (k' := 1) rfl (v := (.pointer (some ((⟨g3, 0, none⟩ : Addr).add ((((rest.length : Nat) : Int)).toNat * 2))))) (by kernel_rfl) ?_
        intro a2 ea _
        refine From_end (by kernel_rfl) ?_; exact op_doneJ (d := some 30) (by kernel_rfl) ea rfl hJ
      · intro aa_ w_ ls vs rest_ hJ hi_ hc_ hp hF
        refine ⟨true, opok_guard (g0 := none) (by kernel_rfl) (by kernel_rfl), fun _ => ?_, fun h => Bool.noConfusion h⟩
        replace hF : Fr aa_ 83 [(30, (.pointer (some ((⟨g3, 0, none⟩ : Addr).add ((((rest.length : Nat) : Int)).toNat * 2)))))] := hF.keep (keep := [30]) (by kernel_rfl)
        refine From_pure1 (by kernel_rfl : coreAt _ 0 = some (some 31, (Go.Op.nilCheck (Go.Operand.tmp 30)), 0, none)) hF (by kernel_rfl) (by kernel_rfl) (k' := 1) rfl (v := (.pointer (some ((⟨g3, 0, none⟩ : Addr).add ((((rest.length : Nat) : Int)).toNat * 2))))) (by kernel_rfl) ?_
        intro a2 ea _
        refine From_end (by kernel_rfl) ?_; exact op_doneJ (d := some 31) (by kernel_rfl) ea rfl hJ
      · intro aa_ w_ ls vs rest_ hJ hi_ hc_ hp hF
        refine ⟨true, opok_guard (g0 := none) (by kernel_rfl) (by kernel_rfl), fun _ => ?_, fun h => Bool.noConfusion h⟩
        replace hF : Fr aa_ 83 [(31, (.pointer (some ((⟨g3, 0, none⟩ : Addr).add ((((rest.length : Nat) : Int)).toNat * 2)))))] := hF.keep (keep := [31]) (by kernel_rfl)
        refine From_pure1 (by kernel_rfl : coreAt _ 0 = some (some 32, (Go.Op.fieldAddr 48 (Go.Operand.tmp 31) 0), 0, none)) hF (by kernel_rfl) (by kernel_rfl) (k' := 1) rfl (v := (.pointer (some ((⟨g3, 0, none⟩ : Addr).add ((((rest.length : Nat) : Int)).toNat * 2))))) (by kernel_rfl) ?_
        intro a2 ea _
        refine From_end (by kernel_rfl) ?_; exact op_doneJ (d := some 32) (by kernel_rfl) ea rfl hJ
      · intro aa_ w_ ls vs rest_ hJ hi_ hc_ hp hF
        refine ⟨true, opok_guard (g0 := none) (by kernel_rfl) (by kernel_rfl), fun _ => ?_, fun h => Bool.noConfusion h⟩
        replace hF : Fr aa_ 83 [(32, (.pointer (some ((⟨g3, 0, none⟩ : Addr).add ((((rest.length : Nat) : Int)).toNat * 2)))))] := hF.keep (keep := [32]) (by kernel_rfl)
        have f5 : ls 5 = false := notyet hc_ hi_ (n := 7) (by kernel_rfl)
        have f6 : ls 6 = false := notyet hc_ hi_ (n := 7) (by kernel_rfl)
        have hM_ := hJ
        simp only [f5, f6] at hM_
        refine From_load1 (by kernel_rfl : coreAt _ 0 = some (some 33, (Go.Op.load 3 (Go.Operand.tmp 32)), 3, none)) hF (by kernel_rfl) (by kernel_rfl) (k' := 1) rfl (ad := ((⟨g3, 0, none⟩ : Addr).add ((((rest.length : Nat) : Int)).toNat * 2))) (v := (.int .i64 b)) (by kernel_rfl) (by kernel_rfl) (by rw [Int.toNat_natCast]; exact rd_get (row_rd (hM_.get 2 rfl)) rfl stk_top.1) ?_
        intro a2 ea _
        refine From_end (by kernel_rfl) ?_; exact op_doneJ (d := some 33) (by kernel_rfl) ea rfl hJ
      · intro aa_ w_ ls vs rest_ hJ hi_ hc_ hp hF
        refine ⟨true, opok_guard (g0 := none) (by kernel_rfl) (by kernel_rfl), fun _ => ?_, fun h => Bool.noConfusion h⟩
        replace hF : Fr aa_ 83 [(29, (.agg #[nm, wk, pa, va, (.slice A bs.length c)])), (33, (.int .i64 b))] := hF.keep (keep := [29, 33]) (by kernel_rfl)
        have f5 : ls 5 = false := hi_
        have f6 : ls 6 = false := notyet hc_ hi_ (n := 7) (by kernel_rfl)
        have hM_ := hJ
        simp only [f5, f6] at hM_
        refine From_call (by kernel_rfl : coreAt _ 0 = some (some 34, (Go.Op.call { callee := (Go.Callee.value (Go.Operand.func 19)), args := #[(Go.Operand.tmp 29), (Go.Operand.tmp 33)], argTypes := #[24, 3] }), 27, none)) hF (by kernel_rfl) (by kernel_rfl) (k' := 1) rfl (f := 19) (vs := [(.agg #[nm, wk, pa, va, (.slice A bs.length c)]), (.int .i64 b)]) (cap := []) (by kernel_rfl) (by kernel_rfl) (by kernel_rfl) (targets_c _ _ _ _ A c bs b w_ hm (hA.at_ hM_)) ?_
        rintro _ w2 ⟨A70p, c71p, rfl, hm2⟩ a2 ea _
        have hm3 := hM_.call hm2
        refine From_end (by kernel_rfl) ?_; refine op_doneJ (d := some 34) (by kernel_rfl) ea trivial ?_
        show match ls 6 with | true => (∃ (A70 : Option Addr) (c71 : Nat), vs 6 = (.slice A70 ((tg bs b).length) c71) ∧ Mem noS w w2 [.blk b1 24 [nm, wk, pa, va, (.slice A bs.length c)], .row 61 1 (some ⟨g22, 0, none⟩) ((bs.length + 63) / 64) ((bs.length + 63) / 64) (u64s ws), .row 48 2 (some ⟨g3, 0, none⟩) (((b, k) :: rest).length) c3 (stkC ((b, k) :: rest)), .row 3 1 A2 n2 c2 (ints o), .row 3 1 A70 ((tg bs b).length) c71 (ints (tg bs b))]) | false => (∃ (A70 : Option Addr) (c71 : Nat), ((.slice A70p ((tg bs b).length) c71p) : Value) = (.slice A70 ((tg bs b).length) c71) ∧ Mem noS w w2 [.blk b1 24 [nm, wk, pa, va, (.slice A bs.length c)], .row 61 1 (some ⟨g22, 0, none⟩) ((bs.length + 63) / 64) ((bs.length + 63) / 64) (u64s ws), .row 48 2 (some ⟨g3, 0, none⟩) (((b, k) :: rest).length) c3 (stkC ((b, k) :: rest)), .row 3 1 A2 n2 c2 (ints o), .row 3 1 A70 ((tg bs b).length) c71 (ints (tg bs b))])
        rw [f6]
        exact ⟨A70p, c71p, rfl, hm3⟩
      · intro aa_ w_ ls vs rest_ hJ hi_ hc_ hp hF
        refine ⟨true, opok_guard (g0 := none) (by kernel_rfl) (by kernel_rfl), fun _ => ?_, fun h => Bool.noConfusion h⟩
        replace hF : Fr aa_ 83 [(34, vs 5)] := hF.keep (keep := [34]) (by kernel_rfl)
        have f5 : ls 5 = true := donebefore hc_ (fun k hk => (hp k hk).1) (n := 7) (by kernel_rfl)
        have f6 : ls 6 = false := hi_
        have hM_ := hJ
        simp only [f5, f6] at hM_
        obtain ⟨A70p, c71p, e_, hm2⟩ := hM_
        rw [e_] at hF
        refine From_pure1 (by kernel_rfl : coreAt _ 0 = some (some 7, (Go.Op.assign (Go.Operand.tmp 34)), 27, none)) hF (by kernel_rfl) (by kernel_rfl) (k' := 1) rfl (v := (.slice A70p ((tg bs b).length) c71p)) (by kernel_rfl) ?_
        intro a2 ea _
        refine From_end (by kernel_rfl) ?_; refine op_doneJ (d := some 7) (by kernel_rfl) ea trivial ?_
        show ∃ (A70 : Option Addr) (c71 : Nat), ((.slice A70p ((tg bs b).length) c71p) : Value) = (.slice A70 ((tg bs b).length) c71) ∧ Mem noS w w_ [.blk b1 24 [nm, wk, pa, va, (.slice A bs.length c)], .row 61 1 (some ⟨g22, 0, none⟩) ((bs.length + 63) / 64) ((bs.length + 63) / 64) (u64s ws), .row 48 2 (some ⟨g3, 0, none⟩) (((b, k) :: rest).length) c3 (stkC ((b, k) :: rest)), .row 3 1 A2 n2 c2 (ints o), .row 3 1 A70 ((tg bs b).length) c71 (ints (tg bs b))]
        exact ⟨A70p, c71p, rfl, hm2⟩
      intro a72 w74 ls vs hall hM75 hv hF73
      simp only [show ls 6 = true from hall 6 (by decide)] at hM75
      replace hF73 : Fr a72 83 [(1, (.pointer (some ⟨b1, 0, none⟩))), (3, (.slice (some ⟨g22, 0, none⟩) ((bs.length + 63) / 64) ((bs.length + 63) / 64))), (4, (.slice A2 n2 c2)), (5, (.slice (some ⟨g3, 0, none⟩) (((b, k) :: rest).length) c3)), (6, (.pointer (some ((⟨g3, 0, none⟩ : Addr).add ((((rest.length : Nat) : Int)).toNat * 2))))), (7, vs 6)] := hF73.keep (keep := [1, 3, 4, 5, 6, 7]) (by kernel_rfl)
      obtain ⟨A70, c71, e_, hM75⟩ := hM75
      rw [e_] at hF73; clear e_
      clear hall hv hF69 a68 hM47; clear vs ls
      refine W_seq (by kernel_rfl) ?_
      refine W_seq (by kernel_rfl) ?_
      refine W_region (by kernel_rfl) ?_   -- region 10
      refine From_pure 3 3 [1, 3, 4, 5, 6, 7, 37] hF73 (env' := [(1, (.pointer (some ⟨b1, 0, none⟩))), (3, (.slice (some ⟨g22, 0, none⟩) ((bs.length + 63) / 64) ((bs.length + 63) / 64))), (4, (.slice A2 n2 c2)), (5, (.slice (some ⟨g3, 0, none⟩) (((b, k) :: rest).length) c3)), (6, (.pointer (some ((⟨g3, 0, none⟩ : Addr).add ((((rest.length : Nat) : Int)).toNat * 2))))), (7, (.slice A70 ((tg bs b).length) c71)), (37, (.pointer (some (((⟨g3, 0, none⟩ : Addr).add ((((rest.length : Nat) : Int)).toNat * 2)).add 1))))]) (by kernel_rfl) rfl ?_
      intro a76 hF77; clear hF73 a72
      refine From_load1 (by kernel_rfl : coreAt _ 3 = some (some 38, (Go.Op.load 3 (Go.Operand.tmp 37)), 3, none)) hF77 (by kernel_rfl) (by kernel_rfl) (k' := 4) rfl (ad := (((⟨g3, 0, none⟩ : Addr).add ((((rest.length : Nat) : Int)).toNat * 2)).add 1)) (v := (.int .i64 (k : Int))) (by kernel_rfl) (by kernel_rfl) (by rw [Int.toNat_natCast, add_add]; exact rd_get (row_rd (hM75.get 2 rfl)) rfl stk_top.2) ?_
      intro a78 ea hF79; clear ea hF77 a76
      replace hF79 : Fr a78 83 [(1, (.pointer (some ⟨b1, 0, none⟩))), (3, (.slice (some ⟨g22, 0, none⟩) ((bs.length + 63) / 64) ((bs.length + 63) / 64))), (4, (.slice A2 n2 c2)), (5, (.slice (some ⟨g3, 0, none⟩) (((b, k) :: rest).length) c3)), (6, (.pointer (some ((⟨g3, 0, none⟩ : Addr).add ((((rest.length : Nat) : Int)).toNat * 2))))), (7, (.slice A70 ((tg bs b).length) c71)), (38, (.int .i64 (k : Int)))] := hF79.keep (keep := [1, 3, 4, 5, 6, 7, 38]) (by kernel_rfl)
      refine From_pure 2 6 [1, 3, 4, 5, 6, 7, 38, 40] hF79 (env' := [(1, (.pointer (some ⟨b1, 0, none⟩))), (3, (.slice (some ⟨g22, 0, none⟩) ((bs.length + 63) / 64) ((bs.length + 63) / 64))), (4, (.slice A2 n2 c2)), (5, (.slice (some ⟨g3, 0, none⟩) (((b, k) :: rest).length) c3)), (6, (.pointer (some ((⟨g3, 0, none⟩ : Addr).add ((((rest.length : Nat) : Int)).toNat * 2))))), (7, (.slice A70 ((tg bs b).length) c71)), (38, (.int .i64 (k : Int))), (40, (.int .i64 (((tg bs b).length : Nat) : Int)))]) (by kernel_rfl) rfl ?_
      intro a80 hF81; clear hF79 a78
      refine From_cmp (by kernel_rfl : coreAt _ 6 = some (some 41, (Go.Op.binOp Go.BinOp.eql 3 (Go.Operand.tmp 38) (Go.Operand.tmp 40) 3), 4, none)) hF81 (by kernel_rfl) (by kernel_rfl) (k' := 7) rfl (kd := .i64) (i := (k : Int)) (j := (((tg bs b).length : Nat) : Int)) (by kernel_rfl) (by kernel_rfl) rfl ?_
      intro Bl hBl a82 ea hF83; clear ea hF81 a80
      replace hF83 : Fr a82 83 [(1, (.pointer (some ⟨b1, 0, none⟩))), (3, (.slice (some ⟨g22, 0, none⟩) ((bs.length + 63) / 64) ((bs.length + 63) / 64))), (4, (.slice A2 n2 c2)), (5, (.slice (some ⟨g3, 0, none⟩) (((b, k) :: rest).length) c3)), (6, (.pointer (some ((⟨g3, 0, none⟩ : Addr).add ((((rest.length : Nat) : Int)).toNat * 2))))), (7, (.slice A70 ((tg bs b).length) c71)), (41, (.bool Bl))] := hF83.keep (keep := [1, 3, 4, 5, 6, 7, 41]) (by kernel_rfl)
      refine From_end (by kernel_rfl) ?_
      cases Bl
      · have cl : ¬ ((k : Int) = (((tg bs b).length : Nat) : Int)) := by simpa using hBl
        refine W_cond (t := 41) (B := false) (by kernel_rfl) hF83 (by kernel_rfl) (fun t => Bool.noConfusion t) (fun _ => ?_)
        refine W_skip (by kernel_rfl) ?_
        refine W_seq (by kernel_rfl) ?_
        refine W_region (by kernel_rfl) ?_   -- region 13
        obtain ⟨ti, hti, htn⟩ := tg_at (bs := bs) (b := b) (k := k) (by omega)
        refine From_pure 4 4 [1, 3, 4, 5, 6, 54, 57] hF83 (env' := [(1, (.pointer (some ⟨b1, 0, none⟩))), (3, (.slice (some ⟨g22, 0, none⟩) ((bs.length + 63) / 64) ((bs.length + 63) / 64))), (4, (.slice A2 n2 c2)), (5, (.slice (some ⟨g3, 0, none⟩) (((b, k) :: rest).length) c3)), (6, (.pointer (some ((⟨g3, 0, none⟩ : Addr).add ((((rest.length : Nat) : Int)).toNat * 2))))), (54, (.slice A70 ((tg bs b).length) c71)), (57, (.pointer (some (((⟨g3, 0, none⟩ : Addr).add ((((rest.length : Nat) : Int)).toNat * 2)).add 1))))]) (by kernel_rfl) rfl ?_
        intro a84 hF85; clear hF83 a82
        refine From_load1 (by kernel_rfl : coreAt _ 4 = some (some 58, (Go.Op.load 3 (Go.Operand.tmp 57)), 3, none)) hF85 (by kernel_rfl) (by kernel_rfl) (k' := 5) rfl (ad := (((⟨g3, 0, none⟩ : Addr).add ((((rest.length : Nat) : Int)).toNat * 2)).add 1)) (v := (.int .i64 (k : Int))) (by kernel_rfl) (by kernel_rfl) (by rw [Int.toNat_natCast, add_add]; exact rd_get (row_rd (hM75.get 2 rfl)) rfl stk_top.2) ?_
        intro a86 ea hF87; clear ea hF85 a84
        replace hF87 : Fr a86 83 [(1, (.pointer (some ⟨b1, 0, none⟩))), (3, (.slice (some ⟨g22, 0, none⟩) ((bs.length + 63) / 64) ((bs.length + 63) / 64))), (4, (.slice A2 n2 c2)), (5, (.slice (some ⟨g3, 0, none⟩) (((b, k) :: rest).length) c3)), (6, (.pointer (some ((⟨g3, 0, none⟩ : Addr).add ((((rest.length : Nat) : Int)).toNat * 2))))), (54, (.slice A70 ((tg bs b).length) c71)), (58, (.int .i64 (k : Int)))] := hF87.keep (keep := [1, 3, 4, 5, 6, 54, 58]) (by kernel_rfl)
        obtain ⟨g89, rfl⟩ := row_some (hM75.get 4 rfl) (by omega)
        refine From_index (by kernel_rfl : coreAt _ 5 = some (some 59, (Go.Op.indexAddr 27 (Go.Operand.tmp 54) (Go.Operand.tmp 58)), 0, none)) hF87 (by kernel_rfl) (by kernel_rfl) (k' := 6) rfl (A := (some ⟨g89, 0, none⟩)) (ad := ⟨g89, 0, none⟩) (n := ((tg bs b).length)) (cap := c71) (e := 3) (size := 1) (kd := .i64) (i := (k : Int)) (by kernel_rfl) (by kernel_rfl) rfl (by kernel_rfl) (by kernel_rfl) (by omega) (by omega) ?_
        intro a90 ea hF91; clear ea hF87 a86
        replace hF91 : Fr a90 83 [(1, (.pointer (some ⟨b1, 0, none⟩))), (3, (.slice (some ⟨g22, 0, none⟩) ((bs.length + 63) / 64) ((bs.length + 63) / 64))), (4, (.slice A2 n2 c2)), (5, (.slice (some ⟨g3, 0, none⟩) (((b, k) :: rest).length) c3)), (6, (.pointer (some ((⟨g3, 0, none⟩ : Addr).add ((((rest.length : Nat) : Int)).toNat * 2))))), (59, (.pointer (some ((⟨g89, 0, none⟩ : Addr).add (((k : Int)).toNat * 1)))))] := hF91.keep (keep := [1, 3, 4, 5, 6, 59]) (by kernel_rfl)
        refine From_load1 (by kernel_rfl : coreAt _ 6 = some (some 60, (Go.Op.load 3 (Go.Operand.tmp 59)), 3, none)) hF91 (by kernel_rfl) (by kernel_rfl) (k' := 7) rfl (ad := ((⟨g89, 0, none⟩ : Addr).add (((k : Int)).toNat * 1))) (v := (.int .i64 (ti : Int))) (by kernel_rfl) (by kernel_rfl) (rd_at (row_rd (hM75.get 4 rfl)) rfl hti) ?_
        intro a92 ea hF93; clear ea hF91 a90
        replace hF93 : Fr a92 83 [(1, (.pointer (some ⟨b1, 0, none⟩))), (3, (.slice (some ⟨g22, 0, none⟩) ((bs.length + 63) / 64) ((bs.length + 63) / 64))), (4, (.slice A2 n2 c2)), (5, (.slice (some ⟨g3, 0, none⟩) (((b, k) :: rest).length) c3)), (6, (.pointer (some ((⟨g3, 0, none⟩ : Addr).add ((((rest.length : Nat) : Int)).toNat * 2))))), (60, (.int .i64 (ti : Int)))] := hF93.keep (keep := [1, 3, 4, 5, 6, 60]) (by kernel_rfl)
        refine From_pure 1 8 [1, 3, 4, 5, 6, 8] hF93 (env' := [(1, (.pointer (some ⟨b1, 0, none⟩))), (3, (.slice (some ⟨g22, 0, none⟩) ((bs.length + 63) / 64) ((bs.length + 63) / 64))), (4, (.slice A2 n2 c2)), (5, (.slice (some ⟨g3, 0, none⟩) (((b, k) :: rest).length) c3)), (6, (.pointer (some ((⟨g3, 0, none⟩ : Addr).add ((((rest.length : Nat) : Int)).toNat * 2))))), (8, (.int .i64 (ti : Int)))]) (by kernel_rfl) rfl ?_
        intro a94 hF95; clear hF93 a92
        refine From_end (by kernel_rfl) ?_
        refine W_seq (by kernel_rfl) ?_
        refine W_region (by kernel_rfl) ?_   -- region 14
        refine From_pure 3 3 [1, 3, 4, 5, 8, 61, 63] hF95 (env' := [(1, (.pointer (some ⟨b1, 0, none⟩))), (3, (.slice (some ⟨g22, 0, none⟩) ((bs.length + 63) / 64) ((bs.length + 63) / 64))), (4, (.slice A2 n2 c2)), (5, (.slice (some ⟨g3, 0, none⟩) (((b, k) :: rest).length) c3)), (8, (.int .i64 (ti : Int))), (61, (.pointer (some ((⟨g3, 0, none⟩ : Addr).add ((((rest.length : Nat) : Int)).toNat * 2))))), (63, (.pointer (some (((⟨g3, 0, none⟩ : Addr).add ((((rest.length : Nat) : Int)).toNat * 2)).add 1))))]) (by kernel_rfl) rfl ?_
        intro a96 hF97; clear hF95 a94
        refine From_load1 (by kernel_rfl : coreAt _ 3 = some (some 64, (Go.Op.load 3 (Go.Operand.tmp 63)), 3, none)) hF97 (by kernel_rfl) (by kernel_rfl) (k' := 4) rfl (ad := (((⟨g3, 0, none⟩ : Addr).add ((((rest.length : Nat) : Int)).toNat * 2)).add 1)) (v := (.int .i64 (k : Int))) (by kernel_rfl) (by kernel_rfl) (by rw [Int.toNat_natCast, add_add]; exact rd_get (row_rd (hM75.get 2 rfl)) rfl stk_top.2) ?_
        intro a98 ea hF99; clear ea hF97 a96
        replace hF99 : Fr a98 83 [(1, (.pointer (some ⟨b1, 0, none⟩))), (3, (.slice (some ⟨g22, 0, none⟩) ((bs.length + 63) / 64) ((bs.length + 63) / 64))), (4, (.slice A2 n2 c2)), (5, (.slice (some ⟨g3, 0, none⟩) (((b, k) :: rest).length) c3)), (8, (.int .i64 (ti : Int))), (61, (.pointer (some ((⟨g3, 0, none⟩ : Addr).add ((((rest.length : Nat) : Int)).toNat * 2))))), (64, (.int .i64 (k : Int)))] := hF99.keep (keep := [1, 3, 4, 5, 8, 61, 64]) (by kernel_rfl)
        refine From_arith (by kernel_rfl : coreAt _ 4 = some (some 65, (Go.Op.binOp Go.BinOp.add 3 (Go.Operand.tmp 64) (Go.Operand.const (Go.Value.int Go.IntKind.i64 1)) 3), 3, none)) hF99 (by kernel_rfl) (by kernel_rfl) (k' := 5) rfl (i := (k : Int)) (j := 1) (z := ((k : Int) + 1)) (by kernel_rfl) (by kernel_rfl) rfl (by omega) (by have := tg_len bs b; omega) ?_
        intro a100 ea hF101; clear ea hF99 a98
        replace hF101 : Fr a100 83 [(1, (.pointer (some ⟨b1, 0, none⟩))), (3, (.slice (some ⟨g22, 0, none⟩) ((bs.length + 63) / 64) ((bs.length + 63) / 64))), (4, (.slice A2 n2 c2)), (5, (.slice (some ⟨g3, 0, none⟩) (((b, k) :: rest).length) c3)), (8, (.int .i64 (ti : Int))), (61, (.pointer (some ((⟨g3, 0, none⟩ : Addr).add ((((rest.length : Nat) : Int)).toNat * 2))))), (65, (.int .i64 ((k : Int) + 1)))] := hF101.keep (keep := [1, 3, 4, 5, 8, 61, 65]) (by kernel_rfl)
        refine From_pure 2 7 [1, 3, 4, 5, 8, 65, 67] hF101 (env' := [(1, (.pointer (some ⟨b1, 0, none⟩))), (3, (.slice (some ⟨g22, 0, none⟩) ((bs.length + 63) / 64) ((bs.length + 63) / 64))), (4, (.slice A2 n2 c2)), (5, (.slice (some ⟨g3, 0, none⟩) (((b, k) :: rest).length) c3)), (8, (.int .i64 (ti : Int))), (65, (.int .i64 ((k : Int) + 1))), (67, (.pointer (some (((⟨g3, 0, none⟩ : Addr).add ((((rest.length : Nat) : Int)).toNat * 2)).add 1))))]) (by kernel_rfl) rfl ?_
        intro a102 hF103; clear hF101 a100
        refine From_store_row (by kernel_rfl : coreAt _ 7 = some (none, (Go.Op.store 3 (Go.Operand.tmp 67) (Go.Operand.tmp 65)), 0, none)) hF103 (by kernel_rfl) (by kernel_rfl) (k' := 8) rfl (ad := (⟨g3, 0, none⟩ : Addr)) (j := (rest.length * 2 + 1)) (e := 48) (size := 2) (n := (((b, k) :: rest).length)) (cap := c3) (v := (.int .i64 ((k : Int) + 1))) (xs := (stkC ((b, k) :: rest))) (ad' := (((⟨g3, 0, none⟩ : Addr).add ((((rest.length : Nat) : Int)).toNat * 2)).add 1)) (by kernel_rfl) (by rw [Int.toNat_natCast, add_add]) (by kernel_rfl) (by kernel_rfl) rfl hM75 2 rfl (by rw [hlw]; omega) ?_
        intro w104 hM105 _ a106 ea hF107; clear ea hF103 a102
        change Mem noS w w104 [.blk b1 24 [nm, wk, pa, va, (.slice A bs.length c)], .row 61 1 (some ⟨g22, 0, none⟩) ((bs.length + 63) / 64) ((bs.length + 63) / 64) (u64s ws), .row 48 2 (some ⟨g3, 0, none⟩) (((b, k) :: rest).length) c3 ((stkC ((b, k) :: rest)).set (rest.length * 2 + 1) (.int .i64 ((k : Int) + 1))), .row 3 1 A2 n2 c2 (ints o), .row 3 1 (some ⟨g89, 0, none⟩) ((tg bs b).length) c71 (ints (tg bs b))] at hM105
        clear hM75
        replace hF107 : Fr a106 83 [(1, (.pointer (some ⟨b1, 0, none⟩))), (3, (.slice (some ⟨g22, 0, none⟩) ((bs.length + 63) / 64) ((bs.length + 63) / 64))), (4, (.slice A2 n2 c2)), (5, (.slice (some ⟨g3, 0, none⟩) (((b, k) :: rest).length) c3)), (8, (.int .i64 (ti : Int)))] := hF107.keep (keep := [1, 3, 4, 5, 8]) (by kernel_rfl)
        refine From_end (by kernel_rfl) ?_
        refine W_seq (by kernel_rfl) ?_
        refine W_region (by kernel_rfl) ?_   -- region 15
        have hM108 : Mem noS w w104 [.blk b1 24 [nm, wk, pa, va, (.slice A bs.length c)], .row 61 1 (some ⟨g22, 0, none⟩) ((bs.length + 63) / 64) ((bs.length + 63) / 64) (u64s ws), .row 48 2 (some ⟨g3, 0, none⟩) (((b, k + 1) :: rest).length) c3 (stkC ((b, k + 1) :: rest)), .row 3 1 A2 n2 c2 (ints o), .row 3 1 (some ⟨g89, 0, none⟩) ((tg bs b).length) c71 (ints (tg bs b))] := hM105.cast (by rw [stk_inc]; rfl)
        clear hM105
        refine From_pure 2 2 [1, 3, 4, 5, 8, 68, 69] hF107 (env' := [(1, (.pointer (some ⟨b1, 0, none⟩))), (3, (.slice (some ⟨g22, 0, none⟩) ((bs.length + 63) / 64) ((bs.length + 63) / 64))), (4, (.slice A2 n2 c2)), (5, (.slice (some ⟨g3, 0, none⟩) (((b, k + 1) :: rest).length) c3)), (8, (.int .i64 (ti : Int))), (68, (.slice (some ⟨g22, 0, none⟩) ((bs.length + 63) / 64) ((bs.length + 63) / 64))), (69, (.int .i64 (ti : Int)))]) (by kernel_rfl) rfl ?_
        intro a109 hF110; clear hF107 a106
        refine From_call (by kernel_rfl : coreAt _ 2 = some (some 70, (Go.Op.call { callee := (Go.Callee.value (Go.Operand.func 26)), args := #[(Go.Operand.tmp 68), (Go.Operand.tmp 69)], argTypes := #[44, 3] }), 4, none)) hF110 (by kernel_rfl) (by kernel_rfl) (k' := 3) rfl (f := 26) (vs := [(.slice (some ⟨g22, 0, none⟩) ((bs.length + 63) / 64) ((bs.length + 63) / 64)), (.int .i64 (ti : Int))]) (cap := []) (by kernel_rfl) (by kernel_rfl) (by kernel_rfl) (hasb_c ws ((bs.length + 63) / 64) ti (some ⟨g22, 0, none⟩) ((bs.length + 63) / 64) w104 hmet.fit (by omega) hmet.len.symm (hmet.idx htn) (RO.row_rd (hM108.own_ro 1 rfl))) ?_
        rintro _ w111 ⟨rfl, hM112x⟩ a113 ea hF114; clear ea hF110 a109
        have hM112 : Mem noS w w111 [.blk b1 24 [nm, wk, pa, va, (.slice A bs.length c)], .row 61 1 (some ⟨g22, 0, none⟩) ((bs.length + 63) / 64) ((bs.length + 63) / 64) (u64s ws), .row 48 2 (some ⟨g3, 0, none⟩) (((b, k + 1) :: rest).length) c3 (stkC ((b, k + 1) :: rest)), .row 3 1 A2 n2 c2 (ints o), .row 3 1 (some ⟨g89, 0, none⟩) ((tg bs b).length) c71 (ints (tg bs b))] := hM108.call hM112x
        clear hM112x hM108
        replace hF114 : Fr a113 83 (putE [(1, (.pointer (some ⟨b1, 0, none⟩))), (3, (.slice (some ⟨g22, 0, none⟩) ((bs.length + 63) / 64) ((bs.length + 63) / 64))), (4, (.slice A2 n2 c2)), (5, (.slice (some ⟨g3, 0, none⟩) (((b, k + 1) :: rest).length) c3)), (8, (.int .i64 (ti : Int))), (68, (.slice (some ⟨g22, 0, none⟩) ((bs.length + 63) / 64) ((bs.length + 63) / 64))), (69, (.int .i64 (ti : Int)))] (some 70) (.bool (tb ws ti))) := hF114
        obtain ⟨Bm, hBm⟩ : ∃ B, B = tb ws ti := ⟨_, rfl⟩
        rw [← hBm] at hF114
        replace hF114 : Fr a113 83 [(1, (.pointer (some ⟨b1, 0, none⟩))), (3, (.slice (some ⟨g22, 0, none⟩) ((bs.length + 63) / 64) ((bs.length + 63) / 64))), (4, (.slice A2 n2 c2)), (5, (.slice (some ⟨g3, 0, none⟩) (((b, k + 1) :: rest).length) c3)), (8, (.int .i64 (ti : Int))), (70, (.bool Bm))] := hF114.keep (keep := [1, 3, 4, 5, 8, 70]) (by kernel_rfl)
        refine From_pure 1 4 [1, 3, 4, 5, 8, 71] hF114 (env' := [(1, (.pointer (some ⟨b1, 0, none⟩))), (3, (.slice (some ⟨g22, 0, none⟩) ((bs.length + 63) / 64) ((bs.length + 63) / 64))), (4, (.slice A2 n2 c2)), (5, (.slice (some ⟨g3, 0, none⟩) (((b, k + 1) :: rest).length) c3)), (8, (.int .i64 (ti : Int))), (71, (.bool (!Bm)))]) (by kernel_rfl) rfl ?_
        intro a115 hF116; clear hF114 a113
        refine From_end (by kernel_rfl) ?_
        cases Bm
        · have cm : (tb ws ti) = false := hBm.symm
          have hSt : S (ti : Int) = false := by rw [← hmet.bits ti htn]; exact cm
          refine W_cond (t := 71) (B := true) (by kernel_rfl) hF116 (by kernel_rfl) (fun _ => ?_) (fun t => Bool.noConfusion t)
          refine W_seq (by kernel_rfl) ?_
          refine W_region (by kernel_rfl) ?_   -- region 16
          refine From_pure 2 2 [1, 3, 4, 5, 8, 72, 73] hF116 (env' := [(1, (.pointer (some ⟨b1, 0, none⟩))), (3, (.slice (some ⟨g22, 0, none⟩) ((bs.length + 63) / 64) ((bs.length + 63) / 64))), (4, (.slice A2 n2 c2)), (5, (.slice (some ⟨g3, 0, none⟩) (((b, k + 1) :: rest).length) c3)), (8, (.int .i64 (ti : Int))), (72, (.slice (some ⟨g22, 0, none⟩) ((bs.length + 63) / 64) ((bs.length + 63) / 64))), (73, (.int .i64 (ti : Int)))]) (by kernel_rfl) rfl ?_
          intro a117 hF118; clear hF116 a115
          refine From_call (by kernel_rfl : coreAt _ 2 = some (some 74, (Go.Op.call { callee := (Go.Callee.value (Go.Operand.func 25)), args := #[(Go.Operand.tmp 72), (Go.Operand.tmp 73)], argTypes := #[44, 3] }), 0, none)) hF118 (by kernel_rfl) (by kernel_rfl) (k' := 3) rfl (f := 25) (vs := [(.slice (some ⟨g22, 0, none⟩) ((bs.length + 63) / 64) ((bs.length + 63) / 64)), (.int .i64 (ti : Int))]) (cap := []) (by kernel_rfl) (by kernel_rfl) (by kernel_rfl) (put_c ws ((bs.length + 63) / 64) ti (some ⟨g22, 0, none⟩) ((bs.length + 63) / 64) w111 hmet.fit (by omega) hmet.len.symm (hmet.idx htn) (hM112.get 1 rfl)) ?_
          rintro _ w119 ⟨rfl, hM120x⟩ a121 ea hF122; clear ea hF118 a117
          have hM120 : Mem noS w w119 [.blk b1 24 [nm, wk, pa, va, (.slice A bs.length c)], .row 61 1 (some ⟨g22, 0, none⟩) ((bs.length + 63) / 64) ((bs.length + 63) / 64) (u64s (putw ws ti)), .row 48 2 (some ⟨g3, 0, none⟩) (((b, k + 1) :: rest).length) c3 (stkC ((b, k + 1) :: rest)), .row 3 1 A2 n2 c2 (ints o), .row 3 1 (some ⟨g89, 0, none⟩) ((tg bs b).length) c71 (ints (tg bs b))] := hM112.mod 1 rfl hM120x
          clear hM120x hM112
          replace hF122 : Fr a121 83 [(1, (.pointer (some ⟨b1, 0, none⟩))), (3, (.slice (some ⟨g22, 0, none⟩) ((bs.length + 63) / 64) ((bs.length + 63) / 64))), (4, (.slice A2 n2 c2)), (5, (.slice (some ⟨g3, 0, none⟩) (((b, k + 1) :: rest).length) c3)), (8, (.int .i64 (ti : Int)))] := hF122.keep (keep := [1, 3, 4, 5, 8]) (by kernel_rfl)
          refine From_end (by kernel_rfl) ?_
          refine W_region (by kernel_rfl) ?_   -- region 17
          refine From_pure 3 3 [1, 3, 4, 75, 77] hF122 (env' := [(1, (.pointer (some ⟨b1, 0, none⟩))), (3, (.slice (some ⟨g22, 0, none⟩) ((bs.length + 63) / 64) ((bs.length + 63) / 64))), (4, (.slice A2 n2 c2)), (75, (.slice (some ⟨g3, 0, none⟩) (((b, k + 1) :: rest).length) c3)), (77, (.agg #[(.int .i64 (ti : Int)), (.int .i64 0)]))]) (by kernel_rfl) rfl ?_
          intro a123 hF124; clear hF122 a121
          refine From_buildSlice (by kernel_rfl : coreAt _ 3 = some (some 78, (Go.Op.buildSlice 49 1 #[(0, (Go.Operand.tmp 77))]), 49, none)) hF124 (by kernel_rfl) (by kernel_rfl) (k' := 4) rfl (e := 48) (size := 2) (zs := [(.int .i64 0), (.int .i64 0)]) (vs := [(0, (.agg #[(.int .i64 (ti : Int)), (.int .i64 0)]))]) (cs := [(.int .i64 (ti : Int)), (.int .i64 0)]) (by kernel_rfl) (by kernel_rfl) (by kernel_rfl) (by kernel_rfl) (by kernel_rfl) (by kernel_rfl) hM120 ?_
          intro b125 w126 hb125 _ hM127 _ a128 ea hF129; clear ea hF124 a123
          change Mem noS w w126 [.blk b1 24 [nm, wk, pa, va, (.slice A bs.length c)], .row 61 1 (some ⟨g22, 0, none⟩) ((bs.length + 63) / 64) ((bs.length + 63) / 64) (u64s (putw ws ti)), .row 48 2 (some ⟨g3, 0, none⟩) (((b, k + 1) :: rest).length) c3 (stkC ((b, k + 1) :: rest)), .row 3 1 A2 n2 c2 (ints o), .row 3 1 (some ⟨g89, 0, none⟩) ((tg bs b).length) c71 (ints (tg bs b)), .row 48 2 (some ⟨b125, 0, none⟩) 1 1 [(.int .i64 (ti : Int)), (.int .i64 0)]] at hM127
          clear hM120
          replace hF129 : Fr a128 83 [(1, (.pointer (some ⟨b1, 0, none⟩))), (3, (.slice (some ⟨g22, 0, none⟩) ((bs.length + 63) / 64) ((bs.length + 63) / 64))), (4, (.slice A2 n2 c2)), (75, (.slice (some ⟨g3, 0, none⟩) (((b, k + 1) :: rest).length) c3)), (78, (.slice (some ⟨b125, 0, none⟩) 1 1))] := hF129.keep (keep := [1, 3, 4, 75, 78]) (by kernel_rfl)
          refine From_append (by kernel_rfl : coreAt _ 4 = some (some 79, (Go.Op.call { callee := (Go.Callee.builtin Go.Builtin.append), args := #[(Go.Operand.tmp 75), (Go.Operand.tmp 78)], argTypes := #[49, 49] }), 49, none)) hF129 (by kernel_rfl) (by kernel_rfl) (k' := 5) rfl (e := 48) (size := 2) (bytes := 16) (z := (.agg #[(.int .i64 0), (.int .i64 0)])) (by kernel_rfl) (by kernel_rfl) (by kernel_rfl) (by kernel_rfl) (A := (some ⟨g3, 0, none⟩)) (B := (some ⟨b125, 0, none⟩)) (n := (((b, k + 1) :: rest).length)) (cap := c3) (m := 1) (cap' := 1) (xs := (stkC ((b, k + 1) :: rest))) (news := [(.int .i64 (ti : Int)), (.int .i64 0)]) (by kernel_rfl) (by kernel_rfl) hM127 2 rfl (row_rd (hM127.get 5 rfl)) rfl (by simp [Value.oneCell']) (by simp only [List.length_cons]; omega) (by simp only [maxLen, List.length_cons]; omega) ?_
          intro A130 c131 w132 hM133 _ a134 ea hF135; clear ea hF129 a128
          change Mem noS w w132 [.blk b1 24 [nm, wk, pa, va, (.slice A bs.length c)], .row 61 1 (some ⟨g22, 0, none⟩) ((bs.length + 63) / 64) ((bs.length + 63) / 64) (u64s (putw ws ti)), .row 48 2 A130 ((((b, k + 1) :: rest).length) + 1) c131 ((stkC ((b, k + 1) :: rest)) ++ [(.int .i64 (ti : Int)), (.int .i64 0)]), .row 3 1 A2 n2 c2 (ints o), .row 3 1 (some ⟨g89, 0, none⟩) ((tg bs b).length) c71 (ints (tg bs b)), .row 48 2 (some ⟨b125, 0, none⟩) 1 1 [(.int .i64 (ti : Int)), (.int .i64 0)]] at hM133
          clear hM127
          replace hM133 : Mem noS w w132 [.blk b1 24 [nm, wk, pa, va, (.slice A bs.length c)], .row 61 1 (some ⟨g22, 0, none⟩) ((bs.length + 63) / 64) ((bs.length + 63) / 64) (u64s (putw ws ti)), .row 48 2 A130 ((((b, k + 1) :: rest).length) + 1) c131 ((stkC ((b, k + 1) :: rest)) ++ [(.int .i64 (ti : Int)), (.int .i64 0)]), .row 3 1 A2 n2 c2 (ints o), .row 3 1 (some ⟨g89, 0, none⟩) ((tg bs b).length) c71 (ints (tg bs b))] := hM133.pick [true, true, true, true, true, false] rfl
          replace hF135 : Fr a134 83 [(1, (.pointer (some ⟨b1, 0, none⟩))), (3, (.slice (some ⟨g22, 0, none⟩) ((bs.length + 63) / 64) ((bs.length + 63) / 64))), (4, (.slice A2 n2 c2)), (79, (.slice A130 ((((b, k + 1) :: rest).length) + 1) c131))] := hF135.keep (keep := [1, 3, 4, 79]) (by kernel_rfl)
          refine From_pure 1 6 [1, 3, 4, 5] hF135 (env' := [(1, (.pointer (some ⟨b1, 0, none⟩))), (3, (.slice (some ⟨g22, 0, none⟩) ((bs.length + 63) / 64) ((bs.length + 63) / 64))), (4, (.slice A2 n2 c2)), (5, (.slice A130 ((((b, k + 1) :: rest).length) + 1) c131))]) (by kernel_rfl) rfl ?_
          intro a136 hF137; clear hF135 a134
          refine From_end (by kernel_rfl) ?_
          exact ⟨4 * unmet bs.length (addS S (ti : Int)) + wsum (tg bs) (((ti : Int), 0) :: (b, k + 1) :: rest), by have := tg_len bs (ti : Int); have := unmet_add (n := bs.length) (S := S) (t := (ti : Int)) (by omega) (by omega) hSt; simp only [wsum]; omega, putw ws ti, addS S (ti : Int), ((ti : Int), 0) :: (b, k + 1) :: rest, A130, c131, A2, n2, c2, o, rfl, hF137.keep (keep := [1, 3, 4, 5]) (by kernel_rfl), ((hM133.pick [true, true, true, true, false] rfl).cast (by rw [stkC_cons ((ti : Int), 0)]; rfl)), hmet.put htn, fin_push hfin hti hSt, way_push hway (by omega), by have := unmet_add (n := bs.length) (S := S) (t := (ti : Int)) (by omega) (by omega) hSt; simp only [List.length_cons] at hcnt ⊢; omega, hn2⟩
        · have cm : (tb ws ti) = true := hBm.symm
          have hSt : S (ti : Int) = true := by rw [← hmet.bits ti htn]; exact cm
          refine W_cond (t := 71) (B := false) (by kernel_rfl) hF116 (by kernel_rfl) (fun t => Bool.noConfusion t) (fun _ => ?_)
          refine W_skip (by kernel_rfl) ?_
          exact ⟨4 * unmet bs.length S + wsum (tg bs) ((b, k + 1) :: rest), by simp only [wsum]; omega, ws, S, (b, k + 1) :: rest, (some ⟨g3, 0, none⟩), c3, A2, n2, c2, o, rfl, hF116.keep (keep := [1, 3, 4, 5]) (by kernel_rfl), (hM112.pick [true, true, true, true, false] rfl), hmet, fin_skip hfin hti hSt, way_inc hway (by omega), by simp only [List.length_cons] at hcnt ⊢; omega, hn2⟩
      · have cl : (k : Int) = (((tg bs b).length : Nat) : Int) := by simpa using hBl
        refine W_cond (t := 41) (B := true) (by kernel_rfl) hF83 (by kernel_rfl) (fun _ => ?_) (fun t => Bool.noConfusion t)
        refine W_seq (by kernel_rfl) ?_
        refine W_region (by kernel_rfl) ?_   -- region 11
        refine From_pure 4 4 [1, 3, 5, 42, 45] hF83 (env' := [(1, (.pointer (some ⟨b1, 0, none⟩))), (3, (.slice (some ⟨g22, 0, none⟩) ((bs.length + 63) / 64) ((bs.length + 63) / 64))), (5, (.slice (some ⟨g3, 0, none⟩) (((b, k) :: rest).length) c3)), (42, (.slice A2 n2 c2)), (45, (.pointer (some ((⟨g3, 0, none⟩ : Addr).add ((((rest.length : Nat) : Int)).toNat * 2)))))]) (by kernel_rfl) rfl ?_
        intro a138 hF139; clear hF83 a82
        refine From_load1 (by kernel_rfl : coreAt _ 4 = some (some 46, (Go.Op.load 3 (Go.Operand.tmp 45)), 3, none)) hF139 (by kernel_rfl) (by kernel_rfl) (k' := 5) rfl (ad := ((⟨g3, 0, none⟩ : Addr).add ((((rest.length : Nat) : Int)).toNat * 2))) (v := (.int .i64 b)) (by kernel_rfl) (by kernel_rfl) (by rw [Int.toNat_natCast]; exact rd_get (row_rd (hM75.get 2 rfl)) rfl stk_top.1) ?_
        intro a140 ea hF141; clear ea hF139 a138
        replace hF141 : Fr a140 83 [(1, (.pointer (some ⟨b1, 0, none⟩))), (3, (.slice (some ⟨g22, 0, none⟩) ((bs.length + 63) / 64) ((bs.length + 63) / 64))), (5, (.slice (some ⟨g3, 0, none⟩) (((b, k) :: rest).length) c3)), (42, (.slice A2 n2 c2)), (46, (.int .i64 b))] := hF141.keep (keep := [1, 3, 5, 42, 46]) (by kernel_rfl)
        refine From_buildSlice (by kernel_rfl : coreAt _ 5 = some (some 47, (Go.Op.buildSlice 27 1 #[(0, (Go.Operand.tmp 46))]), 27, none)) hF141 (by kernel_rfl) (by kernel_rfl) (k' := 6) rfl (e := 3) (size := 1) (zs := [(.int .i64 0)]) (vs := [(0, (.int .i64 b))]) (cs := [(.int .i64 b)]) (by kernel_rfl) (by kernel_rfl) (by kernel_rfl) (by kernel_rfl) (by kernel_rfl) (by kernel_rfl) hM75 ?_
        intro b142 w143 hb142 _ hM144 _ a145 ea hF146; clear ea hF141 a140
        change Mem noS w w143 [.blk b1 24 [nm, wk, pa, va, (.slice A bs.length c)], .row 61 1 (some ⟨g22, 0, none⟩) ((bs.length + 63) / 64) ((bs.length + 63) / 64) (u64s ws), .row 48 2 (some ⟨g3, 0, none⟩) (((b, k) :: rest).length) c3 (stkC ((b, k) :: rest)), .row 3 1 A2 n2 c2 (ints o), .row 3 1 A70 ((tg bs b).length) c71 (ints (tg bs b)), .row 3 1 (some ⟨b142, 0, none⟩) 1 1 [(.int .i64 b)]] at hM144
        clear hM75
        replace hF146 : Fr a145 83 [(1, (.pointer (some ⟨b1, 0, none⟩))), (3, (.slice (some ⟨g22, 0, none⟩) ((bs.length + 63) / 64) ((bs.length + 63) / 64))), (5, (.slice (some ⟨g3, 0, none⟩) (((b, k) :: rest).length) c3)), (42, (.slice A2 n2 c2)), (47, (.slice (some ⟨b142, 0, none⟩) 1 1))] := hF146.keep (keep := [1, 3, 5, 42, 47]) (by kernel_rfl)
        refine From_append (by kernel_rfl : coreAt _ 6 = some (some 48, (Go.Op.call { callee := (Go.Callee.builtin Go.Builtin.append), args := #[(Go.Operand.tmp 42), (Go.Operand.tmp 47)], argTypes := #[27, 27] }), 27, none)) hF146 (by kernel_rfl) (by kernel_rfl) (k' := 7) rfl (e := 3) (size := 1) (bytes := 8) (z := (.int .i64 0)) (by kernel_rfl) (by kernel_rfl) (by kernel_rfl) (by kernel_rfl) (A := A2) (B := (some ⟨b142, 0, none⟩)) (n := n2) (cap := c2) (m := 1) (cap' := 1) (xs := (ints o)) (news := [(.int .i64 b)]) (by kernel_rfl) (by kernel_rfl) hM144 3 rfl (row_rd (hM144.get 5 rfl)) rfl (by simp [Value.oneCell']) (by omega) (by simp only [maxLen]; omega) ?_
        intro A147 c148 w149 hM150 _ a151 ea hF152; clear ea hF146 a145
        change Mem noS w w149 [.blk b1 24 [nm, wk, pa, va, (.slice A bs.length c)], .row 61 1 (some ⟨g22, 0, none⟩) ((bs.length + 63) / 64) ((bs.length + 63) / 64) (u64s ws), .row 48 2 (some ⟨g3, 0, none⟩) (((b, k) :: rest).length) c3 (stkC ((b, k) :: rest)), .row 3 1 A147 (n2 + 1) c148 ((ints o) ++ [(.int .i64 b)]), .row 3 1 A70 ((tg bs b).length) c71 (ints (tg bs b)), .row 3 1 (some ⟨b142, 0, none⟩) 1 1 [(.int .i64 b)]] at hM150
        clear hM144
        replace hM150 : Mem noS w w149 [.blk b1 24 [nm, wk, pa, va, (.slice A bs.length c)], .row 61 1 (some ⟨g22, 0, none⟩) ((bs.length + 63) / 64) ((bs.length + 63) / 64) (u64s ws), .row 48 2 (some ⟨g3, 0, none⟩) (((b, k) :: rest).length) c3 (stkC ((b, k) :: rest)), .row 3 1 A147 (n2 + 1) c148 ((ints o) ++ [(.int .i64 b)]), .row 3 1 A70 ((tg bs b).length) c71 (ints (tg bs b))] := hM150.pick [true, true, true, true, true, false] rfl
        replace hF152 : Fr a151 83 [(1, (.pointer (some ⟨b1, 0, none⟩))), (3, (.slice (some ⟨g22, 0, none⟩) ((bs.length + 63) / 64) ((bs.length + 63) / 64))), (5, (.slice (some ⟨g3, 0, none⟩) (((b, k) :: rest).length) c3)), (48, (.slice A147 (n2 + 1) c148))] := hF152.keep (keep := [1, 3, 5, 48]) (by kernel_rfl)
        refine From_pure 1 8 [1, 3, 4, 5] hF152 (env' := [(1, (.pointer (some ⟨b1, 0, none⟩))), (3, (.slice (some ⟨g22, 0, none⟩) ((bs.length + 63) / 64) ((bs.length + 63) / 64))), (4, (.slice A147 (n2 + 1) c148)), (5, (.slice (some ⟨g3, 0, none⟩) (((b, k) :: rest).length) c3))]) (by kernel_rfl) rfl ?_
        intro a153 hF154; clear hF152 a151
        refine From_end (by kernel_rfl) ?_
        refine W_seq (by kernel_rfl) ?_
        refine W_region (by kernel_rfl) ?_   -- region 12
        refine From_pure 3 3 [1, 3, 4, 49, 51] hF154 (env' := [(1, (.pointer (some ⟨b1, 0, none⟩))), (3, (.slice (some ⟨g22, 0, none⟩) ((bs.length + 63) / 64) ((bs.length + 63) / 64))), (4, (.slice A147 (n2 + 1) c148)), (49, (.slice (some ⟨g3, 0, none⟩) (((b, k) :: rest).length) c3)), (51, (.int .i64 ((((b, k) :: rest).length : Nat) : Int)))]) (by kernel_rfl) rfl ?_
        intro a155 hF156; clear hF154 a153
        refine From_arith (by kernel_rfl : coreAt _ 3 = some (some 52, (Go.Op.binOp Go.BinOp.sub 3 (Go.Operand.tmp 51) (Go.Operand.const (Go.Value.int Go.IntKind.i64 1)) 3), 3, none)) hF156 (by kernel_rfl) (by kernel_rfl) (k' := 4) rfl (i := ((((b, k) :: rest).length : Nat) : Int)) (j := 1) (z := ((rest.length : Nat) : Int)) (by kernel_rfl) (by kernel_rfl) (congrArg some (by rw [hlw]; omega)) (by omega) (by omega) ?_
        intro a157 ea hF158; clear ea hF156 a155
        replace hF158 : Fr a157 83 [(1, (.pointer (some ⟨b1, 0, none⟩))), (3, (.slice (some ⟨g22, 0, none⟩) ((bs.length + 63) / 64) ((bs.length + 63) / 64))), (4, (.slice A147 (n2 + 1) c148)), (49, (.slice (some ⟨g3, 0, none⟩) (((b, k) :: rest).length) c3)), (52, (.int .i64 ((rest.length : Nat) : Int)))] := hF158.keep (keep := [1, 3, 4, 49, 52]) (by kernel_rfl)
        refine From_sliceHi (by kernel_rfl : coreAt _ 4 = some (some 53, (Go.Op.slice 49 (Go.Operand.tmp 49) none (some (Go.Operand.tmp 52)) none), 49, none)) hF158 (by kernel_rfl) (by kernel_rfl) (k' := 5) rfl (A := (some ⟨g3, 0, none⟩)) (n := ((b, k) :: rest).length) (cap := c3) (e := 48) (size := 2) (kd := .i64) (i := ((rest.length : Nat) : Int)) rest.length (by kernel_rfl) (by kernel_rfl) rfl (by kernel_rfl) (by kernel_rfl) (by omega) ?_
        intro a159 ea hF160; clear ea hF158 a157
        have hM161 : Mem noS w w149 [.blk b1 24 [nm, wk, pa, va, (.slice A bs.length c)], .row 61 1 (some ⟨g22, 0, none⟩) ((bs.length + 63) / 64) ((bs.length + 63) / 64) (u64s ws), .row 48 2 (some ⟨g3, 0, none⟩) rest.length c3 (stkC rest), .row 3 1 A147 (n2 + 1) c148 ((ints o) ++ [(.int .i64 b)]), .row 3 1 A70 ((tg bs b).length) c71 (ints (tg bs b))] := (hM150.take_row 2 rfl rest.length (by omega)).cast (by rw [stk_pop]; rfl)
        clear hM150
        replace hF160 : Fr a159 83 [(1, (.pointer (some ⟨b1, 0, none⟩))), (3, (.slice (some ⟨g22, 0, none⟩) ((bs.length + 63) / 64) ((bs.length + 63) / 64))), (4, (.slice A147 (n2 + 1) c148)), (53, (.slice (some ⟨g3, 0, none⟩) rest.length c3))] := hF160.keep (keep := [1, 3, 4, 53]) (by kernel_rfl)
        refine From_pure 1 6 [1, 3, 4, 5] hF160 (env' := [(1, (.pointer (some ⟨b1, 0, none⟩))), (3, (.slice (some ⟨g22, 0, none⟩) ((bs.length + 63) / 64) ((bs.length + 63) / 64))), (4, (.slice A147 (n2 + 1) c148)), (5, (.slice (some ⟨g3, 0, none⟩) rest.length c3))]) (by kernel_rfl) rfl ?_
        intro a162 hF163; clear hF160 a159
        refine From_end (by kernel_rfl) ?_
        refine W_exit (id := 1) (by kernel_rfl) ?_
        refine inB_hit rfl ?_
        exact ⟨4 * unmet bs.length S + wsum (tg bs) rest, by simp only [wsum]; omega, ws, S, rest, (some ⟨g3, 0, none⟩), c3, A147, (n2 + 1), c148, o ++ [b], rfl, hF163.keep (keep := [1, 3, 4, 5]) (by kernel_rfl), ((hM161.pick [true, true, true, true, false] rfl).cast (by rw [ints_append]; rfl)), hmet, fin_pop hfin (by omega), fun p hp => hway p (List.mem_cons_of_mem _ hp), by simp only [List.length_append, List.length_cons, List.length_nil] at hcnt ⊢; omega, by simp only [List.length_append, List.length_cons, List.length_nil]; omega⟩
  · have cz : ((bs.length : Nat) : Int) = 0 := by simpa using hBz
    refine W_cond (t := 12) (B := true) (by kernel_rfl) hF15 (by kernel_rfl) (fun _ => ?_) (fun t => Bool.noConfusion t)
    refine W_seq (by kernel_rfl) ?_
    refine W_region (by kernel_rfl) ?_   -- region 2
    refine From_pure 1 1 [2] hF15 (env' := [(2, (.slice none 0 0))]) (by kernel_rfl) rfl ?_
    intro a164 hF165; clear hF15 a14
    refine From_end (by kernel_rfl) ?_
    refine W_ret (by kernel_rfl) ?_
    refine out1 (v := (.slice none 0 0)) hF165 rfl (by kernel_rfl) ?_
    refine ⟨_, rfl, ?_⟩
    exact nil_ret (hM3.pick [false] rfl) (by unfold orderL; rw [if_pos (by omega)])

end Go.Proofs.Ytlkpkinmmjcbcaa
