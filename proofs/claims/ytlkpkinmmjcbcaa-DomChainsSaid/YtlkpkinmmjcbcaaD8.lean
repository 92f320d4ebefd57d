/-
  Walks of layer 18. Printed by wip/gen/dom.py.
-/
import Derived.Test.YtlkpkinmmjcbcaaD7
namespace Go.Proofs.Ytlkpkinmmjcbcaa
open Go.Mor

set_option maxRecDepth 10000 in
theorem aboveof_c (A : Option Addr) (n c : Nat) (l : List (List Bool)) (rows : List RowV) (w : World) (hm : l.length ≤ 1000000) (hn : n = l.length) (hq : Square l) (hf : FamOf Value.bool rows l) (hR : RO noS w (.rd A (slv rows))) (hF0 : RO noS w (.fam 4 rows)) :
    Calls Try.prog 30 #[(.slice A n c)] w (Ret fun v w' => ∃ A' c', v = .slice A' (aboveOfL l).length c' ∧ Mem noS w w' [.row 3 1 A' (aboveOfL l).length c' (ints (aboveOfL l))]) := by
  refine enter (N := 50) (vs := [(.slice A n c)]) Try.func30 (by kernel_rfl) (by kernel_rfl) (by kernel_rfl) ?_
  intro a hF
  have hM := Mem.init w
  refine W_seq (by kernel_rfl) ?_
  refine W_region (by kernel_rfl) ?_   -- region 0
  refine From_pure 1 1 [0] hF (env' := [(0, (.slice A n c))]) (by kernel_rfl) rfl ?_
  intro a1 hF2; clear hF a
  refine From_end (by kernel_rfl) ?_
  refine W_seq (by kernel_rfl) ?_
  refine W_region (by kernel_rfl) ?_   -- region 1
  refine From_pure 1 1 [0, 3] hF2 (env' := [(0, (.slice A n c)), (3, (.slice none 0 0))]) (by kernel_rfl) rfl ?_
  intro a3 hF4; clear hF2 a1
  refine From_end (by kernel_rfl) ?_
  refine W_seq (by kernel_rfl) ?_
  refine W_seq (by kernel_rfl) ?_
  refine W_region (by kernel_rfl) ?_   -- region 2
  refine From_pure 1 1 [0, 3, 4] hF4 (env' := [(0, (.slice A n c)), (3, (.slice none 0 0)), (4, (.int .i64 0))]) (by kernel_rfl) rfl ?_
  intro a5 hF6; clear hF4 a3
  refine From_end (by kernel_rfl) ?_
  refine W_block (id := 0) (by kernel_rfl) ?_
  refine W_loop (by kernel_rfl) (fun n_ a_ w_ => ∃ (b : Nat) (A2 : Option Addr) (n2 : Nat) (c2 : Nat), n_ = n - b ∧ Fr a_ 50 [(0, (.slice A n c)), (3, (.slice A2 n2 c2)), (4, (.int .i64 (b : Int)))] ∧ Mem noS w w_ [.row 3 1 A2 n2 c2 (ints (raboveTo l b))] ∧ (b ≤ n) ∧ (n2 = b)) (n := _) ⟨0, none, 0, 0, rfl, hF6.keep (keep := [0, 3, 4]) (by kernel_rfl), (hM.call (Mem.nilrow _ 3 1)), by omega, rfl⟩ ?_
  clear hF6 a5 hM; rintro n a9 w7 ⟨b, A2, n2, c2, rfl, hF10, hM8, hb, hn2⟩
  refine W_seq (by kernel_rfl) ?_
  refine W_seq (by kernel_rfl) ?_
  refine W_region (by kernel_rfl) ?_   -- region 3
  refine From_pure 3 3 [0, 3, 4, 7, 9] hF10 (env' := [(0, (.slice A n c)), (3, (.slice A2 n2 c2)), (4, (.int .i64 (b : Int))), (7, (.int .i64 (b : Int))), (9, (.int .i64 ((n : Nat) : Int)))]) (by kernel_rfl) rfl ?_
  intro a11 hF12; clear hF10 a9
  refine From_cmp (by kernel_rfl : coreAt _ 3 = some (some 10, (Go.Op.binOp Go.BinOp.lss 3 (Go.Operand.tmp 7) (Go.Operand.tmp 9) 3), 4, none)) hF12 (by kernel_rfl) (by kernel_rfl) (k' := 4) rfl (kd := .i64) (i := (b : Int)) (j := ((n : Nat) : Int)) (by kernel_rfl) (by kernel_rfl) rfl ?_
  intro Bb hBb a13 ea hF14; clear ea hF12 a11
  replace hF14 : Fr a13 50 [(0, (.slice A n c)), (3, (.slice A2 n2 c2)), (4, (.int .i64 (b : Int))), (10, (.bool Bb))] := hF14.keep (keep := [0, 3, 4, 10]) (by kernel_rfl)
  refine From_end (by kernel_rfl) ?_
  cases Bb
  · have cb : ¬ ((b : Int) < ((n : Nat) : Int)) := by simpa using hBb
    refine W_cond (t := 10) (B := false) (by kernel_rfl) hF14 (by kernel_rfl) (fun t => Bool.noConfusion t) (fun _ => ?_)
    refine W_exit (id := 0) (by kernel_rfl) ?_
    refine inB_hit rfl ?_
    refine W_seq (by kernel_rfl) ?_
    refine W_region (by kernel_rfl) ?_   -- region 12
    refine From_pure 2 2 [2] hF14 (env' := [(2, (.slice A2 n2 c2))]) (by kernel_rfl) rfl ?_
    intro a15 hF16; clear hF14 a13
    refine From_end (by kernel_rfl) ?_
    refine W_ret (by kernel_rfl) ?_
    refine out1 (v := (.slice A2 n2 c2)) hF16 rfl (by kernel_rfl) ?_
    refine ⟨_, rfl, ?_⟩
    obtain rfl : b = l.length := by omega
    exact row_ret hM8 rfl (by rw [raboveTo_len]; exact hn2)
  · have cb : (b : Int) < ((n : Nat) : Int) := by simpa using hBb
    refine W_cond (t := 10) (B := true) (by kernel_rfl) hF14 (by kernel_rfl) (fun _ => ?_) (fun t => Bool.noConfusion t)
    refine W_skip (by kernel_rfl) ?_
    refine W_seq (by kernel_rfl) ?_
    refine W_block (id := 1) (by kernel_rfl) ?_
    refine W_seq (by kernel_rfl) ?_
    refine W_region (by kernel_rfl) ?_   -- region 5
    refine From_pure 1 1 [0, 3, 4, 5] hF14 (env' := [(0, (.slice A n c)), (3, (.slice A2 n2 c2)), (4, (.int .i64 (b : Int))), (5, (.int .i64 (-1)))]) (by kernel_rfl) rfl ?_
    intro a17 hF18; clear hF14 a13
    refine From_end (by kernel_rfl) ?_
    refine W_seq (by kernel_rfl) ?_
    refine W_seq (by kernel_rfl) ?_
    refine W_region (by kernel_rfl) ?_   -- region 6
    refine From_pure 1 1 [0, 3, 4, 5, 6] hF18 (env' := [(0, (.slice A n c)), (3, (.slice A2 n2 c2)), (4, (.int .i64 (b : Int))), (5, (.int .i64 (-1))), (6, (.int .i64 0))]) (by kernel_rfl) rfl ?_
    intro a19 hF20; clear hF18 a17
    refine From_end (by kernel_rfl) ?_
    refine W_block (id := 2) (by kernel_rfl) ?_
    refine W_loop (by kernel_rfl) (fun n_ a_ w_ => ∃ (d : Nat), n_ = n - d ∧ Fr a_ 50 [(0, (.slice A n c)), (3, (.slice A2 n2 c2)), (4, (.int .i64 (b : Int))), (5, (.int .i64 (bestTo l b d))), (6, (.int .i64 (d : Int)))] ∧ Mem noS w w_ [.row 3 1 A2 n2 c2 (ints (raboveTo l b))] ∧ (d ≤ n)) (n := _) ⟨0, rfl, hF20.keep (keep := [0, 3, 4, 5, 6]) (by kernel_rfl), hM8, by omega⟩ ?_
    clear hF20 a19 hM8; rintro n a23 w21 ⟨d, rfl, hF24, hM22, hd⟩
    refine W_seq (by kernel_rfl) ?_
    refine W_seq (by kernel_rfl) ?_
    refine W_region (by kernel_rfl) ?_   -- region 7
    refine From_pure 3 3 [0, 3, 4, 5, 6, 13, 15] hF24 (env' := [(0, (.slice A n c)), (3, (.slice A2 n2 c2)), (4, (.int .i64 (b : Int))), (5, (.int .i64 (bestTo l b d))), (6, (.int .i64 (d : Int))), (13, (.int .i64 (d : Int))), (15, (.int .i64 ((n : Nat) : Int)))]) (by kernel_rfl) rfl ?_
    intro a25 hF26; clear hF24 a23
    refine From_cmp (by kernel_rfl : coreAt _ 3 = some (some 16, (Go.Op.binOp Go.BinOp.lss 3 (Go.Operand.tmp 13) (Go.Operand.tmp 15) 3), 4, none)) hF26 (by kernel_rfl) (by kernel_rfl) (k' := 4) rfl (kd := .i64) (i := (d : Int)) (j := ((n : Nat) : Int)) (by kernel_rfl) (by kernel_rfl) rfl ?_
    intro Bd hBd a27 ea hF28; clear ea hF26 a25
    replace hF28 : Fr a27 50 [(0, (.slice A n c)), (3, (.slice A2 n2 c2)), (4, (.int .i64 (b : Int))), (5, (.int .i64 (bestTo l b d))), (6, (.int .i64 (d : Int))), (16, (.bool Bd))] := hF28.keep (keep := [0, 3, 4, 5, 6, 16]) (by kernel_rfl)
    refine From_end (by kernel_rfl) ?_
    cases Bd
    · have cd : ¬ ((d : Int) < ((n : Nat) : Int)) := by simpa using hBd
      refine W_cond (t := 16) (B := false) (by kernel_rfl) hF28 (by kernel_rfl) (fun t => Bool.noConfusion t) (fun _ => ?_)
      refine W_exit (id := 2) (by kernel_rfl) ?_
      refine inB_hit rfl ?_
      refine W_region (by kernel_rfl) ?_   -- region 11
      obtain rfl : d = l.length := by omega
      refine From_pure 2 2 [0, 4, 45, 46] hF28 (env' := [(0, (.slice A n c)), (4, (.int .i64 (b : Int))), (45, (.slice A2 n2 c2)), (46, (.int .i64 (bestTo l b l.length)))]) (by kernel_rfl) rfl ?_
      intro a29 hF30; clear hF28 a27
      refine From_buildSlice (by kernel_rfl : coreAt _ 2 = some (some 47, (Go.Op.buildSlice 27 1 #[(0, (Go.Operand.tmp 46))]), 27, none)) hF30 (by kernel_rfl) (by kernel_rfl) (k' := 3) rfl (e := 3) (size := 1) (zs := [(.int .i64 0)]) (vs := [(0, (.int .i64 (bestTo l b l.length)))]) (cs := [(.int .i64 (bestTo l b l.length))]) (by kernel_rfl) (by kernel_rfl) (by kernel_rfl) (by kernel_rfl) (by kernel_rfl) (by kernel_rfl) hM22 ?_
      intro b31 w32 hb31 _ hM33 _ a34 ea hF35; clear ea hF30 a29
      change Mem noS w w32 [.row 3 1 A2 n2 c2 (ints (raboveTo l b)), .row 3 1 (some ⟨b31, 0, none⟩) 1 1 [(.int .i64 (bestTo l b l.length))]] at hM33
      clear hM22
      replace hF35 : Fr a34 50 [(0, (.slice A n c)), (4, (.int .i64 (b : Int))), (45, (.slice A2 n2 c2)), (47, (.slice (some ⟨b31, 0, none⟩) 1 1))] := hF35.keep (keep := [0, 4, 45, 47]) (by kernel_rfl)
      refine From_append (by kernel_rfl : coreAt _ 3 = some (some 48, (Go.Op.call { callee := (Go.Callee.builtin Go.Builtin.append), args := #[(Go.Operand.tmp 45), (Go.Operand.tmp 47)], argTypes := #[27, 27] }), 27, none)) hF35 (by kernel_rfl) (by kernel_rfl) (k' := 4) rfl (e := 3) (size := 1) (bytes := 8) (z := (.int .i64 0)) (by kernel_rfl) (by kernel_rfl) (by kernel_rfl) (by kernel_rfl) (A := A2) (B := (some ⟨b31, 0, none⟩)) (n := n2) (cap := c2) (m := 1) (cap' := 1) (xs := (ints (raboveTo l b))) (news := [(.int .i64 (bestTo l b l.length))]) (by kernel_rfl) (by kernel_rfl) hM33 0 rfl (row_rd (hM33.get 1 rfl)) rfl (by simp [Value.oneCell']) (by omega) (by simp only [maxLen]; omega) ?_
      intro A36 c37 w38 hM39 _ a40 ea hF41; clear ea hF35 a34
      change Mem noS w w38 [.row 3 1 A36 (n2 + 1) c37 ((ints (raboveTo l b)) ++ [(.int .i64 (bestTo l b l.length))]), .row 3 1 (some ⟨b31, 0, none⟩) 1 1 [(.int .i64 (bestTo l b l.length))]] at hM39
      clear hM33
      replace hM39 : Mem noS w w38 [.row 3 1 A36 (n2 + 1) c37 ((ints (raboveTo l b)) ++ [(.int .i64 (bestTo l b l.length))])] := hM39.pick [true, false] rfl
      replace hF41 : Fr a40 50 [(0, (.slice A n c)), (4, (.int .i64 (b : Int))), (48, (.slice A36 (n2 + 1) c37))] := hF41.keep (keep := [0, 4, 48]) (by kernel_rfl)
      refine From_pure 1 5 [0, 3, 4] hF41 (env' := [(0, (.slice A n c)), (3, (.slice A36 (n2 + 1) c37)), (4, (.int .i64 (b : Int)))]) (by kernel_rfl) rfl ?_
      intro a42 hF43; clear hF41 a40
      refine From_end (by kernel_rfl) ?_
      refine W_region (by kernel_rfl) ?_   -- region 4
      refine From_pure 1 1 [0, 3, 11] hF43 (env' := [(0, (.slice A n c)), (3, (.slice A36 (n2 + 1) c37)), (11, (.int .i64 (b : Int)))]) (by kernel_rfl) rfl ?_
      intro a44 hF45; clear hF43 a42
      refine From_arith (by kernel_rfl : coreAt _ 1 = some (some 12, (Go.Op.binOp Go.BinOp.add 3 (Go.Operand.tmp 11) (Go.Operand.const (Go.Value.int Go.IntKind.i64 1)) 3), 3, none)) hF45 (by kernel_rfl) (by kernel_rfl) (k' := 2) rfl (i := (b : Int)) (j := 1) (z := ((b : Int) + 1)) (by kernel_rfl) (by kernel_rfl) rfl (by omega) (by omega) ?_
      intro a46 ea hF47; clear ea hF45 a44
      replace hF47 : Fr a46 50 [(0, (.slice A n c)), (3, (.slice A36 (n2 + 1) c37)), (12, (.int .i64 ((b : Int) + 1)))] := hF47.keep (keep := [0, 3, 12]) (by kernel_rfl)
      refine From_pure 1 3 [0, 3, 4] hF47 (env' := [(0, (.slice A n c)), (3, (.slice A36 (n2 + 1) c37)), (4, (.int .i64 ((b : Int) + 1)))]) (by kernel_rfl) rfl ?_
      intro a48 hF49; clear hF47 a46
      refine From_end (by kernel_rfl) ?_
      exact ⟨n - (b + 1), by omega, b + 1, A36, (n2 + 1), c37, rfl, hF49.keep (keep := [0, 3, 4]) (by kernel_rfl), (hM39.cast (by rw [raboveTo_succ, ints_append]; rfl)), by omega, by omega⟩
    · have cd : (d : Int) < ((n : Nat) : Int) := by simpa using hBd
      refine W_cond (t := 16) (B := true) (by kernel_rfl) hF28 (by kernel_rfl) (fun _ => ?_) (fun t => Bool.noConfusion t)
      refine W_skip (by kernel_rfl) ?_
      refine W_seq (by kernel_rfl) ?_
      refine W_block (id := 3) (by kernel_rfl) ?_
      refine W_seq (by kernel_rfl) ?_
      refine W_region (by kernel_rfl) ?_   -- region 9
      obtain ⟨x, hx⟩ := sq_get (l := l) d (by omega)
      have hxl := hq d x hx
      obtain ⟨Ad, cd, hrd⟩ := hf.get hx
      refine From_pure 2 2 [0, 3, 4, 5, 6, 19, 20] hF28 (env' := [(0, (.slice A n c)), (3, (.slice A2 n2 c2)), (4, (.int .i64 (b : Int))), (5, (.int .i64 (bestTo l b d))), (6, (.int .i64 (d : Int))), (19, (.int .i64 (d : Int))), (20, (.int .i64 (b : Int)))]) (by kernel_rfl) rfl ?_
      intro a50 hF51; clear hF28 a27
      refine From_cmp (by kernel_rfl : coreAt _ 2 = some (some 21, (Go.Op.binOp Go.BinOp.neq 3 (Go.Operand.tmp 19) (Go.Operand.tmp 20) 3), 4, none)) hF51 (by kernel_rfl) (by kernel_rfl) (k' := 3) rfl (kd := .i64) (i := (d : Int)) (j := (b : Int)) (by kernel_rfl) (by kernel_rfl) rfl ?_
      intro Bne hBne a52 ea hF53; clear ea hF51 a50
      replace hF53 : Fr a52 50 [(0, (.slice A n c)), (3, (.slice A2 n2 c2)), (4, (.int .i64 (b : Int))), (5, (.int .i64 (bestTo l b d))), (6, (.int .i64 (d : Int))), (21, (.bool Bne))] := hF53.keep (keep := [0, 3, 4, 5, 6, 21]) (by kernel_rfl)
      refine From_pure 1 4 [0, 3, 4, 5, 6, 22] hF53 (env' := [(0, (.slice A n c)), (3, (.slice A2 n2 c2)), (4, (.int .i64 (b : Int))), (5, (.int .i64 (bestTo l b d))), (6, (.int .i64 (d : Int))), (22, (.bool Bne))]) (by kernel_rfl) rfl ?_
      intro a54 hF55; clear hF53 a52
      cases Bne
      · have cne : ¬ ((d : Int) ≠ (b : Int)) := by simpa using hBne
        refine From_pure 21 25 [0, 3, 4, 5, 6, 43] hF55 (env' := [(0, (.slice A n c)), (3, (.slice A2 n2 c2)), (4, (.int .i64 (b : Int))), (5, (.int .i64 (bestTo l b d))), (6, (.int .i64 (d : Int))), (43, (.bool false))]) (by kernel_rfl) rfl ?_
        intro a56 hF57; clear hF55 a54
        refine From_end (by kernel_rfl) ?_
        refine W_cond (t := 43) (B := false) (by kernel_rfl) hF57 (by kernel_rfl) (fun t => Bool.noConfusion t) (fun _ => ?_)
        refine W_skip (by kernel_rfl) ?_
        refine W_region (by kernel_rfl) ?_   -- region 8
        refine From_pure 1 1 [0, 3, 4, 5, 17] hF57 (env' := [(0, (.slice A n c)), (3, (.slice A2 n2 c2)), (4, (.int .i64 (b : Int))), (5, (.int .i64 (bestTo l b d))), (17, (.int .i64 (d : Int)))]) (by kernel_rfl) rfl ?_
        intro a58 hF59; clear hF57 a56
        refine From_arith (by kernel_rfl : coreAt _ 1 = some (some 18, (Go.Op.binOp Go.BinOp.add 3 (Go.Operand.tmp 17) (Go.Operand.const (Go.Value.int Go.IntKind.i64 1)) 3), 3, none)) hF59 (by kernel_rfl) (by kernel_rfl) (k' := 2) rfl (i := (d : Int)) (j := 1) (z := ((d : Int) + 1)) (by kernel_rfl) (by kernel_rfl) rfl (by omega) (by omega) ?_
        intro a60 ea hF61; clear ea hF59 a58
        replace hF61 : Fr a60 50 [(0, (.slice A n c)), (3, (.slice A2 n2 c2)), (4, (.int .i64 (b : Int))), (5, (.int .i64 (bestTo l b d))), (18, (.int .i64 ((d : Int) + 1)))] := hF61.keep (keep := [0, 3, 4, 5, 18]) (by kernel_rfl)
        refine From_pure 1 3 [0, 3, 4, 5, 6] hF61 (env' := [(0, (.slice A n c)), (3, (.slice A2 n2 c2)), (4, (.int .i64 (b : Int))), (5, (.int .i64 (bestTo l b d))), (6, (.int .i64 ((d : Int) + 1)))]) (by kernel_rfl) rfl ?_
        intro a62 hF63; clear hF61 a60
        refine From_end (by kernel_rfl) ?_
        have hnx : bestTo l b (d + 1) = bestTo l b d := if_neg (fun h => h.1 (by omega))
        replace hF63 : Fr a62 50 [(0, (.slice A n c)), (3, (.slice A2 n2 c2)), (4, (.int .i64 (b : Int))), (5, (.int .i64 (bestTo l b (d + 1)))), (6, (.int .i64 ((d : Int) + 1)))] := by rw [hnx]; exact hF63
        exact ⟨n - (d + 1), by omega, d + 1, rfl, hF63.keep (keep := [0, 3, 4, 5, 6]) (by kernel_rfl), hM22, by omega⟩
      · have cne : (d : Int) ≠ (b : Int) := by simpa using hBne
        refine From_pure 2 6 [0, 3, 4, 5, 6, 22, 23, 24] hF55 (env' := [(0, (.slice A n c)), (3, (.slice A2 n2 c2)), (4, (.int .i64 (b : Int))), (5, (.int .i64 (bestTo l b d))), (6, (.int .i64 (d : Int))), (22, (.bool true)), (23, (.slice A n c)), (24, (.int .i64 (d : Int)))]) (by kernel_rfl) rfl ?_
        intro a64 hF65; clear hF55 a54
        obtain ⟨ad66, rfl⟩ := rd_some (hM22.ro hR) (by rw [slv_len, hf.len]; omega)
        refine From_index (by kernel_rfl : coreAt _ 6 = some (some 25, (Go.Op.indexAddr 57 (Go.Operand.tmp 23) (Go.Operand.tmp 24)), 0, some (3, true))) hF65 (by kernel_rfl) (by kernel_rfl) (k' := 7) rfl (A := (some ad66)) (ad := ad66) (n := n) (cap := c) (e := 33) (size := 1) (kd := .i64) (i := (d : Int)) (by kernel_rfl) (by kernel_rfl) rfl (by kernel_rfl) (by kernel_rfl) (by omega) (by omega) ?_
        intro a67 ea hF68; clear ea hF65 a64
        replace hF68 : Fr a67 50 [(0, (.slice (some ad66) n c)), (3, (.slice A2 n2 c2)), (4, (.int .i64 (b : Int))), (5, (.int .i64 (bestTo l b d))), (6, (.int .i64 (d : Int))), (22, (.bool true)), (25, (.pointer (some ((ad66 : Addr).add (((d : Int)).toNat * 1)))))] := hF68.keep (keep := [0, 3, 4, 5, 6, 22, 25]) (by kernel_rfl)
        refine From_load1 (by kernel_rfl : coreAt _ 7 = some (some 26, (Go.Op.load 33 (Go.Operand.tmp 25)), 33, some (3, true))) hF68 (by kernel_rfl) (by kernel_rfl) (k' := 8) rfl (ad := ((ad66 : Addr).add (((d : Int)).toNat * 1))) (v := (.slice Ad x.length cd)) (by kernel_rfl) (by kernel_rfl) (rd_get1 (hM22.ro hR) rfl (slv_get hrd)) ?_
        intro a69 ea hF70; clear ea hF68 a67
        replace hF70 : Fr a69 50 [(0, (.slice (some ad66) n c)), (3, (.slice A2 n2 c2)), (4, (.int .i64 (b : Int))), (5, (.int .i64 (bestTo l b d))), (6, (.int .i64 (d : Int))), (22, (.bool true)), (26, (.slice Ad x.length cd))] := hF70.keep (keep := [0, 3, 4, 5, 6, 22, 26]) (by kernel_rfl)
        refine From_pure 1 9 [0, 3, 4, 5, 6, 22, 26, 27] hF70 (env' := [(0, (.slice (some ad66) n c)), (3, (.slice A2 n2 c2)), (4, (.int .i64 (b : Int))), (5, (.int .i64 (bestTo l b d))), (6, (.int .i64 (d : Int))), (22, (.bool true)), (26, (.slice Ad x.length cd)), (27, (.int .i64 (b : Int)))]) (by kernel_rfl) rfl ?_
        intro a71 hF72; clear hF70 a69
        obtain ⟨ad73, rfl⟩ := rd_some (fam_rd (hM22.ro hF0) hrd) (by simp; omega)
        refine From_index (by kernel_rfl : coreAt _ 9 = some (some 28, (Go.Op.indexAddr 33 (Go.Operand.tmp 26) (Go.Operand.tmp 27)), 0, some (3, true))) hF72 (by kernel_rfl) (by kernel_rfl) (k' := 10) rfl (A := (some ad73)) (ad := ad73) (n := x.length) (cap := cd) (e := 4) (size := 1) (kd := .i64) (i := (b : Int)) (by kernel_rfl) (by kernel_rfl) rfl (by kernel_rfl) (by kernel_rfl) (by omega) (by omega) ?_
        intro a74 ea hF75; clear ea hF72 a71
        replace hF75 : Fr a74 50 [(0, (.slice (some ad66) n c)), (3, (.slice A2 n2 c2)), (4, (.int .i64 (b : Int))), (5, (.int .i64 (bestTo l b d))), (6, (.int .i64 (d : Int))), (22, (.bool true)), (28, (.pointer (some ((ad73 : Addr).add (((b : Int)).toNat * 1)))))] := hF75.keep (keep := [0, 3, 4, 5, 6, 22, 28]) (by kernel_rfl)
        refine From_load1 (by kernel_rfl : coreAt _ 10 = some (some 29, (Go.Op.load 4 (Go.Operand.tmp 28)), 4, some (3, true))) hF75 (by kernel_rfl) (by kernel_rfl) (k' := 11) rfl (ad := ((ad73 : Addr).add (((b : Int)).toNat * 1))) (v := (.bool (x.getD b false))) (by kernel_rfl) (by kernel_rfl) (rd_get1 (fam_rd (hM22.ro hF0) hrd) rfl (bools_get (by omega))) ?_
        intro a76 ea hF77; clear ea hF75 a74
        replace hF77 : Fr a76 50 [(0, (.slice (some ad66) n c)), (3, (.slice A2 n2 c2)), (4, (.int .i64 (b : Int))), (5, (.int .i64 (bestTo l b d))), (6, (.int .i64 (d : Int))), (22, (.bool true)), (29, (.bool (x.getD b false)))] := hF77.keep (keep := [0, 3, 4, 5, 6, 22, 29]) (by kernel_rfl)
        obtain ⟨Bdb, hBdb⟩ : ∃ B, B = x.getD b false := ⟨_, rfl⟩
        rw [← hBdb] at hF77
        replace hF77 : Fr a76 50 [(0, (.slice (some ad66) n c)), (3, (.slice A2 n2 c2)), (4, (.int .i64 (b : Int))), (5, (.int .i64 (bestTo l b d))), (6, (.int .i64 (d : Int))), (22, (.bool true)), (29, (.bool Bdb))] := hF77.keep (keep := [0, 3, 4, 5, 6, 22, 29]) (by kernel_rfl)
        refine From_pure 2 13 [0, 3, 4, 5, 6, 31] hF77 (env' := [(0, (.slice (some ad66) n c)), (3, (.slice A2 n2 c2)), (4, (.int .i64 (b : Int))), (5, (.int .i64 (bestTo l b d))), (6, (.int .i64 (d : Int))), (31, (.bool Bdb))]) (by kernel_rfl) rfl ?_
        intro a78 hF79; clear hF77 a76
        cases Bdb
        · have cdb : (x.getD b false) = false := hBdb.symm
          refine From_pure 12 25 [0, 3, 4, 5, 6, 43] hF79 (env' := [(0, (.slice (some ad66) n c)), (3, (.slice A2 n2 c2)), (4, (.int .i64 (b : Int))), (5, (.int .i64 (bestTo l b d))), (6, (.int .i64 (d : Int))), (43, (.bool false))]) (by kernel_rfl) rfl ?_
          intro a80 hF81; clear hF79 a78
          refine From_end (by kernel_rfl) ?_
          refine W_cond (t := 43) (B := false) (by kernel_rfl) hF81 (by kernel_rfl) (fun t => Bool.noConfusion t) (fun _ => ?_)
          refine W_skip (by kernel_rfl) ?_
          refine W_region (by kernel_rfl) ?_   -- region 8
          refine From_pure 1 1 [0, 3, 4, 5, 17] hF81 (env' := [(0, (.slice (some ad66) n c)), (3, (.slice A2 n2 c2)), (4, (.int .i64 (b : Int))), (5, (.int .i64 (bestTo l b d))), (17, (.int .i64 (d : Int)))]) (by kernel_rfl) rfl ?_
          intro a82 hF83; clear hF81 a80
          refine From_arith (by kernel_rfl : coreAt _ 1 = some (some 18, (Go.Op.binOp Go.BinOp.add 3 (Go.Operand.tmp 17) (Go.Operand.const (Go.Value.int Go.IntKind.i64 1)) 3), 3, none)) hF83 (by kernel_rfl) (by kernel_rfl) (k' := 2) rfl (i := (d : Int)) (j := 1) (z := ((d : Int) + 1)) (by kernel_rfl) (by kernel_rfl) rfl (by omega) (by omega) ?_
          intro a84 ea hF85; clear ea hF83 a82
          replace hF85 : Fr a84 50 [(0, (.slice (some ad66) n c)), (3, (.slice A2 n2 c2)), (4, (.int .i64 (b : Int))), (5, (.int .i64 (bestTo l b d))), (18, (.int .i64 ((d : Int) + 1)))] := hF85.keep (keep := [0, 3, 4, 5, 18]) (by kernel_rfl)
          refine From_pure 1 3 [0, 3, 4, 5, 6] hF85 (env' := [(0, (.slice (some ad66) n c)), (3, (.slice A2 n2 c2)), (4, (.int .i64 (b : Int))), (5, (.int .i64 (bestTo l b d))), (6, (.int .i64 ((d : Int) + 1)))]) (by kernel_rfl) rfl ?_
          intro a86 hF87; clear hF85 a84
          refine From_end (by kernel_rfl) ?_
          have hnx : bestTo l b (d + 1) = bestTo l b d := if_neg (fun h => by have h2 := h.2.1; rw [at2_of hx, cdb] at h2; exact Bool.noConfusion h2)
          replace hF87 : Fr a86 50 [(0, (.slice (some ad66) n c)), (3, (.slice A2 n2 c2)), (4, (.int .i64 (b : Int))), (5, (.int .i64 (bestTo l b (d + 1)))), (6, (.int .i64 ((d : Int) + 1)))] := by rw [hnx]; exact hF87
          exact ⟨n - (d + 1), by omega, d + 1, rfl, hF87.keep (keep := [0, 3, 4, 5, 6]) (by kernel_rfl), hM22, by omega⟩
        · have cdb : (x.getD b false) = true := hBdb.symm
          refine From_pure 1 14 [0, 3, 4, 5, 6, 31, 32] hF79 (env' := [(0, (.slice (some ad66) n c)), (3, (.slice A2 n2 c2)), (4, (.int .i64 (b : Int))), (5, (.int .i64 (bestTo l b d))), (6, (.int .i64 (d : Int))), (31, (.bool true)), (32, (.int .i64 (bestTo l b d)))]) (by kernel_rfl) rfl ?_
          intro a88 hF89; clear hF79 a78
          refine From_cmp (by kernel_rfl : coreAt _ 14 = some (some 33, (Go.Op.binOp Go.BinOp.lss 3 (Go.Operand.tmp 32) (Go.Operand.const (Go.Value.int Go.IntKind.i64 0)) 3), 4, some (12, true))) hF89 (by kernel_rfl) (by kernel_rfl) (k' := 15) rfl (kd := .i64) (i := (bestTo l b d)) (j := 0) (by kernel_rfl) (by kernel_rfl) rfl ?_
          intro Bneg hBneg a90 ea hF91; clear ea hF89 a88
          replace hF91 : Fr a90 50 [(0, (.slice (some ad66) n c)), (3, (.slice A2 n2 c2)), (4, (.int .i64 (b : Int))), (5, (.int .i64 (bestTo l b d))), (6, (.int .i64 (d : Int))), (31, (.bool true)), (33, (.bool Bneg))] := hF91.keep (keep := [0, 3, 4, 5, 6, 31, 33]) (by kernel_rfl)
          refine From_pure 1 16 [0, 3, 4, 5, 6, 31, 34] hF91 (env' := [(0, (.slice (some ad66) n c)), (3, (.slice A2 n2 c2)), (4, (.int .i64 (b : Int))), (5, (.int .i64 (bestTo l b d))), (6, (.int .i64 (d : Int))), (31, (.bool true)), (34, (.bool Bneg))]) (by kernel_rfl) rfl ?_
          intro a92 hF93; clear hF91 a90
          cases Bneg
          · have cneg : ¬ ((bestTo l b d) < 0) := by simpa using hBneg
            obtain ⟨y, hy⟩ := sq_get (l := l) (bestTo l b d).toNat (by have := bestTo_lt l b d; omega)
            have hyl := hq _ y hy
            obtain ⟨Ae, ce, hre⟩ := hf.get hy
            refine From_pure 2 18 [0, 3, 4, 5, 6, 31, 34, 35, 36] hF93 (env' := [(0, (.slice (some ad66) n c)), (3, (.slice A2 n2 c2)), (4, (.int .i64 (b : Int))), (5, (.int .i64 (bestTo l b d))), (6, (.int .i64 (d : Int))), (31, (.bool true)), (34, (.bool false)), (35, (.slice (some ad66) n c)), (36, (.int .i64 (bestTo l b d)))]) (by kernel_rfl) rfl ?_
            intro a94 hF95; clear hF93 a92
            refine From_index (by kernel_rfl : coreAt _ 18 = some (some 37, (Go.Op.indexAddr 57 (Go.Operand.tmp 35) (Go.Operand.tmp 36)), 0, some (15, false))) hF95 (by kernel_rfl) (by kernel_rfl) (k' := 19) rfl (A := (some ad66)) (ad := ad66) (n := n) (cap := c) (e := 33) (size := 1) (kd := .i64) (i := (bestTo l b d)) (by kernel_rfl) (by kernel_rfl) rfl (by kernel_rfl) (by kernel_rfl) (by omega) (by have := bestTo_lt l b d; omega) ?_
            intro a96 ea hF97; clear ea hF95 a94
            replace hF97 : Fr a96 50 [(0, (.slice (some ad66) n c)), (3, (.slice A2 n2 c2)), (4, (.int .i64 (b : Int))), (5, (.int .i64 (bestTo l b d))), (6, (.int .i64 (d : Int))), (31, (.bool true)), (34, (.bool false)), (37, (.pointer (some ((ad66 : Addr).add ((bestTo l b d).toNat * 1)))))] := hF97.keep (keep := [0, 3, 4, 5, 6, 31, 34, 37]) (by kernel_rfl)
            refine From_load1 (by kernel_rfl : coreAt _ 19 = some (some 38, (Go.Op.load 33 (Go.Operand.tmp 37)), 33, some (15, false))) hF97 (by kernel_rfl) (by kernel_rfl) (k' := 20) rfl (ad := ((ad66 : Addr).add ((bestTo l b d).toNat * 1))) (v := (.slice Ae y.length ce)) (by kernel_rfl) (by kernel_rfl) (rd_get1 (hM22.ro hR) rfl (slv_get hre)) ?_
            intro a98 ea hF99; clear ea hF97 a96
            replace hF99 : Fr a98 50 [(0, (.slice (some ad66) n c)), (3, (.slice A2 n2 c2)), (4, (.int .i64 (b : Int))), (5, (.int .i64 (bestTo l b d))), (6, (.int .i64 (d : Int))), (31, (.bool true)), (34, (.bool false)), (38, (.slice Ae y.length ce))] := hF99.keep (keep := [0, 3, 4, 5, 6, 31, 34, 38]) (by kernel_rfl)
            refine From_pure 1 21 [0, 3, 4, 5, 6, 31, 34, 38, 39] hF99 (env' := [(0, (.slice (some ad66) n c)), (3, (.slice A2 n2 c2)), (4, (.int .i64 (b : Int))), (5, (.int .i64 (bestTo l b d))), (6, (.int .i64 (d : Int))), (31, (.bool true)), (34, (.bool false)), (38, (.slice Ae y.length ce)), (39, (.int .i64 (d : Int)))]) (by kernel_rfl) rfl ?_
            intro a100 hF101; clear hF99 a98
            obtain ⟨ad102, rfl⟩ := rd_some (fam_rd (hM22.ro hF0) hre) (by simp; omega)
            refine From_index (by kernel_rfl : coreAt _ 21 = some (some 40, (Go.Op.indexAddr 33 (Go.Operand.tmp 38) (Go.Operand.tmp 39)), 0, some (15, false))) hF101 (by kernel_rfl) (by kernel_rfl) (k' := 22) rfl (A := (some ad102)) (ad := ad102) (n := y.length) (cap := ce) (e := 4) (size := 1) (kd := .i64) (i := (d : Int)) (by kernel_rfl) (by kernel_rfl) rfl (by kernel_rfl) (by kernel_rfl) (by omega) (by omega) ?_
            intro a103 ea hF104; clear ea hF101 a100
            replace hF104 : Fr a103 50 [(0, (.slice (some ad66) n c)), (3, (.slice A2 n2 c2)), (4, (.int .i64 (b : Int))), (5, (.int .i64 (bestTo l b d))), (6, (.int .i64 (d : Int))), (31, (.bool true)), (34, (.bool false)), (40, (.pointer (some ((ad102 : Addr).add (((d : Int)).toNat * 1)))))] := hF104.keep (keep := [0, 3, 4, 5, 6, 31, 34, 40]) (by kernel_rfl)
            refine From_load1 (by kernel_rfl : coreAt _ 22 = some (some 41, (Go.Op.load 4 (Go.Operand.tmp 40)), 4, some (15, false))) hF104 (by kernel_rfl) (by kernel_rfl) (k' := 23) rfl (ad := ((ad102 : Addr).add (((d : Int)).toNat * 1))) (v := (.bool (y.getD d false))) (by kernel_rfl) (by kernel_rfl) (rd_get1 (fam_rd (hM22.ro hF0) hre) rfl (bools_get (by omega))) ?_
            intro a105 ea hF106; clear ea hF104 a103
            replace hF106 : Fr a105 50 [(0, (.slice (some ad66) n c)), (3, (.slice A2 n2 c2)), (4, (.int .i64 (b : Int))), (5, (.int .i64 (bestTo l b d))), (6, (.int .i64 (d : Int))), (31, (.bool true)), (34, (.bool false)), (41, (.bool (y.getD d false)))] := hF106.keep (keep := [0, 3, 4, 5, 6, 31, 34, 41]) (by kernel_rfl)
            obtain ⟨Bbd, hBbd⟩ : ∃ B, B = y.getD d false := ⟨_, rfl⟩
            rw [← hBbd] at hF106
            replace hF106 : Fr a105 50 [(0, (.slice (some ad66) n c)), (3, (.slice A2 n2 c2)), (4, (.int .i64 (b : Int))), (5, (.int .i64 (bestTo l b d))), (6, (.int .i64 (d : Int))), (31, (.bool true)), (34, (.bool false)), (41, (.bool Bbd))] := hF106.keep (keep := [0, 3, 4, 5, 6, 31, 34, 41]) (by kernel_rfl)
            refine From_pure 2 25 [0, 3, 4, 5, 6, 43] hF106 (env' := [(0, (.slice (some ad66) n c)), (3, (.slice A2 n2 c2)), (4, (.int .i64 (b : Int))), (5, (.int .i64 (bestTo l b d))), (6, (.int .i64 (d : Int))), (43, (.bool Bbd))]) (by kernel_rfl) rfl ?_
            intro a107 hF108; clear hF106 a105
            refine From_end (by kernel_rfl) ?_
            cases Bbd
            · have cbd : (y.getD d false) = false := hBbd.symm
              refine W_cond (t := 43) (B := false) (by kernel_rfl) hF108 (by kernel_rfl) (fun t => Bool.noConfusion t) (fun _ => ?_)
              refine W_skip (by kernel_rfl) ?_
              refine W_region (by kernel_rfl) ?_   -- region 8
              refine From_pure 1 1 [0, 3, 4, 5, 17] hF108 (env' := [(0, (.slice (some ad66) n c)), (3, (.slice A2 n2 c2)), (4, (.int .i64 (b : Int))), (5, (.int .i64 (bestTo l b d))), (17, (.int .i64 (d : Int)))]) (by kernel_rfl) rfl ?_
              intro a109 hF110; clear hF108 a107
              refine From_arith (by kernel_rfl : coreAt _ 1 = some (some 18, (Go.Op.binOp Go.BinOp.add 3 (Go.Operand.tmp 17) (Go.Operand.const (Go.Value.int Go.IntKind.i64 1)) 3), 3, none)) hF110 (by kernel_rfl) (by kernel_rfl) (k' := 2) rfl (i := (d : Int)) (j := 1) (z := ((d : Int) + 1)) (by kernel_rfl) (by kernel_rfl) rfl (by omega) (by omega) ?_
              intro a111 ea hF112; clear ea hF110 a109
              replace hF112 : Fr a111 50 [(0, (.slice (some ad66) n c)), (3, (.slice A2 n2 c2)), (4, (.int .i64 (b : Int))), (5, (.int .i64 (bestTo l b d))), (18, (.int .i64 ((d : Int) + 1)))] := hF112.keep (keep := [0, 3, 4, 5, 18]) (by kernel_rfl)
              refine From_pure 1 3 [0, 3, 4, 5, 6] hF112 (env' := [(0, (.slice (some ad66) n c)), (3, (.slice A2 n2 c2)), (4, (.int .i64 (b : Int))), (5, (.int .i64 (bestTo l b d))), (6, (.int .i64 ((d : Int) + 1)))]) (by kernel_rfl) rfl ?_
              intro a113 hF114; clear hF112 a111
              refine From_end (by kernel_rfl) ?_
              have hnx : bestTo l b (d + 1) = bestTo l b d := if_neg (fun h => h.2.2.elim (fun h => cneg h) (fun h => by rw [at2_of hy, cbd] at h; exact Bool.noConfusion h))
              replace hF114 : Fr a113 50 [(0, (.slice (some ad66) n c)), (3, (.slice A2 n2 c2)), (4, (.int .i64 (b : Int))), (5, (.int .i64 (bestTo l b (d + 1)))), (6, (.int .i64 ((d : Int) + 1)))] := by rw [hnx]; exact hF114
              exact ⟨n - (d + 1), by omega, d + 1, rfl, hF114.keep (keep := [0, 3, 4, 5, 6]) (by kernel_rfl), hM22, by omega⟩
            · have cbd : (y.getD d false) = true := hBbd.symm
              refine W_cond (t := 43) (B := true) (by kernel_rfl) hF108 (by kernel_rfl) (fun _ => ?_) (fun t => Bool.noConfusion t)
              refine W_region (by kernel_rfl) ?_   -- region 10
              refine From_pure 2 2 [0, 3, 4, 5, 6] hF108 (env' := [(0, (.slice (some ad66) n c)), (3, (.slice A2 n2 c2)), (4, (.int .i64 (b : Int))), (5, (.int .i64 (d : Int))), (6, (.int .i64 (d : Int)))]) (by kernel_rfl) rfl ?_
              intro a115 hF116; clear hF108 a107
              refine From_end (by kernel_rfl) ?_
              refine W_region (by kernel_rfl) ?_   -- region 8
              refine From_pure 1 1 [0, 3, 4, 5, 17] hF116 (env' := [(0, (.slice (some ad66) n c)), (3, (.slice A2 n2 c2)), (4, (.int .i64 (b : Int))), (5, (.int .i64 (d : Int))), (17, (.int .i64 (d : Int)))]) (by kernel_rfl) rfl ?_
              intro a117 hF118; clear hF116 a115
              refine From_arith (by kernel_rfl : coreAt _ 1 = some (some 18, (Go.Op.binOp Go.BinOp.add 3 (Go.Operand.tmp 17) (Go.Operand.const (Go.Value.int Go.IntKind.i64 1)) 3), 3, none)) hF118 (by kernel_rfl) (by kernel_rfl) (k' := 2) rfl (i := (d : Int)) (j := 1) (z := ((d : Int) + 1)) (by kernel_rfl) (by kernel_rfl) rfl (by omega) (by omega) ?_
              intro a119 ea hF120; clear ea hF118 a117
              replace hF120 : Fr a119 50 [(0, (.slice (some ad66) n c)), (3, (.slice A2 n2 c2)), (4, (.int .i64 (b : Int))), (5, (.int .i64 (d : Int))), (18, (.int .i64 ((d : Int) + 1)))] := hF120.keep (keep := [0, 3, 4, 5, 18]) (by kernel_rfl)
              refine From_pure 1 3 [0, 3, 4, 5, 6] hF120 (env' := [(0, (.slice (some ad66) n c)), (3, (.slice A2 n2 c2)), (4, (.int .i64 (b : Int))), (5, (.int .i64 (d : Int))), (6, (.int .i64 ((d : Int) + 1)))]) (by kernel_rfl) rfl ?_
              intro a121 hF122; clear hF120 a119
              refine From_end (by kernel_rfl) ?_
              have hnx : bestTo l b (d + 1) = (d : Int) := if_pos ⟨by omega, by rw [at2_of hx]; exact cdb, .inr (by rw [at2_of hy]; exact cbd)⟩
              replace hF122 : Fr a121 50 [(0, (.slice (some ad66) n c)), (3, (.slice A2 n2 c2)), (4, (.int .i64 (b : Int))), (5, (.int .i64 (bestTo l b (d + 1)))), (6, (.int .i64 ((d : Int) + 1)))] := by rw [hnx]; exact hF122
              exact ⟨n - (d + 1), by omega, d + 1, rfl, hF122.keep (keep := [0, 3, 4, 5, 6]) (by kernel_rfl), hM22, by omega⟩
          · have cneg : (bestTo l b d) < 0 := by simpa using hBneg
            refine From_pure 9 25 [0, 3, 4, 5, 6, 43] hF93 (env' := [(0, (.slice (some ad66) n c)), (3, (.slice A2 n2 c2)), (4, (.int .i64 (b : Int))), (5, (.int .i64 (bestTo l b d))), (6, (.int .i64 (d : Int))), (43, (.bool true))]) (by kernel_rfl) rfl ?_
            intro a123 hF124; clear hF93 a92
            refine From_end (by kernel_rfl) ?_
            refine W_cond (t := 43) (B := true) (by kernel_rfl) hF124 (by kernel_rfl) (fun _ => ?_) (fun t => Bool.noConfusion t)
            refine W_region (by kernel_rfl) ?_   -- region 10
            refine From_pure 2 2 [0, 3, 4, 5, 6] hF124 (env' := [(0, (.slice (some ad66) n c)), (3, (.slice A2 n2 c2)), (4, (.int .i64 (b : Int))), (5, (.int .i64 (d : Int))), (6, (.int .i64 (d : Int)))]) (by kernel_rfl) rfl ?_
            intro a125 hF126; clear hF124 a123
            refine From_end (by kernel_rfl) ?_
            refine W_region (by kernel_rfl) ?_   -- region 8
            refine From_pure 1 1 [0, 3, 4, 5, 17] hF126 (env' := [(0, (.slice (some ad66) n c)), (3, (.slice A2 n2 c2)), (4, (.int .i64 (b : Int))), (5, (.int .i64 (d : Int))), (17, (.int .i64 (d : Int)))]) (by kernel_rfl) rfl ?_
            intro a127 hF128; clear hF126 a125
            refine From_arith (by kernel_rfl : coreAt _ 1 = some (some 18, (Go.Op.binOp Go.BinOp.add 3 (Go.Operand.tmp 17) (Go.Operand.const (Go.Value.int Go.IntKind.i64 1)) 3), 3, none)) hF128 (by kernel_rfl) (by kernel_rfl) (k' := 2) rfl (i := (d : Int)) (j := 1) (z := ((d : Int) + 1)) (by kernel_rfl) (by kernel_rfl) rfl (by omega) (by omega) ?_
            intro a129 ea hF130; clear ea hF128 a127
            replace hF130 : Fr a129 50 [(0, (.slice (some ad66) n c)), (3, (.slice A2 n2 c2)), (4, (.int .i64 (b : Int))), (5, (.int .i64 (d : Int))), (18, (.int .i64 ((d : Int) + 1)))] := hF130.keep (keep := [0, 3, 4, 5, 18]) (by kernel_rfl)
            refine From_pure 1 3 [0, 3, 4, 5, 6] hF130 (env' := [(0, (.slice (some ad66) n c)), (3, (.slice A2 n2 c2)), (4, (.int .i64 (b : Int))), (5, (.int .i64 (d : Int))), (6, (.int .i64 ((d : Int) + 1)))]) (by kernel_rfl) rfl ?_
            intro a131 hF132; clear hF130 a129
            refine From_end (by kernel_rfl) ?_
            have hnx : bestTo l b (d + 1) = (d : Int) := if_pos ⟨by omega, by rw [at2_of hx]; exact cdb, .inl cneg⟩
            replace hF132 : Fr a131 50 [(0, (.slice (some ad66) n c)), (3, (.slice A2 n2 c2)), (4, (.int .i64 (b : Int))), (5, (.int .i64 (bestTo l b (d + 1)))), (6, (.int .i64 ((d : Int) + 1)))] := by rw [hnx]; exact hF132
            exact ⟨n - (d + 1), by omega, d + 1, rfl, hF132.keep (keep := [0, 3, 4, 5, 6]) (by kernel_rfl), hM22, by omega⟩

set_option maxRecDepth 10000 in
theorem rabove_c (nm wk pa va : Value) (A : Option Addr) (c : Nat) (bs : List SB) (w : World) (hm : bs.length ≤ 1000000) (hA : RO noS w (.blocks A bs)) :
    Calls Try.prog 14 #[(.agg #[nm, wk, pa, va, (.slice A bs.length c)])] w (Ret fun v w' => ∃ A' c', v = .slice A' (raboveL bs).length c' ∧ Mem noS w w' [.row 3 1 A' (raboveL bs).length c' (ints (raboveL bs))]) := by
  refine enter (N := 6) (vs := [(.agg #[nm, wk, pa, va, (.slice A bs.length c)])]) Try.func14 (by kernel_rfl) (by kernel_rfl) (by kernel_rfl) ?_
  intro a hF
  have hM := Mem.init w
  refine W_seq (by kernel_rfl) ?_
  refine W_region (by kernel_rfl) ?_   -- region 0
  refine From_box (by kernel_rfl : coreAt _ 0 = some (some 1, (Go.Op.box 24 (Go.Operand.tmp 0)), 0, none)) hF (by kernel_rfl) (by kernel_rfl) (k' := 1) rfl (v := (.agg #[nm, wk, pa, va, (.slice A bs.length c)])) (cs := [nm, wk, pa, va, (.slice A bs.length c)]) (by kernel_rfl) rfl hM ?_
  intro b1 w2 hb1 _ hM3 _ a4 ea hF5; clear ea hF a
  change Mem noS w w2 [.blk b1 24 [nm, wk, pa, va, (.slice A bs.length c)]] at hM3
  clear hM
  replace hF5 : Fr a4 6 [(1, (.pointer (some ⟨b1, 0, none⟩)))] := hF5.keep (keep := [1]) (by kernel_rfl)
  refine From_pure 1 2 [1] hF5 (env' := [(1, (.pointer (some ⟨b1, 0, none⟩)))]) (by kernel_rfl) rfl ?_
  intro a6 hF7; clear hF5 a4
  refine From_end (by kernel_rfl) ?_
  refine W_seq (by kernel_rfl) ?_
  refine W_region (by kernel_rfl) ?_   -- region 1
  refine From_loadS (by kernel_rfl : coreAt _ 0 = some (some 3, (Go.Op.load 24 (Go.Operand.tmp 1)), 24, none)) hF7 (by kernel_rfl) (by kernel_rfl) (k' := 1) rfl (ad := ⟨b1, 0, none⟩) (vs := [nm, wk, pa, va, (.slice A bs.length c)]) (by kernel_rfl) (by kernel_rfl) (blk_cells (hM3.get 0 rfl)) ?_
  intro a8 ea hF9; clear ea hF7 a6
  replace hF9 : Fr a8 6 [(3, (.agg #[nm, wk, pa, va, (.slice A bs.length c)]))] := hF9.keep (keep := [3]) (by kernel_rfl)
  refine From_call (by kernel_rfl : coreAt _ 1 = some (some 4, (Go.Op.call { callee := (Go.Callee.value (Go.Operand.func 31)), args := #[(Go.Operand.tmp 3)], argTypes := #[24] }), 57, none)) hF9 (by kernel_rfl) (by kernel_rfl) (k' := 2) rfl (f := 31) (vs := [(.agg #[nm, wk, pa, va, (.slice A bs.length c)])]) (cap := []) (by kernel_rfl) (by kernel_rfl) (by kernel_rfl) (over_c _ _ _ _ A c bs w2 hm (hA.at_ hM3)) ?_
  rintro _ w13 ⟨A10, c11, rows12, rfl, hfrows12, hM14x⟩ a15 ea hF16; clear ea hF9 a8
  have hM14 : Mem noS w w13 [.blk b1 24 [nm, wk, pa, va, (.slice A bs.length c)], .fam 4 rows12, .row 33 1 A10 bs.length c11 (slv rows12)] := hM3.call hM14x
  clear hM14x hM3
  replace hF16 : Fr a15 6 [(4, (.slice A10 bs.length c11))] := hF16.keep (keep := [4]) (by kernel_rfl)
  refine From_call (by kernel_rfl : coreAt _ 2 = some (some 5, (Go.Op.call { callee := (Go.Callee.value (Go.Operand.func 30)), args := #[(Go.Operand.tmp 4)], argTypes := #[57] }), 27, none)) hF16 (by kernel_rfl) (by kernel_rfl) (k' := 3) rfl (f := 30) (vs := [(.slice A10 bs.length c11)]) (cap := []) (by kernel_rfl) (by kernel_rfl) (by kernel_rfl) (aboveof_c A10 bs.length c11 (overL bs) rows12 w13 (by rw [overL_len]; omega) (by rw [overL_len]) (overL_square bs) hfrows12 (RO.row_rd (hM14.own_ro 2 rfl)) (hM14.own_ro 1 rfl)) ?_
  rintro _ w19 ⟨A17, c18, rfl, hM20x⟩ a21 ea hF22; clear ea hF16 a15
  have hM20 : Mem noS w w19 [.blk b1 24 [nm, wk, pa, va, (.slice A bs.length c)], .fam 4 rows12, .row 33 1 A10 bs.length c11 (slv rows12), .row 3 1 A17 ((raboveL bs).length) c18 (ints (raboveL bs))] := hM14.call hM20x
  clear hM20x hM14
  replace hF22 : Fr a21 6 [(5, (.slice A17 ((raboveL bs).length) c18))] := hF22.keep (keep := [5]) (by kernel_rfl)
  refine From_pure 1 4 [2] hF22 (env' := [(2, (.slice A17 ((raboveL bs).length) c18))]) (by kernel_rfl) rfl ?_
  intro a23 hF24; clear hF22 a21
  refine From_end (by kernel_rfl) ?_
  refine W_ret (by kernel_rfl) ?_
  refine out1 (v := (.slice A17 ((raboveL bs).length) c18)) hF24 rfl (by kernel_rfl) ?_
  refine ⟨_, rfl, ?_⟩
  have hM25 : Mem noS w w19 [.row 3 1 A17 ((raboveL bs).length) c18 (ints (raboveL bs))] := ((hM20.front 3 rfl).pick [true, false, false, false] rfl)
  clear hM20
  exact row_ret hM25 rfl rfl

set_option maxRecDepth 10000 in
theorem redge_c (nm wk pa va : Value) (A : Option Addr) (c : Nat) (bs : List SB) (w : World) (hm : bs.length ≤ 1000000) (hA : RO noS w (.blocks A bs)) :
    Calls Try.prog 17 #[(.agg #[nm, wk, pa, va, (.slice A bs.length c)])] w (Ret fun v w' => ∃ A' c' rows, v = .slice A' bs.length c' ∧ FamOf (Value.int .i64) rows (redgeL bs) ∧ Mem noS w w' [.fam 3 rows, .row 27 1 A' bs.length c' (slv rows)]) := by
  refine enter (N := 74) (vs := [(.agg #[nm, wk, pa, va, (.slice A bs.length c)])]) Try.func17 (by kernel_rfl) (by kernel_rfl) (by kernel_rfl) ?_
  intro a hF
  have hM := Mem.init w
  refine W_seq (by kernel_rfl) ?_
  refine W_region (by kernel_rfl) ?_   -- region 0
  refine From_box (by kernel_rfl : coreAt _ 0 = some (some 1, (Go.Op.box 24 (Go.Operand.tmp 0)), 0, none)) hF (by kernel_rfl) (by kernel_rfl) (k' := 1) rfl (v := (.agg #[nm, wk, pa, va, (.slice A bs.length c)])) (cs := [nm, wk, pa, va, (.slice A bs.length c)]) (by kernel_rfl) rfl hM ?_
  intro b1 w2 hb1 _ hM3 _ a4 ea hF5; clear ea hF a
  change Mem noS w w2 [.blk b1 24 [nm, wk, pa, va, (.slice A bs.length c)]] at hM3
  clear hM
  replace hF5 : Fr a4 74 [(1, (.pointer (some ⟨b1, 0, none⟩)))] := hF5.keep (keep := [1]) (by kernel_rfl)
  refine From_pure 1 2 [1] hF5 (env' := [(1, (.pointer (some ⟨b1, 0, none⟩)))]) (by kernel_rfl) rfl ?_
  intro a6 hF7; clear hF5 a4
  refine From_end (by kernel_rfl) ?_
  refine W_seq (by kernel_rfl) ?_
  refine W_region (by kernel_rfl) ?_   -- region 1
  refine From_loadS (by kernel_rfl : coreAt _ 0 = some (some 11, (Go.Op.load 24 (Go.Operand.tmp 1)), 24, none)) hF7 (by kernel_rfl) (by kernel_rfl) (k' := 1) rfl (ad := ⟨b1, 0, none⟩) (vs := [nm, wk, pa, va, (.slice A bs.length c)]) (by kernel_rfl) (by kernel_rfl) (blk_cells (hM3.get 0 rfl)) ?_
  intro a8 ea hF9; clear ea hF7 a6
  replace hF9 : Fr a8 74 [(1, (.pointer (some ⟨b1, 0, none⟩))), (11, (.agg #[nm, wk, pa, va, (.slice A bs.length c)]))] := hF9.keep (keep := [1, 11]) (by kernel_rfl)
  refine From_call (by kernel_rfl : coreAt _ 1 = some (some 12, (Go.Op.call { callee := (Go.Callee.value (Go.Operand.func 31)), args := #[(Go.Operand.tmp 11)], argTypes := #[24] }), 57, none)) hF9 (by kernel_rfl) (by kernel_rfl) (k' := 2) rfl (f := 31) (vs := [(.agg #[nm, wk, pa, va, (.slice A bs.length c)])]) (cap := []) (by kernel_rfl) (by kernel_rfl) (by kernel_rfl) (over_c _ _ _ _ A c bs w2 hm (hA.at_ hM3)) ?_
  rintro _ w13 ⟨A10, c11, rows12, rfl, hfrows12, hM14x⟩ a15 ea hF16; clear ea hF9 a8
  have hM14 : Mem noS w w13 [.blk b1 24 [nm, wk, pa, va, (.slice A bs.length c)], .fam 4 rows12, .row 33 1 A10 bs.length c11 (slv rows12)] := hM3.call hM14x
  clear hM14x hM3
  replace hF16 : Fr a15 74 [(1, (.pointer (some ⟨b1, 0, none⟩))), (12, (.slice A10 bs.length c11))] := hF16.keep (keep := [1, 12]) (by kernel_rfl)
  refine From_pure 1 3 [1, 3] hF16 (env' := [(1, (.pointer (some ⟨b1, 0, none⟩))), (3, (.slice A10 bs.length c11))]) (by kernel_rfl) rfl ?_
  intro a17 hF18; clear hF16 a15
  refine From_end (by kernel_rfl) ?_
  refine W_seq (by kernel_rfl) ?_
  refine W_region (by kernel_rfl) ?_   -- region 2
  refine From_pure 1 1 [1, 3, 4] hF18 (env' := [(1, (.pointer (some ⟨b1, 0, none⟩))), (3, (.slice A10 bs.length c11)), (4, (.slice none 0 0))]) (by kernel_rfl) rfl ?_
  intro a19 hF20; clear hF18 a17
  refine From_end (by kernel_rfl) ?_
  refine W_seq (by kernel_rfl) ?_
  refine W_seq (by kernel_rfl) ?_
  refine W_region (by kernel_rfl) ?_   -- region 3
  refine From_pure 1 1 [1, 3, 4, 5] hF20 (env' := [(1, (.pointer (some ⟨b1, 0, none⟩))), (3, (.slice A10 bs.length c11)), (4, (.slice none 0 0)), (5, (.int .i64 0))]) (by kernel_rfl) rfl ?_
  intro a21 hF22; clear hF20 a19
  refine From_end (by kernel_rfl) ?_
  refine W_block (id := 0) (by kernel_rfl) ?_
  have hf : FamOf Value.bool rows12 (overL bs) := hfrows12
  have hlo := overL_len bs
  have hM23 : Mem noS w w13 [.blk b1 24 [nm, wk, pa, va, (.slice A bs.length c)], .fam 4 rows12, .row 33 1 A10 bs.length c11 (slv rows12)] := (((hM14.front 2 rfl).front 2 rfl).front 2 rfl)
  clear hM14
  refine W_loop (by kernel_rfl) (fun n_ a_ w_ => ∃ (b : Nat) (rows2 : List RowV) (A2 : Option Addr) (c2 : Nat), n_ = bs.length - b ∧ Fr a_ 74 [(1, (.pointer (some ⟨b1, 0, none⟩))), (3, (.slice A10 bs.length c11)), (4, (.slice A2 b c2)), (5, (.int .i64 (b : Int)))] ∧ Mem noS w w_ [.fam 3 rows2, .blk b1 24 [nm, wk, pa, va, (.slice A bs.length c)], .fam 4 rows12, .row 33 1 A10 bs.length c11 (slv rows12), .row 27 1 A2 b c2 (slv rows2)] ∧ (b ≤ bs.length) ∧ (FamOf (Value.int .i64) rows2 ((redgeL bs).take b))) (n := _) ⟨0, [], none, 0, rfl, hF22.keep (keep := [1, 3, 4, 5]) (by kernel_rfl), (((hM23.call (Mem.nilfam _ 3 0)).call (Mem.nilrow _ 27 1)).front 3 rfl), by omega, rfl⟩ ?_
  clear hF22 a21 hM23; rintro n a26 w24 ⟨b, rows2, A2, c2, rfl, hF27, hM25, hb, hf2⟩
  refine W_seq (by kernel_rfl) ?_
  refine W_seq (by kernel_rfl) ?_
  refine W_region (by kernel_rfl) ?_   -- region 4
  refine From_pure 2 2 [1, 3, 4, 5, 13, 14] hF27 (env' := [(1, (.pointer (some ⟨b1, 0, none⟩))), (3, (.slice A10 bs.length c11)), (4, (.slice A2 b c2)), (5, (.int .i64 (b : Int))), (13, (.int .i64 (b : Int))), (14, (.pointer (some ⟨b1, 4, none⟩)))]) (by kernel_rfl) rfl ?_
  intro a28 hF29; clear hF27 a26
  refine From_load1 (by kernel_rfl : coreAt _ 2 = some (some 15, (Go.Op.load 22 (Go.Operand.tmp 14)), 22, none)) hF29 (by kernel_rfl) (by kernel_rfl) (k' := 3) rfl (ad := ⟨b1, 4, none⟩) (v := (.slice A bs.length c)) (by kernel_rfl) (by kernel_rfl) (blk_cell (hM25.get 1 rfl) rfl) ?_
  intro a30 ea hF31; clear ea hF29 a28
  replace hF31 : Fr a30 74 [(1, (.pointer (some ⟨b1, 0, none⟩))), (3, (.slice A10 bs.length c11)), (4, (.slice A2 b c2)), (5, (.int .i64 (b : Int))), (13, (.int .i64 (b : Int))), (15, (.slice A bs.length c))] := hF31.keep (keep := [1, 3, 4, 5, 13, 15]) (by kernel_rfl)
  refine From_pure 1 4 [1, 3, 4, 5, 13, 16] hF31 (env' := [(1, (.pointer (some ⟨b1, 0, none⟩))), (3, (.slice A10 bs.length c11)), (4, (.slice A2 b c2)), (5, (.int .i64 (b : Int))), (13, (.int .i64 (b : Int))), (16, (.int .i64 ((bs.length : Nat) : Int)))]) (by kernel_rfl) rfl ?_
  intro a32 hF33; clear hF31 a30
  refine From_cmp (by kernel_rfl : coreAt _ 4 = some (some 17, (Go.Op.binOp Go.BinOp.lss 3 (Go.Operand.tmp 13) (Go.Operand.tmp 16) 3), 4, none)) hF33 (by kernel_rfl) (by kernel_rfl) (k' := 5) rfl (kd := .i64) (i := (b : Int)) (j := ((bs.length : Nat) : Int)) (by kernel_rfl) (by kernel_rfl) rfl ?_
  intro Bb hBb a34 ea hF35; clear ea hF33 a32
  replace hF35 : Fr a34 74 [(1, (.pointer (some ⟨b1, 0, none⟩))), (3, (.slice A10 bs.length c11)), (4, (.slice A2 b c2)), (5, (.int .i64 (b : Int))), (17, (.bool Bb))] := hF35.keep (keep := [1, 3, 4, 5, 17]) (by kernel_rfl)
  refine From_end (by kernel_rfl) ?_
  cases Bb
  · have cb : ¬ ((b : Int) < ((bs.length : Nat) : Int)) := by simpa using hBb
    refine W_cond (t := 17) (B := false) (by kernel_rfl) hF35 (by kernel_rfl) (fun t => Bool.noConfusion t) (fun _ => ?_)
    refine W_exit (id := 0) (by kernel_rfl) ?_
    refine inB_hit rfl ?_
    refine W_seq (by kernel_rfl) ?_
    refine W_region (by kernel_rfl) ?_   -- region 19
    refine From_pure 2 2 [2] hF35 (env' := [(2, (.slice A2 b c2))]) (by kernel_rfl) rfl ?_
    intro a36 hF37; clear hF35 a34
    refine From_end (by kernel_rfl) ?_
    refine W_ret (by kernel_rfl) ?_
    refine out1 (v := (.slice A2 b c2)) hF37 rfl (by kernel_rfl) ?_
    refine ⟨_, rfl, ?_⟩
    obtain rfl : b = bs.length := by omega
    have hM38 : Mem noS w w24 [.fam 3 rows2, .row 27 1 A2 bs.length c2 (slv rows2)] := (((hM25.front 4 rfl).front 1 rfl).pick [true, true, false, false, false] rfl)
    clear hM25
    exact ⟨_, _, rows2, rfl, hf2.all (by rw [redgeL_len]; omega), hM38⟩
  · have cb : (b : Int) < ((bs.length : Nat) : Int) := by simpa using hBb
    have hbn : b < bs.length := by omega
    obtain ⟨x, hx⟩ := sq_get (l := overL bs) b (by omega)
    have hxl := overL_square bs b x hx
    obtain ⟨Ab, cb, hrb⟩ := hf.get hx
    obtain ⟨ab, rfl⟩ := rd_some (fam_rd (hM25.get 2 rfl) hrb) (by simp; omega)
    refine W_cond (t := 17) (B := true) (by kernel_rfl) hF35 (by kernel_rfl) (fun _ => ?_) (fun t => Bool.noConfusion t)
    refine W_skip (by kernel_rfl) ?_
    refine W_seq (by kernel_rfl) ?_
    refine W_block (id := 1) (by kernel_rfl) ?_
    refine W_seq (by kernel_rfl) ?_
    refine W_region (by kernel_rfl) ?_   -- region 6
    refine From_pure 1 1 [1, 3, 4, 5, 6] hF35 (env' := [(1, (.pointer (some ⟨b1, 0, none⟩))), (3, (.slice A10 bs.length c11)), (4, (.slice A2 b c2)), (5, (.int .i64 (b : Int))), (6, (.slice none 0 0))]) (by kernel_rfl) rfl ?_
    intro a39 hF40; clear hF35 a34
    refine From_end (by kernel_rfl) ?_
    refine W_seq (by kernel_rfl) ?_
    refine W_seq (by kernel_rfl) ?_
    refine W_region (by kernel_rfl) ?_   -- region 7
    refine From_pure 1 1 [1, 3, 4, 5, 6, 7] hF40 (env' := [(1, (.pointer (some ⟨b1, 0, none⟩))), (3, (.slice A10 bs.length c11)), (4, (.slice A2 b c2)), (5, (.int .i64 (b : Int))), (6, (.slice none 0 0)), (7, (.int .i64 0))]) (by kernel_rfl) rfl ?_
    intro a41 hF42; clear hF40 a39
    refine From_end (by kernel_rfl) ?_
    refine W_block (id := 2) (by kernel_rfl) ?_
    refine W_loop (by kernel_rfl) (fun n_ a_ w_ => ∃ (y : Nat) (A4 : Option Addr) (n4 : Nat) (c4 : Nat), n_ = bs.length - y ∧ Fr a_ 74 [(1, (.pointer (some ⟨b1, 0, none⟩))), (3, (.slice A10 bs.length c11)), (4, (.slice A2 b c2)), (5, (.int .i64 (b : Int))), (6, (.slice A4 n4 c4)), (7, (.int .i64 (y : Int)))] ∧ Mem noS w w_ [.fam 3 rows2, .blk b1 24 [nm, wk, pa, va, (.slice A bs.length c)], .fam 4 rows12, .row 33 1 A10 bs.length c11 (slv rows12), .row 27 1 A2 b c2 (slv rows2), .row 3 1 A4 n4 c4 (ints (redgeTo bs b y))] ∧ (y ≤ bs.length) ∧ (n4 = (redgeTo bs b y).length)) (n := _) ⟨0, none, 0, 0, rfl, hF42.keep (keep := [1, 3, 4, 5, 6, 7]) (by kernel_rfl), (hM25.call (Mem.nilrow _ 3 1)), by omega, rfl⟩ ?_
    clear hF42 a41 hM25; rintro n a45 w43 ⟨y, A4, n4, c4, rfl, hF46, hM44, hy, hn4⟩
    refine W_seq (by kernel_rfl) ?_
    refine W_seq (by kernel_rfl) ?_
    refine W_region (by kernel_rfl) ?_   -- region 8
    refine From_pure 2 2 [1, 3, 4, 5, 6, 7, 20, 21] hF46 (env' := [(1, (.pointer (some ⟨b1, 0, none⟩))), (3, (.slice A10 bs.length c11)), (4, (.slice A2 b c2)), (5, (.int .i64 (b : Int))), (6, (.slice A4 n4 c4)), (7, (.int .i64 (y : Int))), (20, (.int .i64 (y : Int))), (21, (.pointer (some ⟨b1, 4, none⟩)))]) (by kernel_rfl) rfl ?_
    intro a47 hF48; clear hF46 a45
    refine From_load1 (by kernel_rfl : coreAt _ 2 = some (some 22, (Go.Op.load 22 (Go.Operand.tmp 21)), 22, none)) hF48 (by kernel_rfl) (by kernel_rfl) (k' := 3) rfl (ad := ⟨b1, 4, none⟩) (v := (.slice A bs.length c)) (by kernel_rfl) (by kernel_rfl) (blk_cell (hM44.get 1 rfl) rfl) ?_
    intro a49 ea hF50; clear ea hF48 a47
    replace hF50 : Fr a49 74 [(1, (.pointer (some ⟨b1, 0, none⟩))), (3, (.slice A10 bs.length c11)), (4, (.slice A2 b c2)), (5, (.int .i64 (b : Int))), (6, (.slice A4 n4 c4)), (7, (.int .i64 (y : Int))), (20, (.int .i64 (y : Int))), (22, (.slice A bs.length c))] := hF50.keep (keep := [1, 3, 4, 5, 6, 7, 20, 22]) (by kernel_rfl)
    refine From_pure 1 4 [1, 3, 4, 5, 6, 7, 20, 23] hF50 (env' := [(1, (.pointer (some ⟨b1, 0, none⟩))), (3, (.slice A10 bs.length c11)), (4, (.slice A2 b c2)), (5, (.int .i64 (b : Int))), (6, (.slice A4 n4 c4)), (7, (.int .i64 (y : Int))), (20, (.int .i64 (y : Int))), (23, (.int .i64 ((bs.length : Nat) : Int)))]) (by kernel_rfl) rfl ?_
    intro a51 hF52; clear hF50 a49
    refine From_cmp (by kernel_rfl : coreAt _ 4 = some (some 24, (Go.Op.binOp Go.BinOp.lss 3 (Go.Operand.tmp 20) (Go.Operand.tmp 23) 3), 4, none)) hF52 (by kernel_rfl) (by kernel_rfl) (k' := 5) rfl (kd := .i64) (i := (y : Int)) (j := ((bs.length : Nat) : Int)) (by kernel_rfl) (by kernel_rfl) rfl ?_
    intro By hBy a53 ea hF54; clear ea hF52 a51
    replace hF54 : Fr a53 74 [(1, (.pointer (some ⟨b1, 0, none⟩))), (3, (.slice A10 bs.length c11)), (4, (.slice A2 b c2)), (5, (.int .i64 (b : Int))), (6, (.slice A4 n4 c4)), (7, (.int .i64 (y : Int))), (24, (.bool By))] := hF54.keep (keep := [1, 3, 4, 5, 6, 7, 24]) (by kernel_rfl)
    refine From_end (by kernel_rfl) ?_
    cases By
    · have cy : ¬ ((y : Int) < ((bs.length : Nat) : Int)) := by simpa using hBy
      refine W_cond (t := 24) (B := false) (by kernel_rfl) hF54 (by kernel_rfl) (fun t => Bool.noConfusion t) (fun _ => ?_)
      refine W_exit (id := 2) (by kernel_rfl) ?_
      refine inB_hit rfl ?_
      refine W_region (by kernel_rfl) ?_   -- region 18
      obtain rfl : y = bs.length := by omega
      refine From_pure 2 2 [1, 3, 5, 69, 70] hF54 (env' := [(1, (.pointer (some ⟨b1, 0, none⟩))), (3, (.slice A10 bs.length c11)), (5, (.int .i64 (b : Int))), (69, (.slice A2 b c2)), (70, (.slice A4 n4 c4))]) (by kernel_rfl) rfl ?_
      intro a55 hF56; clear hF54 a53
      refine From_buildSlice (by kernel_rfl : coreAt _ 2 = some (some 71, (Go.Op.buildSlice 31 1 #[(0, (Go.Operand.tmp 70))]), 31, none)) hF56 (by kernel_rfl) (by kernel_rfl) (k' := 3) rfl (e := 27) (size := 1) (zs := [(.slice none 0 0)]) (vs := [(0, (.slice A4 n4 c4))]) (cs := [(.slice A4 n4 c4)]) (by kernel_rfl) (by kernel_rfl) (by kernel_rfl) (by kernel_rfl) (by kernel_rfl) (by kernel_rfl) hM44 ?_
      intro b57 w58 hb57 _ hM59 _ a60 ea hF61; clear ea hF56 a55
      change Mem noS w w58 [.fam 3 rows2, .blk b1 24 [nm, wk, pa, va, (.slice A bs.length c)], .fam 4 rows12, .row 33 1 A10 bs.length c11 (slv rows12), .row 27 1 A2 b c2 (slv rows2), .row 3 1 A4 n4 c4 (ints (redgeTo bs b bs.length)), .row 27 1 (some ⟨b57, 0, none⟩) 1 1 [(.slice A4 n4 c4)]] at hM59
      clear hM44
      replace hF61 : Fr a60 74 [(1, (.pointer (some ⟨b1, 0, none⟩))), (3, (.slice A10 bs.length c11)), (5, (.int .i64 (b : Int))), (69, (.slice A2 b c2)), (71, (.slice (some ⟨b57, 0, none⟩) 1 1))] := hF61.keep (keep := [1, 3, 5, 69, 71]) (by kernel_rfl)
      refine From_append (by kernel_rfl : coreAt _ 3 = some (some 72, (Go.Op.call { callee := (Go.Callee.builtin Go.Builtin.append), args := #[(Go.Operand.tmp 69), (Go.Operand.tmp 71)], argTypes := #[31, 31] }), 31, none)) hF61 (by kernel_rfl) (by kernel_rfl) (k' := 4) rfl (e := 27) (size := 1) (bytes := 24) (z := (.slice none 0 0)) (by kernel_rfl) (by kernel_rfl) (by kernel_rfl) (by kernel_rfl) (A := A2) (B := (some ⟨b57, 0, none⟩)) (n := b) (cap := c2) (m := 1) (cap' := 1) (xs := (slv rows2)) (news := [(.slice A4 n4 c4)]) (by kernel_rfl) (by kernel_rfl) hM59 4 rfl (row_rd (hM59.get 6 rfl)) rfl (by simp [Value.oneCell']) (by omega) (by simp only [maxLen]; omega) ?_
      intro A62 c63 w64 hM65 _ a66 ea hF67; clear ea hF61 a60
      change Mem noS w w64 [.fam 3 rows2, .blk b1 24 [nm, wk, pa, va, (.slice A bs.length c)], .fam 4 rows12, .row 33 1 A10 bs.length c11 (slv rows12), .row 27 1 A62 (b + 1) c63 ((slv rows2) ++ [(.slice A4 n4 c4)]), .row 3 1 A4 n4 c4 (ints (redgeTo bs b bs.length)), .row 27 1 (some ⟨b57, 0, none⟩) 1 1 [(.slice A4 n4 c4)]] at hM65
      clear hM59
      replace hM65 : Mem noS w w64 [.fam 3 rows2, .blk b1 24 [nm, wk, pa, va, (.slice A bs.length c)], .fam 4 rows12, .row 33 1 A10 bs.length c11 (slv rows12), .row 27 1 A62 (b + 1) c63 ((slv rows2) ++ [(.slice A4 n4 c4)]), .row 3 1 A4 n4 c4 (ints (redgeTo bs b bs.length))] := hM65.pick [true, true, true, true, true, true, false] rfl
      replace hF67 : Fr a66 74 [(1, (.pointer (some ⟨b1, 0, none⟩))), (3, (.slice A10 bs.length c11)), (5, (.int .i64 (b : Int))), (72, (.slice A62 (b + 1) c63))] := hF67.keep (keep := [1, 3, 5, 72]) (by kernel_rfl)
      refine From_pure 1 5 [1, 3, 4, 5] hF67 (env' := [(1, (.pointer (some ⟨b1, 0, none⟩))), (3, (.slice A10 bs.length c11)), (4, (.slice A62 (b + 1) c63)), (5, (.int .i64 (b : Int)))]) (by kernel_rfl) rfl ?_
      intro a68 hF69; clear hF67 a66
      refine From_end (by kernel_rfl) ?_
      refine W_region (by kernel_rfl) ?_   -- region 5
      refine From_pure 1 1 [1, 3, 4, 18] hF69 (env' := [(1, (.pointer (some ⟨b1, 0, none⟩))), (3, (.slice A10 bs.length c11)), (4, (.slice A62 (b + 1) c63)), (18, (.int .i64 (b : Int)))]) (by kernel_rfl) rfl ?_
      intro a70 hF71; clear hF69 a68
      refine From_arith (by kernel_rfl : coreAt _ 1 = some (some 19, (Go.Op.binOp Go.BinOp.add 3 (Go.Operand.tmp 18) (Go.Operand.const (Go.Value.int Go.IntKind.i64 1)) 3), 3, none)) hF71 (by kernel_rfl) (by kernel_rfl) (k' := 2) rfl (i := (b : Int)) (j := 1) (z := ((b : Int) + 1)) (by kernel_rfl) (by kernel_rfl) rfl (by omega) (by omega) ?_
      intro a72 ea hF73; clear ea hF71 a70
      replace hF73 : Fr a72 74 [(1, (.pointer (some ⟨b1, 0, none⟩))), (3, (.slice A10 bs.length c11)), (4, (.slice A62 (b + 1) c63)), (19, (.int .i64 ((b : Int) + 1)))] := hF73.keep (keep := [1, 3, 4, 19]) (by kernel_rfl)
      refine From_pure 1 3 [1, 3, 4, 5] hF73 (env' := [(1, (.pointer (some ⟨b1, 0, none⟩))), (3, (.slice A10 bs.length c11)), (4, (.slice A62 (b + 1) c63)), (5, (.int .i64 ((b : Int) + 1)))]) (by kernel_rfl) rfl ?_
      intro a74 hF75; clear hF73 a72
      refine From_end (by kernel_rfl) ?_
      have hM76 : Mem noS w w64 [.fam 3 rows2, .row 3 1 A4 n4 c4 (ints (redgeTo bs b bs.length)), .blk b1 24 [nm, wk, pa, va, (.slice A bs.length c)], .fam 4 rows12, .row 33 1 A10 bs.length c11 (slv rows12), .row 27 1 A62 (b + 1) c63 ((slv rows2) ++ [(.slice A4 n4 c4)])] := ((((((hM65.front 4 rfl).front 4 rfl).front 4 rfl).front 4 rfl).front 5 rfl).front 5 rfl)
      clear hM65
      have hM77 : Mem noS w w64 [.fam 3 (rows2 ++ [⟨A4, n4, c4, ints (redgeTo bs b bs.length)⟩]), .blk b1 24 [nm, wk, pa, va, (.slice A bs.length c)], .fam 4 rows12, .row 33 1 A10 bs.length c11 (slv rows12), .row 27 1 A62 (b + 1) c63 ((slv rows2) ++ [(.slice A4 n4 c4)])] := hM76.push
      clear hM76
      have hM78 : Mem noS w w64 [.fam 3 (rows2 ++ [⟨A4, n4, c4, ints (redgeTo bs b bs.length)⟩]), .blk b1 24 [nm, wk, pa, va, (.slice A bs.length c)], .fam 4 rows12, .row 33 1 A10 bs.length c11 (slv rows12), .row 27 1 A62 (b + 1) c63 (slv (rows2 ++ [⟨A4, n4, c4, ints (redgeTo bs b bs.length)⟩]))] := hM77.cast (by rw [slv_append])
      clear hM77
      exact ⟨bs.length - (b + 1), by omega, b + 1, (rows2 ++ [⟨A4, n4, c4, ints (redgeTo bs b bs.length)⟩]), A62, c63, rfl, hF75.keep (keep := [1, 3, 4, 5]) (by kernel_rfl), hM78, by omega, hf2.next (redgeL_get hbn) hn4 rfl⟩
    · have cy : (y : Int) < ((bs.length : Nat) : Int) := by simpa using hBy
      refine W_cond (t := 24) (B := true) (by kernel_rfl) hF54 (by kernel_rfl) (fun _ => ?_) (fun t => Bool.noConfusion t)
      refine W_skip (by kernel_rfl) ?_
      refine W_seq (by kernel_rfl) ?_
      refine W_block (id := 3) (by kernel_rfl) ?_
      refine W_seq (by kernel_rfl) ?_
      refine W_region (by kernel_rfl) ?_   -- region 10
      refine From_loadS (by kernel_rfl : coreAt _ 0 = some (some 27, (Go.Op.load 24 (Go.Operand.tmp 1)), 24, none)) hF54 (by kernel_rfl) (by kernel_rfl) (k' := 1) rfl (ad := ⟨b1, 0, none⟩) (vs := [nm, wk, pa, va, (.slice A bs.length c)]) (by kernel_rfl) (by kernel_rfl) (blk_cells (hM44.get 1 rfl)) ?_
      intro a79 ea hF80; clear ea hF54 a53
      replace hF80 : Fr a79 74 [(1, (.pointer (some ⟨b1, 0, none⟩))), (3, (.slice A10 bs.length c11)), (4, (.slice A2 b c2)), (5, (.int .i64 (b : Int))), (6, (.slice A4 n4 c4)), (7, (.int .i64 (y : Int))), (27, (.agg #[nm, wk, pa, va, (.slice A bs.length c)]))] := hF80.keep (keep := [1, 3, 4, 5, 6, 7, 27]) (by kernel_rfl)
      refine From_pure 1 2 [1, 3, 4, 5, 6, 7, 27, 28] hF80 (env' := [(1, (.pointer (some ⟨b1, 0, none⟩))), (3, (.slice A10 bs.length c11)), (4, (.slice A2 b c2)), (5, (.int .i64 (b : Int))), (6, (.slice A4 n4 c4)), (7, (.int .i64 (y : Int))), (27, (.agg #[nm, wk, pa, va, (.slice A bs.length c)])), (28, (.int .i64 (y : Int)))]) (by kernel_rfl) rfl ?_
      intro a81 hF82; clear hF80 a79
      refine From_call (by kernel_rfl : coreAt _ 2 = some (some 29, (Go.Op.call { callee := (Go.Callee.value (Go.Operand.func 22)), args := #[(Go.Operand.tmp 27), (Go.Operand.tmp 28)], argTypes := #[24, 3] }), 27, none)) hF82 (by kernel_rfl) (by kernel_rfl) (k' := 3) rfl (f := 22) (vs := [(.agg #[nm, wk, pa, va, (.slice A bs.length c)]), (.int .i64 (y : Int))]) (cap := []) (by kernel_rfl) (by kernel_rfl) (by kernel_rfl) (rsources_c _ _ _ _ A c bs (y : Int) w43 hm (hA.at_ hM44)) ?_
      rintro _ w85 ⟨A83, c84, rfl, hM86x⟩ a87 ea hF88; clear ea hF82 a81
      have hM86 : Mem noS w w85 [.fam 3 rows2, .blk b1 24 [nm, wk, pa, va, (.slice A bs.length c)], .fam 4 rows12, .row 33 1 A10 bs.length c11 (slv rows12), .row 27 1 A2 b c2 (slv rows2), .row 3 1 A4 n4 c4 (ints (redgeTo bs b y)), .row 3 1 A83 ((srcs bs (y : Int)).length) c84 (ints (srcs bs (y : Int)))] := hM44.call hM86x
      clear hM86x hM44
      replace hF88 : Fr a87 74 [(1, (.pointer (some ⟨b1, 0, none⟩))), (3, (.slice A10 bs.length c11)), (4, (.slice A2 b c2)), (5, (.int .i64 (b : Int))), (6, (.slice A4 n4 c4)), (7, (.int .i64 (y : Int))), (29, (.slice A83 ((srcs bs (y : Int)).length) c84))] := hF88.keep (keep := [1, 3, 4, 5, 6, 7, 29]) (by kernel_rfl)
      refine From_pure 1 4 [1, 3, 4, 5, 6, 7, 8] hF88 (env' := [(1, (.pointer (some ⟨b1, 0, none⟩))), (3, (.slice A10 bs.length c11)), (4, (.slice A2 b c2)), (5, (.int .i64 (b : Int))), (6, (.slice A4 n4 c4)), (7, (.int .i64 (y : Int))), (8, (.slice A83 ((srcs bs (y : Int)).length) c84))]) (by kernel_rfl) rfl ?_
      intro a89 hF90; clear hF88 a87
      refine From_end (by kernel_rfl) ?_
      refine W_seq (by kernel_rfl) ?_
      refine W_region (by kernel_rfl) ?_   -- region 11
      refine From_pure 1 1 [1, 3, 4, 5, 6, 7, 8, 9] hF90 (env' := [(1, (.pointer (some ⟨b1, 0, none⟩))), (3, (.slice A10 bs.length c11)), (4, (.slice A2 b c2)), (5, (.int .i64 (b : Int))), (6, (.slice A4 n4 c4)), (7, (.int .i64 (y : Int))), (8, (.slice A83 ((srcs bs (y : Int)).length) c84)), (9, (.bool false))]) (by kernel_rfl) rfl ?_
      intro a91 hF92; clear hF90 a89
      refine From_end (by kernel_rfl) ?_
      refine W_seq (by kernel_rfl) ?_
      refine W_seq (by kernel_rfl) ?_
      refine W_region (by kernel_rfl) ?_   -- region 12
      refine From_pure 1 1 [1, 3, 4, 5, 6, 7, 8, 9, 10] hF92 (env' := [(1, (.pointer (some ⟨b1, 0, none⟩))), (3, (.slice A10 bs.length c11)), (4, (.slice A2 b c2)), (5, (.int .i64 (b : Int))), (6, (.slice A4 n4 c4)), (7, (.int .i64 (y : Int))), (8, (.slice A83 ((srcs bs (y : Int)).length) c84)), (9, (.bool false)), (10, (.int .i64 0))]) (by kernel_rfl) rfl ?_
      intro a93 hF94; clear hF92 a91
      refine From_end (by kernel_rfl) ?_
      refine W_block (id := 4) (by kernel_rfl) ?_
      refine W_loop (by kernel_rfl) (fun n_ a_ w_ => ∃ (k : Nat) (Bok : Bool), n_ = (srcs bs (y : Int)).length - k ∧ Fr a_ 74 [(1, (.pointer (some ⟨b1, 0, none⟩))), (3, (.slice A10 bs.length c11)), (4, (.slice A2 b c2)), (5, (.int .i64 (b : Int))), (6, (.slice A4 n4 c4)), (7, (.int .i64 (y : Int))), (8, (.slice A83 ((srcs bs (y : Int)).length) c84)), (9, (.bool Bok)), (10, (.int .i64 (k : Int)))] ∧ Mem noS w w_ [.fam 3 rows2, .blk b1 24 [nm, wk, pa, va, (.slice A bs.length c)], .fam 4 rows12, .row 33 1 A10 bs.length c11 (slv rows12), .row 27 1 A2 b c2 (slv rows2), .row 3 1 A4 n4 c4 (ints (redgeTo bs b y)), .row 3 1 A83 ((srcs bs (y : Int)).length) c84 (ints (srcs bs (y : Int)))] ∧ (k ≤ (srcs bs (y : Int)).length) ∧ (Bok = ((srcs bs (y : Int)).take k).any (fun s => at2 (overL bs) b s.toNat))) (n := _) ⟨0, false, rfl, hF94.keep (keep := [1, 3, 4, 5, 6, 7, 8, 9, 10]) (by kernel_rfl), hM86, by omega, rfl⟩ ?_
      clear hF94 a93 hM86; rintro n a97 w95 ⟨k, Bok, rfl, hF98, hM96, hk, hBok⟩
      refine W_seq (by kernel_rfl) ?_
      refine W_seq (by kernel_rfl) ?_
      refine W_region (by kernel_rfl) ?_   -- region 13
      refine From_pure 3 3 [1, 3, 4, 5, 6, 7, 8, 9, 10, 30, 32] hF98 (env' := [(1, (.pointer (some ⟨b1, 0, none⟩))), (3, (.slice A10 bs.length c11)), (4, (.slice A2 b c2)), (5, (.int .i64 (b : Int))), (6, (.slice A4 n4 c4)), (7, (.int .i64 (y : Int))), (8, (.slice A83 ((srcs bs (y : Int)).length) c84)), (9, (.bool Bok)), (10, (.int .i64 (k : Int))), (30, (.int .i64 (k : Int))), (32, (.int .i64 (((srcs bs (y : Int)).length : Nat) : Int)))]) (by kernel_rfl) rfl ?_
      intro a99 hF100; clear hF98 a97
      refine From_cmp (by kernel_rfl : coreAt _ 3 = some (some 33, (Go.Op.binOp Go.BinOp.lss 3 (Go.Operand.tmp 30) (Go.Operand.tmp 32) 3), 4, none)) hF100 (by kernel_rfl) (by kernel_rfl) (k' := 4) rfl (kd := .i64) (i := (k : Int)) (j := (((srcs bs (y : Int)).length : Nat) : Int)) (by kernel_rfl) (by kernel_rfl) rfl ?_
      intro Bk hBk a101 ea hF102; clear ea hF100 a99
      replace hF102 : Fr a101 74 [(1, (.pointer (some ⟨b1, 0, none⟩))), (3, (.slice A10 bs.length c11)), (4, (.slice A2 b c2)), (5, (.int .i64 (b : Int))), (6, (.slice A4 n4 c4)), (7, (.int .i64 (y : Int))), (8, (.slice A83 ((srcs bs (y : Int)).length) c84)), (9, (.bool Bok)), (10, (.int .i64 (k : Int))), (33, (.bool Bk))] := hF102.keep (keep := [1, 3, 4, 5, 6, 7, 8, 9, 10, 33]) (by kernel_rfl)
      refine From_end (by kernel_rfl) ?_
      cases Bk
      · have ck : ¬ ((k : Int) < (((srcs bs (y : Int)).length : Nat) : Int)) := by simpa using hBk
        refine W_cond (t := 33) (B := false) (by kernel_rfl) hF102 (by kernel_rfl) (fun t => Bool.noConfusion t) (fun _ => ?_)
        refine W_exit (id := 4) (by kernel_rfl) ?_
        refine inB_hit rfl ?_
        refine W_seq (by kernel_rfl) ?_
        refine W_region (by kernel_rfl) ?_   -- region 16
        rw [List.take_of_length_le (show (srcs bs (y : Int)).length ≤ k by omega)] at hBok
        refine From_pure 2 2 [1, 3, 4, 5, 6, 7, 50] hF102 (env' := [(1, (.pointer (some ⟨b1, 0, none⟩))), (3, (.slice A10 bs.length c11)), (4, (.slice A2 b c2)), (5, (.int .i64 (b : Int))), (6, (.slice A4 n4 c4)), (7, (.int .i64 (y : Int))), (50, (.bool Bok))]) (by kernel_rfl) rfl ?_
        intro a103 hF104; clear hF102 a101
        cases Bok
        · have cok : ((srcs bs (y : Int)).any (fun s => at2 (overL bs) b s.toNat)) = false := hBok.symm
          have hP : edgeP bs b y = false := edgeP_any cok
          refine From_pure 14 16 [1, 3, 4, 5, 6, 7, 64] hF104 (env' := [(1, (.pointer (some ⟨b1, 0, none⟩))), (3, (.slice A10 bs.length c11)), (4, (.slice A2 b c2)), (5, (.int .i64 (b : Int))), (6, (.slice A4 n4 c4)), (7, (.int .i64 (y : Int))), (64, (.bool false))]) (by kernel_rfl) rfl ?_
          intro a105 hF106; clear hF104 a103
          refine From_end (by kernel_rfl) ?_
          refine W_cond (t := 64) (B := false) (by kernel_rfl) hF106 (by kernel_rfl) (fun t => Bool.noConfusion t) (fun _ => ?_)
          refine W_skip (by kernel_rfl) ?_
          refine W_region (by kernel_rfl) ?_   -- region 9
          refine From_pure 1 1 [1, 3, 4, 5, 6, 25] hF106 (env' := [(1, (.pointer (some ⟨b1, 0, none⟩))), (3, (.slice A10 bs.length c11)), (4, (.slice A2 b c2)), (5, (.int .i64 (b : Int))), (6, (.slice A4 n4 c4)), (25, (.int .i64 (y : Int)))]) (by kernel_rfl) rfl ?_
          intro a107 hF108; clear hF106 a105
          refine From_arith (by kernel_rfl : coreAt _ 1 = some (some 26, (Go.Op.binOp Go.BinOp.add 3 (Go.Operand.tmp 25) (Go.Operand.const (Go.Value.int Go.IntKind.i64 1)) 3), 3, none)) hF108 (by kernel_rfl) (by kernel_rfl) (k' := 2) rfl (i := (y : Int)) (j := 1) (z := ((y : Int) + 1)) (by kernel_rfl) (by kernel_rfl) rfl (by omega) (by omega) ?_
          intro a109 ea hF110; clear ea hF108 a107
          replace hF110 : Fr a109 74 [(1, (.pointer (some ⟨b1, 0, none⟩))), (3, (.slice A10 bs.length c11)), (4, (.slice A2 b c2)), (5, (.int .i64 (b : Int))), (6, (.slice A4 n4 c4)), (26, (.int .i64 ((y : Int) + 1)))] := hF110.keep (keep := [1, 3, 4, 5, 6, 26]) (by kernel_rfl)
          refine From_pure 1 3 [1, 3, 4, 5, 6, 7] hF110 (env' := [(1, (.pointer (some ⟨b1, 0, none⟩))), (3, (.slice A10 bs.length c11)), (4, (.slice A2 b c2)), (5, (.int .i64 (b : Int))), (6, (.slice A4 n4 c4)), (7, (.int .i64 ((y : Int) + 1)))]) (by kernel_rfl) rfl ?_
          intro a111 hF112; clear hF110 a109
          refine From_end (by kernel_rfl) ?_
          have hM113 : Mem noS w w95 [.fam 3 rows2, .blk b1 24 [nm, wk, pa, va, (.slice A bs.length c)], .fam 4 rows12, .row 33 1 A10 bs.length c11 (slv rows12), .row 27 1 A2 b c2 (slv rows2), .row 3 1 A4 n4 c4 (ints (redgeTo bs b y))] := (((((((hM96.front 5 rfl).front 5 rfl).front 5 rfl).front 5 rfl).front 5 rfl).front 5 rfl).pick [true, true, true, true, true, true, false] rfl)
          clear hM96
          exact ⟨bs.length - (y + 1), by omega, y + 1, A4, n4, c4, rfl, hF112.keep (keep := [1, 3, 4, 5, 6, 7]) (by kernel_rfl), (hM113.cast (by rw [redgeTo_no hP])), by omega, by rw [redgeTo_no hP]; exact hn4⟩
        · have cok : ((srcs bs (y : Int)).any (fun s => at2 (overL bs) b s.toNat)) = true := hBok.symm
          refine From_pure 2 4 [1, 3, 4, 5, 6, 7, 50, 51, 52] hF104 (env' := [(1, (.pointer (some ⟨b1, 0, none⟩))), (3, (.slice A10 bs.length c11)), (4, (.slice A2 b c2)), (5, (.int .i64 (b : Int))), (6, (.slice A4 n4 c4)), (7, (.int .i64 (y : Int))), (50, (.bool true)), (51, (.int .i64 (y : Int))), (52, (.int .i64 (b : Int)))]) (by kernel_rfl) rfl ?_
          intro a114 hF115; clear hF104 a103
          refine From_cmp (by kernel_rfl : coreAt _ 4 = some (some 53, (Go.Op.binOp Go.BinOp.eql 3 (Go.Operand.tmp 51) (Go.Operand.tmp 52) 3), 4, some (1, true))) hF115 (by kernel_rfl) (by kernel_rfl) (k' := 5) rfl (kd := .i64) (i := (y : Int)) (j := (b : Int)) (by kernel_rfl) (by kernel_rfl) rfl ?_
          intro Byb hByb a116 ea hF117; clear ea hF115 a114
          replace hF117 : Fr a116 74 [(1, (.pointer (some ⟨b1, 0, none⟩))), (3, (.slice A10 bs.length c11)), (4, (.slice A2 b c2)), (5, (.int .i64 (b : Int))), (6, (.slice A4 n4 c4)), (7, (.int .i64 (y : Int))), (50, (.bool true)), (53, (.bool Byb))] := hF117.keep (keep := [1, 3, 4, 5, 6, 7, 50, 53]) (by kernel_rfl)
          refine From_pure 1 6 [1, 3, 4, 5, 6, 7, 50, 54] hF117 (env' := [(1, (.pointer (some ⟨b1, 0, none⟩))), (3, (.slice A10 bs.length c11)), (4, (.slice A2 b c2)), (5, (.int .i64 (b : Int))), (6, (.slice A4 n4 c4)), (7, (.int .i64 (y : Int))), (50, (.bool true)), (54, (.bool Byb))]) (by kernel_rfl) rfl ?_
          intro a118 hF119; clear hF117 a116
          cases Byb
          · have cyb : ¬ ((y : Int) = (b : Int)) := by simpa using hByb
            refine From_pure 2 8 [1, 3, 4, 5, 6, 7, 50, 54, 55, 56] hF119 (env' := [(1, (.pointer (some ⟨b1, 0, none⟩))), (3, (.slice A10 bs.length c11)), (4, (.slice A2 b c2)), (5, (.int .i64 (b : Int))), (6, (.slice A4 n4 c4)), (7, (.int .i64 (y : Int))), (50, (.bool true)), (54, (.bool false)), (55, (.slice A10 bs.length c11)), (56, (.int .i64 (b : Int)))]) (by kernel_rfl) rfl ?_
            intro a120 hF121; clear hF119 a118
            obtain ⟨g123, rfl⟩ := row_some (hM96.get 3 rfl) (by omega)
            refine From_index (by kernel_rfl : coreAt _ 8 = some (some 57, (Go.Op.indexAddr 57 (Go.Operand.tmp 55) (Go.Operand.tmp 56)), 0, some (5, false))) hF121 (by kernel_rfl) (by kernel_rfl) (k' := 9) rfl (A := (some ⟨g123, 0, none⟩)) (ad := ⟨g123, 0, none⟩) (n := bs.length) (cap := c11) (e := 33) (size := 1) (kd := .i64) (i := (b : Int)) (by kernel_rfl) (by kernel_rfl) rfl (by kernel_rfl) (by kernel_rfl) (by omega) (by omega) ?_
            intro a124 ea hF125; clear ea hF121 a120
            replace hF125 : Fr a124 74 [(1, (.pointer (some ⟨b1, 0, none⟩))), (3, (.slice (some ⟨g123, 0, none⟩) bs.length c11)), (4, (.slice A2 b c2)), (5, (.int .i64 (b : Int))), (6, (.slice A4 n4 c4)), (7, (.int .i64 (y : Int))), (50, (.bool true)), (54, (.bool false)), (57, (.pointer (some ((⟨g123, 0, none⟩ : Addr).add (((b : Int)).toNat * 1)))))] := hF125.keep (keep := [1, 3, 4, 5, 6, 7, 50, 54, 57]) (by kernel_rfl)
            refine From_load1 (by kernel_rfl : coreAt _ 9 = some (some 58, (Go.Op.load 33 (Go.Operand.tmp 57)), 33, some (5, false))) hF125 (by kernel_rfl) (by kernel_rfl) (k' := 10) rfl (ad := ((⟨g123, 0, none⟩ : Addr).add (((b : Int)).toNat * 1))) (v := (.slice (some ab) x.length cb)) (by kernel_rfl) (by kernel_rfl) (rd_get1 (row_rd (hM96.get 3 rfl)) rfl (slv_get hrb)) ?_
            intro a126 ea hF127; clear ea hF125 a124
            replace hF127 : Fr a126 74 [(1, (.pointer (some ⟨b1, 0, none⟩))), (3, (.slice (some ⟨g123, 0, none⟩) bs.length c11)), (4, (.slice A2 b c2)), (5, (.int .i64 (b : Int))), (6, (.slice A4 n4 c4)), (7, (.int .i64 (y : Int))), (50, (.bool true)), (54, (.bool false)), (58, (.slice (some ab) x.length cb))] := hF127.keep (keep := [1, 3, 4, 5, 6, 7, 50, 54, 58]) (by kernel_rfl)
            refine From_pure 1 11 [1, 3, 4, 5, 6, 7, 50, 54, 58, 59] hF127 (env' := [(1, (.pointer (some ⟨b1, 0, none⟩))), (3, (.slice (some ⟨g123, 0, none⟩) bs.length c11)), (4, (.slice A2 b c2)), (5, (.int .i64 (b : Int))), (6, (.slice A4 n4 c4)), (7, (.int .i64 (y : Int))), (50, (.bool true)), (54, (.bool false)), (58, (.slice (some ab) x.length cb)), (59, (.int .i64 (y : Int)))]) (by kernel_rfl) rfl ?_
            intro a128 hF129; clear hF127 a126
            refine From_index (by kernel_rfl : coreAt _ 11 = some (some 60, (Go.Op.indexAddr 33 (Go.Operand.tmp 58) (Go.Operand.tmp 59)), 0, some (5, false))) hF129 (by kernel_rfl) (by kernel_rfl) (k' := 12) rfl (A := (some ab)) (ad := ab) (n := x.length) (cap := cb) (e := 4) (size := 1) (kd := .i64) (i := (y : Int)) (by kernel_rfl) (by kernel_rfl) rfl (by kernel_rfl) (by kernel_rfl) (by omega) (by omega) ?_
            intro a130 ea hF131; clear ea hF129 a128
            replace hF131 : Fr a130 74 [(1, (.pointer (some ⟨b1, 0, none⟩))), (3, (.slice (some ⟨g123, 0, none⟩) bs.length c11)), (4, (.slice A2 b c2)), (5, (.int .i64 (b : Int))), (6, (.slice A4 n4 c4)), (7, (.int .i64 (y : Int))), (50, (.bool true)), (54, (.bool false)), (60, (.pointer (some ((ab : Addr).add (((y : Int)).toNat * 1)))))] := hF131.keep (keep := [1, 3, 4, 5, 6, 7, 50, 54, 60]) (by kernel_rfl)
            refine From_load1 (by kernel_rfl : coreAt _ 12 = some (some 61, (Go.Op.load 4 (Go.Operand.tmp 60)), 4, some (5, false))) hF131 (by kernel_rfl) (by kernel_rfl) (k' := 13) rfl (ad := ((ab : Addr).add (((y : Int)).toNat * 1))) (v := (.bool (x.getD y false))) (by kernel_rfl) (by kernel_rfl) (rd_get1 (fam_rd (hM96.get 2 rfl) hrb) rfl (bools_get (by omega))) ?_
            intro a132 ea hF133; clear ea hF131 a130
            replace hF133 : Fr a132 74 [(1, (.pointer (some ⟨b1, 0, none⟩))), (3, (.slice (some ⟨g123, 0, none⟩) bs.length c11)), (4, (.slice A2 b c2)), (5, (.int .i64 (b : Int))), (6, (.slice A4 n4 c4)), (7, (.int .i64 (y : Int))), (50, (.bool true)), (54, (.bool false)), (61, (.bool (x.getD y false)))] := hF133.keep (keep := [1, 3, 4, 5, 6, 7, 50, 54, 61]) (by kernel_rfl)
            obtain ⟨Bxy, hBxy⟩ : ∃ B, B = x.getD y false := ⟨_, rfl⟩
            rw [← hBxy] at hF133
            replace hF133 : Fr a132 74 [(1, (.pointer (some ⟨b1, 0, none⟩))), (3, (.slice (some ⟨g123, 0, none⟩) bs.length c11)), (4, (.slice A2 b c2)), (5, (.int .i64 (b : Int))), (6, (.slice A4 n4 c4)), (7, (.int .i64 (y : Int))), (50, (.bool true)), (54, (.bool false)), (61, (.bool Bxy))] := hF133.keep (keep := [1, 3, 4, 5, 6, 7, 50, 54, 61]) (by kernel_rfl)
            refine From_pure 3 16 [1, 3, 4, 5, 6, 7, 64] hF133 (env' := [(1, (.pointer (some ⟨b1, 0, none⟩))), (3, (.slice (some ⟨g123, 0, none⟩) bs.length c11)), (4, (.slice A2 b c2)), (5, (.int .i64 (b : Int))), (6, (.slice A4 n4 c4)), (7, (.int .i64 (y : Int))), (64, (.bool (!Bxy)))]) (by kernel_rfl) rfl ?_
            intro a134 hF135; clear hF133 a132
            refine From_end (by kernel_rfl) ?_
            cases Bxy
            · have cxy : (x.getD y false) = false := hBxy.symm
              have hP : edgeP bs b y = true := edgeP_val cok (by omega) hx cxy
              refine W_cond (t := 64) (B := true) (by kernel_rfl) hF135 (by kernel_rfl) (fun _ => ?_) (fun t => Bool.noConfusion t)
              refine W_region (by kernel_rfl) ?_   -- region 17
              refine From_pure 2 2 [1, 3, 4, 5, 7, 65, 66] hF135 (env' := [(1, (.pointer (some ⟨b1, 0, none⟩))), (3, (.slice (some ⟨g123, 0, none⟩) bs.length c11)), (4, (.slice A2 b c2)), (5, (.int .i64 (b : Int))), (7, (.int .i64 (y : Int))), (65, (.slice A4 n4 c4)), (66, (.int .i64 (y : Int)))]) (by kernel_rfl) rfl ?_
              intro a136 hF137; clear hF135 a134
              refine From_buildSlice (by kernel_rfl : coreAt _ 2 = some (some 67, (Go.Op.buildSlice 27 1 #[(0, (Go.Operand.tmp 66))]), 27, none)) hF137 (by kernel_rfl) (by kernel_rfl) (k' := 3) rfl (e := 3) (size := 1) (zs := [(.int .i64 0)]) (vs := [(0, (.int .i64 (y : Int)))]) (cs := [(.int .i64 (y : Int))]) (by kernel_rfl) (by kernel_rfl) (by kernel_rfl) (by kernel_rfl) (by kernel_rfl) (by kernel_rfl) hM96 ?_
              intro b138 w139 hb138 _ hM140 _ a141 ea hF142; clear ea hF137 a136
              change Mem noS w w139 [.fam 3 rows2, .blk b1 24 [nm, wk, pa, va, (.slice A bs.length c)], .fam 4 rows12, .row 33 1 (some ⟨g123, 0, none⟩) bs.length c11 (slv rows12), .row 27 1 A2 b c2 (slv rows2), .row 3 1 A4 n4 c4 (ints (redgeTo bs b y)), .row 3 1 A83 ((srcs bs (y : Int)).length) c84 (ints (srcs bs (y : Int))), .row 3 1 (some ⟨b138, 0, none⟩) 1 1 [(.int .i64 (y : Int))]] at hM140
              clear hM96
              replace hF142 : Fr a141 74 [(1, (.pointer (some ⟨b1, 0, none⟩))), (3, (.slice (some ⟨g123, 0, none⟩) bs.length c11)), (4, (.slice A2 b c2)), (5, (.int .i64 (b : Int))), (7, (.int .i64 (y : Int))), (65, (.slice A4 n4 c4)), (67, (.slice (some ⟨b138, 0, none⟩) 1 1))] := hF142.keep (keep := [1, 3, 4, 5, 7, 65, 67]) (by kernel_rfl)
              refine From_append (by kernel_rfl : coreAt _ 3 = some (some 68, (Go.Op.call { callee := (Go.Callee.builtin Go.Builtin.append), args := #[(Go.Operand.tmp 65), (Go.Operand.tmp 67)], argTypes := #[27, 27] }), 27, none)) hF142 (by kernel_rfl) (by kernel_rfl) (k' := 4) rfl (e := 3) (size := 1) (bytes := 8) (z := (.int .i64 0)) (by kernel_rfl) (by kernel_rfl) (by kernel_rfl) (by kernel_rfl) (A := A4) (B := (some ⟨b138, 0, none⟩)) (n := n4) (cap := c4) (m := 1) (cap' := 1) (xs := (ints (redgeTo bs b y))) (news := [(.int .i64 (y : Int))]) (by kernel_rfl) (by kernel_rfl) hM140 5 rfl (row_rd (hM140.get 7 rfl)) rfl (by simp [Value.oneCell']) (by have := redgeTo_len bs b y; omega) (by have := redgeTo_len bs b y; simp only [maxLen]; omega) ?_
              intro A143 c144 w145 hM146 _ a147 ea hF148; clear ea hF142 a141
              change Mem noS w w145 [.fam 3 rows2, .blk b1 24 [nm, wk, pa, va, (.slice A bs.length c)], .fam 4 rows12, .row 33 1 (some ⟨g123, 0, none⟩) bs.length c11 (slv rows12), .row 27 1 A2 b c2 (slv rows2), .row 3 1 A143 (n4 + 1) c144 ((ints (redgeTo bs b y)) ++ [(.int .i64 (y : Int))]), .row 3 1 A83 ((srcs bs (y : Int)).length) c84 (ints (srcs bs (y : Int))), .row 3 1 (some ⟨b138, 0, none⟩) 1 1 [(.int .i64 (y : Int))]] at hM146
              clear hM140
              replace hM146 : Mem noS w w145 [.fam 3 rows2, .blk b1 24 [nm, wk, pa, va, (.slice A bs.length c)], .fam 4 rows12, .row 33 1 (some ⟨g123, 0, none⟩) bs.length c11 (slv rows12), .row 27 1 A2 b c2 (slv rows2), .row 3 1 A143 (n4 + 1) c144 ((ints (redgeTo bs b y)) ++ [(.int .i64 (y : Int))]), .row 3 1 A83 ((srcs bs (y : Int)).length) c84 (ints (srcs bs (y : Int)))] := hM146.pick [true, true, true, true, true, true, true, false] rfl
              replace hF148 : Fr a147 74 [(1, (.pointer (some ⟨b1, 0, none⟩))), (3, (.slice (some ⟨g123, 0, none⟩) bs.length c11)), (4, (.slice A2 b c2)), (5, (.int .i64 (b : Int))), (7, (.int .i64 (y : Int))), (68, (.slice A143 (n4 + 1) c144))] := hF148.keep (keep := [1, 3, 4, 5, 7, 68]) (by kernel_rfl)
              refine From_pure 1 5 [1, 3, 4, 5, 6, 7] hF148 (env' := [(1, (.pointer (some ⟨b1, 0, none⟩))), (3, (.slice (some ⟨g123, 0, none⟩) bs.length c11)), (4, (.slice A2 b c2)), (5, (.int .i64 (b : Int))), (6, (.slice A143 (n4 + 1) c144)), (7, (.int .i64 (y : Int)))]) (by kernel_rfl) rfl ?_
              intro a149 hF150; clear hF148 a147
              refine From_end (by kernel_rfl) ?_
              refine W_region (by kernel_rfl) ?_   -- region 9
              refine From_pure 1 1 [1, 3, 4, 5, 6, 25] hF150 (env' := [(1, (.pointer (some ⟨b1, 0, none⟩))), (3, (.slice (some ⟨g123, 0, none⟩) bs.length c11)), (4, (.slice A2 b c2)), (5, (.int .i64 (b : Int))), (6, (.slice A143 (n4 + 1) c144)), (25, (.int .i64 (y : Int)))]) (by kernel_rfl) rfl ?_
              intro a151 hF152; clear hF150 a149
              refine From_arith (by kernel_rfl : coreAt _ 1 = some (some 26, (Go.Op.binOp Go.BinOp.add 3 (Go.Operand.tmp 25) (Go.Operand.const (Go.Value.int Go.IntKind.i64 1)) 3), 3, none)) hF152 (by kernel_rfl) (by kernel_rfl) (k' := 2) rfl (i := (y : Int)) (j := 1) (z := ((y : Int) + 1)) (by kernel_rfl) (by kernel_rfl) rfl (by omega) (by omega) ?_
              intro a153 ea hF154; clear ea hF152 a151
              replace hF154 : Fr a153 74 [(1, (.pointer (some ⟨b1, 0, none⟩))), (3, (.slice (some ⟨g123, 0, none⟩) bs.length c11)), (4, (.slice A2 b c2)), (5, (.int .i64 (b : Int))), (6, (.slice A143 (n4 + 1) c144)), (26, (.int .i64 ((y : Int) + 1)))] := hF154.keep (keep := [1, 3, 4, 5, 6, 26]) (by kernel_rfl)
              refine From_pure 1 3 [1, 3, 4, 5, 6, 7] hF154 (env' := [(1, (.pointer (some ⟨b1, 0, none⟩))), (3, (.slice (some ⟨g123, 0, none⟩) bs.length c11)), (4, (.slice A2 b c2)), (5, (.int .i64 (b : Int))), (6, (.slice A143 (n4 + 1) c144)), (7, (.int .i64 ((y : Int) + 1)))]) (by kernel_rfl) rfl ?_
              intro a155 hF156; clear hF154 a153
              refine From_end (by kernel_rfl) ?_
              have hM157 : Mem noS w w145 [.fam 3 rows2, .blk b1 24 [nm, wk, pa, va, (.slice A bs.length c)], .fam 4 rows12, .row 33 1 (some ⟨g123, 0, none⟩) bs.length c11 (slv rows12), .row 27 1 A2 b c2 (slv rows2), .row 3 1 A143 (n4 + 1) c144 ((ints (redgeTo bs b y)) ++ [(.int .i64 (y : Int))])] := (((((((hM146.front 5 rfl).front 5 rfl).front 5 rfl).front 5 rfl).front 5 rfl).front 5 rfl).pick [true, true, true, true, true, true, false] rfl)
              clear hM146
              exact ⟨bs.length - (y + 1), by omega, y + 1, A143, (n4 + 1), c144, rfl, hF156.keep (keep := [1, 3, 4, 5, 6, 7]) (by kernel_rfl), (hM157.cast (by rw [redgeTo_yes hP, ints_append]; rfl)), by omega, by rw [redgeTo_yes hP, List.length_append]; rw [hn4]; rfl⟩
            · have cxy : (x.getD y false) = true := hBxy.symm
              have hP : edgeP bs b y = false := edgeP_val cok (by omega) hx cxy
              refine W_cond (t := 64) (B := false) (by kernel_rfl) hF135 (by kernel_rfl) (fun t => Bool.noConfusion t) (fun _ => ?_)
              refine W_skip (by kernel_rfl) ?_
              refine W_region (by kernel_rfl) ?_   -- region 9
              refine From_pure 1 1 [1, 3, 4, 5, 6, 25] hF135 (env' := [(1, (.pointer (some ⟨b1, 0, none⟩))), (3, (.slice (some ⟨g123, 0, none⟩) bs.length c11)), (4, (.slice A2 b c2)), (5, (.int .i64 (b : Int))), (6, (.slice A4 n4 c4)), (25, (.int .i64 (y : Int)))]) (by kernel_rfl) rfl ?_
              intro a158 hF159; clear hF135 a134
              refine From_arith (by kernel_rfl : coreAt _ 1 = some (some 26, (Go.Op.binOp Go.BinOp.add 3 (Go.Operand.tmp 25) (Go.Operand.const (Go.Value.int Go.IntKind.i64 1)) 3), 3, none)) hF159 (by kernel_rfl) (by kernel_rfl) (k' := 2) rfl (i := (y : Int)) (j := 1) (z := ((y : Int) + 1)) (by kernel_rfl) (by kernel_rfl) rfl (by omega) (by omega) ?_
              intro a160 ea hF161; clear ea hF159 a158
              replace hF161 : Fr a160 74 [(1, (.pointer (some ⟨b1, 0, none⟩))), (3, (.slice (some ⟨g123, 0, none⟩) bs.length c11)), (4, (.slice A2 b c2)), (5, (.int .i64 (b : Int))), (6, (.slice A4 n4 c4)), (26, (.int .i64 ((y : Int) + 1)))] := hF161.keep (keep := [1, 3, 4, 5, 6, 26]) (by kernel_rfl)
              refine From_pure 1 3 [1, 3, 4, 5, 6, 7] hF161 (env' := [(1, (.pointer (some ⟨b1, 0, none⟩))), (3, (.slice (some ⟨g123, 0, none⟩) bs.length c11)), (4, (.slice A2 b c2)), (5, (.int .i64 (b : Int))), (6, (.slice A4 n4 c4)), (7, (.int .i64 ((y : Int) + 1)))]) (by kernel_rfl) rfl ?_
              intro a162 hF163; clear hF161 a160
              refine From_end (by kernel_rfl) ?_
              have hM164 : Mem noS w w95 [.fam 3 rows2, .blk b1 24 [nm, wk, pa, va, (.slice A bs.length c)], .fam 4 rows12, .row 33 1 (some ⟨g123, 0, none⟩) bs.length c11 (slv rows12), .row 27 1 A2 b c2 (slv rows2), .row 3 1 A4 n4 c4 (ints (redgeTo bs b y))] := (((((((hM96.front 5 rfl).front 5 rfl).front 5 rfl).front 5 rfl).front 5 rfl).front 5 rfl).pick [true, true, true, true, true, true, false] rfl)
              clear hM96
              exact ⟨bs.length - (y + 1), by omega, y + 1, A4, n4, c4, rfl, hF163.keep (keep := [1, 3, 4, 5, 6, 7]) (by kernel_rfl), (hM164.cast (by rw [redgeTo_no hP])), by omega, by rw [redgeTo_no hP]; exact hn4⟩
          · have cyb : (y : Int) = (b : Int) := by simpa using hByb
            have hP : edgeP bs b y = true := edgeP_eq cok (by omega)
            refine From_pure 10 16 [1, 3, 4, 5, 6, 7, 64] hF119 (env' := [(1, (.pointer (some ⟨b1, 0, none⟩))), (3, (.slice A10 bs.length c11)), (4, (.slice A2 b c2)), (5, (.int .i64 (b : Int))), (6, (.slice A4 n4 c4)), (7, (.int .i64 (y : Int))), (64, (.bool true))]) (by kernel_rfl) rfl ?_
            intro a165 hF166; clear hF119 a118
            refine From_end (by kernel_rfl) ?_
            refine W_cond (t := 64) (B := true) (by kernel_rfl) hF166 (by kernel_rfl) (fun _ => ?_) (fun t => Bool.noConfusion t)
            refine W_region (by kernel_rfl) ?_   -- region 17
            refine From_pure 2 2 [1, 3, 4, 5, 7, 65, 66] hF166 (env' := [(1, (.pointer (some ⟨b1, 0, none⟩))), (3, (.slice A10 bs.length c11)), (4, (.slice A2 b c2)), (5, (.int .i64 (b : Int))), (7, (.int .i64 (y : Int))), (65, (.slice A4 n4 c4)), (66, (.int .i64 (y : Int)))]) (by kernel_rfl) rfl ?_
            intro a167 hF168; clear hF166 a165
            refine From_buildSlice (by kernel_rfl : coreAt _ 2 = some (some 67, (Go.Op.buildSlice 27 1 #[(0, (Go.Operand.tmp 66))]), 27, none)) hF168 (by kernel_rfl) (by kernel_rfl) (k' := 3) rfl (e := 3) (size := 1) (zs := [(.int .i64 0)]) (vs := [(0, (.int .i64 (y : Int)))]) (cs := [(.int .i64 (y : Int))]) (by kernel_rfl) (by kernel_rfl) (by kernel_rfl) (by kernel_rfl) (by kernel_rfl) (by kernel_rfl) hM96 ?_
            intro b169 w170 hb169 _ hM171 _ a172 ea hF173; clear ea hF168 a167
            change Mem noS w w170 [.fam 3 rows2, .blk b1 24 [nm, wk, pa, va, (.slice A bs.length c)], .fam 4 rows12, .row 33 1 A10 bs.length c11 (slv rows12), .row 27 1 A2 b c2 (slv rows2), .row 3 1 A4 n4 c4 (ints (redgeTo bs b y)), .row 3 1 A83 ((srcs bs (y : Int)).length) c84 (ints (srcs bs (y : Int))), .row 3 1 (some ⟨b169, 0, none⟩) 1 1 [(.int .i64 (y : Int))]] at hM171
            clear hM96
            replace hF173 : Fr a172 74 [(1, (.pointer (some ⟨b1, 0, none⟩))), (3, (.slice A10 bs.length c11)), (4, (.slice A2 b c2)), (5, (.int .i64 (b : Int))), (7, (.int .i64 (y : Int))), (65, (.slice A4 n4 c4)), (67, (.slice (some ⟨b169, 0, none⟩) 1 1))] := hF173.keep (keep := [1, 3, 4, 5, 7, 65, 67]) (by kernel_rfl)
            refine From_append (by kernel_rfl : coreAt _ 3 = some (some 68, (Go.Op.call { callee := (Go.Callee.builtin Go.Builtin.append), args := #[(Go.Operand.tmp 65), (Go.Operand.tmp 67)], argTypes := #[27, 27] }), 27, none)) hF173 (by kernel_rfl) (by kernel_rfl) (k' := 4) rfl (e := 3) (size := 1) (bytes := 8) (z := (.int .i64 0)) (by kernel_rfl) (by kernel_rfl) (by kernel_rfl) (by kernel_rfl) (A := A4) (B := (some ⟨b169, 0, none⟩)) (n := n4) (cap := c4) (m := 1) (cap' := 1) (xs := (ints (redgeTo bs b y))) (news := [(.int .i64 (y : Int))]) (by kernel_rfl) (by kernel_rfl) hM171 5 rfl (row_rd (hM171.get 7 rfl)) rfl (by simp [Value.oneCell']) (by have := redgeTo_len bs b y; omega) (by have := redgeTo_len bs b y; simp only [maxLen]; omega) ?_
            intro A174 c175 w176 hM177 _ a178 ea hF179; clear ea hF173 a172
            change Mem noS w w176 [.fam 3 rows2, .blk b1 24 [nm, wk, pa, va, (.slice A bs.length c)], .fam 4 rows12, .row 33 1 A10 bs.length c11 (slv rows12), .row 27 1 A2 b c2 (slv rows2), .row 3 1 A174 (n4 + 1) c175 ((ints (redgeTo bs b y)) ++ [(.int .i64 (y : Int))]), .row 3 1 A83 ((srcs bs (y : Int)).length) c84 (ints (srcs bs (y : Int))), .row 3 1 (some ⟨b169, 0, none⟩) 1 1 [(.int .i64 (y : Int))]] at hM177
            clear hM171
            replace hM177 : Mem noS w w176 [.fam 3 rows2, .blk b1 24 [nm, wk, pa, va, (.slice A bs.length c)], .fam 4 rows12, .row 33 1 A10 bs.length c11 (slv rows12), .row 27 1 A2 b c2 (slv rows2), .row 3 1 A174 (n4 + 1) c175 ((ints (redgeTo bs b y)) ++ [(.int .i64 (y : Int))]), .row 3 1 A83 ((srcs bs (y : Int)).length) c84 (ints (srcs bs (y : Int)))] := hM177.pick [true, true, true, true, true, true, true, false] rfl
            replace hF179 : Fr a178 74 [(1, (.pointer (some ⟨b1, 0, none⟩))), (3, (.slice A10 bs.length c11)), (4, (.slice A2 b c2)), (5, (.int .i64 (b : Int))), (7, (.int .i64 (y : Int))), (68, (.slice A174 (n4 + 1) c175))] := hF179.keep (keep := [1, 3, 4, 5, 7, 68]) (by kernel_rfl)
            refine From_pure 1 5 [1, 3, 4, 5, 6, 7] hF179 (env' := [(1, (.pointer (some ⟨b1, 0, none⟩))), (3, (.slice A10 bs.length c11)), (4, (.slice A2 b c2)), (5, (.int .i64 (b : Int))), (6, (.slice A174 (n4 + 1) c175)), (7, (.int .i64 (y : Int)))]) (by kernel_rfl) rfl ?_
            intro a180 hF181; clear hF179 a178
            refine From_end (by kernel_rfl) ?_
            refine W_region (by kernel_rfl) ?_   -- region 9
            refine From_pure 1 1 [1, 3, 4, 5, 6, 25] hF181 (env' := [(1, (.pointer (some ⟨b1, 0, none⟩))), (3, (.slice A10 bs.length c11)), (4, (.slice A2 b c2)), (5, (.int .i64 (b : Int))), (6, (.slice A174 (n4 + 1) c175)), (25, (.int .i64 (y : Int)))]) (by kernel_rfl) rfl ?_
            intro a182 hF183; clear hF181 a180
            refine From_arith (by kernel_rfl : coreAt _ 1 = some (some 26, (Go.Op.binOp Go.BinOp.add 3 (Go.Operand.tmp 25) (Go.Operand.const (Go.Value.int Go.IntKind.i64 1)) 3), 3, none)) hF183 (by kernel_rfl) (by kernel_rfl) (k' := 2) rfl (i := (y : Int)) (j := 1) (z := ((y : Int) + 1)) (by kernel_rfl) (by kernel_rfl) rfl (by omega) (by omega) ?_
            intro a184 ea hF185; clear ea hF183 a182
            replace hF185 : Fr a184 74 [(1, (.pointer (some ⟨b1, 0, none⟩))), (3, (.slice A10 bs.length c11)), (4, (.slice A2 b c2)), (5, (.int .i64 (b : Int))), (6, (.slice A174 (n4 + 1) c175)), (26, (.int .i64 ((y : Int) + 1)))] := hF185.keep (keep := [1, 3, 4, 5, 6, 26]) (by kernel_rfl)
            refine From_pure 1 3 [1, 3, 4, 5, 6, 7] hF185 (env' := [(1, (.pointer (some ⟨b1, 0, none⟩))), (3, (.slice A10 bs.length c11)), (4, (.slice A2 b c2)), (5, (.int .i64 (b : Int))), (6, (.slice A174 (n4 + 1) c175)), (7, (.int .i64 ((y : Int) + 1)))]) (by kernel_rfl) rfl ?_
            intro a186 hF187; clear hF185 a184
            refine From_end (by kernel_rfl) ?_
            have hM188 : Mem noS w w176 [.fam 3 rows2, .blk b1 24 [nm, wk, pa, va, (.slice A bs.length c)], .fam 4 rows12, .row 33 1 A10 bs.length c11 (slv rows12), .row 27 1 A2 b c2 (slv rows2), .row 3 1 A174 (n4 + 1) c175 ((ints (redgeTo bs b y)) ++ [(.int .i64 (y : Int))])] := (((((((hM177.front 5 rfl).front 5 rfl).front 5 rfl).front 5 rfl).front 5 rfl).front 5 rfl).pick [true, true, true, true, true, true, false] rfl)
            clear hM177
            exact ⟨bs.length - (y + 1), by omega, y + 1, A174, (n4 + 1), c175, rfl, hF187.keep (keep := [1, 3, 4, 5, 6, 7]) (by kernel_rfl), (hM188.cast (by rw [redgeTo_yes hP, ints_append]; rfl)), by omega, by rw [redgeTo_yes hP, List.length_append]; rw [hn4]; rfl⟩
      · have ck : (k : Int) < (((srcs bs (y : Int)).length : Nat) : Int) := by simpa using hBk
        have hsl : (srcs bs (y : Int)).length ≤ bs.length := srcsTo_len bs _ _
        obtain ⟨si, hsi, hsn⟩ : ∃ si : Nat, (srcs bs (y : Int))[k]? = some (si : Int) ∧ si < bs.length := by
          have hk2 : k < (srcs bs (y : Int)).length := by omega
          have h1 := srcs_mem (List.getElem_mem hk2)
          obtain ⟨q, he⟩ := Int.eq_ofNat_of_zero_le h1.1
          exact ⟨q, by rw [List.getElem?_eq_getElem hk2, he], by omega⟩
        refine W_cond (t := 33) (B := true) (by kernel_rfl) hF102 (by kernel_rfl) (fun _ => ?_) (fun t => Bool.noConfusion t)
        refine W_skip (by kernel_rfl) ?_
        refine W_seq (by kernel_rfl) ?_
        refine W_block (id := 5) (by kernel_rfl) ?_
        cases Bok
        · have cok : (((srcs bs (y : Int)).take k).any (fun s => at2 (overL bs) b s.toNat)) = false := hBok.symm
          obtain ⟨g189, rfl⟩ := row_some (hM96.get 3 rfl) (by omega)
          obtain ⟨g190, rfl⟩ := row_some (hM96.get 6 rfl) (by omega)
          refine W_draw (N := 74) (env0 := [(1, (.pointer (some ⟨b1, 0, none⟩))), (3, (.slice (some ⟨g189, 0, none⟩) bs.length c11)), (4, (.slice A2 b c2)), (5, (.int .i64 (b : Int))), (6, (.slice A4 n4 c4)), (7, (.int .i64 (y : Int))), (8, (.slice (some ⟨g190, 0, none⟩) ((srcs bs (y : Int)).length) c84)), (9, (.bool false)), (10, (.int .i64 (k : Int))), (33, (.bool true))]) (by kernel_rfl) (by kernel_rfl) (specAt [.det (.bool false), .det (.bool false), .det (.slice (some ⟨g189, 0, none⟩) bs.length c11), .det (.int .i64 (b : Int)), .det (.pointer (some ((⟨g189, 0, none⟩ : Addr).add (((b : Int)).toNat * 1)))), .det (.slice (some ab) x.length cb), .det (.slice (some ⟨g190, 0, none⟩) ((srcs bs (y : Int)).length) c84), .det (.int .i64 (k : Int)), .det (.pointer (some ((⟨g190, 0, none⟩ : Addr).add (((k : Int)).toNat * 1)))), .det (.int .i64 (si : Int)), .det (.pointer (some ((ab : Addr).add (((si : Int)).toNat * 1)))), .det (.bool (x.getD si false)), .det (.bool (x.getD si false)), .det (.bool (x.getD si false))]) (by kernel_rfl) (by kernel_rfl) hF102 (by kernel_rfl) (by kernel_rfl) ((lt_succ_all (lt_succ_all (lt_succ_all (lt_succ_all (lt_succ_all (lt_succ_all (lt_succ_all (lt_succ_all (lt_succ_all (lt_succ_all (lt_succ_all (lt_succ_all (lt_succ_all (lt_succ_all lt_zero_all ?_) ?_) ?_) ?_) ?_) ?_) ?_) ?_) ?_) ?_) ?_) ?_) ?_) ?_)) ?_   -- region 15
          · intro aa_ w_ vs rest_ hK hp hF
            refine ⟨true, opok_guard (g0 := none) (by kernel_rfl) (by kernel_rfl), fun _ => ?_, fun h => Bool.noConfusion h⟩
            replace hF : Fr aa_ 74 [(9, (.bool false))] := hF.keep (keep := [9]) (by kernel_rfl)
            refine From_pure1 (by kernel_rfl : coreAt _ 0 = some (some 36, (Go.Op.move (Go.Operand.tmp 9)), 4, none)) hF (by kernel_rfl) (by kernel_rfl) (k' := 1) rfl (v := (.bool false)) (by kernel_rfl) ?_
            intro a2 ea _
            refine From_end (by kernel_rfl) ?_; exact op_done (d := some 36) (by kernel_rfl) ea (Kp.refl _) rfl
          · intro aa_ w_ vs rest_ hK hp hF
            refine ⟨true, opok_guard (g0 := none) (by kernel_rfl) (by kernel_rfl), fun _ => ?_, fun h => Bool.noConfusion h⟩
            replace hF : Fr aa_ 74 [(36, (.bool false))] := hF.keep (keep := [36]) (by kernel_rfl)
            refine From_pure1 (by kernel_rfl : coreAt _ 0 = some (some 37, (Go.Op.move (Go.Operand.tmp 36)), 4, none)) hF (by kernel_rfl) (by kernel_rfl) (k' := 1) rfl (v := (.bool false)) (by kernel_rfl) ?_
            intro a2 ea _
            refine From_end (by kernel_rfl) ?_; exact op_done (d := some 37) (by kernel_rfl) ea (Kp.refl _) rfl
          · intro aa_ w_ vs rest_ hK hp hF
            refine ⟨true, opok_guard (g0 := some (1, false)) (by kernel_rfl) (by kernel_rfl), fun _ => ?_, fun h => Bool.noConfusion h⟩
            replace hF : Fr aa_ 74 [(3, (.slice (some ⟨g189, 0, none⟩) bs.length c11)), (37, (.bool false))] := hF.keep (keep := [3, 37]) (by kernel_rfl)
            refine From_pure1 (by kernel_rfl : coreAt _ 0 = some (some 38, (Go.Op.move (Go.Operand.tmp 3)), 57, none)) hF (by kernel_rfl) (by kernel_rfl) (k' := 1) rfl (v := (.slice (some ⟨g189, 0, none⟩) bs.length c11)) (by kernel_rfl) ?_
            intro a2 ea _
            refine From_end (by kernel_rfl) ?_; exact op_done (d := some 38) (by kernel_rfl) ea (Kp.refl _) rfl
          · intro aa_ w_ vs rest_ hK hp hF
            refine ⟨true, opok_guard (g0 := some (1, false)) (by kernel_rfl) (by kernel_rfl), fun _ => ?_, fun h => Bool.noConfusion h⟩
            replace hF : Fr aa_ 74 [(5, (.int .i64 (b : Int))), (37, (.bool false))] := hF.keep (keep := [5, 37]) (by kernel_rfl)
            refine From_pure1 (by kernel_rfl : coreAt _ 0 = some (some 39, (Go.Op.move (Go.Operand.tmp 5)), 3, none)) hF (by kernel_rfl) (by kernel_rfl) (k' := 1) rfl (v := (.int .i64 (b : Int))) (by kernel_rfl) ?_
            intro a2 ea _
            refine From_end (by kernel_rfl) ?_; exact op_done (d := some 39) (by kernel_rfl) ea (Kp.refl _) rfl
          · intro aa_ w_ vs rest_ hK hp hF
            refine ⟨true, opok_guard (g0 := some (1, false)) (by kernel_rfl) (by kernel_rfl), fun _ => ?_, fun h => Bool.noConfusion h⟩
            replace hF : Fr aa_ 74 [(37, (.bool false)), (38, (.slice (some ⟨g189, 0, none⟩) bs.length c11)), (39, (.int .i64 (b : Int)))] := hF.keep (keep := [37, 38, 39]) (by kernel_rfl)
            refine From_index (by kernel_rfl : coreAt _ 0 = some (some 40, (Go.Op.indexAddr 57 (Go.Operand.tmp 38) (Go.Operand.tmp 39)), 0, none)) hF (by kernel_rfl) (by kernel_rfl) (k' := 1) rfl (A := (some ⟨g189, 0, none⟩)) (ad := ⟨g189, 0, none⟩) (n := bs.length) (cap := c11) (e := 33) (size := 1) (kd := .i64) (i := (b : Int)) (by kernel_rfl) (by kernel_rfl) rfl (by kernel_rfl) (by kernel_rfl) (by omega) (by omega) ?_
            intro a2 ea _
            refine From_end (by kernel_rfl) ?_; exact op_done (d := some 40) (by kernel_rfl) ea (Kp.refl _) rfl
          · intro aa_ w_ vs rest_ hK hp hF
            refine ⟨true, opok_guard (g0 := some (1, false)) (by kernel_rfl) (by kernel_rfl), fun _ => ?_, fun h => Bool.noConfusion h⟩
            replace hF : Fr aa_ 74 [(37, (.bool false)), (40, (.pointer (some ((⟨g189, 0, none⟩ : Addr).add (((b : Int)).toNat * 1)))))] := hF.keep (keep := [37, 40]) (by kernel_rfl)
            refine From_load1 (by kernel_rfl : coreAt _ 0 = some (some 41, (Go.Op.load 33 (Go.Operand.tmp 40)), 33, none)) hF (by kernel_rfl) (by kernel_rfl) (k' := 1) rfl (ad := ((⟨g189, 0, none⟩ : Addr).add (((b : Int)).toNat * 1))) (v := (.slice (some ab) x.length cb)) (by kernel_rfl) (by kernel_rfl) (rd_get1 (row_rd ((hM96.then_ hK).get 3 rfl)) rfl (slv_get hrb)) ?_
            intro a2 ea _
            refine From_end (by kernel_rfl) ?_; exact op_done (d := some 41) (by kernel_rfl) ea (Kp.refl _) rfl
          · intro aa_ w_ vs rest_ hK hp hF
            refine ⟨true, opok_guard (g0 := some (1, false)) (by kernel_rfl) (by kernel_rfl), fun _ => ?_, fun h => Bool.noConfusion h⟩
            replace hF : Fr aa_ 74 [(8, (.slice (some ⟨g190, 0, none⟩) ((srcs bs (y : Int)).length) c84)), (37, (.bool false))] := hF.keep (keep := [8, 37]) (by kernel_rfl)
            refine From_pure1 (by kernel_rfl : coreAt _ 0 = some (some 42, (Go.Op.move (Go.Operand.tmp 8)), 27, none)) hF (by kernel_rfl) (by kernel_rfl) (k' := 1) rfl (v := (.slice (some ⟨g190, 0, none⟩) ((srcs bs (y : Int)).length) c84)) (by kernel_rfl) ?_
            intro a2 ea _
            refine From_end (by kernel_rfl) ?_; exact op_done (d := some 42) (by kernel_rfl) ea (Kp.refl _) rfl
          · intro aa_ w_ vs rest_ hK hp hF
            refine ⟨true, opok_guard (g0 := some (1, false)) (by kernel_rfl) (by kernel_rfl), fun _ => ?_, fun h => Bool.noConfusion h⟩
            replace hF : Fr aa_ 74 [(10, (.int .i64 (k : Int))), (37, (.bool false))] := hF.keep (keep := [10, 37]) (by kernel_rfl)
            refine From_pure1 (by kernel_rfl : coreAt _ 0 = some (some 43, (Go.Op.move (Go.Operand.tmp 10)), 3, none)) hF (by kernel_rfl) (by kernel_rfl) (k' := 1) rfl (v := (.int .i64 (k : Int))) (by kernel_rfl) ?_
            intro a2 ea _
            refine From_end (by kernel_rfl) ?_; exact op_done (d := some 43) (by kernel_rfl) ea (Kp.refl _) rfl
          · intro aa_ w_ vs rest_ hK hp hF
            refine ⟨true, opok_guard (g0 := some (1, false)) (by kernel_rfl) (by kernel_rfl), fun _ => ?_, fun h => Bool.noConfusion h⟩
            replace hF : Fr aa_ 74 [(37, (.bool false)), (42, (.slice (some ⟨g190, 0, none⟩) ((srcs bs (y : Int)).length) c84)), (43, (.int .i64 (k : Int)))] := hF.keep (keep := [37, 42, 43]) (by kernel_rfl)
            refine From_index (by kernel_rfl : coreAt _ 0 = some (some 44, (Go.Op.indexAddr 27 (Go.Operand.tmp 42) (Go.Operand.tmp 43)), 0, none)) hF (by kernel_rfl) (by kernel_rfl) (k' := 1) rfl (A := (some ⟨g190, 0, none⟩)) (ad := ⟨g190, 0, none⟩) (n := ((srcs bs (y : Int)).length)) (cap := c84) (e := 3) (size := 1) (kd := .i64) (i := (k : Int)) (by kernel_rfl) (by kernel_rfl) rfl (by kernel_rfl) (by kernel_rfl) (by omega) (by omega) ?_
            intro a2 ea _
            refine From_end (by kernel_rfl) ?_; exact op_done (d := some 44) (by kernel_rfl) ea (Kp.refl _) rfl
          · intro aa_ w_ vs rest_ hK hp hF
            refine ⟨true, opok_guard (g0 := some (1, false)) (by kernel_rfl) (by kernel_rfl), fun _ => ?_, fun h => Bool.noConfusion h⟩
            replace hF : Fr aa_ 74 [(37, (.bool false)), (44, (.pointer (some ((⟨g190, 0, none⟩ : Addr).add (((k : Int)).toNat * 1)))))] := hF.keep (keep := [37, 44]) (by kernel_rfl)
            refine From_load1 (by kernel_rfl : coreAt _ 0 = some (some 45, (Go.Op.load 3 (Go.Operand.tmp 44)), 3, none)) hF (by kernel_rfl) (by kernel_rfl) (k' := 1) rfl (ad := ((⟨g190, 0, none⟩ : Addr).add (((k : Int)).toNat * 1))) (v := (.int .i64 (si : Int))) (by kernel_rfl) (by kernel_rfl) (rd_at (row_rd ((hM96.then_ hK).get 6 rfl)) rfl hsi) ?_
            intro a2 ea _
            refine From_end (by kernel_rfl) ?_; exact op_done (d := some 45) (by kernel_rfl) ea (Kp.refl _) rfl
          · intro aa_ w_ vs rest_ hK hp hF
            refine ⟨true, opok_guard (g0 := some (1, false)) (by kernel_rfl) (by kernel_rfl), fun _ => ?_, fun h => Bool.noConfusion h⟩
            replace hF : Fr aa_ 74 [(37, (.bool false)), (41, (.slice (some ab) x.length cb)), (45, (.int .i64 (si : Int)))] := hF.keep (keep := [37, 41, 45]) (by kernel_rfl)
            refine From_index (by kernel_rfl : coreAt _ 0 = some (some 46, (Go.Op.indexAddr 33 (Go.Operand.tmp 41) (Go.Operand.tmp 45)), 0, none)) hF (by kernel_rfl) (by kernel_rfl) (k' := 1) rfl (A := (some ab)) (ad := ab) (n := x.length) (cap := cb) (e := 4) (size := 1) (kd := .i64) (i := (si : Int)) (by kernel_rfl) (by kernel_rfl) rfl (by kernel_rfl) (by kernel_rfl) (by omega) (by omega) ?_
            intro a2 ea _
            refine From_end (by kernel_rfl) ?_; exact op_done (d := some 46) (by kernel_rfl) ea (Kp.refl _) rfl
          · intro aa_ w_ vs rest_ hK hp hF
            refine ⟨true, opok_guard (g0 := some (1, false)) (by kernel_rfl) (by kernel_rfl), fun _ => ?_, fun h => Bool.noConfusion h⟩
            replace hF : Fr aa_ 74 [(37, (.bool false)), (46, (.pointer (some ((ab : Addr).add (((si : Int)).toNat * 1)))))] := hF.keep (keep := [37, 46]) (by kernel_rfl)
            refine From_load1 (by kernel_rfl : coreAt _ 0 = some (some 47, (Go.Op.load 4 (Go.Operand.tmp 46)), 4, none)) hF (by kernel_rfl) (by kernel_rfl) (k' := 1) rfl (ad := ((ab : Addr).add (((si : Int)).toNat * 1))) (v := (.bool (x.getD si false))) (by kernel_rfl) (by kernel_rfl) (rd_get1 (fam_rd ((hM96.then_ hK).get 2 rfl) hrb) rfl (bools_get (by omega))) ?_
            intro a2 ea _
            refine From_end (by kernel_rfl) ?_; exact op_done (d := some 47) (by kernel_rfl) ea (Kp.refl _) rfl
          · intro aa_ w_ vs rest_ hK hp hF
            refine ⟨true, opok_guard (g0 := none) (by kernel_rfl) (by kernel_rfl), fun _ => ?_, fun h => Bool.noConfusion h⟩
            replace hF : Fr aa_ 74 [(37, (.bool false)), (47, (.bool (x.getD si false)))] := hF.keep (keep := [37, 47]) (by kernel_rfl)
            refine From_pure1 (by kernel_rfl : coreAt _ 0 = some (some 48, (Go.Op.pick (Go.Operand.tmp 37) (Go.Operand.const (Go.Value.bool true)) (Go.Operand.tmp 47)), 4, none)) hF (by kernel_rfl) (by kernel_rfl) (k' := 1) rfl (v := (.bool (x.getD si false))) (by kernel_rfl) ?_
            intro a2 ea _
            refine From_end (by kernel_rfl) ?_; exact op_done (d := some 48) (by kernel_rfl) ea (Kp.refl _) rfl
          · intro aa_ w_ vs rest_ hK hp hF
            refine ⟨true, opok_guard (g0 := none) (by kernel_rfl) (by kernel_rfl), fun _ => ?_, fun h => Bool.noConfusion h⟩
            replace hF : Fr aa_ 74 [(48, (.bool (x.getD si false)))] := hF.keep (keep := [48]) (by kernel_rfl)
            refine From_pure1 (by kernel_rfl : coreAt _ 0 = some (some 9, (Go.Op.assign (Go.Operand.tmp 48)), 4, none)) hF (by kernel_rfl) (by kernel_rfl) (k' := 1) rfl (v := (.bool (x.getD si false))) (by kernel_rfl) ?_
            intro a2 ea _
            refine From_end (by kernel_rfl) ?_; exact op_done (d := some 9) (by kernel_rfl) ea (Kp.refl _) rfl
          intro a191 w193 vs hK hv hF192
          replace hF192 : Fr a191 74 [(1, (.pointer (some ⟨b1, 0, none⟩))), (3, (.slice (some ⟨g189, 0, none⟩) bs.length c11)), (4, (.slice A2 b c2)), (5, (.int .i64 (b : Int))), (6, (.slice A4 n4 c4)), (7, (.int .i64 (y : Int))), (8, (.slice (some ⟨g190, 0, none⟩) ((srcs bs (y : Int)).length) c84)), (9, (.bool (x.getD si false))), (10, (.int .i64 (k : Int)))] := hF192.keep (keep := [1, 3, 4, 5, 6, 7, 8, 9, 10]) (by kernel_rfl)
          have hM194 := hM96.then_ hK
          clear hK hv hF102 a101 hM96; clear vs
          refine W_region (by kernel_rfl) ?_   -- region 14
          refine From_pure 1 1 [1, 3, 4, 5, 6, 7, 8, 9, 34] hF192 (env' := [(1, (.pointer (some ⟨b1, 0, none⟩))), (3, (.slice (some ⟨g189, 0, none⟩) bs.length c11)), (4, (.slice A2 b c2)), (5, (.int .i64 (b : Int))), (6, (.slice A4 n4 c4)), (7, (.int .i64 (y : Int))), (8, (.slice (some ⟨g190, 0, none⟩) ((srcs bs (y : Int)).length) c84)), (9, (.bool (x.getD si false))), (34, (.int .i64 (k : Int)))]) (by kernel_rfl) rfl ?_
          intro a195 hF196; clear hF192 a191
          refine From_arith (by kernel_rfl : coreAt _ 1 = some (some 35, (Go.Op.binOp Go.BinOp.add 3 (Go.Operand.tmp 34) (Go.Operand.const (Go.Value.int Go.IntKind.i64 1)) 3), 3, none)) hF196 (by kernel_rfl) (by kernel_rfl) (k' := 2) rfl (i := (k : Int)) (j := 1) (z := ((k : Int) + 1)) (by kernel_rfl) (by kernel_rfl) rfl (by omega) (by omega) ?_
          intro a197 ea hF198; clear ea hF196 a195
          replace hF198 : Fr a197 74 [(1, (.pointer (some ⟨b1, 0, none⟩))), (3, (.slice (some ⟨g189, 0, none⟩) bs.length c11)), (4, (.slice A2 b c2)), (5, (.int .i64 (b : Int))), (6, (.slice A4 n4 c4)), (7, (.int .i64 (y : Int))), (8, (.slice (some ⟨g190, 0, none⟩) ((srcs bs (y : Int)).length) c84)), (9, (.bool (x.getD si false))), (35, (.int .i64 ((k : Int) + 1)))] := hF198.keep (keep := [1, 3, 4, 5, 6, 7, 8, 9, 35]) (by kernel_rfl)
          refine From_pure 1 3 [1, 3, 4, 5, 6, 7, 8, 9, 10] hF198 (env' := [(1, (.pointer (some ⟨b1, 0, none⟩))), (3, (.slice (some ⟨g189, 0, none⟩) bs.length c11)), (4, (.slice A2 b c2)), (5, (.int .i64 (b : Int))), (6, (.slice A4 n4 c4)), (7, (.int .i64 (y : Int))), (8, (.slice (some ⟨g190, 0, none⟩) ((srcs bs (y : Int)).length) c84)), (9, (.bool (x.getD si false))), (10, (.int .i64 ((k : Int) + 1)))]) (by kernel_rfl) rfl ?_
          intro a199 hF200; clear hF198 a197
          refine From_end (by kernel_rfl) ?_
          exact ⟨(srcs bs (y : Int)).length - (k + 1), by omega, k + 1, (x.getD si false), rfl, hF200.keep (keep := [1, 3, 4, 5, 6, 7, 8, 9, 10]) (by kernel_rfl), hM194, by omega, by rw [any_take (by omega), cok, Bool.false_or, getD_of hsi, Int.toNat_natCast, at2_of hx]⟩
        · have cok : (((srcs bs (y : Int)).take k).any (fun s => at2 (overL bs) b s.toNat)) = true := hBok.symm
          refine W_draw (N := 74) (env0 := [(1, (.pointer (some ⟨b1, 0, none⟩))), (3, (.slice A10 bs.length c11)), (4, (.slice A2 b c2)), (5, (.int .i64 (b : Int))), (6, (.slice A4 n4 c4)), (7, (.int .i64 (y : Int))), (8, (.slice A83 ((srcs bs (y : Int)).length) c84)), (9, (.bool true)), (10, (.int .i64 (k : Int))), (33, (.bool true))]) (by kernel_rfl) (by kernel_rfl) (specAt [.det (.bool true), .det (.bool true), .det undef, .det undef, .det undef, .det undef, .det undef, .det undef, .det undef, .det undef, .det undef, .det undef, .det (.bool true), .det (.bool true)]) (by kernel_rfl) (by kernel_rfl) hF102 (by kernel_rfl) (by kernel_rfl) ((lt_succ_all (lt_succ_all (lt_succ_all (lt_succ_all (lt_succ_all (lt_succ_all (lt_succ_all (lt_succ_all (lt_succ_all (lt_succ_all (lt_succ_all (lt_succ_all (lt_succ_all (lt_succ_all lt_zero_all ?_) ?_) ?_) ?_) ?_) ?_) ?_) ?_) ?_) ?_) ?_) ?_) ?_) ?_)) ?_   -- region 15
          · intro aa_ w_ vs rest_ hK hp hF
            refine ⟨true, opok_guard (g0 := none) (by kernel_rfl) (by kernel_rfl), fun _ => ?_, fun h => Bool.noConfusion h⟩
            replace hF : Fr aa_ 74 [(9, (.bool true))] := hF.keep (keep := [9]) (by kernel_rfl)
            refine From_pure1 (by kernel_rfl : coreAt _ 0 = some (some 36, (Go.Op.move (Go.Operand.tmp 9)), 4, none)) hF (by kernel_rfl) (by kernel_rfl) (k' := 1) rfl (v := (.bool true)) (by kernel_rfl) ?_
            intro a2 ea _
            refine From_end (by kernel_rfl) ?_; exact op_done (d := some 36) (by kernel_rfl) ea (Kp.refl _) rfl
          · intro aa_ w_ vs rest_ hK hp hF
            refine ⟨true, opok_guard (g0 := none) (by kernel_rfl) (by kernel_rfl), fun _ => ?_, fun h => Bool.noConfusion h⟩
            replace hF : Fr aa_ 74 [(36, (.bool true))] := hF.keep (keep := [36]) (by kernel_rfl)
            refine From_pure1 (by kernel_rfl : coreAt _ 0 = some (some 37, (Go.Op.move (Go.Operand.tmp 36)), 4, none)) hF (by kernel_rfl) (by kernel_rfl) (k' := 1) rfl (v := (.bool true)) (by kernel_rfl) ?_
            intro a2 ea _
            refine From_end (by kernel_rfl) ?_; exact op_done (d := some 37) (by kernel_rfl) ea (Kp.refl _) rfl
          · intro aa_ w_ vs rest_ hK hp hF
            exact ⟨false, opok_guard (g0 := some (1, false)) (by kernel_rfl) (by kernel_rfl), fun h => Bool.noConfusion h, fun _ => rfl⟩
          · intro aa_ w_ vs rest_ hK hp hF
            exact ⟨false, opok_guard (g0 := some (1, false)) (by kernel_rfl) (by kernel_rfl), fun h => Bool.noConfusion h, fun _ => rfl⟩
          · intro aa_ w_ vs rest_ hK hp hF
            exact ⟨false, opok_guard (g0 := some (1, false)) (by kernel_rfl) (by kernel_rfl), fun h => Bool.noConfusion h, fun _ => rfl⟩
          · intro aa_ w_ vs rest_ hK hp hF
            exact ⟨false, opok_guard (g0 := some (1, false)) (by kernel_rfl) (by kernel_rfl), fun h => Bool.noConfusion h, fun _ => rfl⟩
          · intro aa_ w_ vs rest_ hK hp hF
            exact ⟨false, opok_guard (g0 := some (1, false)) (by kernel_rfl) (by kernel_rfl), fun h => Bool.noConfusion h, fun _ => rfl⟩
          · intro aa_ w_ vs rest_ hK hp hF
            exact ⟨false, opok_guard (g0 := some (1, false)) (by kernel_rfl) (by kernel_rfl), fun h => Bool.noConfusion h, fun _ => rfl⟩
          · intro aa_ w_ vs rest_ hK hp hF
            exact ⟨false, opok_guard (g0 := some (1, false)) (by kernel_rfl) (by kernel_rfl), fun h => Bool.noConfusion h, fun _ => rfl⟩
          · intro aa_ w_ vs rest_ hK hp hF
            exact ⟨false, opok_guard (g0 := some (1, false)) (by kernel_rfl) (by kernel_rfl), fun h => Bool.noConfusion h, fun _ => rfl⟩
          · intro aa_ w_ vs rest_ hK hp hF
            exact ⟨false, opok_guard (g0 := some (1, false)) (by kernel_rfl) (by kernel_rfl), fun h => Bool.noConfusion h, fun _ => rfl⟩
          · intro aa_ w_ vs rest_ hK hp hF
            exact ⟨false, opok_guard (g0 := some (1, false)) (by kernel_rfl) (by kernel_rfl), fun h => Bool.noConfusion h, fun _ => rfl⟩
          · intro aa_ w_ vs rest_ hK hp hF
            refine ⟨true, opok_guard (g0 := none) (by kernel_rfl) (by kernel_rfl), fun _ => ?_, fun h => Bool.noConfusion h⟩
            replace hF : Fr aa_ 74 [(37, (.bool true)), (47, undef)] := hF.keep (keep := [37, 47]) (by kernel_rfl)
            refine From_pure1 (by kernel_rfl : coreAt _ 0 = some (some 48, (Go.Op.pick (Go.Operand.tmp 37) (Go.Operand.const (Go.Value.bool true)) (Go.Operand.tmp 47)), 4, none)) hF (by kernel_rfl) (by kernel_rfl) (k' := 1) rfl (v := (.bool true)) (by kernel_rfl) ?_
            intro a2 ea _
            refine From_end (by kernel_rfl) ?_; exact op_done (d := some 48) (by kernel_rfl) ea (Kp.refl _) rfl
          · intro aa_ w_ vs rest_ hK hp hF
            refine ⟨true, opok_guard (g0 := none) (by kernel_rfl) (by kernel_rfl), fun _ => ?_, fun h => Bool.noConfusion h⟩
            replace hF : Fr aa_ 74 [(48, (.bool true))] := hF.keep (keep := [48]) (by kernel_rfl)
            refine From_pure1 (by kernel_rfl : coreAt _ 0 = some (some 9, (Go.Op.assign (Go.Operand.tmp 48)), 4, none)) hF (by kernel_rfl) (by kernel_rfl) (k' := 1) rfl (v := (.bool true)) (by kernel_rfl) ?_
            intro a2 ea _
            refine From_end (by kernel_rfl) ?_; exact op_done (d := some 9) (by kernel_rfl) ea (Kp.refl _) rfl
          intro a201 w203 vs hK hv hF202
          replace hF202 : Fr a201 74 [(1, (.pointer (some ⟨b1, 0, none⟩))), (3, (.slice A10 bs.length c11)), (4, (.slice A2 b c2)), (5, (.int .i64 (b : Int))), (6, (.slice A4 n4 c4)), (7, (.int .i64 (y : Int))), (8, (.slice A83 ((srcs bs (y : Int)).length) c84)), (9, (.bool true)), (10, (.int .i64 (k : Int)))] := hF202.keep (keep := [1, 3, 4, 5, 6, 7, 8, 9, 10]) (by kernel_rfl)
          have hM204 := hM96.then_ hK
          clear hK hv hF102 a101 hM96; clear vs
          refine W_region (by kernel_rfl) ?_   -- region 14
          refine From_pure 1 1 [1, 3, 4, 5, 6, 7, 8, 9, 34] hF202 (env' := [(1, (.pointer (some ⟨b1, 0, none⟩))), (3, (.slice A10 bs.length c11)), (4, (.slice A2 b c2)), (5, (.int .i64 (b : Int))), (6, (.slice A4 n4 c4)), (7, (.int .i64 (y : Int))), (8, (.slice A83 ((srcs bs (y : Int)).length) c84)), (9, (.bool true)), (34, (.int .i64 (k : Int)))]) (by kernel_rfl) rfl ?_
          intro a205 hF206; clear hF202 a201
          refine From_arith (by kernel_rfl : coreAt _ 1 = some (some 35, (Go.Op.binOp Go.BinOp.add 3 (Go.Operand.tmp 34) (Go.Operand.const (Go.Value.int Go.IntKind.i64 1)) 3), 3, none)) hF206 (by kernel_rfl) (by kernel_rfl) (k' := 2) rfl (i := (k : Int)) (j := 1) (z := ((k : Int) + 1)) (by kernel_rfl) (by kernel_rfl) rfl (by omega) (by omega) ?_
          intro a207 ea hF208; clear ea hF206 a205
          replace hF208 : Fr a207 74 [(1, (.pointer (some ⟨b1, 0, none⟩))), (3, (.slice A10 bs.length c11)), (4, (.slice A2 b c2)), (5, (.int .i64 (b : Int))), (6, (.slice A4 n4 c4)), (7, (.int .i64 (y : Int))), (8, (.slice A83 ((srcs bs (y : Int)).length) c84)), (9, (.bool true)), (35, (.int .i64 ((k : Int) + 1)))] := hF208.keep (keep := [1, 3, 4, 5, 6, 7, 8, 9, 35]) (by kernel_rfl)
          refine From_pure 1 3 [1, 3, 4, 5, 6, 7, 8, 9, 10] hF208 (env' := [(1, (.pointer (some ⟨b1, 0, none⟩))), (3, (.slice A10 bs.length c11)), (4, (.slice A2 b c2)), (5, (.int .i64 (b : Int))), (6, (.slice A4 n4 c4)), (7, (.int .i64 (y : Int))), (8, (.slice A83 ((srcs bs (y : Int)).length) c84)), (9, (.bool true)), (10, (.int .i64 ((k : Int) + 1)))]) (by kernel_rfl) rfl ?_
          intro a209 hF210; clear hF208 a207
          refine From_end (by kernel_rfl) ?_
          exact ⟨(srcs bs (y : Int)).length - (k + 1), by omega, k + 1, true, rfl, hF210.keep (keep := [1, 3, 4, 5, 6, 7, 8, 9, 10]) (by kernel_rfl), hM204, by omega, by rw [any_take (by omega), cok, Bool.true_or]⟩

end Go.Proofs.Ytlkpkinmmjcbcaa
