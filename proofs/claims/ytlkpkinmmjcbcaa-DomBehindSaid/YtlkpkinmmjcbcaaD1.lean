/-
  Walks of layer 18. Printed by wip/gen/dom.py.
-/
import Derived.Test.YtlkpkinmmjcbcaaD0
import Derived.Test.YtlkpkinmmjcbcaaRows
namespace Go.Proofs.Ytlkpkinmmjcbcaa
open Go.Mor

set_option maxRecDepth 10000 in
theorem has_c (l : List Int) (k : Int) (A : Option Addr) (c : Nat) (w : World) (hm : l.length ≤ 1000000) (hA : RO noS w (.rd A (ints l))) :
    Calls Try.prog 36 #[(.slice A l.length c), (.int .i64 k)] w (Ret fun v w' => v = .bool (l.contains k) ∧ Mem noS w w' []) := by
  refine enter (N := 18) (vs := [(.slice A l.length c), (.int .i64 k)]) Try.func36 (by kernel_rfl) (by kernel_rfl) (by kernel_rfl) ?_
  intro a hF
  have hM := Mem.init w
  refine W_seq (by kernel_rfl) ?_
  refine W_region (by kernel_rfl) ?_   -- region 0
  refine From_pure 1 1 [0, 1] hF (env' := [(0, (.slice A l.length c)), (1, (.int .i64 k))]) (by kernel_rfl) rfl ?_
  intro a1 hF2; clear hF a
  refine From_end (by kernel_rfl) ?_
  refine W_seq (by kernel_rfl) ?_
  refine W_seq (by kernel_rfl) ?_
  refine W_region (by kernel_rfl) ?_   -- region 1
  refine From_pure 1 1 [0, 1, 5] hF2 (env' := [(0, (.slice A l.length c)), (1, (.int .i64 k)), (5, (.int .i64 0))]) (by kernel_rfl) rfl ?_
  intro a3 hF4; clear hF2 a1
  refine From_end (by kernel_rfl) ?_
  refine W_block (id := 0) (by kernel_rfl) ?_
  refine W_loop (by kernel_rfl) (fun n_ a_ w_ => ∃ (j : Nat), n_ = l.length - j ∧ Fr a_ 18 [(0, (.slice A l.length c)), (1, (.int .i64 k)), (5, (.int .i64 (j : Int)))] ∧ Mem noS w w_ [] ∧ (j ≤ l.length) ∧ ((l.take j).contains k = false)) (n := _) ⟨0, rfl, hF4.keep (keep := [0, 1, 5]) (by kernel_rfl), hM, by omega, by simp⟩ ?_
  clear hF4 a3 hM; rintro n a7 w5 ⟨j, rfl, hF8, hM6, hj, hn⟩
  refine W_seq (by kernel_rfl) ?_
  refine W_seq (by kernel_rfl) ?_
  refine W_region (by kernel_rfl) ?_   -- region 2
  refine From_pure 3 3 [0, 1, 5, 6, 8] hF8 (env' := [(0, (.slice A l.length c)), (1, (.int .i64 k)), (5, (.int .i64 (j : Int))), (6, (.int .i64 (j : Int))), (8, (.int .i64 ((l.length : Nat) : Int)))]) (by kernel_rfl) rfl ?_
  intro a9 hF10; clear hF8 a7
  refine From_cmp (by kernel_rfl : coreAt _ 3 = some (some 9, (Go.Op.binOp Go.BinOp.lss 3 (Go.Operand.tmp 6) (Go.Operand.tmp 8) 3), 4, none)) hF10 (by kernel_rfl) (by kernel_rfl) (k' := 4) rfl (kd := .i64) (i := (j : Int)) (j := ((l.length : Nat) : Int)) (by kernel_rfl) (by kernel_rfl) rfl ?_
  intro B11 hB11 a12 ea hF13; clear ea hF10 a9
  replace hF13 : Fr a12 18 [(0, (.slice A l.length c)), (1, (.int .i64 k)), (5, (.int .i64 (j : Int))), (9, (.bool B11))] := hF13.keep (keep := [0, 1, 5, 9]) (by kernel_rfl)
  refine From_end (by kernel_rfl) ?_
  cases B11
  · have c11 : ¬ ((j : Int) < ((l.length : Nat) : Int)) := by simpa using hB11
    refine W_cond (t := 9) (B := false) (by kernel_rfl) hF13 (by kernel_rfl) (fun t => Bool.noConfusion t) (fun _ => ?_)
    refine W_exit (id := 0) (by kernel_rfl) ?_
    refine inB_hit rfl ?_
    refine W_seq (by kernel_rfl) ?_
    refine W_region (by kernel_rfl) ?_   -- region 6
    refine From_pure 1 1 [4] hF13 (env' := [(4, (.bool false))]) (by kernel_rfl) rfl ?_
    intro a14 hF15; clear hF13 a12
    refine From_end (by kernel_rfl) ?_
    refine W_ret (by kernel_rfl) ?_
    refine out1 (v := (.bool false)) hF15 rfl (by kernel_rfl) ?_
    refine ⟨_, rfl, ?_⟩
    exact ⟨by rw [has_no hn (by omega)], hM6⟩
  · have c11 : (j : Int) < ((l.length : Nat) : Int) := by simpa using hB11
    refine W_cond (t := 9) (B := true) (by kernel_rfl) hF13 (by kernel_rfl) (fun _ => ?_) (fun t => Bool.noConfusion t)
    refine W_skip (by kernel_rfl) ?_
    refine W_seq (by kernel_rfl) ?_
    refine W_block (id := 1) (by kernel_rfl) ?_
    refine W_seq (by kernel_rfl) ?_
    refine W_region (by kernel_rfl) ?_   -- region 4
    refine From_pure 2 2 [0, 1, 5, 12, 13] hF13 (env' := [(0, (.slice A l.length c)), (1, (.int .i64 k)), (5, (.int .i64 (j : Int))), (12, (.slice A l.length c)), (13, (.int .i64 (j : Int)))]) (by kernel_rfl) rfl ?_
    intro a16 hF17; clear hF13 a12
    obtain ⟨ad18, rfl⟩ := rd_ints_some (hM6.ro hA) (by omega)
    refine From_index (by kernel_rfl : coreAt _ 2 = some (some 14, (Go.Op.indexAddr 27 (Go.Operand.tmp 12) (Go.Operand.tmp 13)), 0, none)) hF17 (by kernel_rfl) (by kernel_rfl) (k' := 3) rfl (A := (some ad18)) (ad := ad18) (n := l.length) (cap := c) (e := 3) (size := 1) (kd := .i64) (i := (j : Int)) (by kernel_rfl) (by kernel_rfl) rfl (by kernel_rfl) (by kernel_rfl) (by omega) (by omega) ?_
    intro a19 ea hF20; clear ea hF17 a16
    replace hF20 : Fr a19 18 [(0, (.slice (some ad18) l.length c)), (1, (.int .i64 k)), (5, (.int .i64 (j : Int))), (14, (.pointer (some ((ad18 : Addr).add (((j : Int)).toNat * 1)))))] := hF20.keep (keep := [0, 1, 5, 14]) (by kernel_rfl)
    refine From_load1 (by kernel_rfl : coreAt _ 3 = some (some 15, (Go.Op.load 3 (Go.Operand.tmp 14)), 3, none)) hF20 (by kernel_rfl) (by kernel_rfl) (k' := 4) rfl (ad := ((ad18 : Addr).add (((j : Int)).toNat * 1))) (v := (.int .i64 (l.getD (j : Int).toNat 0))) (by kernel_rfl) (by kernel_rfl) (rd_int (hM6.ro hA) rfl (by omega) (by omega)) ?_
    intro a21 ea hF22; clear ea hF20 a19
    replace hF22 : Fr a21 18 [(0, (.slice (some ad18) l.length c)), (1, (.int .i64 k)), (5, (.int .i64 (j : Int))), (15, (.int .i64 (l.getD (j : Int).toNat 0)))] := hF22.keep (keep := [0, 1, 5, 15]) (by kernel_rfl)
    refine From_pure 1 5 [0, 1, 5, 15, 16] hF22 (env' := [(0, (.slice (some ad18) l.length c)), (1, (.int .i64 k)), (5, (.int .i64 (j : Int))), (15, (.int .i64 (l.getD (j : Int).toNat 0))), (16, (.int .i64 k))]) (by kernel_rfl) rfl ?_
    intro a23 hF24; clear hF22 a21
    refine From_cmp (by kernel_rfl : coreAt _ 5 = some (some 17, (Go.Op.binOp Go.BinOp.eql 3 (Go.Operand.tmp 15) (Go.Operand.tmp 16) 3), 4, none)) hF24 (by kernel_rfl) (by kernel_rfl) (k' := 6) rfl (kd := .i64) (i := (l.getD (j : Int).toNat 0)) (j := k) (by kernel_rfl) (by kernel_rfl) rfl ?_
    intro Bhit hBhit a25 ea hF26; clear ea hF24 a23
    replace hF26 : Fr a25 18 [(0, (.slice (some ad18) l.length c)), (1, (.int .i64 k)), (5, (.int .i64 (j : Int))), (17, (.bool Bhit))] := hF26.keep (keep := [0, 1, 5, 17]) (by kernel_rfl)
    refine From_end (by kernel_rfl) ?_
    cases Bhit
    · have chit : ¬ ((l.getD (j : Int).toNat 0) = k) := by simpa using hBhit
      refine W_cond (t := 17) (B := false) (by kernel_rfl) hF26 (by kernel_rfl) (fun t => Bool.noConfusion t) (fun _ => ?_)
      refine W_skip (by kernel_rfl) ?_
      refine W_region (by kernel_rfl) ?_   -- region 3
      refine From_pure 1 1 [0, 1, 10] hF26 (env' := [(0, (.slice (some ad18) l.length c)), (1, (.int .i64 k)), (10, (.int .i64 (j : Int)))]) (by kernel_rfl) rfl ?_
      intro a27 hF28; clear hF26 a25
      refine From_arith (by kernel_rfl : coreAt _ 1 = some (some 11, (Go.Op.binOp Go.BinOp.add 3 (Go.Operand.tmp 10) (Go.Operand.const (Go.Value.int Go.IntKind.i64 1)) 3), 3, none)) hF28 (by kernel_rfl) (by kernel_rfl) (k' := 2) rfl (i := (j : Int)) (j := 1) (z := ((j : Int) + 1)) (by kernel_rfl) (by kernel_rfl) rfl (by omega) (by omega) ?_
      intro a29 ea hF30; clear ea hF28 a27
      replace hF30 : Fr a29 18 [(0, (.slice (some ad18) l.length c)), (1, (.int .i64 k)), (11, (.int .i64 ((j : Int) + 1)))] := hF30.keep (keep := [0, 1, 11]) (by kernel_rfl)
      refine From_pure 1 3 [0, 1, 5] hF30 (env' := [(0, (.slice (some ad18) l.length c)), (1, (.int .i64 k)), (5, (.int .i64 ((j : Int) + 1)))]) (by kernel_rfl) rfl ?_
      intro a31 hF32; clear hF30 a29
      refine From_end (by kernel_rfl) ?_
      exact ⟨l.length - (j + 1), by omega, j + 1, rfl, hF32.keep (keep := [0, 1, 5]) (by kernel_rfl), hM6, by omega, has_next hn chit (by omega)⟩
    · have chit : (l.getD (j : Int).toNat 0) = k := by simpa using hBhit
      refine W_cond (t := 17) (B := true) (by kernel_rfl) hF26 (by kernel_rfl) (fun _ => ?_) (fun t => Bool.noConfusion t)
      refine W_seq (by kernel_rfl) ?_
      refine W_region (by kernel_rfl) ?_   -- region 5
      refine From_pure 1 1 [4] hF26 (env' := [(4, (.bool true))]) (by kernel_rfl) rfl ?_
      intro a33 hF34; clear hF26 a25
      refine From_end (by kernel_rfl) ?_
      refine W_ret (by kernel_rfl) ?_
      refine inB_ret ?_
      refine inB_ret ?_
      refine out1 (v := (.bool true)) hF34 rfl (by kernel_rfl) ?_
      refine ⟨_, rfl, ?_⟩
      exact ⟨by rw [has_yes chit (by omega)], hM6⟩

set_option maxRecDepth 10000 in
theorem same_c (l m : List Int) (A B : Option Addr) (c d : Nat) (w : World) (hm : l.length ≤ 1000000) (hA : RO noS w (.rd A (ints l))) (hB : RO noS w (.rd B (ints m))) :
    Calls Try.prog 10 #[(.slice A l.length c), (.slice B m.length d)] w (Ret fun v w' => v = .bool (decide (l = m)) ∧ Mem noS w w' []) := by
  refine enter (N := 26) (vs := [(.slice A l.length c), (.slice B m.length d)]) Try.func10 (by kernel_rfl) (by kernel_rfl) (by kernel_rfl) ?_
  intro a hF
  have hM := Mem.init w
  refine W_seq (by kernel_rfl) ?_
  refine W_region (by kernel_rfl) ?_   -- region 0
  refine From_pure 1 1 [0, 1] hF (env' := [(0, (.slice A l.length c)), (1, (.slice B m.length d))]) (by kernel_rfl) rfl ?_
  intro a1 hF2; clear hF a
  refine From_end (by kernel_rfl) ?_
  refine W_seq (by kernel_rfl) ?_
  refine W_seq (by kernel_rfl) ?_
  refine W_region (by kernel_rfl) ?_   -- region 1
  refine From_pure 4 4 [0, 1, 7, 9] hF2 (env' := [(0, (.slice A l.length c)), (1, (.slice B m.length d)), (7, (.int .i64 ((l.length : Nat) : Int))), (9, (.int .i64 ((m.length : Nat) : Int)))]) (by kernel_rfl) rfl ?_
  intro a3 hF4; clear hF2 a1
  refine From_cmp (by kernel_rfl : coreAt _ 4 = some (some 10, (Go.Op.binOp Go.BinOp.neq 3 (Go.Operand.tmp 7) (Go.Operand.tmp 9) 3), 4, none)) hF4 (by kernel_rfl) (by kernel_rfl) (k' := 5) rfl (kd := .i64) (i := ((l.length : Nat) : Int)) (j := ((m.length : Nat) : Int)) (by kernel_rfl) (by kernel_rfl) rfl ?_
  intro Bln hBln a5 ea hF6; clear ea hF4 a3
  replace hF6 : Fr a5 26 [(0, (.slice A l.length c)), (1, (.slice B m.length d)), (10, (.bool Bln))] := hF6.keep (keep := [0, 1, 10]) (by kernel_rfl)
  refine From_end (by kernel_rfl) ?_
  cases Bln
  · have cln : ¬ (((l.length : Nat) : Int) ≠ ((m.length : Nat) : Int)) := by simpa using hBln
    refine W_cond (t := 10) (B := false) (by kernel_rfl) hF6 (by kernel_rfl) (fun t => Bool.noConfusion t) (fun _ => ?_)
    refine W_skip (by kernel_rfl) ?_
    refine W_seq (by kernel_rfl) ?_
    refine W_seq (by kernel_rfl) ?_
    refine W_region (by kernel_rfl) ?_   -- region 3
    refine From_pure 1 1 [0, 1, 5] hF6 (env' := [(0, (.slice A l.length c)), (1, (.slice B m.length d)), (5, (.int .i64 0))]) (by kernel_rfl) rfl ?_
    intro a7 hF8; clear hF6 a5
    refine From_end (by kernel_rfl) ?_
    refine W_block (id := 0) (by kernel_rfl) ?_
    have hlm : l.length = m.length := by omega
    refine W_loop (by kernel_rfl) (fun n_ a_ w_ => ∃ (j : Nat), n_ = l.length - j ∧ Fr a_ 26 [(0, (.slice A l.length c)), (1, (.slice B m.length d)), (5, (.int .i64 (j : Int)))] ∧ Mem noS w w_ [] ∧ (j ≤ l.length) ∧ (l.take j = m.take j)) (n := _) ⟨0, rfl, hF8.keep (keep := [0, 1, 5]) (by kernel_rfl), hM, by omega, by simp⟩ ?_
    clear hF8 a7 hM; rintro n a11 w9 ⟨j, rfl, hF12, hM10, hj, hn⟩
    refine W_seq (by kernel_rfl) ?_
    refine W_seq (by kernel_rfl) ?_
    refine W_region (by kernel_rfl) ?_   -- region 4
    refine From_pure 3 3 [0, 1, 5, 11, 13] hF12 (env' := [(0, (.slice A l.length c)), (1, (.slice B m.length d)), (5, (.int .i64 (j : Int))), (11, (.int .i64 (j : Int))), (13, (.int .i64 ((l.length : Nat) : Int)))]) (by kernel_rfl) rfl ?_
    intro a13 hF14; clear hF12 a11
    refine From_cmp (by kernel_rfl : coreAt _ 3 = some (some 14, (Go.Op.binOp Go.BinOp.lss 3 (Go.Operand.tmp 11) (Go.Operand.tmp 13) 3), 4, none)) hF14 (by kernel_rfl) (by kernel_rfl) (k' := 4) rfl (kd := .i64) (i := (j : Int)) (j := ((l.length : Nat) : Int)) (by kernel_rfl) (by kernel_rfl) rfl ?_
    intro B15 hB15 a16 ea hF17; clear ea hF14 a13
    replace hF17 : Fr a16 26 [(0, (.slice A l.length c)), (1, (.slice B m.length d)), (5, (.int .i64 (j : Int))), (14, (.bool B15))] := hF17.keep (keep := [0, 1, 5, 14]) (by kernel_rfl)
    refine From_end (by kernel_rfl) ?_
    cases B15
    · have c15 : ¬ ((j : Int) < ((l.length : Nat) : Int)) := by simpa using hB15
      refine W_cond (t := 14) (B := false) (by kernel_rfl) hF17 (by kernel_rfl) (fun t => Bool.noConfusion t) (fun _ => ?_)
      refine W_exit (id := 0) (by kernel_rfl) ?_
      refine inB_hit rfl ?_
      refine W_seq (by kernel_rfl) ?_
      refine W_region (by kernel_rfl) ?_   -- region 8
      refine From_pure 1 1 [4] hF17 (env' := [(4, (.bool true))]) (by kernel_rfl) rfl ?_
      intro a18 hF19; clear hF17 a16
      refine From_end (by kernel_rfl) ?_
      refine W_ret (by kernel_rfl) ?_
      refine out1 (v := (.bool true)) hF19 rfl (by kernel_rfl) ?_
      refine ⟨_, rfl, ?_⟩
      exact ⟨by rw [same_yes hn hlm (by omega)], hM10⟩
    · have c15 : (j : Int) < ((l.length : Nat) : Int) := by simpa using hB15
      refine W_cond (t := 14) (B := true) (by kernel_rfl) hF17 (by kernel_rfl) (fun _ => ?_) (fun t => Bool.noConfusion t)
      refine W_skip (by kernel_rfl) ?_
      refine W_seq (by kernel_rfl) ?_
      refine W_block (id := 1) (by kernel_rfl) ?_
      refine W_seq (by kernel_rfl) ?_
      obtain ⟨ad20, rfl⟩ := rd_ints_some (hM10.ro hA) (by omega)
      obtain ⟨ad21, rfl⟩ := rd_ints_some (hM10.ro hB) (by omega)
      obtain ⟨Bhit, hBhit⟩ : ∃ B : Bool, B = ((l.getD (j : Int).toNat 0) != (m.getD (j : Int).toNat 0)) := ⟨_, rfl⟩
      refine W_draw (N := 26) (env0 := [(0, (.slice (some ad20) l.length c)), (1, (.slice (some ad21) m.length d)), (5, (.int .i64 (j : Int))), (14, (.bool true))]) (by kernel_rfl) (by kernel_rfl) (specAt [.det (.slice (some ad20) l.length c), .det (.int .i64 (j : Int)), .det (.pointer (some ((ad20 : Addr).add (((j : Int)).toNat * 1)))), .det (.int .i64 (l.getD (j : Int).toNat 0)), .det (.slice (some ad21) m.length d), .det (.int .i64 (j : Int)), .det (.pointer (some ((ad21 : Addr).add (((j : Int)).toNat * 1)))), .det (.int .i64 (m.getD (j : Int).toNat 0)), .det (.bool Bhit)]) (by kernel_rfl) (by kernel_rfl) hF17 (by kernel_rfl) (by kernel_rfl) ((lt_succ_all (lt_succ_all (lt_succ_all (lt_succ_all (lt_succ_all (lt_succ_all (lt_succ_all (lt_succ_all (lt_succ_all lt_zero_all ?_) ?_) ?_) ?_) ?_) ?_) ?_) ?_) ?_)) ?_   -- region 6
      · intro aa_ w_ vs rest_ hK hp hF
        refine ⟨true, opok_guard (g0 := none) (by kernel_rfl) (by kernel_rfl), fun _ => ?_, fun h => Bool.noConfusion h⟩
        replace hF : Fr aa_ 26 [(0, (.slice (some ad20) l.length c))] := hF.keep (keep := [0]) (by kernel_rfl)
        refine From_pure1 (by kernel_rfl : coreAt _ 0 = some (some 17, (Go.Op.move (Go.Operand.tmp 0)), 27, none)) hF (by kernel_rfl) (by kernel_rfl) (k' := 1) rfl (v := (.slice (some ad20) l.length c)) (by kernel_rfl) ?_
        intro a2 ea _
        refine From_end (by kernel_rfl) ?_; exact op_done (d := some 17) (by kernel_rfl) ea (Kp.refl _) rfl
      · intro aa_ w_ vs rest_ hK hp hF
        refine ⟨true, opok_guard (g0 := none) (by kernel_rfl) (by kernel_rfl), fun _ => ?_, fun h => Bool.noConfusion h⟩
        replace hF : Fr aa_ 26 [(5, (.int .i64 (j : Int)))] := hF.keep (keep := [5]) (by kernel_rfl)
        refine From_pure1 (by kernel_rfl : coreAt _ 0 = some (some 18, (Go.Op.move (Go.Operand.tmp 5)), 3, none)) hF (by kernel_rfl) (by kernel_rfl) (k' := 1) rfl (v := (.int .i64 (j : Int))) (by kernel_rfl) ?_
        intro a2 ea _
        refine From_end (by kernel_rfl) ?_; exact op_done (d := some 18) (by kernel_rfl) ea (Kp.refl _) rfl
      · intro aa_ w_ vs rest_ hK hp hF
        refine ⟨true, opok_guard (g0 := none) (by kernel_rfl) (by kernel_rfl), fun _ => ?_, fun h => Bool.noConfusion h⟩
        replace hF : Fr aa_ 26 [(17, (.slice (some ad20) l.length c)), (18, (.int .i64 (j : Int)))] := hF.keep (keep := [17, 18]) (by kernel_rfl)
        refine From_index (by kernel_rfl : coreAt _ 0 = some (some 19, (Go.Op.indexAddr 27 (Go.Operand.tmp 17) (Go.Operand.tmp 18)), 0, none)) hF (by kernel_rfl) (by kernel_rfl) (k' := 1) rfl (A := (some ad20)) (ad := ad20) (n := l.length) (cap := c) (e := 3) (size := 1) (kd := .i64) (i := (j : Int)) (by kernel_rfl) (by kernel_rfl) rfl (by kernel_rfl) (by kernel_rfl) (by omega) (by omega) ?_
        intro a2 ea _
        refine From_end (by kernel_rfl) ?_; exact op_done (d := some 19) (by kernel_rfl) ea (Kp.refl _) rfl
      · intro aa_ w_ vs rest_ hK hp hF
        refine ⟨true, opok_guard (g0 := none) (by kernel_rfl) (by kernel_rfl), fun _ => ?_, fun h => Bool.noConfusion h⟩
        replace hF : Fr aa_ 26 [(19, (.pointer (some ((ad20 : Addr).add (((j : Int)).toNat * 1)))))] := hF.keep (keep := [19]) (by kernel_rfl)
        refine From_load1 (by kernel_rfl : coreAt _ 0 = some (some 20, (Go.Op.load 3 (Go.Operand.tmp 19)), 3, none)) hF (by kernel_rfl) (by kernel_rfl) (k' := 1) rfl (ad := ((ad20 : Addr).add (((j : Int)).toNat * 1))) (v := (.int .i64 (l.getD (j : Int).toNat 0))) (by kernel_rfl) (by kernel_rfl) (rd_int ((hM10.then_ hK).ro hA) rfl (by omega) (by omega)) ?_
        intro a2 ea _
        refine From_end (by kernel_rfl) ?_; exact op_done (d := some 20) (by kernel_rfl) ea (Kp.refl _) rfl
      · intro aa_ w_ vs rest_ hK hp hF
        refine ⟨true, opok_guard (g0 := none) (by kernel_rfl) (by kernel_rfl), fun _ => ?_, fun h => Bool.noConfusion h⟩
        replace hF : Fr aa_ 26 [(1, (.slice (some ad21) m.length d))] := hF.keep (keep := [1]) (by kernel_rfl)
        refine From_pure1 (by kernel_rfl : coreAt _ 0 = some (some 21, (Go.Op.move (Go.Operand.tmp 1)), 27, none)) hF (by kernel_rfl) (by kernel_rfl) (k' := 1) rfl (v := (.slice (some ad21) m.length d)) (by kernel_rfl) ?_
        intro a2 ea _
        refine From_end (by kernel_rfl) ?_; exact op_done (d := some 21) (by kernel_rfl) ea (Kp.refl _) rfl
      · intro aa_ w_ vs rest_ hK hp hF
        refine ⟨true, opok_guard (g0 := none) (by kernel_rfl) (by kernel_rfl), fun _ => ?_, fun h => Bool.noConfusion h⟩
        replace hF : Fr aa_ 26 [(5, (.int .i64 (j : Int)))] := hF.keep (keep := [5]) (by kernel_rfl)
        refine From_pure1 (by kernel_rfl : coreAt _ 0 = some (some 22, (Go.Op.move (Go.Operand.tmp 5)), 3, none)) hF (by kernel_rfl) (by kernel_rfl) (k' := 1) rfl (v := (.int .i64 (j : Int))) (by kernel_rfl) ?_
        intro a2 ea _
        refine From_end (by kernel_rfl) ?_; exact op_done (d := some 22) (by kernel_rfl) ea (Kp.refl _) rfl
      · intro aa_ w_ vs rest_ hK hp hF
        refine ⟨true, opok_guard (g0 := none) (by kernel_rfl) (by kernel_rfl), fun _ => ?_, fun h => Bool.noConfusion h⟩
        replace hF : Fr aa_ 26 [(21, (.slice (some ad21) m.length d)), (22, (.int .i64 (j : Int)))] := hF.keep (keep := [21, 22]) (by kernel_rfl)
        refine From_index (by kernel_rfl : coreAt _ 0 = some (some 23, (Go.Op.indexAddr 27 (Go.Operand.tmp 21) (Go.Operand.tmp 22)), 0, none)) hF (by kernel_rfl) (by kernel_rfl) (k' := 1) rfl (A := (some ad21)) (ad := ad21) (n := m.length) (cap := d) (e := 3) (size := 1) (kd := .i64) (i := (j : Int)) (by kernel_rfl) (by kernel_rfl) rfl (by kernel_rfl) (by kernel_rfl) (by omega) (by omega) ?_
        intro a2 ea _
        refine From_end (by kernel_rfl) ?_; exact op_done (d := some 23) (by kernel_rfl) ea (Kp.refl _) rfl
      · intro aa_ w_ vs rest_ hK hp hF
        refine ⟨true, opok_guard (g0 := none) (by kernel_rfl) (by kernel_rfl), fun _ => ?_, fun h => Bool.noConfusion h⟩
        replace hF : Fr aa_ 26 [(23, (.pointer (some ((ad21 : Addr).add (((j : Int)).toNat * 1)))))] := hF.keep (keep := [23]) (by kernel_rfl)
        refine From_load1 (by kernel_rfl : coreAt _ 0 = some (some 24, (Go.Op.load 3 (Go.Operand.tmp 23)), 3, none)) hF (by kernel_rfl) (by kernel_rfl) (k' := 1) rfl (ad := ((ad21 : Addr).add (((j : Int)).toNat * 1))) (v := (.int .i64 (m.getD (j : Int).toNat 0))) (by kernel_rfl) (by kernel_rfl) (rd_int ((hM10.then_ hK).ro hB) rfl (by omega) (by omega)) ?_
        intro a2 ea _
        refine From_end (by kernel_rfl) ?_; exact op_done (d := some 24) (by kernel_rfl) ea (Kp.refl _) rfl
      · intro aa_ w_ vs rest_ hK hp hF
        refine ⟨true, opok_guard (g0 := none) (by kernel_rfl) (by kernel_rfl), fun _ => ?_, fun h => Bool.noConfusion h⟩
        replace hF : Fr aa_ 26 [(20, (.int .i64 (l.getD (j : Int).toNat 0))), (24, (.int .i64 (m.getD (j : Int).toNat 0)))] := hF.keep (keep := [20, 24]) (by kernel_rfl)
        refine From_cmp (by kernel_rfl : coreAt _ 0 = some (some 25, (Go.Op.binOp Go.BinOp.neq 3 (Go.Operand.tmp 20) (Go.Operand.tmp 24) 3), 4, none)) hF (by kernel_rfl) (by kernel_rfl) (k' := 1) rfl (kd := .i64) (i := (l.getD (j : Int).toNat 0)) (j := (m.getD (j : Int).toNat 0)) (by kernel_rfl) (by kernel_rfl) rfl ?_
        intro B_ hB_ a2 ea _
        refine From_end (by kernel_rfl) ?_; exact op_done (d := some 25) (by kernel_rfl) ea (Kp.refl _) (congrArg Value.bool (hB_.trans hBhit.symm))
      intro a22 w24 vs hK hv hF23
      replace hF23 : Fr a22 26 [(0, (.slice (some ad20) l.length c)), (1, (.slice (some ad21) m.length d)), (5, (.int .i64 (j : Int))), (25, (.bool Bhit))] := hF23.keep (keep := [0, 1, 5, 25]) (by kernel_rfl)
      have hM25 := hM10.then_ hK
      clear hK hv hF17 a16 hM10; clear vs
      cases Bhit
      · have chit : ¬ ((l.getD (j : Int).toNat 0) ≠ (m.getD (j : Int).toNat 0)) := by simpa using hBhit
        refine W_cond (t := 25) (B := false) (by kernel_rfl) hF23 (by kernel_rfl) (fun t => Bool.noConfusion t) (fun _ => ?_)
        refine W_skip (by kernel_rfl) ?_
        refine W_region (by kernel_rfl) ?_   -- region 5
        refine From_pure 1 1 [0, 1, 15] hF23 (env' := [(0, (.slice (some ad20) l.length c)), (1, (.slice (some ad21) m.length d)), (15, (.int .i64 (j : Int)))]) (by kernel_rfl) rfl ?_
        intro a26 hF27; clear hF23 a22
        refine From_arith (by kernel_rfl : coreAt _ 1 = some (some 16, (Go.Op.binOp Go.BinOp.add 3 (Go.Operand.tmp 15) (Go.Operand.const (Go.Value.int Go.IntKind.i64 1)) 3), 3, none)) hF27 (by kernel_rfl) (by kernel_rfl) (k' := 2) rfl (i := (j : Int)) (j := 1) (z := ((j : Int) + 1)) (by kernel_rfl) (by kernel_rfl) rfl (by omega) (by omega) ?_
        intro a28 ea hF29; clear ea hF27 a26
        replace hF29 : Fr a28 26 [(0, (.slice (some ad20) l.length c)), (1, (.slice (some ad21) m.length d)), (16, (.int .i64 ((j : Int) + 1)))] := hF29.keep (keep := [0, 1, 16]) (by kernel_rfl)
        refine From_pure 1 3 [0, 1, 5] hF29 (env' := [(0, (.slice (some ad20) l.length c)), (1, (.slice (some ad21) m.length d)), (5, (.int .i64 ((j : Int) + 1)))]) (by kernel_rfl) rfl ?_
        intro a30 hF31; clear hF29 a28
        refine From_end (by kernel_rfl) ?_
        exact ⟨l.length - (j + 1), by omega, j + 1, rfl, hF31.keep (keep := [0, 1, 5]) (by kernel_rfl), hM25, by omega, take_next hn hlm (by omega) (by omega)⟩
      · have chit : (l.getD (j : Int).toNat 0) ≠ (m.getD (j : Int).toNat 0) := by simpa using hBhit
        refine W_cond (t := 25) (B := true) (by kernel_rfl) hF23 (by kernel_rfl) (fun _ => ?_) (fun t => Bool.noConfusion t)
        refine W_seq (by kernel_rfl) ?_
        refine W_region (by kernel_rfl) ?_   -- region 7
        refine From_pure 1 1 [4] hF23 (env' := [(4, (.bool false))]) (by kernel_rfl) rfl ?_
        intro a32 hF33; clear hF23 a22
        refine From_end (by kernel_rfl) ?_
        refine W_ret (by kernel_rfl) ?_
        refine inB_ret ?_
        refine inB_ret ?_
        refine out1 (v := (.bool false)) hF33 rfl (by kernel_rfl) ?_
        refine ⟨_, rfl, ?_⟩
        exact ⟨by rw [same_no (by omega)], hM25⟩
  · have cln : ((l.length : Nat) : Int) ≠ ((m.length : Nat) : Int) := by simpa using hBln
    refine W_cond (t := 10) (B := true) (by kernel_rfl) hF6 (by kernel_rfl) (fun _ => ?_) (fun t => Bool.noConfusion t)
    refine W_seq (by kernel_rfl) ?_
    refine W_region (by kernel_rfl) ?_   -- region 2
    refine From_pure 1 1 [4] hF6 (env' := [(4, (.bool false))]) (by kernel_rfl) rfl ?_
    intro a34 hF35; clear hF6 a5
    refine From_end (by kernel_rfl) ?_
    refine W_ret (by kernel_rfl) ?_
    refine out1 (v := (.bool false)) hF35 rfl (by kernel_rfl) ?_
    refine ⟨_, rfl, ?_⟩
    exact ⟨by rw [same_len (by omega)], hM⟩

set_option maxRecDepth 10000 in
theorem rtargets_c (nm wk pa va : Value) (A : Option Addr) (c : Nat) (bs : List SB) (b : Int) (w : World) (_hm : bs.length ≤ 1000000) (hA : RO noS w (.blocks A bs)) :
    Calls Try.prog 20 #[(.agg #[nm, wk, pa, va, (.slice A bs.length c)]), (.int .i64 b)] w (Ret fun v w' => ∃ A' c', v = .slice A' (tg bs b).length c' ∧ Mem noS w w' [.row 3 1 A' (tg bs b).length c' (ints (tg bs b))]) := by
  refine enter (N := 74) (vs := [(.agg #[nm, wk, pa, va, (.slice A bs.length c)]), (.int .i64 b)]) Try.func20 (by kernel_rfl) (by kernel_rfl) (by kernel_rfl) ?_
  intro a hF
  have hM := Mem.init w
  refine W_seq (by kernel_rfl) ?_
  refine W_region (by kernel_rfl) ?_   -- region 0
  refine From_box (by kernel_rfl : coreAt _ 0 = some (some 2, (Go.Op.box 24 (Go.Operand.tmp 0)), 0, none)) hF (by kernel_rfl) (by kernel_rfl) (k' := 1) rfl (v := (.agg #[nm, wk, pa, va, (.slice A bs.length c)])) (cs := [nm, wk, pa, va, (.slice A bs.length c)]) (by kernel_rfl) rfl hM ?_
  intro b1 w2 hb1 _ hM3 _ a4 ea hF5; clear ea hF a
  change Mem noS w w2 [.blk b1 24 [nm, wk, pa, va, (.slice A bs.length c)]] at hM3
  clear hM
  replace hF5 : Fr a4 74 [(1, (.int .i64 b)), (2, (.pointer (some ⟨b1, 0, none⟩)))] := hF5.keep (keep := [1, 2]) (by kernel_rfl)
  refine From_pure 1 2 [1, 2] hF5 (env' := [(1, (.int .i64 b)), (2, (.pointer (some ⟨b1, 0, none⟩)))]) (by kernel_rfl) rfl ?_
  intro a6 hF7; clear hF5 a4
  refine From_end (by kernel_rfl) ?_
  refine W_seq (by kernel_rfl) ?_
  refine W_seq (by kernel_rfl) ?_
  refine W_region (by kernel_rfl) ?_   -- region 1
  refine From_pure 1 1 [1, 2, 7] hF7 (env' := [(1, (.int .i64 b)), (2, (.pointer (some ⟨b1, 0, none⟩))), (7, (.int .i64 b))]) (by kernel_rfl) rfl ?_
  intro a8 hF9; clear hF7 a6
  refine From_cmp (by kernel_rfl : coreAt _ 1 = some (some 8, (Go.Op.binOp Go.BinOp.lss 3 (Go.Operand.tmp 7) (Go.Operand.const (Go.Value.int Go.IntKind.i64 0)) 3), 4, none)) hF9 (by kernel_rfl) (by kernel_rfl) (k' := 2) rfl (kd := .i64) (i := b) (j := 0) (by kernel_rfl) (by kernel_rfl) rfl ?_
  intro Blo hBlo a10 ea hF11; clear ea hF9 a8
  replace hF11 : Fr a10 74 [(1, (.int .i64 b)), (2, (.pointer (some ⟨b1, 0, none⟩))), (8, (.bool Blo))] := hF11.keep (keep := [1, 2, 8]) (by kernel_rfl)
  refine From_pure 1 3 [1, 2, 9] hF11 (env' := [(1, (.int .i64 b)), (2, (.pointer (some ⟨b1, 0, none⟩))), (9, (.bool Blo))]) (by kernel_rfl) rfl ?_
  intro a12 hF13; clear hF11 a10
  cases Blo
  · have clo : ¬ (b < 0) := by simpa using hBlo
    refine From_pure 2 5 [1, 2, 9, 10, 11] hF13 (env' := [(1, (.int .i64 b)), (2, (.pointer (some ⟨b1, 0, none⟩))), (9, (.bool false)), (10, (.int .i64 b)), (11, (.pointer (some ⟨b1, 4, none⟩)))]) (by kernel_rfl) rfl ?_
    intro a14 hF15; clear hF13 a12
    refine From_load1 (by kernel_rfl : coreAt _ 5 = some (some 12, (Go.Op.load 22 (Go.Operand.tmp 11)), 22, some (2, false))) hF15 (by kernel_rfl) (by kernel_rfl) (k' := 6) rfl (ad := ⟨b1, 4, none⟩) (v := (.slice A bs.length c)) (by kernel_rfl) (by kernel_rfl) (blk_cell (hM3.get 0 rfl) rfl) ?_
    intro a16 ea hF17; clear ea hF15 a14
    replace hF17 : Fr a16 74 [(1, (.int .i64 b)), (2, (.pointer (some ⟨b1, 0, none⟩))), (9, (.bool false)), (10, (.int .i64 b)), (12, (.slice A bs.length c))] := hF17.keep (keep := [1, 2, 9, 10, 12]) (by kernel_rfl)
    refine From_pure 1 7 [1, 2, 9, 10, 13] hF17 (env' := [(1, (.int .i64 b)), (2, (.pointer (some ⟨b1, 0, none⟩))), (9, (.bool false)), (10, (.int .i64 b)), (13, (.int .i64 ((bs.length : Nat) : Int)))]) (by kernel_rfl) rfl ?_
    intro a18 hF19; clear hF17 a16
    refine From_cmp (by kernel_rfl : coreAt _ 7 = some (some 14, (Go.Op.binOp Go.BinOp.geq 3 (Go.Operand.tmp 10) (Go.Operand.tmp 13) 3), 4, some (2, false))) hF19 (by kernel_rfl) (by kernel_rfl) (k' := 8) rfl (kd := .i64) (i := b) (j := ((bs.length : Nat) : Int)) (by kernel_rfl) (by kernel_rfl) rfl ?_
    intro Bhi hBhi a20 ea hF21; clear ea hF19 a18
    replace hF21 : Fr a20 74 [(1, (.int .i64 b)), (2, (.pointer (some ⟨b1, 0, none⟩))), (9, (.bool false)), (14, (.bool Bhi))] := hF21.keep (keep := [1, 2, 9, 14]) (by kernel_rfl)
    refine From_pure 1 9 [1, 2, 15] hF21 (env' := [(1, (.int .i64 b)), (2, (.pointer (some ⟨b1, 0, none⟩))), (15, (.bool Bhi))]) (by kernel_rfl) rfl ?_
    intro a22 hF23; clear hF21 a20
    refine From_end (by kernel_rfl) ?_
    cases Bhi
    · have chi : ¬ (b ≥ ((bs.length : Nat) : Int)) := by simpa using hBhi
      refine W_cond (t := 15) (B := false) (by kernel_rfl) hF23 (by kernel_rfl) (fun t => Bool.noConfusion t) (fun _ => ?_)
      refine W_skip (by kernel_rfl) ?_
      refine W_seq (by kernel_rfl) ?_
      refine W_region (by kernel_rfl) ?_   -- region 3
      obtain ⟨x, hx⟩ := get_lt (l := bs) (i := b) (by omega) (by omega)
      refine From_pure 1 1 [1, 2, 16] hF23 (env' := [(1, (.int .i64 b)), (2, (.pointer (some ⟨b1, 0, none⟩))), (16, (.pointer (some ⟨b1, 4, none⟩)))]) (by kernel_rfl) rfl ?_
      intro a24 hF25; clear hF23 a22
      refine From_load1 (by kernel_rfl : coreAt _ 1 = some (some 17, (Go.Op.load 22 (Go.Operand.tmp 16)), 22, none)) hF25 (by kernel_rfl) (by kernel_rfl) (k' := 2) rfl (ad := ⟨b1, 4, none⟩) (v := (.slice A bs.length c)) (by kernel_rfl) (by kernel_rfl) (blk_cell (hM3.get 0 rfl) rfl) ?_
      intro a26 ea hF27; clear ea hF25 a24
      replace hF27 : Fr a26 74 [(1, (.int .i64 b)), (2, (.pointer (some ⟨b1, 0, none⟩))), (17, (.slice A bs.length c))] := hF27.keep (keep := [1, 2, 17]) (by kernel_rfl)
      refine From_pure 1 3 [2, 17, 18] hF27 (env' := [(2, (.pointer (some ⟨b1, 0, none⟩))), (17, (.slice A bs.length c)), (18, (.int .i64 b))]) (by kernel_rfl) rfl ?_
      intro a28 hF29; clear hF27 a26
      obtain ⟨ad30, rfl⟩ := blocks_some (hM3.ro hA) hx
      refine From_index (by kernel_rfl : coreAt _ 3 = some (some 19, (Go.Op.indexAddr 22 (Go.Operand.tmp 17) (Go.Operand.tmp 18)), 0, none)) hF29 (by kernel_rfl) (by kernel_rfl) (k' := 4) rfl (A := (some ad30)) (ad := ad30) (n := bs.length) (cap := c) (e := 38) (size := 6) (kd := .i64) (i := b) (by kernel_rfl) (by kernel_rfl) rfl (by kernel_rfl) (by kernel_rfl) (by omega) (by omega) ?_
      intro a31 ea hF32; clear ea hF29 a28
      replace hF32 : Fr a31 74 [(2, (.pointer (some ⟨b1, 0, none⟩))), (19, (.pointer (some ((ad30 : Addr).add ((b).toNat * 6)))))] := hF32.keep (keep := [2, 19]) (by kernel_rfl)
      refine From_loadS (by kernel_rfl : coreAt _ 4 = some (some 20, (Go.Op.load 38 (Go.Operand.tmp 19)), 38, none)) hF32 (by kernel_rfl) (by kernel_rfl) (k' := 5) rfl (ad := ((ad30 : Addr).add ((b).toNat * 6))) (vs := [(.slice x.pA x.pn x.pc), (.slice x.iA x.ik x.ic), (.int .i64 x.e), (.int .i64 x.v), (.int .i64 x.a), (.int .i64 x.b)]) (by kernel_rfl) (by kernel_rfl) (blocks_get (hM3.ro hA) rfl hx) ?_
      intro a33 ea hF34; clear ea hF32 a31
      replace hF34 : Fr a33 74 [(2, (.pointer (some ⟨b1, 0, none⟩))), (20, (.agg #[(.slice x.pA x.pn x.pc), (.slice x.iA x.ik x.ic), (.int .i64 x.e), (.int .i64 x.v), (.int .i64 x.a), (.int .i64 x.b)]))] := hF34.keep (keep := [2, 20]) (by kernel_rfl)
      refine From_alloc (by kernel_rfl : coreAt _ 5 = some (some 5, (Go.Op.alloc 38), 0, none)) hF34 (by kernel_rfl) (by kernel_rfl) (k' := 6) rfl (cs := [(.slice none 0 0), (.slice none 0 0), (.int .i64 0), (.int .i64 0), (.int .i64 0), (.int .i64 0)]) (by kernel_rfl) hM3 ?_
      intro b35 w36 hb35 _ hM37 _ a38 ea hF39; clear ea hF34 a33
      change Mem noS w w36 [.blk b1 24 [nm, wk, pa, va, (.slice (some ad30) bs.length c)], .blk b35 38 [(.slice none 0 0), (.slice none 0 0), (.int .i64 0), (.int .i64 0), (.int .i64 0), (.int .i64 0)]] at hM37
      clear hM3
      replace hF39 : Fr a38 74 [(2, (.pointer (some ⟨b1, 0, none⟩))), (5, (.pointer (some ⟨b35, 0, none⟩))), (20, (.agg #[(.slice x.pA x.pn x.pc), (.slice x.iA x.ik x.ic), (.int .i64 x.e), (.int .i64 x.v), (.int .i64 x.a), (.int .i64 x.b)]))] := hF39.keep (keep := [2, 5, 20]) (by kernel_rfl)
      refine From_storeS_blk (by kernel_rfl : coreAt _ 6 = some (none, (Go.Op.store 38 (Go.Operand.tmp 5) (Go.Operand.tmp 20)), 0, none)) hF39 (by kernel_rfl) (by kernel_rfl) (k' := 7) rfl (b := b35) (t0 := 38) (vs := [(.slice x.pA x.pn x.pc), (.slice x.iA x.ik x.ic), (.int .i64 x.e), (.int .i64 x.v), (.int .i64 x.a), (.int .i64 x.b)]) (cs := [(.slice none 0 0), (.slice none 0 0), (.int .i64 0), (.int .i64 0), (.int .i64 0), (.int .i64 0)]) (by kernel_rfl) (by kernel_rfl) (by kernel_rfl) (by simp only [List.mem_cons, List.not_mem_nil, or_false]; intro v hv; rcases hv with rfl | rfl | rfl | rfl | rfl | rfl <;> first | rfl | assumption) hM37 1 rfl rfl ?_
      intro w40 hM41 _ a42 ea hF43; clear ea hF39 a38
      change Mem noS w w40 [.blk b1 24 [nm, wk, pa, va, (.slice (some ad30) bs.length c)], .blk b35 38 [(.slice x.pA x.pn x.pc), (.slice x.iA x.ik x.ic), (.int .i64 x.e), (.int .i64 x.v), (.int .i64 x.a), (.int .i64 x.b)]] at hM41
      clear hM37
      replace hF43 : Fr a42 74 [(2, (.pointer (some ⟨b1, 0, none⟩))), (5, (.pointer (some ⟨b35, 0, none⟩)))] := hF43.keep (keep := [2, 5]) (by kernel_rfl)
      refine From_end (by kernel_rfl) ?_
      refine W_seq (by kernel_rfl) ?_
      refine W_region (by kernel_rfl) ?_   -- region 4
      refine From_pure 1 1 [2, 5, 6] hF43 (env' := [(2, (.pointer (some ⟨b1, 0, none⟩))), (5, (.pointer (some ⟨b35, 0, none⟩))), (6, (.slice none 0 0))]) (by kernel_rfl) rfl ?_
      intro a44 hF45; clear hF43 a42
      refine From_end (by kernel_rfl) ?_
      refine W_seq (by kernel_rfl) ?_
      refine W_cut (fun a_ w_ => Fr a_ 74 [(2, (.pointer (some ⟨b1, 0, none⟩))), (5, (.pointer (some ⟨b35, 0, none⟩))), (6, (.slice none 0 0))] ∧ Mem noS w w_ [.blk b1 24 [nm, wk, pa, va, (.slice (some ad30) bs.length c)], .blk b35 38 [(.slice x.pA x.pn x.pc), (.slice x.iA x.ik x.ic), (.int .i64 x.e), (.int .i64 x.v), (.int .i64 x.a), (.int .i64 x.b)]] ∧ (x.e = 0 ∨ x.e = 1)) ?_ ?_
      · clear hF45 a44 hM41; rintro a48 w46 ⟨hF49, hM47, he⟩
        refine W_seq (by kernel_rfl) ?_
        refine W_cut (fun a_ w_ => ∃ (A1 : Option Addr) (n1 : Nat) (c1 : Nat) (l1 : List Int), Fr a_ 74 [(2, (.pointer (some ⟨b1, 0, none⟩))), (5, (.pointer (some ⟨b35, 0, none⟩))), (6, (.slice A1 n1 c1))] ∧ Mem noS w w_ [.blk b1 24 [nm, wk, pa, va, (.slice (some ad30) bs.length c)], .blk b35 38 [(.slice x.pA x.pn x.pc), (.slice x.iA x.ik x.ic), (.int .i64 x.e), (.int .i64 x.v), (.int .i64 x.a), (.int .i64 x.b)], .row 3 1 A1 n1 c1 (ints l1)] ∧ (l1 = rt1 bs.length x) ∧ (n1 = l1.length)) ?_ ?_
        · clear hF49 a48 hM47; rintro a52 w50 ⟨A1, n1, c1, l1, hF53, hM51, hl1, hn1⟩
          refine W_seq (by kernel_rfl) ?_
          refine W_cut (fun a_ w_ => ∃ (A2 : Option Addr) (n2 : Nat) (c2 : Nat) (l2 : List Int), Fr a_ 74 [(6, (.slice A2 n2 c2))] ∧ Mem noS w w_ [.blk b1 24 [nm, wk, pa, va, (.slice (some ad30) bs.length c)], .blk b35 38 [(.slice x.pA x.pn x.pc), (.slice x.iA x.ik x.ic), (.int .i64 x.e), (.int .i64 x.v), (.int .i64 x.a), (.int .i64 x.b)], .row 3 1 A2 n2 c2 (ints l2)] ∧ (l2 = rt1 bs.length x ++ rt2 bs.length x) ∧ (n2 = l2.length)) ?_ ?_
          · clear hF53 a52 hM51; rintro a56 w54 ⟨A2, n2, c2, l2, hF57, hM55, hl2, hn2⟩
            refine W_seq (by kernel_rfl) ?_
            refine W_region (by kernel_rfl) ?_   -- region 11
            refine From_pure 2 2 [4] hF57 (env' := [(4, (.slice A2 n2 c2))]) (by kernel_rfl) rfl ?_
            intro a58 hF59; clear hF57 a56
            refine From_end (by kernel_rfl) ?_
            refine W_ret (by kernel_rfl) ?_
            refine out1 (v := (.slice A2 n2 c2)) hF59 rfl (by kernel_rfl) ?_
            refine ⟨_, rfl, ?_⟩
            exact row_ret (hM55.pick [false, false, true] rfl) (by rw [hl2, rt_eq he, tg_in (by omega) hx]) hn2
          · refine W_seq (by kernel_rfl) ?_
            refine W_region (by kernel_rfl) ?_   -- region 9
            refine From_pure 1 1 [2, 5, 6, 45] hF53 (env' := [(2, (.pointer (some ⟨b1, 0, none⟩))), (5, (.pointer (some ⟨b35, 0, none⟩))), (6, (.slice A1 n1 c1)), (45, (.pointer (some ⟨b35, 2, none⟩)))]) (by kernel_rfl) rfl ?_
            intro a60 hF61; clear hF53 a52
            refine From_load1 (by kernel_rfl : coreAt _ 1 = some (some 46, (Go.Op.load 3 (Go.Operand.tmp 45)), 3, none)) hF61 (by kernel_rfl) (by kernel_rfl) (k' := 2) rfl (ad := ⟨b35, 2, none⟩) (v := (.int .i64 x.e)) (by kernel_rfl) (by kernel_rfl) (blk_cell (hM51.get 1 rfl) rfl) ?_
            intro a62 ea hF63; clear ea hF61 a60
            replace hF63 : Fr a62 74 [(2, (.pointer (some ⟨b1, 0, none⟩))), (5, (.pointer (some ⟨b35, 0, none⟩))), (6, (.slice A1 n1 c1)), (46, (.int .i64 x.e))] := hF63.keep (keep := [2, 5, 6, 46]) (by kernel_rfl)
            refine From_cmp (by kernel_rfl : coreAt _ 2 = some (some 47, (Go.Op.binOp Go.BinOp.eql 3 (Go.Operand.tmp 46) (Go.Operand.const (Go.Value.int Go.IntKind.i64 1)) 3), 4, none)) hF63 (by kernel_rfl) (by kernel_rfl) (k' := 3) rfl (kd := .i64) (i := x.e) (j := 1) (by kernel_rfl) (by kernel_rfl) rfl ?_
            intro Bf1 hBf1 a64 ea hF65; clear ea hF63 a62
            replace hF65 : Fr a64 74 [(2, (.pointer (some ⟨b1, 0, none⟩))), (5, (.pointer (some ⟨b35, 0, none⟩))), (6, (.slice A1 n1 c1)), (47, (.bool Bf1))] := hF65.keep (keep := [2, 5, 6, 47]) (by kernel_rfl)
            refine From_pure 1 4 [2, 5, 6, 48] hF65 (env' := [(2, (.pointer (some ⟨b1, 0, none⟩))), (5, (.pointer (some ⟨b35, 0, none⟩))), (6, (.slice A1 n1 c1)), (48, (.bool Bf1))]) (by kernel_rfl) rfl ?_
            intro a66 hF67; clear hF65 a64
            cases Bf1
            · have cf1 : ¬ (x.e = 1) := by simpa using hBf1
              refine From_pure 19 23 [5, 6, 67] hF67 (env' := [(5, (.pointer (some ⟨b35, 0, none⟩))), (6, (.slice A1 n1 c1)), (67, (.bool false))]) (by kernel_rfl) rfl ?_
              intro a68 hF69; clear hF67 a66
              refine From_end (by kernel_rfl) ?_
              refine W_cond (t := 67) (B := false) (by kernel_rfl) hF69 (by kernel_rfl) (fun t => Bool.noConfusion t) (fun _ => ?_)
              refine W_skip (by kernel_rfl) ?_
              exact ⟨A1, n1, c1, l1, hF69.keep (keep := [6]) (by kernel_rfl), hM51, by rw [rt2_no (by omega), List.append_nil]; exact hl1, hn1⟩
            · have cf1 : x.e = 1 := by simpa using hBf1
              refine From_pure 1 5 [2, 5, 6, 48, 49] hF67 (env' := [(2, (.pointer (some ⟨b1, 0, none⟩))), (5, (.pointer (some ⟨b35, 0, none⟩))), (6, (.slice A1 n1 c1)), (48, (.bool true)), (49, (.pointer (some ⟨b35, 5, none⟩)))]) (by kernel_rfl) rfl ?_
              intro a70 hF71; clear hF67 a66
              refine From_load1 (by kernel_rfl : coreAt _ 5 = some (some 50, (Go.Op.load 3 (Go.Operand.tmp 49)), 3, some (3, true))) hF71 (by kernel_rfl) (by kernel_rfl) (k' := 6) rfl (ad := ⟨b35, 5, none⟩) (v := (.int .i64 x.b)) (by kernel_rfl) (by kernel_rfl) (blk_cell (hM51.get 1 rfl) rfl) ?_
              intro a72 ea hF73; clear ea hF71 a70
              replace hF73 : Fr a72 74 [(2, (.pointer (some ⟨b1, 0, none⟩))), (5, (.pointer (some ⟨b35, 0, none⟩))), (6, (.slice A1 n1 c1)), (48, (.bool true)), (50, (.int .i64 x.b))] := hF73.keep (keep := [2, 5, 6, 48, 50]) (by kernel_rfl)
              refine From_pure 1 7 [2, 5, 6, 48, 50, 51] hF73 (env' := [(2, (.pointer (some ⟨b1, 0, none⟩))), (5, (.pointer (some ⟨b35, 0, none⟩))), (6, (.slice A1 n1 c1)), (48, (.bool true)), (50, (.int .i64 x.b)), (51, (.pointer (some ⟨b35, 4, none⟩)))]) (by kernel_rfl) rfl ?_
              intro a74 hF75; clear hF73 a72
              refine From_load1 (by kernel_rfl : coreAt _ 7 = some (some 52, (Go.Op.load 3 (Go.Operand.tmp 51)), 3, some (3, true))) hF75 (by kernel_rfl) (by kernel_rfl) (k' := 8) rfl (ad := ⟨b35, 4, none⟩) (v := (.int .i64 x.a)) (by kernel_rfl) (by kernel_rfl) (blk_cell (hM51.get 1 rfl) rfl) ?_
              intro a76 ea hF77; clear ea hF75 a74
              replace hF77 : Fr a76 74 [(2, (.pointer (some ⟨b1, 0, none⟩))), (5, (.pointer (some ⟨b35, 0, none⟩))), (6, (.slice A1 n1 c1)), (48, (.bool true)), (50, (.int .i64 x.b)), (52, (.int .i64 x.a))] := hF77.keep (keep := [2, 5, 6, 48, 50, 52]) (by kernel_rfl)
              refine From_cmp (by kernel_rfl : coreAt _ 8 = some (some 53, (Go.Op.binOp Go.BinOp.neq 3 (Go.Operand.tmp 50) (Go.Operand.tmp 52) 3), 4, some (3, true))) hF77 (by kernel_rfl) (by kernel_rfl) (k' := 9) rfl (kd := .i64) (i := x.b) (j := x.a) (by kernel_rfl) (by kernel_rfl) rfl ?_
              intro Bab hBab a78 ea hF79; clear ea hF77 a76
              replace hF79 : Fr a78 74 [(2, (.pointer (some ⟨b1, 0, none⟩))), (5, (.pointer (some ⟨b35, 0, none⟩))), (6, (.slice A1 n1 c1)), (48, (.bool true)), (53, (.bool Bab))] := hF79.keep (keep := [2, 5, 6, 48, 53]) (by kernel_rfl)
              refine From_pure 2 11 [2, 5, 6, 55] hF79 (env' := [(2, (.pointer (some ⟨b1, 0, none⟩))), (5, (.pointer (some ⟨b35, 0, none⟩))), (6, (.slice A1 n1 c1)), (55, (.bool Bab))]) (by kernel_rfl) rfl ?_
              intro a80 hF81; clear hF79 a78
              cases Bab
              · have cab : ¬ (x.b ≠ x.a) := by simpa using hBab
                refine From_pure 12 23 [5, 6, 67] hF81 (env' := [(5, (.pointer (some ⟨b35, 0, none⟩))), (6, (.slice A1 n1 c1)), (67, (.bool false))]) (by kernel_rfl) rfl ?_
                intro a82 hF83; clear hF81 a80
                refine From_end (by kernel_rfl) ?_
                refine W_cond (t := 67) (B := false) (by kernel_rfl) hF83 (by kernel_rfl) (fun t => Bool.noConfusion t) (fun _ => ?_)
                refine W_skip (by kernel_rfl) ?_
                exact ⟨A1, n1, c1, l1, hF83.keep (keep := [6]) (by kernel_rfl), hM51, by rw [rt2_no (by omega), List.append_nil]; exact hl1, hn1⟩
              · have cab : x.b ≠ x.a := by simpa using hBab
                refine From_pure 1 12 [2, 5, 6, 55, 56] hF81 (env' := [(2, (.pointer (some ⟨b1, 0, none⟩))), (5, (.pointer (some ⟨b35, 0, none⟩))), (6, (.slice A1 n1 c1)), (55, (.bool true)), (56, (.pointer (some ⟨b35, 5, none⟩)))]) (by kernel_rfl) rfl ?_
                intro a84 hF85; clear hF81 a80
                refine From_load1 (by kernel_rfl : coreAt _ 12 = some (some 57, (Go.Op.load 3 (Go.Operand.tmp 56)), 3, some (10, true))) hF85 (by kernel_rfl) (by kernel_rfl) (k' := 13) rfl (ad := ⟨b35, 5, none⟩) (v := (.int .i64 x.b)) (by kernel_rfl) (by kernel_rfl) (blk_cell (hM51.get 1 rfl) rfl) ?_
                intro a86 ea hF87; clear ea hF85 a84
                replace hF87 : Fr a86 74 [(2, (.pointer (some ⟨b1, 0, none⟩))), (5, (.pointer (some ⟨b35, 0, none⟩))), (6, (.slice A1 n1 c1)), (55, (.bool true)), (57, (.int .i64 x.b))] := hF87.keep (keep := [2, 5, 6, 55, 57]) (by kernel_rfl)
                refine From_cmp (by kernel_rfl : coreAt _ 13 = some (some 58, (Go.Op.binOp Go.BinOp.geq 3 (Go.Operand.tmp 57) (Go.Operand.const (Go.Value.int Go.IntKind.i64 0)) 3), 4, some (10, true))) hF87 (by kernel_rfl) (by kernel_rfl) (k' := 14) rfl (kd := .i64) (i := x.b) (j := 0) (by kernel_rfl) (by kernel_rfl) rfl ?_
                intro Bb0 hBb0 a88 ea hF89; clear ea hF87 a86
                replace hF89 : Fr a88 74 [(2, (.pointer (some ⟨b1, 0, none⟩))), (5, (.pointer (some ⟨b35, 0, none⟩))), (6, (.slice A1 n1 c1)), (55, (.bool true)), (58, (.bool Bb0))] := hF89.keep (keep := [2, 5, 6, 55, 58]) (by kernel_rfl)
                refine From_pure 2 16 [2, 5, 6, 60] hF89 (env' := [(2, (.pointer (some ⟨b1, 0, none⟩))), (5, (.pointer (some ⟨b35, 0, none⟩))), (6, (.slice A1 n1 c1)), (60, (.bool Bb0))]) (by kernel_rfl) rfl ?_
                intro a90 hF91; clear hF89 a88
                cases Bb0
                · have cb0 : ¬ (x.b ≥ 0) := by simpa using hBb0
                  refine From_pure 7 23 [5, 6, 67] hF91 (env' := [(5, (.pointer (some ⟨b35, 0, none⟩))), (6, (.slice A1 n1 c1)), (67, (.bool false))]) (by kernel_rfl) rfl ?_
                  intro a92 hF93; clear hF91 a90
                  refine From_end (by kernel_rfl) ?_
                  refine W_cond (t := 67) (B := false) (by kernel_rfl) hF93 (by kernel_rfl) (fun t => Bool.noConfusion t) (fun _ => ?_)
                  refine W_skip (by kernel_rfl) ?_
                  exact ⟨A1, n1, c1, l1, hF93.keep (keep := [6]) (by kernel_rfl), hM51, by rw [rt2_no (by omega), List.append_nil]; exact hl1, hn1⟩
                · have cb0 : x.b ≥ 0 := by simpa using hBb0
                  refine From_pure 1 17 [2, 5, 6, 60, 61] hF91 (env' := [(2, (.pointer (some ⟨b1, 0, none⟩))), (5, (.pointer (some ⟨b35, 0, none⟩))), (6, (.slice A1 n1 c1)), (60, (.bool true)), (61, (.pointer (some ⟨b35, 5, none⟩)))]) (by kernel_rfl) rfl ?_
                  intro a94 hF95; clear hF91 a90
                  refine From_load1 (by kernel_rfl : coreAt _ 17 = some (some 62, (Go.Op.load 3 (Go.Operand.tmp 61)), 3, some (15, true))) hF95 (by kernel_rfl) (by kernel_rfl) (k' := 18) rfl (ad := ⟨b35, 5, none⟩) (v := (.int .i64 x.b)) (by kernel_rfl) (by kernel_rfl) (blk_cell (hM51.get 1 rfl) rfl) ?_
                  intro a96 ea hF97; clear ea hF95 a94
                  replace hF97 : Fr a96 74 [(2, (.pointer (some ⟨b1, 0, none⟩))), (5, (.pointer (some ⟨b35, 0, none⟩))), (6, (.slice A1 n1 c1)), (60, (.bool true)), (62, (.int .i64 x.b))] := hF97.keep (keep := [2, 5, 6, 60, 62]) (by kernel_rfl)
                  refine From_pure 1 19 [5, 6, 60, 62, 63] hF97 (env' := [(5, (.pointer (some ⟨b35, 0, none⟩))), (6, (.slice A1 n1 c1)), (60, (.bool true)), (62, (.int .i64 x.b)), (63, (.pointer (some ⟨b1, 4, none⟩)))]) (by kernel_rfl) rfl ?_
                  intro a98 hF99; clear hF97 a96
                  refine From_load1 (by kernel_rfl : coreAt _ 19 = some (some 64, (Go.Op.load 22 (Go.Operand.tmp 63)), 22, some (15, true))) hF99 (by kernel_rfl) (by kernel_rfl) (k' := 20) rfl (ad := ⟨b1, 4, none⟩) (v := (.slice (some ad30) bs.length c)) (by kernel_rfl) (by kernel_rfl) (blk_cell (hM51.get 0 rfl) rfl) ?_
                  intro a100 ea hF101; clear ea hF99 a98
                  replace hF101 : Fr a100 74 [(5, (.pointer (some ⟨b35, 0, none⟩))), (6, (.slice A1 n1 c1)), (60, (.bool true)), (62, (.int .i64 x.b)), (64, (.slice (some ad30) bs.length c))] := hF101.keep (keep := [5, 6, 60, 62, 64]) (by kernel_rfl)
                  refine From_pure 1 21 [5, 6, 60, 62, 65] hF101 (env' := [(5, (.pointer (some ⟨b35, 0, none⟩))), (6, (.slice A1 n1 c1)), (60, (.bool true)), (62, (.int .i64 x.b)), (65, (.int .i64 ((bs.length : Nat) : Int)))]) (by kernel_rfl) rfl ?_
                  intro a102 hF103; clear hF101 a100
                  refine From_cmp (by kernel_rfl : coreAt _ 21 = some (some 66, (Go.Op.binOp Go.BinOp.lss 3 (Go.Operand.tmp 62) (Go.Operand.tmp 65) 3), 4, some (15, true))) hF103 (by kernel_rfl) (by kernel_rfl) (k' := 22) rfl (kd := .i64) (i := x.b) (j := ((bs.length : Nat) : Int)) (by kernel_rfl) (by kernel_rfl) rfl ?_
                  intro Bb1 hBb1 a104 ea hF105; clear ea hF103 a102
                  replace hF105 : Fr a104 74 [(5, (.pointer (some ⟨b35, 0, none⟩))), (6, (.slice A1 n1 c1)), (60, (.bool true)), (66, (.bool Bb1))] := hF105.keep (keep := [5, 6, 60, 66]) (by kernel_rfl)
                  refine From_pure 1 23 [5, 6, 67] hF105 (env' := [(5, (.pointer (some ⟨b35, 0, none⟩))), (6, (.slice A1 n1 c1)), (67, (.bool Bb1))]) (by kernel_rfl) rfl ?_
                  intro a106 hF107; clear hF105 a104
                  refine From_end (by kernel_rfl) ?_
                  cases Bb1
                  · have cb1 : ¬ (x.b < ((bs.length : Nat) : Int)) := by simpa using hBb1
                    refine W_cond (t := 67) (B := false) (by kernel_rfl) hF107 (by kernel_rfl) (fun t => Bool.noConfusion t) (fun _ => ?_)
                    refine W_skip (by kernel_rfl) ?_
                    exact ⟨A1, n1, c1, l1, hF107.keep (keep := [6]) (by kernel_rfl), hM51, by rw [rt2_no (by omega), List.append_nil]; exact hl1, hn1⟩
                  · have cb1 : x.b < ((bs.length : Nat) : Int) := by simpa using hBb1
                    refine W_cond (t := 67) (B := true) (by kernel_rfl) hF107 (by kernel_rfl) (fun _ => ?_) (fun t => Bool.noConfusion t)
                    refine W_region (by kernel_rfl) ?_   -- region 10
                    refine From_pure 2 2 [68, 69] hF107 (env' := [(68, (.slice A1 n1 c1)), (69, (.pointer (some ⟨b35, 5, none⟩)))]) (by kernel_rfl) rfl ?_
                    intro a108 hF109; clear hF107 a106
                    refine From_load1 (by kernel_rfl : coreAt _ 2 = some (some 70, (Go.Op.load 3 (Go.Operand.tmp 69)), 3, none)) hF109 (by kernel_rfl) (by kernel_rfl) (k' := 3) rfl (ad := ⟨b35, 5, none⟩) (v := (.int .i64 x.b)) (by kernel_rfl) (by kernel_rfl) (blk_cell (hM51.get 1 rfl) rfl) ?_
                    intro a110 ea hF111; clear ea hF109 a108
                    replace hF111 : Fr a110 74 [(68, (.slice A1 n1 c1)), (70, (.int .i64 x.b))] := hF111.keep (keep := [68, 70]) (by kernel_rfl)
                    refine From_buildSlice (by kernel_rfl : coreAt _ 3 = some (some 71, (Go.Op.buildSlice 27 1 #[(0, (Go.Operand.tmp 70))]), 27, none)) hF111 (by kernel_rfl) (by kernel_rfl) (k' := 4) rfl (e := 3) (size := 1) (zs := [(.int .i64 0)]) (vs := [(0, (.int .i64 x.b))]) (cs := [(.int .i64 x.b)]) (by kernel_rfl) (by kernel_rfl) (by kernel_rfl) (by kernel_rfl) (by kernel_rfl) (by kernel_rfl) hM51 ?_
                    intro b112 w113 hb112 _ hM114 _ a115 ea hF116; clear ea hF111 a110
                    change Mem noS w w113 [.blk b1 24 [nm, wk, pa, va, (.slice (some ad30) bs.length c)], .blk b35 38 [(.slice x.pA x.pn x.pc), (.slice x.iA x.ik x.ic), (.int .i64 x.e), (.int .i64 x.v), (.int .i64 x.a), (.int .i64 x.b)], .row 3 1 A1 n1 c1 (ints l1), .row 3 1 (some ⟨b112, 0, none⟩) 1 1 [(.int .i64 x.b)]] at hM114
                    clear hM51
                    replace hF116 : Fr a115 74 [(68, (.slice A1 n1 c1)), (71, (.slice (some ⟨b112, 0, none⟩) 1 1))] := hF116.keep (keep := [68, 71]) (by kernel_rfl)
                    refine From_append (by kernel_rfl : coreAt _ 4 = some (some 72, (Go.Op.call { callee := (Go.Callee.builtin Go.Builtin.append), args := #[(Go.Operand.tmp 68), (Go.Operand.tmp 71)], argTypes := #[27, 27] }), 27, none)) hF116 (by kernel_rfl) (by kernel_rfl) (k' := 5) rfl (e := 3) (size := 1) (bytes := 8) (z := (.int .i64 0)) (by kernel_rfl) (by kernel_rfl) (by kernel_rfl) (by kernel_rfl) (A := A1) (B := (some ⟨b112, 0, none⟩)) (n := n1) (cap := c1) (m := 1) (cap' := 1) (xs := (ints l1)) (news := [(.int .i64 x.b)]) (by kernel_rfl) (by kernel_rfl) hM114 2 rfl (row_rd (hM114.get 3 rfl)) rfl (by simp [Value.oneCell']) (by have := rt1_len bs.length x; rw [hl1] at hn1; omega) (by have := rt1_len bs.length x; rw [hl1] at hn1; simp only [maxLen]; omega) ?_
                    intro A117 c118 w119 hM120 _ a121 ea hF122; clear ea hF116 a115
                    change Mem noS w w119 [.blk b1 24 [nm, wk, pa, va, (.slice (some ad30) bs.length c)], .blk b35 38 [(.slice x.pA x.pn x.pc), (.slice x.iA x.ik x.ic), (.int .i64 x.e), (.int .i64 x.v), (.int .i64 x.a), (.int .i64 x.b)], .row 3 1 A117 (n1 + 1) c118 ((ints l1) ++ [(.int .i64 x.b)]), .row 3 1 (some ⟨b112, 0, none⟩) 1 1 [(.int .i64 x.b)]] at hM120
                    clear hM114
                    replace hM120 : Mem noS w w119 [.blk b1 24 [nm, wk, pa, va, (.slice (some ad30) bs.length c)], .blk b35 38 [(.slice x.pA x.pn x.pc), (.slice x.iA x.ik x.ic), (.int .i64 x.e), (.int .i64 x.v), (.int .i64 x.a), (.int .i64 x.b)], .row 3 1 A117 (n1 + 1) c118 ((ints l1) ++ [(.int .i64 x.b)])] := hM120.pick [true, true, true, false] rfl
                    replace hF122 : Fr a121 74 [(72, (.slice A117 (n1 + 1) c118))] := hF122.keep (keep := [72]) (by kernel_rfl)
                    refine From_pure 1 6 [6] hF122 (env' := [(6, (.slice A117 (n1 + 1) c118))]) (by kernel_rfl) rfl ?_
                    intro a123 hF124; clear hF122 a121
                    refine From_end (by kernel_rfl) ?_
                    exact ⟨A117, (n1 + 1), c118, l1 ++ [x.b], hF124.keep (keep := [6]) (by kernel_rfl), hM120.cast (by rw [ints_append]; rfl), by rw [rt2_yes (by omega) (by omega) (by omega) (by omega), hl1], by simp [hn1]⟩
        · refine W_seq (by kernel_rfl) ?_
          refine W_region (by kernel_rfl) ?_   -- region 7
          refine From_pure 1 1 [2, 5, 6, 29] hF49 (env' := [(2, (.pointer (some ⟨b1, 0, none⟩))), (5, (.pointer (some ⟨b35, 0, none⟩))), (6, (.slice none 0 0)), (29, (.pointer (some ⟨b35, 4, none⟩)))]) (by kernel_rfl) rfl ?_
          intro a125 hF126; clear hF49 a48
          refine From_load1 (by kernel_rfl : coreAt _ 1 = some (some 30, (Go.Op.load 3 (Go.Operand.tmp 29)), 3, none)) hF126 (by kernel_rfl) (by kernel_rfl) (k' := 2) rfl (ad := ⟨b35, 4, none⟩) (v := (.int .i64 x.a)) (by kernel_rfl) (by kernel_rfl) (blk_cell (hM47.get 1 rfl) rfl) ?_
          intro a127 ea hF128; clear ea hF126 a125
          replace hF128 : Fr a127 74 [(2, (.pointer (some ⟨b1, 0, none⟩))), (5, (.pointer (some ⟨b35, 0, none⟩))), (6, (.slice none 0 0)), (30, (.int .i64 x.a))] := hF128.keep (keep := [2, 5, 6, 30]) (by kernel_rfl)
          refine From_cmp (by kernel_rfl : coreAt _ 2 = some (some 31, (Go.Op.binOp Go.BinOp.geq 3 (Go.Operand.tmp 30) (Go.Operand.const (Go.Value.int Go.IntKind.i64 0)) 3), 4, none)) hF128 (by kernel_rfl) (by kernel_rfl) (k' := 3) rfl (kd := .i64) (i := x.a) (j := 0) (by kernel_rfl) (by kernel_rfl) rfl ?_
          intro Ba0 hBa0 a129 ea hF130; clear ea hF128 a127
          replace hF130 : Fr a129 74 [(2, (.pointer (some ⟨b1, 0, none⟩))), (5, (.pointer (some ⟨b35, 0, none⟩))), (6, (.slice none 0 0)), (31, (.bool Ba0))] := hF130.keep (keep := [2, 5, 6, 31]) (by kernel_rfl)
          refine From_pure 1 4 [2, 5, 6, 32] hF130 (env' := [(2, (.pointer (some ⟨b1, 0, none⟩))), (5, (.pointer (some ⟨b35, 0, none⟩))), (6, (.slice none 0 0)), (32, (.bool Ba0))]) (by kernel_rfl) rfl ?_
          intro a131 hF132; clear hF130 a129
          cases Ba0
          · have ca0 : ¬ (x.a ≥ 0) := by simpa using hBa0
            refine From_pure 7 11 [2, 5, 6, 39] hF132 (env' := [(2, (.pointer (some ⟨b1, 0, none⟩))), (5, (.pointer (some ⟨b35, 0, none⟩))), (6, (.slice none 0 0)), (39, (.bool false))]) (by kernel_rfl) rfl ?_
            intro a133 hF134; clear hF132 a131
            refine From_end (by kernel_rfl) ?_
            refine W_cond (t := 39) (B := false) (by kernel_rfl) hF134 (by kernel_rfl) (fun t => Bool.noConfusion t) (fun _ => ?_)
            refine W_skip (by kernel_rfl) ?_
            exact ⟨none, 0, 0, [], hF134.keep (keep := [2, 5, 6]) (by kernel_rfl), hM47.call (Mem.nilrow _ 3 1), (rt1_no (by omega)).symm, rfl⟩
          · have ca0 : x.a ≥ 0 := by simpa using hBa0
            refine From_pure 1 5 [2, 5, 6, 32, 33] hF132 (env' := [(2, (.pointer (some ⟨b1, 0, none⟩))), (5, (.pointer (some ⟨b35, 0, none⟩))), (6, (.slice none 0 0)), (32, (.bool true)), (33, (.pointer (some ⟨b35, 4, none⟩)))]) (by kernel_rfl) rfl ?_
            intro a135 hF136; clear hF132 a131
            refine From_load1 (by kernel_rfl : coreAt _ 5 = some (some 34, (Go.Op.load 3 (Go.Operand.tmp 33)), 3, some (3, true))) hF136 (by kernel_rfl) (by kernel_rfl) (k' := 6) rfl (ad := ⟨b35, 4, none⟩) (v := (.int .i64 x.a)) (by kernel_rfl) (by kernel_rfl) (blk_cell (hM47.get 1 rfl) rfl) ?_
            intro a137 ea hF138; clear ea hF136 a135
            replace hF138 : Fr a137 74 [(2, (.pointer (some ⟨b1, 0, none⟩))), (5, (.pointer (some ⟨b35, 0, none⟩))), (6, (.slice none 0 0)), (32, (.bool true)), (34, (.int .i64 x.a))] := hF138.keep (keep := [2, 5, 6, 32, 34]) (by kernel_rfl)
            refine From_pure 1 7 [2, 5, 6, 32, 34, 35] hF138 (env' := [(2, (.pointer (some ⟨b1, 0, none⟩))), (5, (.pointer (some ⟨b35, 0, none⟩))), (6, (.slice none 0 0)), (32, (.bool true)), (34, (.int .i64 x.a)), (35, (.pointer (some ⟨b1, 4, none⟩)))]) (by kernel_rfl) rfl ?_
            intro a139 hF140; clear hF138 a137
            refine From_load1 (by kernel_rfl : coreAt _ 7 = some (some 36, (Go.Op.load 22 (Go.Operand.tmp 35)), 22, some (3, true))) hF140 (by kernel_rfl) (by kernel_rfl) (k' := 8) rfl (ad := ⟨b1, 4, none⟩) (v := (.slice (some ad30) bs.length c)) (by kernel_rfl) (by kernel_rfl) (blk_cell (hM47.get 0 rfl) rfl) ?_
            intro a141 ea hF142; clear ea hF140 a139
            replace hF142 : Fr a141 74 [(2, (.pointer (some ⟨b1, 0, none⟩))), (5, (.pointer (some ⟨b35, 0, none⟩))), (6, (.slice none 0 0)), (32, (.bool true)), (34, (.int .i64 x.a)), (36, (.slice (some ad30) bs.length c))] := hF142.keep (keep := [2, 5, 6, 32, 34, 36]) (by kernel_rfl)
            refine From_pure 1 9 [2, 5, 6, 32, 34, 37] hF142 (env' := [(2, (.pointer (some ⟨b1, 0, none⟩))), (5, (.pointer (some ⟨b35, 0, none⟩))), (6, (.slice none 0 0)), (32, (.bool true)), (34, (.int .i64 x.a)), (37, (.int .i64 ((bs.length : Nat) : Int)))]) (by kernel_rfl) rfl ?_
            intro a143 hF144; clear hF142 a141
            refine From_cmp (by kernel_rfl : coreAt _ 9 = some (some 38, (Go.Op.binOp Go.BinOp.lss 3 (Go.Operand.tmp 34) (Go.Operand.tmp 37) 3), 4, some (3, true))) hF144 (by kernel_rfl) (by kernel_rfl) (k' := 10) rfl (kd := .i64) (i := x.a) (j := ((bs.length : Nat) : Int)) (by kernel_rfl) (by kernel_rfl) rfl ?_
            intro Ba1 hBa1 a145 ea hF146; clear ea hF144 a143
            replace hF146 : Fr a145 74 [(2, (.pointer (some ⟨b1, 0, none⟩))), (5, (.pointer (some ⟨b35, 0, none⟩))), (6, (.slice none 0 0)), (32, (.bool true)), (38, (.bool Ba1))] := hF146.keep (keep := [2, 5, 6, 32, 38]) (by kernel_rfl)
            refine From_pure 1 11 [2, 5, 6, 39] hF146 (env' := [(2, (.pointer (some ⟨b1, 0, none⟩))), (5, (.pointer (some ⟨b35, 0, none⟩))), (6, (.slice none 0 0)), (39, (.bool Ba1))]) (by kernel_rfl) rfl ?_
            intro a147 hF148; clear hF146 a145
            refine From_end (by kernel_rfl) ?_
            cases Ba1
            · have ca1 : ¬ (x.a < ((bs.length : Nat) : Int)) := by simpa using hBa1
              refine W_cond (t := 39) (B := false) (by kernel_rfl) hF148 (by kernel_rfl) (fun t => Bool.noConfusion t) (fun _ => ?_)
              refine W_skip (by kernel_rfl) ?_
              exact ⟨none, 0, 0, [], hF148.keep (keep := [2, 5, 6]) (by kernel_rfl), hM47.call (Mem.nilrow _ 3 1), (rt1_no (by omega)).symm, rfl⟩
            · have ca1 : x.a < ((bs.length : Nat) : Int) := by simpa using hBa1
              refine W_cond (t := 39) (B := true) (by kernel_rfl) hF148 (by kernel_rfl) (fun _ => ?_) (fun t => Bool.noConfusion t)
              refine W_region (by kernel_rfl) ?_   -- region 8
              refine From_pure 2 2 [2, 5, 40, 41] hF148 (env' := [(2, (.pointer (some ⟨b1, 0, none⟩))), (5, (.pointer (some ⟨b35, 0, none⟩))), (40, (.slice none 0 0)), (41, (.pointer (some ⟨b35, 4, none⟩)))]) (by kernel_rfl) rfl ?_
              intro a149 hF150; clear hF148 a147
              refine From_load1 (by kernel_rfl : coreAt _ 2 = some (some 42, (Go.Op.load 3 (Go.Operand.tmp 41)), 3, none)) hF150 (by kernel_rfl) (by kernel_rfl) (k' := 3) rfl (ad := ⟨b35, 4, none⟩) (v := (.int .i64 x.a)) (by kernel_rfl) (by kernel_rfl) (blk_cell (hM47.get 1 rfl) rfl) ?_
              intro a151 ea hF152; clear ea hF150 a149
              replace hF152 : Fr a151 74 [(2, (.pointer (some ⟨b1, 0, none⟩))), (5, (.pointer (some ⟨b35, 0, none⟩))), (40, (.slice none 0 0)), (42, (.int .i64 x.a))] := hF152.keep (keep := [2, 5, 40, 42]) (by kernel_rfl)
              refine From_buildSlice (by kernel_rfl : coreAt _ 3 = some (some 43, (Go.Op.buildSlice 27 1 #[(0, (Go.Operand.tmp 42))]), 27, none)) hF152 (by kernel_rfl) (by kernel_rfl) (k' := 4) rfl (e := 3) (size := 1) (zs := [(.int .i64 0)]) (vs := [(0, (.int .i64 x.a))]) (cs := [(.int .i64 x.a)]) (by kernel_rfl) (by kernel_rfl) (by kernel_rfl) (by kernel_rfl) (by kernel_rfl) (by kernel_rfl) hM47 ?_
              intro b153 w154 hb153 _ hM155 _ a156 ea hF157; clear ea hF152 a151
              change Mem noS w w154 [.blk b1 24 [nm, wk, pa, va, (.slice (some ad30) bs.length c)], .blk b35 38 [(.slice x.pA x.pn x.pc), (.slice x.iA x.ik x.ic), (.int .i64 x.e), (.int .i64 x.v), (.int .i64 x.a), (.int .i64 x.b)], .row 3 1 (some ⟨b153, 0, none⟩) 1 1 [(.int .i64 x.a)]] at hM155
              clear hM47
              replace hF157 : Fr a156 74 [(2, (.pointer (some ⟨b1, 0, none⟩))), (5, (.pointer (some ⟨b35, 0, none⟩))), (40, (.slice none 0 0)), (43, (.slice (some ⟨b153, 0, none⟩) 1 1))] := hF157.keep (keep := [2, 5, 40, 43]) (by kernel_rfl)
              have hM158 : Mem noS w w154 [.blk b1 24 [nm, wk, pa, va, (.slice (some ad30) bs.length c)], .blk b35 38 [(.slice x.pA x.pn x.pc), (.slice x.iA x.ik x.ic), (.int .i64 x.e), (.int .i64 x.v), (.int .i64 x.a), (.int .i64 x.b)], .row 3 1 (some ⟨b153, 0, none⟩) 1 1 [(.int .i64 x.a)], .row 3 1 none 0 0 []] := hM155.call (Mem.nilrow _ 3 1)
              clear hM155
              refine From_append (by kernel_rfl : coreAt _ 4 = some (some 44, (Go.Op.call { callee := (Go.Callee.builtin Go.Builtin.append), args := #[(Go.Operand.tmp 40), (Go.Operand.tmp 43)], argTypes := #[27, 27] }), 27, none)) hF157 (by kernel_rfl) (by kernel_rfl) (k' := 5) rfl (e := 3) (size := 1) (bytes := 8) (z := (.int .i64 0)) (by kernel_rfl) (by kernel_rfl) (by kernel_rfl) (by kernel_rfl) (A := none) (B := (some ⟨b153, 0, none⟩)) (n := 0) (cap := 0) (m := 1) (cap' := 1) (xs := []) (news := [(.int .i64 x.a)]) (by kernel_rfl) (by kernel_rfl) hM158 3 rfl (row_rd (hM158.get 2 rfl)) rfl (by simp [Value.oneCell']) (by omega) (by simp only [maxLen]; omega) ?_
              intro A159 c160 w161 hM162 _ a163 ea hF164; clear ea hF157 a156
              change Mem noS w w161 [.blk b1 24 [nm, wk, pa, va, (.slice (some ad30) bs.length c)], .blk b35 38 [(.slice x.pA x.pn x.pc), (.slice x.iA x.ik x.ic), (.int .i64 x.e), (.int .i64 x.v), (.int .i64 x.a), (.int .i64 x.b)], .row 3 1 (some ⟨b153, 0, none⟩) 1 1 [(.int .i64 x.a)], .row 3 1 A159 (0 + 1) c160 ([] ++ [(.int .i64 x.a)])] at hM162
              clear hM158
              replace hM162 : Mem noS w w161 [.blk b1 24 [nm, wk, pa, va, (.slice (some ad30) bs.length c)], .blk b35 38 [(.slice x.pA x.pn x.pc), (.slice x.iA x.ik x.ic), (.int .i64 x.e), (.int .i64 x.v), (.int .i64 x.a), (.int .i64 x.b)], .row 3 1 A159 (0 + 1) c160 ([] ++ [(.int .i64 x.a)])] := hM162.pick [true, true, false, true] rfl
              replace hF164 : Fr a163 74 [(2, (.pointer (some ⟨b1, 0, none⟩))), (5, (.pointer (some ⟨b35, 0, none⟩))), (44, (.slice A159 (0 + 1) c160))] := hF164.keep (keep := [2, 5, 44]) (by kernel_rfl)
              refine From_pure 1 6 [2, 5, 6] hF164 (env' := [(2, (.pointer (some ⟨b1, 0, none⟩))), (5, (.pointer (some ⟨b35, 0, none⟩))), (6, (.slice A159 (0 + 1) c160))]) (by kernel_rfl) rfl ?_
              intro a165 hF166; clear hF164 a163
              refine From_end (by kernel_rfl) ?_
              exact ⟨A159, (0 + 1), c160, [x.a], hF166.keep (keep := [2, 5, 6]) (by kernel_rfl), hM162, (rt1_yes (by omega) (by omega)).symm, rfl⟩
      · refine W_seq (by kernel_rfl) ?_
        refine W_region (by kernel_rfl) ?_   -- region 5
        refine From_pure 1 1 [2, 5, 6, 21] hF45 (env' := [(2, (.pointer (some ⟨b1, 0, none⟩))), (5, (.pointer (some ⟨b35, 0, none⟩))), (6, (.slice none 0 0)), (21, (.pointer (some ⟨b35, 2, none⟩)))]) (by kernel_rfl) rfl ?_
        intro a167 hF168; clear hF45 a44
        refine From_load1 (by kernel_rfl : coreAt _ 1 = some (some 22, (Go.Op.load 3 (Go.Operand.tmp 21)), 3, none)) hF168 (by kernel_rfl) (by kernel_rfl) (k' := 2) rfl (ad := ⟨b35, 2, none⟩) (v := (.int .i64 x.e)) (by kernel_rfl) (by kernel_rfl) (blk_cell (hM41.get 1 rfl) rfl) ?_
        intro a169 ea hF170; clear ea hF168 a167
        replace hF170 : Fr a169 74 [(2, (.pointer (some ⟨b1, 0, none⟩))), (5, (.pointer (some ⟨b35, 0, none⟩))), (6, (.slice none 0 0)), (22, (.int .i64 x.e))] := hF170.keep (keep := [2, 5, 6, 22]) (by kernel_rfl)
        refine From_cmp (by kernel_rfl : coreAt _ 2 = some (some 23, (Go.Op.binOp Go.BinOp.neq 3 (Go.Operand.tmp 22) (Go.Operand.const (Go.Value.int Go.IntKind.i64 0)) 3), 4, none)) hF170 (by kernel_rfl) (by kernel_rfl) (k' := 3) rfl (kd := .i64) (i := x.e) (j := 0) (by kernel_rfl) (by kernel_rfl) rfl ?_
        intro Be0 hBe0 a171 ea hF172; clear ea hF170 a169
        replace hF172 : Fr a171 74 [(2, (.pointer (some ⟨b1, 0, none⟩))), (5, (.pointer (some ⟨b35, 0, none⟩))), (6, (.slice none 0 0)), (23, (.bool Be0))] := hF172.keep (keep := [2, 5, 6, 23]) (by kernel_rfl)
        refine From_pure 1 4 [2, 5, 6, 24] hF172 (env' := [(2, (.pointer (some ⟨b1, 0, none⟩))), (5, (.pointer (some ⟨b35, 0, none⟩))), (6, (.slice none 0 0)), (24, (.bool Be0))]) (by kernel_rfl) rfl ?_
        intro a173 hF174; clear hF172 a171
        cases Be0
        · have ce0 : ¬ (x.e ≠ 0) := by simpa using hBe0
          refine From_pure 4 8 [2, 5, 6, 28] hF174 (env' := [(2, (.pointer (some ⟨b1, 0, none⟩))), (5, (.pointer (some ⟨b35, 0, none⟩))), (6, (.slice none 0 0)), (28, (.bool false))]) (by kernel_rfl) rfl ?_
          intro a175 hF176; clear hF174 a173
          refine From_end (by kernel_rfl) ?_
          refine W_cond (t := 28) (B := false) (by kernel_rfl) hF176 (by kernel_rfl) (fun t => Bool.noConfusion t) (fun _ => ?_)
          refine W_skip (by kernel_rfl) ?_
          exact ⟨hF176.keep (keep := [2, 5, 6]) (by kernel_rfl), hM41, by omega⟩
        · have ce0 : x.e ≠ 0 := by simpa using hBe0
          refine From_pure 1 5 [2, 5, 6, 24, 25] hF174 (env' := [(2, (.pointer (some ⟨b1, 0, none⟩))), (5, (.pointer (some ⟨b35, 0, none⟩))), (6, (.slice none 0 0)), (24, (.bool true)), (25, (.pointer (some ⟨b35, 2, none⟩)))]) (by kernel_rfl) rfl ?_
          intro a177 hF178; clear hF174 a173
          refine From_load1 (by kernel_rfl : coreAt _ 5 = some (some 26, (Go.Op.load 3 (Go.Operand.tmp 25)), 3, some (3, true))) hF178 (by kernel_rfl) (by kernel_rfl) (k' := 6) rfl (ad := ⟨b35, 2, none⟩) (v := (.int .i64 x.e)) (by kernel_rfl) (by kernel_rfl) (blk_cell (hM41.get 1 rfl) rfl) ?_
          intro a179 ea hF180; clear ea hF178 a177
          replace hF180 : Fr a179 74 [(2, (.pointer (some ⟨b1, 0, none⟩))), (5, (.pointer (some ⟨b35, 0, none⟩))), (6, (.slice none 0 0)), (24, (.bool true)), (26, (.int .i64 x.e))] := hF180.keep (keep := [2, 5, 6, 24, 26]) (by kernel_rfl)
          refine From_cmp (by kernel_rfl : coreAt _ 6 = some (some 27, (Go.Op.binOp Go.BinOp.neq 3 (Go.Operand.tmp 26) (Go.Operand.const (Go.Value.int Go.IntKind.i64 1)) 3), 4, some (3, true))) hF180 (by kernel_rfl) (by kernel_rfl) (k' := 7) rfl (kd := .i64) (i := x.e) (j := 1) (by kernel_rfl) (by kernel_rfl) rfl ?_
          intro Be1 hBe1 a181 ea hF182; clear ea hF180 a179
          replace hF182 : Fr a181 74 [(2, (.pointer (some ⟨b1, 0, none⟩))), (5, (.pointer (some ⟨b35, 0, none⟩))), (6, (.slice none 0 0)), (24, (.bool true)), (27, (.bool Be1))] := hF182.keep (keep := [2, 5, 6, 24, 27]) (by kernel_rfl)
          refine From_pure 1 8 [2, 5, 6, 28] hF182 (env' := [(2, (.pointer (some ⟨b1, 0, none⟩))), (5, (.pointer (some ⟨b35, 0, none⟩))), (6, (.slice none 0 0)), (28, (.bool Be1))]) (by kernel_rfl) rfl ?_
          intro a183 hF184; clear hF182 a181
          refine From_end (by kernel_rfl) ?_
          cases Be1
          · have ce1 : ¬ (x.e ≠ 1) := by simpa using hBe1
            refine W_cond (t := 28) (B := false) (by kernel_rfl) hF184 (by kernel_rfl) (fun t => Bool.noConfusion t) (fun _ => ?_)
            refine W_skip (by kernel_rfl) ?_
            exact ⟨hF184.keep (keep := [2, 5, 6]) (by kernel_rfl), hM41, by omega⟩
          · have ce1 : x.e ≠ 1 := by simpa using hBe1
            refine W_cond (t := 28) (B := true) (by kernel_rfl) hF184 (by kernel_rfl) (fun _ => ?_) (fun t => Bool.noConfusion t)
            refine W_seq (by kernel_rfl) ?_
            refine W_region (by kernel_rfl) ?_   -- region 6
            refine From_pure 1 1 [4] hF184 (env' := [(4, (.slice none 0 0))]) (by kernel_rfl) rfl ?_
            intro a185 hF186; clear hF184 a183
            refine From_end (by kernel_rfl) ?_
            refine W_ret (by kernel_rfl) ?_
            refine out1 (v := (.slice none 0 0)) hF186 rfl (by kernel_rfl) ?_
            refine ⟨_, rfl, ?_⟩
            exact nil_ret (hM41.pick [false, false] rfl) (by rw [tg_in (by omega) hx]; exact rt_none (by omega) (by omega))
    · have chi : b ≥ ((bs.length : Nat) : Int) := by simpa using hBhi
      refine W_cond (t := 15) (B := true) (by kernel_rfl) hF23 (by kernel_rfl) (fun _ => ?_) (fun t => Bool.noConfusion t)
      refine W_seq (by kernel_rfl) ?_
      refine W_region (by kernel_rfl) ?_   -- region 2
      refine From_pure 1 1 [4] hF23 (env' := [(4, (.slice none 0 0))]) (by kernel_rfl) rfl ?_
      intro a187 hF188; clear hF23 a22
      refine From_end (by kernel_rfl) ?_
      refine W_ret (by kernel_rfl) ?_
      refine out1 (v := (.slice none 0 0)) hF188 rfl (by kernel_rfl) ?_
      refine ⟨_, rfl, ?_⟩
      exact nil_ret (hM3.pick [false] rfl) (tg_out (by omega))
  · have clo : b < 0 := by simpa using hBlo
    refine From_pure 6 9 [1, 2, 15] hF13 (env' := [(1, (.int .i64 b)), (2, (.pointer (some ⟨b1, 0, none⟩))), (15, (.bool true))]) (by kernel_rfl) rfl ?_
    intro a189 hF190; clear hF13 a12
    refine From_end (by kernel_rfl) ?_
    refine W_cond (t := 15) (B := true) (by kernel_rfl) hF190 (by kernel_rfl) (fun _ => ?_) (fun t => Bool.noConfusion t)
    refine W_seq (by kernel_rfl) ?_
    refine W_region (by kernel_rfl) ?_   -- region 2
    refine From_pure 1 1 [4] hF190 (env' := [(4, (.slice none 0 0))]) (by kernel_rfl) rfl ?_
    intro a191 hF192; clear hF190 a189
    refine From_end (by kernel_rfl) ?_
    refine W_ret (by kernel_rfl) ?_
    refine out1 (v := (.slice none 0 0)) hF192 rfl (by kernel_rfl) ?_
    refine ⟨_, rfl, ?_⟩
    exact nil_ret (hM3.pick [false] rfl) (tg_out (by omega))

set_option maxRecDepth 10000 in
theorem index_c (l : List Int) (k : Int) (A : Option Addr) (c : Nat) (w : World) (hm : l.length ≤ 1000000) (hA : RO noS w (.rd A (ints l))) :
    Calls Try.prog 39 #[(.slice A l.length c), (.int .i64 k)] w (Ret fun v w' => v = .int .i64 (fidx (fun x => x == k) l) ∧ Mem noS w w' []) := by
  refine enter (N := 19) (vs := [(.slice A l.length c), (.int .i64 k)]) Try.func39 (by kernel_rfl) (by kernel_rfl) (by kernel_rfl) ?_
  intro a hF
  have hM := Mem.init w
  refine W_seq (by kernel_rfl) ?_
  refine W_region (by kernel_rfl) ?_   -- region 0
  refine From_pure 1 1 [0, 1] hF (env' := [(0, (.slice A l.length c)), (1, (.int .i64 k))]) (by kernel_rfl) rfl ?_
  intro a1 hF2; clear hF a
  refine From_end (by kernel_rfl) ?_
  refine W_seq (by kernel_rfl) ?_
  refine W_seq (by kernel_rfl) ?_
  refine W_region (by kernel_rfl) ?_   -- region 1
  refine From_pure 3 3 [0, 1, 7, 8] hF2 (env' := [(0, (.slice A l.length c)), (1, (.int .i64 k)), (7, (.int .i64 ((l.length : Nat) : Int))), (8, (.int .i64 0))]) (by kernel_rfl) rfl ?_
  intro a3 hF4; clear hF2 a1
  refine From_end (by kernel_rfl) ?_
  refine W_block (id := 0) (by kernel_rfl) ?_
  refine W_loop (by kernel_rfl) (fun n_ a_ w_ => ∃ (j : Nat), n_ = l.length - j ∧ Fr a_ 19 [(0, (.slice A l.length c)), (1, (.int .i64 k)), (7, (.int .i64 ((l.length : Nat) : Int))), (8, (.int .i64 (j : Int)))] ∧ Mem noS w w_ [] ∧ (j ≤ l.length) ∧ ((l.take j).any (fun x => x == k) = false)) (n := _) ⟨0, rfl, hF4.keep (keep := [0, 1, 7, 8]) (by kernel_rfl), hM, by omega, by simp⟩ ?_
  clear hF4 a3 hM; rintro n a7 w5 ⟨j, rfl, hF8, hM6, hj, hn⟩
  refine W_seq (by kernel_rfl) ?_
  refine W_region (by kernel_rfl) ?_   -- region 2
  refine From_cmp (by kernel_rfl : coreAt _ 0 = some (some 9, (Go.Op.binOp Go.BinOp.lss 3 (Go.Operand.tmp 8) (Go.Operand.tmp 7) 3), 0, none)) hF8 (by kernel_rfl) (by kernel_rfl) (k' := 1) rfl (kd := .i64) (i := (j : Int)) (j := ((l.length : Nat) : Int)) (by kernel_rfl) (by kernel_rfl) rfl ?_
  intro B9 hB9 a10 ea hF11; clear ea hF8 a7
  replace hF11 : Fr a10 19 [(0, (.slice A l.length c)), (1, (.int .i64 k)), (7, (.int .i64 ((l.length : Nat) : Int))), (8, (.int .i64 (j : Int))), (9, (.bool B9))] := hF11.keep (keep := [0, 1, 7, 8, 9]) (by kernel_rfl)
  refine From_end (by kernel_rfl) ?_
  refine W_seq (by kernel_rfl) ?_
  cases B9
  · have c9 : ¬ ((j : Int) < ((l.length : Nat) : Int)) := by simpa using hB9
    refine W_cond (t := 9) (B := false) (by kernel_rfl) hF11 (by kernel_rfl) (fun t => Bool.noConfusion t) (fun _ => ?_)
    refine W_exit (id := 0) (by kernel_rfl) ?_
    refine inB_hit rfl ?_
    refine W_seq (by kernel_rfl) ?_
    refine W_region (by kernel_rfl) ?_   -- region 7
    refine From_pure 1 1 [4] hF11 (env' := [(4, (.int .i64 (-1)))]) (by kernel_rfl) rfl ?_
    intro a12 hF13; clear hF11 a10
    refine From_end (by kernel_rfl) ?_
    refine W_ret (by kernel_rfl) ?_
    refine out1 (v := (.int .i64 (-1))) hF13 rfl (by kernel_rfl) ?_
    refine ⟨_, rfl, ?_⟩
    exact ⟨by rw [fidx_miss hn (by omega)], hM6⟩
  · have c9 : (j : Int) < ((l.length : Nat) : Int) := by simpa using hB9
    refine W_cond (t := 9) (B := true) (by kernel_rfl) hF11 (by kernel_rfl) (fun _ => ?_) (fun t => Bool.noConfusion t)
    refine W_skip (by kernel_rfl) ?_
    refine W_seq (by kernel_rfl) ?_
    refine W_block (id := 1) (by kernel_rfl) ?_
    refine W_seq (by kernel_rfl) ?_
    refine W_region (by kernel_rfl) ?_   -- region 3
    refine From_pure 2 2 [0, 1, 5, 7, 8] hF11 (env' := [(0, (.slice A l.length c)), (1, (.int .i64 k)), (5, (.int .i64 (j : Int))), (7, (.int .i64 ((l.length : Nat) : Int))), (8, (.int .i64 (j : Int)))]) (by kernel_rfl) rfl ?_
    intro a14 hF15; clear hF11 a10
    refine From_end (by kernel_rfl) ?_
    refine W_seq (by kernel_rfl) ?_
    refine W_region (by kernel_rfl) ?_   -- region 4
    refine From_pure 3 3 [0, 1, 5, 7, 8, 11, 12, 13] hF15 (env' := [(0, (.slice A l.length c)), (1, (.int .i64 k)), (5, (.int .i64 (j : Int))), (7, (.int .i64 ((l.length : Nat) : Int))), (8, (.int .i64 (j : Int))), (11, (.int .i64 k)), (12, (.slice A l.length c)), (13, (.int .i64 (j : Int)))]) (by kernel_rfl) rfl ?_
    intro a16 hF17; clear hF15 a14
    obtain ⟨ad18, rfl⟩ := rd_ints_some (hM6.ro hA) (by omega)
    refine From_index (by kernel_rfl : coreAt _ 3 = some (some 14, (Go.Op.indexAddr 27 (Go.Operand.tmp 12) (Go.Operand.tmp 13)), 0, none)) hF17 (by kernel_rfl) (by kernel_rfl) (k' := 4) rfl (A := (some ad18)) (ad := ad18) (n := l.length) (cap := c) (e := 3) (size := 1) (kd := .i64) (i := (j : Int)) (by kernel_rfl) (by kernel_rfl) rfl (by kernel_rfl) (by kernel_rfl) (by omega) (by omega) ?_
    intro a19 ea hF20; clear ea hF17 a16
    replace hF20 : Fr a19 19 [(0, (.slice (some ad18) l.length c)), (1, (.int .i64 k)), (5, (.int .i64 (j : Int))), (7, (.int .i64 ((l.length : Nat) : Int))), (8, (.int .i64 (j : Int))), (11, (.int .i64 k)), (14, (.pointer (some ((ad18 : Addr).add (((j : Int)).toNat * 1)))))] := hF20.keep (keep := [0, 1, 5, 7, 8, 11, 14]) (by kernel_rfl)
    refine From_load1 (by kernel_rfl : coreAt _ 4 = some (some 15, (Go.Op.load 3 (Go.Operand.tmp 14)), 3, none)) hF20 (by kernel_rfl) (by kernel_rfl) (k' := 5) rfl (ad := ((ad18 : Addr).add (((j : Int)).toNat * 1))) (v := (.int .i64 (l.getD (j : Int).toNat 0))) (by kernel_rfl) (by kernel_rfl) (rd_int (hM6.ro hA) rfl (by omega) (by omega)) ?_
    intro a21 ea hF22; clear ea hF20 a19
    replace hF22 : Fr a21 19 [(0, (.slice (some ad18) l.length c)), (1, (.int .i64 k)), (5, (.int .i64 (j : Int))), (7, (.int .i64 ((l.length : Nat) : Int))), (8, (.int .i64 (j : Int))), (11, (.int .i64 k)), (15, (.int .i64 (l.getD (j : Int).toNat 0)))] := hF22.keep (keep := [0, 1, 5, 7, 8, 11, 15]) (by kernel_rfl)
    refine From_cmp (by kernel_rfl : coreAt _ 5 = some (some 16, (Go.Op.binOp Go.BinOp.eql 3 (Go.Operand.tmp 11) (Go.Operand.tmp 15) 3), 4, none)) hF22 (by kernel_rfl) (by kernel_rfl) (k' := 6) rfl (kd := .i64) (i := k) (j := (l.getD (j : Int).toNat 0)) (by kernel_rfl) (by kernel_rfl) rfl ?_
    intro Bhit hBhit a23 ea hF24; clear ea hF22 a21
    replace hF24 : Fr a23 19 [(0, (.slice (some ad18) l.length c)), (1, (.int .i64 k)), (5, (.int .i64 (j : Int))), (7, (.int .i64 ((l.length : Nat) : Int))), (8, (.int .i64 (j : Int))), (16, (.bool Bhit))] := hF24.keep (keep := [0, 1, 5, 7, 8, 16]) (by kernel_rfl)
    refine From_end (by kernel_rfl) ?_
    cases Bhit
    · have chit : ¬ (k = (l.getD (j : Int).toNat 0)) := by simpa using hBhit
      refine W_cond (t := 16) (B := false) (by kernel_rfl) hF24 (by kernel_rfl) (fun t => Bool.noConfusion t) (fun _ => ?_)
      refine W_skip (by kernel_rfl) ?_
      refine W_region (by kernel_rfl) ?_   -- region 6
      refine From_arith (by kernel_rfl : coreAt _ 0 = some (some 18, (Go.Op.binOp Go.BinOp.add 3 (Go.Operand.tmp 8) (Go.Operand.const (Go.Value.int Go.IntKind.i64 1)) 3), 3, none)) hF24 (by kernel_rfl) (by kernel_rfl) (k' := 1) rfl (i := (j : Int)) (j := 1) (z := ((j : Int) + 1)) (by kernel_rfl) (by kernel_rfl) rfl (by omega) (by omega) ?_
      intro a25 ea hF26; clear ea hF24 a23
      replace hF26 : Fr a25 19 [(0, (.slice (some ad18) l.length c)), (1, (.int .i64 k)), (7, (.int .i64 ((l.length : Nat) : Int))), (18, (.int .i64 ((j : Int) + 1)))] := hF26.keep (keep := [0, 1, 7, 18]) (by kernel_rfl)
      refine From_pure 1 2 [0, 1, 7, 8] hF26 (env' := [(0, (.slice (some ad18) l.length c)), (1, (.int .i64 k)), (7, (.int .i64 ((l.length : Nat) : Int))), (8, (.int .i64 ((j : Int) + 1)))]) (by kernel_rfl) rfl ?_
      intro a27 hF28; clear hF26 a25
      refine From_end (by kernel_rfl) ?_
      exact ⟨l.length - (j + 1), by omega, j + 1, rfl, hF28.keep (keep := [0, 1, 7, 8]) (by kernel_rfl), hM6, by omega, any_next hn (by simpa using fun h : _ = k => chit h.symm) (by omega)⟩
    · have chit : k = (l.getD (j : Int).toNat 0) := by simpa using hBhit
      refine W_cond (t := 16) (B := true) (by kernel_rfl) hF24 (by kernel_rfl) (fun _ => ?_) (fun t => Bool.noConfusion t)
      refine W_seq (by kernel_rfl) ?_
      refine W_region (by kernel_rfl) ?_   -- region 5
      refine From_pure 2 2 [4] hF24 (env' := [(4, (.int .i64 (j : Int)))]) (by kernel_rfl) rfl ?_
      intro a29 hF30; clear hF24 a23
      refine From_end (by kernel_rfl) ?_
      refine W_ret (by kernel_rfl) ?_
      refine inB_ret ?_
      refine inB_ret ?_
      refine out1 (v := (.int .i64 (j : Int))) hF30 rfl (by kernel_rfl) ?_
      refine ⟨_, rfl, ?_⟩
      exact ⟨by rw [fidx_hit hn (by simpa using chit.symm) (by omega)], hM6⟩

set_option maxRecDepth 10000 in
theorem contains_c (l : List Int) (k : Int) (A : Option Addr) (c : Nat) (w : World) (hm : l.length ≤ 1000000) (hA : RO noS w (.rd A (ints l))) :
    Calls Try.prog 35 #[(.slice A l.length c), (.int .i64 k)] w (Ret fun v w' => v = .bool (l.contains k) ∧ Mem noS w w' []) := by
  refine enter (N := 9) (vs := [(.slice A l.length c), (.int .i64 k)]) Try.func35 (by kernel_rfl) (by kernel_rfl) (by kernel_rfl) ?_
  intro a hF
  have hM := Mem.init w
  refine W_seq (by kernel_rfl) ?_
  refine W_region (by kernel_rfl) ?_   -- region 0
  refine From_pure 1 1 [0, 1] hF (env' := [(0, (.slice A l.length c)), (1, (.int .i64 k))]) (by kernel_rfl) rfl ?_
  intro a1 hF2; clear hF a
  refine From_end (by kernel_rfl) ?_
  refine W_seq (by kernel_rfl) ?_
  refine W_region (by kernel_rfl) ?_   -- region 1
  refine From_pure 2 2 [5, 6] hF2 (env' := [(5, (.slice A l.length c)), (6, (.int .i64 k))]) (by kernel_rfl) rfl ?_
  intro a3 hF4; clear hF2 a1
  refine From_call (by kernel_rfl : coreAt _ 2 = some (some 7, (Go.Op.call { callee := (Go.Callee.value (Go.Operand.func 39)), args := #[(Go.Operand.tmp 5), (Go.Operand.tmp 6)], argTypes := #[27, 3] }), 3, none)) hF4 (by kernel_rfl) (by kernel_rfl) (k' := 3) rfl (f := 39) (vs := [(.slice A l.length c), (.int .i64 k)]) (cap := []) (by kernel_rfl) (by kernel_rfl) (by kernel_rfl) (index_c l k A c w hm (hA.at_ hM)) ?_
  rintro _ w5 ⟨rfl, hM6x⟩ a7 ea hF8; clear ea hF4 a3
  have hM6 : Mem noS w w5 [] := hM.call hM6x
  clear hM6x hM
  replace hF8 : Fr a7 9 [(7, (.int .i64 (fidx (fun x => x == k) l)))] := hF8.keep (keep := [7]) (by kernel_rfl)
  refine From_cmp (by kernel_rfl : coreAt _ 3 = some (some 8, (Go.Op.binOp Go.BinOp.geq 3 (Go.Operand.tmp 7) (Go.Operand.const (Go.Value.int Go.IntKind.i64 0)) 3), 4, none)) hF8 (by kernel_rfl) (by kernel_rfl) (k' := 4) rfl (kd := .i64) (i := (fidx (fun x => x == k) l)) (j := 0) (by kernel_rfl) (by kernel_rfl) rfl ?_
  intro Bc hBc a9 ea hF10; clear ea hF8 a7
  replace hF10 : Fr a9 9 [(8, (.bool Bc))] := hF10.keep (keep := [8]) (by kernel_rfl)
  refine From_pure 1 5 [4] hF10 (env' := [(4, (.bool Bc))]) (by kernel_rfl) rfl ?_
  intro a11 hF12; clear hF10 a9
  refine From_end (by kernel_rfl) ?_
  refine W_ret (by kernel_rfl) ?_
  refine out1 (v := (.bool Bc)) hF12 rfl (by kernel_rfl) ?_
  refine ⟨_, rfl, ?_⟩
  exact ⟨by rw [hBc, fidx_contains], hM6⟩

set_option maxRecDepth 10000 in
theorem tdel_c (q : Nat) (nm wk pa va : Value) (A : Option Addr) (c : Nat) (bs : List SB) (t : Int) (w : World) (_hm : bs.length ≤ 1000000) (hq : RO noS w (.blk q 24 [nm, wk, pa, va, .slice A bs.length c])) :
    Calls Try.prog 34 #[(.int .i64 t), (.pointer (some ⟨q, 0, none⟩))] w (Ret fun v w' => v = .bool (!(inR bs.length t)) ∧ Mem noS w w' []) := by
  refine enter (N := 13) (vs := [(.int .i64 t), (.pointer (some ⟨q, 0, none⟩))]) Try.func34 (by kernel_rfl) (by kernel_rfl) (by kernel_rfl) ?_
  intro a hF
  have hM := Mem.init w
  refine W_seq (by kernel_rfl) ?_
  refine W_region (by kernel_rfl) ?_   -- region 0
  refine From_pure 1 1 [0, 1] hF (env' := [(0, (.int .i64 t)), (1, (.pointer (some ⟨q, 0, none⟩)))]) (by kernel_rfl) rfl ?_
  intro a1 hF2; clear hF a
  refine From_end (by kernel_rfl) ?_
  refine W_seq (by kernel_rfl) ?_
  refine W_region (by kernel_rfl) ?_   -- region 1
  refine From_pure 1 1 [0, 1, 4] hF2 (env' := [(0, (.int .i64 t)), (1, (.pointer (some ⟨q, 0, none⟩))), (4, (.int .i64 t))]) (by kernel_rfl) rfl ?_
  intro a3 hF4; clear hF2 a1
  refine From_cmp (by kernel_rfl : coreAt _ 1 = some (some 5, (Go.Op.binOp Go.BinOp.lss 3 (Go.Operand.tmp 4) (Go.Operand.const (Go.Value.int Go.IntKind.i64 0)) 3), 4, none)) hF4 (by kernel_rfl) (by kernel_rfl) (k' := 2) rfl (kd := .i64) (i := t) (j := 0) (by kernel_rfl) (by kernel_rfl) rfl ?_
  intro Blo hBlo a5 ea hF6; clear ea hF4 a3
  replace hF6 : Fr a5 13 [(0, (.int .i64 t)), (1, (.pointer (some ⟨q, 0, none⟩))), (5, (.bool Blo))] := hF6.keep (keep := [0, 1, 5]) (by kernel_rfl)
  refine From_pure 1 3 [0, 1, 6] hF6 (env' := [(0, (.int .i64 t)), (1, (.pointer (some ⟨q, 0, none⟩))), (6, (.bool Blo))]) (by kernel_rfl) rfl ?_
  intro a7 hF8; clear hF6 a5
  cases Blo
  · have clo : ¬ (t < 0) := by simpa using hBlo
    refine From_pure 2 5 [6, 7, 8] hF8 (env' := [(6, (.bool false)), (7, (.int .i64 t)), (8, (.pointer (some ⟨q, 4, none⟩)))]) (by kernel_rfl) rfl ?_
    intro a9 hF10; clear hF8 a7
    refine From_load1 (by kernel_rfl : coreAt _ 5 = some (some 9, (Go.Op.load 22 (Go.Operand.tmp 8)), 22, some (2, false))) hF10 (by kernel_rfl) (by kernel_rfl) (k' := 6) rfl (ad := ⟨q, 4, none⟩) (v := (.slice A bs.length c)) (by kernel_rfl) (by kernel_rfl) (blk_cell (hM.ro hq) rfl) ?_
    intro a11 ea hF12; clear ea hF10 a9
    replace hF12 : Fr a11 13 [(6, (.bool false)), (7, (.int .i64 t)), (9, (.slice A bs.length c))] := hF12.keep (keep := [6, 7, 9]) (by kernel_rfl)
    refine From_pure 1 7 [6, 7, 10] hF12 (env' := [(6, (.bool false)), (7, (.int .i64 t)), (10, (.int .i64 ((bs.length : Nat) : Int)))]) (by kernel_rfl) rfl ?_
    intro a13 hF14; clear hF12 a11
    refine From_cmp (by kernel_rfl : coreAt _ 7 = some (some 11, (Go.Op.binOp Go.BinOp.geq 3 (Go.Operand.tmp 7) (Go.Operand.tmp 10) 3), 4, some (2, false))) hF14 (by kernel_rfl) (by kernel_rfl) (k' := 8) rfl (kd := .i64) (i := t) (j := ((bs.length : Nat) : Int)) (by kernel_rfl) (by kernel_rfl) rfl ?_
    intro Bhi hBhi a15 ea hF16; clear ea hF14 a13
    replace hF16 : Fr a15 13 [(6, (.bool false)), (11, (.bool Bhi))] := hF16.keep (keep := [6, 11]) (by kernel_rfl)
    refine From_pure 2 10 [3] hF16 (env' := [(3, (.bool Bhi))]) (by kernel_rfl) rfl ?_
    intro a17 hF18; clear hF16 a15
    refine From_end (by kernel_rfl) ?_
    refine W_ret (by kernel_rfl) ?_
    refine out1 (v := (.bool Bhi)) hF18 rfl (by kernel_rfl) ?_
    refine ⟨_, rfl, ?_⟩
    exact ⟨by rw [hBhi, inR_hi (by omega)], hM⟩
  · have clo : t < 0 := by simpa using hBlo
    refine From_pure 7 10 [3] hF8 (env' := [(3, (.bool true))]) (by kernel_rfl) rfl ?_
    intro a19 hF20; clear hF8 a7
    refine From_end (by kernel_rfl) ?_
    refine W_ret (by kernel_rfl) ?_
    refine out1 (v := (.bool true)) hF20 rfl (by kernel_rfl) ?_
    refine ⟨_, rfl, ?_⟩
    exact ⟨by rw [inR_no (by omega)]; rfl, hM⟩

set_option maxRecDepth 10000 in
theorem indexf_c (l : List Int) (B : Option Addr) (d : Nat) (q : Nat) (nm wk pa va : Value) (A : Option Addr) (c : Nat) (bs : List SB) (w : World) (hll : l.length ≤ 1000000) (hl : RO noS w (.rd B (ints l))) (hm : bs.length ≤ 1000000) (hq : RO noS w (.blk q 24 [nm, wk, pa, va, .slice A bs.length c])) :
    Calls Try.prog 38 #[(.slice B l.length d), (.func (.func 34) #[] #[(.pointer (some ⟨q, 0, none⟩))])] w (Ret fun v w' => v = .int .i64 (fidx (fun x => !(inR bs.length x)) l) ∧ Mem noS w w' []) := by
  refine enter (N := 19) (vs := [(.slice B l.length d), (.func (.func 34) #[] #[(.pointer (some ⟨q, 0, none⟩))])]) Try.func38 (by kernel_rfl) (by kernel_rfl) (by kernel_rfl) ?_
  intro a hF
  have hM := Mem.init w
  refine W_seq (by kernel_rfl) ?_
  refine W_region (by kernel_rfl) ?_   -- region 0
  refine From_pure 1 1 [0, 1] hF (env' := [(0, (.slice B l.length d)), (1, (.func (.func 34) #[] #[(.pointer (some ⟨q, 0, none⟩))]))]) (by kernel_rfl) rfl ?_
  intro a1 hF2; clear hF a
  refine From_end (by kernel_rfl) ?_
  refine W_seq (by kernel_rfl) ?_
  refine W_seq (by kernel_rfl) ?_
  refine W_region (by kernel_rfl) ?_   -- region 1
  refine From_pure 3 3 [0, 1, 7, 8] hF2 (env' := [(0, (.slice B l.length d)), (1, (.func (.func 34) #[] #[(.pointer (some ⟨q, 0, none⟩))])), (7, (.int .i64 ((l.length : Nat) : Int))), (8, (.int .i64 0))]) (by kernel_rfl) rfl ?_
  intro a3 hF4; clear hF2 a1
  refine From_end (by kernel_rfl) ?_
  refine W_block (id := 0) (by kernel_rfl) ?_
  refine W_loop (by kernel_rfl) (fun n_ a_ w_ => ∃ (j : Nat), n_ = l.length - j ∧ Fr a_ 19 [(0, (.slice B l.length d)), (1, (.func (.func 34) #[] #[(.pointer (some ⟨q, 0, none⟩))])), (7, (.int .i64 ((l.length : Nat) : Int))), (8, (.int .i64 (j : Int)))] ∧ Mem noS w w_ [] ∧ (j ≤ l.length) ∧ ((l.take j).any (fun x => !(inR bs.length x)) = false)) (n := _) ⟨0, rfl, hF4.keep (keep := [0, 1, 7, 8]) (by kernel_rfl), hM, by omega, by simp⟩ ?_
  clear hF4 a3 hM; rintro n a7 w5 ⟨j, rfl, hF8, hM6, hj, hn⟩
  refine W_seq (by kernel_rfl) ?_
  refine W_region (by kernel_rfl) ?_   -- region 2
  refine From_cmp (by kernel_rfl : coreAt _ 0 = some (some 9, (Go.Op.binOp Go.BinOp.lss 3 (Go.Operand.tmp 8) (Go.Operand.tmp 7) 3), 0, none)) hF8 (by kernel_rfl) (by kernel_rfl) (k' := 1) rfl (kd := .i64) (i := (j : Int)) (j := ((l.length : Nat) : Int)) (by kernel_rfl) (by kernel_rfl) rfl ?_
  intro B9 hB9 a10 ea hF11; clear ea hF8 a7
  replace hF11 : Fr a10 19 [(0, (.slice B l.length d)), (1, (.func (.func 34) #[] #[(.pointer (some ⟨q, 0, none⟩))])), (7, (.int .i64 ((l.length : Nat) : Int))), (8, (.int .i64 (j : Int))), (9, (.bool B9))] := hF11.keep (keep := [0, 1, 7, 8, 9]) (by kernel_rfl)
  refine From_end (by kernel_rfl) ?_
  refine W_seq (by kernel_rfl) ?_
  cases B9
  · have c9 : ¬ ((j : Int) < ((l.length : Nat) : Int)) := by simpa using hB9
    refine W_cond (t := 9) (B := false) (by kernel_rfl) hF11 (by kernel_rfl) (fun t => Bool.noConfusion t) (fun _ => ?_)
    refine W_exit (id := 0) (by kernel_rfl) ?_
    refine inB_hit rfl ?_
    refine W_seq (by kernel_rfl) ?_
    refine W_region (by kernel_rfl) ?_   -- region 7
    refine From_pure 1 1 [4] hF11 (env' := [(4, (.int .i64 (-1)))]) (by kernel_rfl) rfl ?_
    intro a12 hF13; clear hF11 a10
    refine From_end (by kernel_rfl) ?_
    refine W_ret (by kernel_rfl) ?_
    refine out1 (v := (.int .i64 (-1))) hF13 rfl (by kernel_rfl) ?_
    refine ⟨_, rfl, ?_⟩
    exact ⟨by rw [fidx_miss hn (by omega)], hM6⟩
  · have c9 : (j : Int) < ((l.length : Nat) : Int) := by simpa using hB9
    refine W_cond (t := 9) (B := true) (by kernel_rfl) hF11 (by kernel_rfl) (fun _ => ?_) (fun t => Bool.noConfusion t)
    refine W_skip (by kernel_rfl) ?_
    refine W_seq (by kernel_rfl) ?_
    refine W_block (id := 1) (by kernel_rfl) ?_
    refine W_seq (by kernel_rfl) ?_
    refine W_region (by kernel_rfl) ?_   -- region 3
    refine From_pure 2 2 [0, 1, 5, 7, 8] hF11 (env' := [(0, (.slice B l.length d)), (1, (.func (.func 34) #[] #[(.pointer (some ⟨q, 0, none⟩))])), (5, (.int .i64 (j : Int))), (7, (.int .i64 ((l.length : Nat) : Int))), (8, (.int .i64 (j : Int)))]) (by kernel_rfl) rfl ?_
    intro a14 hF15; clear hF11 a10
    refine From_end (by kernel_rfl) ?_
    refine W_seq (by kernel_rfl) ?_
    refine W_region (by kernel_rfl) ?_   -- region 4
    refine From_pure 3 3 [0, 1, 5, 7, 8, 11, 12, 13] hF15 (env' := [(0, (.slice B l.length d)), (1, (.func (.func 34) #[] #[(.pointer (some ⟨q, 0, none⟩))])), (5, (.int .i64 (j : Int))), (7, (.int .i64 ((l.length : Nat) : Int))), (8, (.int .i64 (j : Int))), (11, (.func (.func 34) #[] #[(.pointer (some ⟨q, 0, none⟩))])), (12, (.slice B l.length d)), (13, (.int .i64 (j : Int)))]) (by kernel_rfl) rfl ?_
    intro a16 hF17; clear hF15 a14
    obtain ⟨ad18, rfl⟩ := rd_ints_some (hM6.ro hl) (by omega)
    refine From_index (by kernel_rfl : coreAt _ 3 = some (some 14, (Go.Op.indexAddr 27 (Go.Operand.tmp 12) (Go.Operand.tmp 13)), 0, none)) hF17 (by kernel_rfl) (by kernel_rfl) (k' := 4) rfl (A := (some ad18)) (ad := ad18) (n := l.length) (cap := d) (e := 3) (size := 1) (kd := .i64) (i := (j : Int)) (by kernel_rfl) (by kernel_rfl) rfl (by kernel_rfl) (by kernel_rfl) (by omega) (by omega) ?_
    intro a19 ea hF20; clear ea hF17 a16
    replace hF20 : Fr a19 19 [(0, (.slice (some ad18) l.length d)), (1, (.func (.func 34) #[] #[(.pointer (some ⟨q, 0, none⟩))])), (5, (.int .i64 (j : Int))), (7, (.int .i64 ((l.length : Nat) : Int))), (8, (.int .i64 (j : Int))), (11, (.func (.func 34) #[] #[(.pointer (some ⟨q, 0, none⟩))])), (14, (.pointer (some ((ad18 : Addr).add (((j : Int)).toNat * 1)))))] := hF20.keep (keep := [0, 1, 5, 7, 8, 11, 14]) (by kernel_rfl)
    refine From_load1 (by kernel_rfl : coreAt _ 4 = some (some 15, (Go.Op.load 3 (Go.Operand.tmp 14)), 3, none)) hF20 (by kernel_rfl) (by kernel_rfl) (k' := 5) rfl (ad := ((ad18 : Addr).add (((j : Int)).toNat * 1))) (v := (.int .i64 (l.getD (j : Int).toNat 0))) (by kernel_rfl) (by kernel_rfl) (rd_int (hM6.ro hl) rfl (by omega) (by omega)) ?_
    intro a21 ea hF22; clear ea hF20 a19
    replace hF22 : Fr a21 19 [(0, (.slice (some ad18) l.length d)), (1, (.func (.func 34) #[] #[(.pointer (some ⟨q, 0, none⟩))])), (5, (.int .i64 (j : Int))), (7, (.int .i64 ((l.length : Nat) : Int))), (8, (.int .i64 (j : Int))), (11, (.func (.func 34) #[] #[(.pointer (some ⟨q, 0, none⟩))])), (15, (.int .i64 (l.getD (j : Int).toNat 0)))] := hF22.keep (keep := [0, 1, 5, 7, 8, 11, 15]) (by kernel_rfl)
    refine From_call (by kernel_rfl : coreAt _ 5 = some (some 16, (Go.Op.call { callee := (Go.Callee.value (Go.Operand.tmp 11)), args := #[(Go.Operand.tmp 15)], argTypes := #[3] }), 4, none)) hF22 (by kernel_rfl) (by kernel_rfl) (k' := 6) rfl (f := 34) (vs := [(.int .i64 (l.getD (j : Int).toNat 0))]) (cap := [(.pointer (some ⟨q, 0, none⟩))]) (by kernel_rfl) (by kernel_rfl) (by kernel_rfl) (tdel_c q nm wk pa va A c bs (l.getD (j : Int).toNat 0) w5 hm (hq.at_ hM6)) ?_
    rintro _ w23 ⟨rfl, hM24x⟩ a25 ea hF26; clear ea hF22 a21
    have hM24 : Mem noS w w23 [] := hM6.call hM24x
    clear hM24x hM6
    replace hF26 : Fr a25 19 (putE [(0, (.slice (some ad18) l.length d)), (1, (.func (.func 34) #[] #[(.pointer (some ⟨q, 0, none⟩))])), (5, (.int .i64 (j : Int))), (7, (.int .i64 ((l.length : Nat) : Int))), (8, (.int .i64 (j : Int))), (11, (.func (.func 34) #[] #[(.pointer (some ⟨q, 0, none⟩))])), (15, (.int .i64 (l.getD (j : Int).toNat 0)))] (some 16) (.bool (!(inR bs.length (l.getD (j : Int).toNat 0))))) := hF26
    obtain ⟨Bhit, hBhit⟩ : ∃ B, B = !(inR bs.length (l.getD (j : Int).toNat 0)) := ⟨_, rfl⟩
    rw [← hBhit] at hF26
    replace hF26 : Fr a25 19 [(0, (.slice (some ad18) l.length d)), (1, (.func (.func 34) #[] #[(.pointer (some ⟨q, 0, none⟩))])), (5, (.int .i64 (j : Int))), (7, (.int .i64 ((l.length : Nat) : Int))), (8, (.int .i64 (j : Int))), (16, (.bool Bhit))] := hF26.keep (keep := [0, 1, 5, 7, 8, 16]) (by kernel_rfl)
    refine From_end (by kernel_rfl) ?_
    cases Bhit
    · have chit : (!(inR bs.length (l.getD (j : Int).toNat 0))) = false := hBhit.symm
      refine W_cond (t := 16) (B := false) (by kernel_rfl) hF26 (by kernel_rfl) (fun t => Bool.noConfusion t) (fun _ => ?_)
      refine W_skip (by kernel_rfl) ?_
      refine W_region (by kernel_rfl) ?_   -- region 6
      refine From_arith (by kernel_rfl : coreAt _ 0 = some (some 18, (Go.Op.binOp Go.BinOp.add 3 (Go.Operand.tmp 8) (Go.Operand.const (Go.Value.int Go.IntKind.i64 1)) 3), 3, none)) hF26 (by kernel_rfl) (by kernel_rfl) (k' := 1) rfl (i := (j : Int)) (j := 1) (z := ((j : Int) + 1)) (by kernel_rfl) (by kernel_rfl) rfl (by omega) (by omega) ?_
      intro a27 ea hF28; clear ea hF26 a25
      replace hF28 : Fr a27 19 [(0, (.slice (some ad18) l.length d)), (1, (.func (.func 34) #[] #[(.pointer (some ⟨q, 0, none⟩))])), (7, (.int .i64 ((l.length : Nat) : Int))), (18, (.int .i64 ((j : Int) + 1)))] := hF28.keep (keep := [0, 1, 7, 18]) (by kernel_rfl)
      refine From_pure 1 2 [0, 1, 7, 8] hF28 (env' := [(0, (.slice (some ad18) l.length d)), (1, (.func (.func 34) #[] #[(.pointer (some ⟨q, 0, none⟩))])), (7, (.int .i64 ((l.length : Nat) : Int))), (8, (.int .i64 ((j : Int) + 1)))]) (by kernel_rfl) rfl ?_
      intro a29 hF30; clear hF28 a27
      refine From_end (by kernel_rfl) ?_
      exact ⟨l.length - (j + 1), by omega, j + 1, rfl, hF30.keep (keep := [0, 1, 7, 8]) (by kernel_rfl), hM24, by omega, any_next hn chit (by omega)⟩
    · have chit : (!(inR bs.length (l.getD (j : Int).toNat 0))) = true := hBhit.symm
      refine W_cond (t := 16) (B := true) (by kernel_rfl) hF26 (by kernel_rfl) (fun _ => ?_) (fun t => Bool.noConfusion t)
      refine W_seq (by kernel_rfl) ?_
      refine W_region (by kernel_rfl) ?_   -- region 5
      refine From_pure 2 2 [4] hF26 (env' := [(4, (.int .i64 (j : Int)))]) (by kernel_rfl) rfl ?_
      intro a31 hF32; clear hF26 a25
      refine From_end (by kernel_rfl) ?_
      refine W_ret (by kernel_rfl) ?_
      refine inB_ret ?_
      refine inB_ret ?_
      refine out1 (v := (.int .i64 (j : Int))) hF32 rfl (by kernel_rfl) ?_
      refine ⟨_, rfl, ?_⟩
      exact ⟨by rw [fidx_hit hn chit (by omega)], hM24⟩

set_option maxRecDepth 10000 in
theorem deletef_c (l : List Int) (B : Option Addr) (d : Nat) (q : Nat) (nm wk pa va : Value) (A : Option Addr) (c : Nat) (bs : List SB) (w : World) (hll : l.length ≤ 1000000) (hl : (Res.row 3 1 B l.length d (ints l)).holds w) (hm : bs.length ≤ 1000000) (hq : RO (Res.row 3 1 B l.length d (ints l)).fp w (.blk q 24 [nm, wk, pa, va, .slice A bs.length c])) :
    Calls Try.prog 33 #[(.slice B l.length d), (.func (.func 34) #[] #[(.pointer (some ⟨q, 0, none⟩))])] w (Ret fun v w' => ∃ B' d', v = .slice B' (l.filter (fun x => !((fun x => !(inR bs.length x)) x))).length d' ∧ Mem (Res.row 3 1 B l.length d (ints l)).fp w w' [.row 3 1 B' (l.filter (fun x => !((fun x => !(inR bs.length x)) x))).length d' (ints (l.filter (fun x => !((fun x => !(inR bs.length x)) x))))]) := by
  refine enter (N := 42) (vs := [(.slice B l.length d), (.func (.func 34) #[] #[(.pointer (some ⟨q, 0, none⟩))])]) Try.func33 (by kernel_rfl) (by kernel_rfl) (by kernel_rfl) ?_
  intro a hF
  have hM := Mem.initS hl
  refine W_seq (by kernel_rfl) ?_
  refine W_region (by kernel_rfl) ?_   -- region 0
  refine From_pure 1 1 [0, 1] hF (env' := [(0, (.slice B l.length d)), (1, (.func (.func 34) #[] #[(.pointer (some ⟨q, 0, none⟩))]))]) (by kernel_rfl) rfl ?_
  intro a1 hF2; clear hF a
  refine From_end (by kernel_rfl) ?_
  refine W_seq (by kernel_rfl) ?_
  refine W_region (by kernel_rfl) ?_   -- region 1
  refine From_pure 2 2 [0, 1, 8, 9] hF2 (env' := [(0, (.slice B l.length d)), (1, (.func (.func 34) #[] #[(.pointer (some ⟨q, 0, none⟩))])), (8, (.slice B l.length d)), (9, (.func (.func 34) #[] #[(.pointer (some ⟨q, 0, none⟩))]))]) (by kernel_rfl) rfl ?_
  intro a3 hF4; clear hF2 a1
  refine From_call (by kernel_rfl : coreAt _ 2 = some (some 10, (Go.Op.call { callee := (Go.Callee.value (Go.Operand.func 38)), args := #[(Go.Operand.tmp 8), (Go.Operand.tmp 9)], argTypes := #[27, 51] }), 3, none)) hF4 (by kernel_rfl) (by kernel_rfl) (k' := 3) rfl (f := 38) (vs := [(.slice B l.length d), (.func (.func 34) #[] #[(.pointer (some ⟨q, 0, none⟩))])]) (cap := []) (by kernel_rfl) (by kernel_rfl) (by kernel_rfl) (indexf_c l B d q nm wk pa va A c bs w hll (RO.row_rd (hM.own_ro 0 rfl)) hm (hq.at_ hM)) ?_
  rintro _ w5 ⟨rfl, hM6x⟩ a7 ea hF8; clear ea hF4 a3
  have hM6 : Mem ((Res.row 3 1 B l.length d (ints l)).fp) w w5 [.row 3 1 B l.length d (ints l)] := hM.call hM6x
  clear hM6x hM
  replace hF8 : Fr a7 42 [(0, (.slice B l.length d)), (1, (.func (.func 34) #[] #[(.pointer (some ⟨q, 0, none⟩))])), (10, (.int .i64 (fidx (fun x => !(inR bs.length x)) l)))] := hF8.keep (keep := [0, 1, 10]) (by kernel_rfl)
  refine From_pure 1 4 [0, 1, 5] hF8 (env' := [(0, (.slice B l.length d)), (1, (.func (.func 34) #[] #[(.pointer (some ⟨q, 0, none⟩))])), (5, (.int .i64 (fidx (fun x => !(inR bs.length x)) l)))]) (by kernel_rfl) rfl ?_
  intro a9 hF10; clear hF8 a7
  refine From_end (by kernel_rfl) ?_
  refine W_seq (by kernel_rfl) ?_
  refine W_seq (by kernel_rfl) ?_
  refine W_region (by kernel_rfl) ?_   -- region 2
  refine From_pure 1 1 [0, 1, 5, 11] hF10 (env' := [(0, (.slice B l.length d)), (1, (.func (.func 34) #[] #[(.pointer (some ⟨q, 0, none⟩))])), (5, (.int .i64 (fidx (fun x => !(inR bs.length x)) l))), (11, (.int .i64 (fidx (fun x => !(inR bs.length x)) l)))]) (by kernel_rfl) rfl ?_
  intro a11 hF12; clear hF10 a9
  refine From_cmp (by kernel_rfl : coreAt _ 1 = some (some 12, (Go.Op.binOp Go.BinOp.eql 3 (Go.Operand.tmp 11) (Go.Operand.const (Go.Value.int Go.IntKind.i64 (-1))) 3), 4, none)) hF12 (by kernel_rfl) (by kernel_rfl) (k' := 2) rfl (kd := .i64) (i := (fidx (fun x => !(inR bs.length x)) l)) (j := (-1)) (by kernel_rfl) (by kernel_rfl) rfl ?_
  intro Bnone hBnone a13 ea hF14; clear ea hF12 a11
  replace hF14 : Fr a13 42 [(0, (.slice B l.length d)), (1, (.func (.func 34) #[] #[(.pointer (some ⟨q, 0, none⟩))])), (5, (.int .i64 (fidx (fun x => !(inR bs.length x)) l))), (12, (.bool Bnone))] := hF14.keep (keep := [0, 1, 5, 12]) (by kernel_rfl)
  refine From_end (by kernel_rfl) ?_
  cases Bnone
  · have cnone : ¬ ((fidx (fun x => !(inR bs.length x)) l) = (-1)) := by simpa using hBnone
    refine W_cond (t := 12) (B := false) (by kernel_rfl) hF14 (by kernel_rfl) (fun t => Bool.noConfusion t) (fun _ => ?_)
    refine W_skip (by kernel_rfl) ?_
    refine W_seq (by kernel_rfl) ?_
    refine W_seq (by kernel_rfl) ?_
    refine W_region (by kernel_rfl) ?_   -- region 4
    refine From_pure 1 1 [0, 1, 5, 14] hF14 (env' := [(0, (.slice B l.length d)), (1, (.func (.func 34) #[] #[(.pointer (some ⟨q, 0, none⟩))])), (5, (.int .i64 (fidx (fun x => !(inR bs.length x)) l))), (14, (.int .i64 (fidx (fun x => !(inR bs.length x)) l)))]) (by kernel_rfl) rfl ?_
    intro a15 hF16; clear hF14 a13
    refine From_arith (by kernel_rfl : coreAt _ 1 = some (some 15, (Go.Op.binOp Go.BinOp.add 3 (Go.Operand.tmp 14) (Go.Operand.const (Go.Value.int Go.IntKind.i64 1)) 3), 3, none)) hF16 (by kernel_rfl) (by kernel_rfl) (k' := 2) rfl (i := (fidx (fun x => !(inR bs.length x)) l)) (j := 1) (z := ((fidx (fun x => !(inR bs.length x)) l) + 1)) (by kernel_rfl) (by kernel_rfl) rfl (by have := fidx_lt (fun x => !(inR bs.length x)) l; omega) (by have := fidx_lt (fun x => !(inR bs.length x)) l; omega) ?_
    intro a17 ea hF18; clear ea hF16 a15
    replace hF18 : Fr a17 42 [(0, (.slice B l.length d)), (1, (.func (.func 34) #[] #[(.pointer (some ⟨q, 0, none⟩))])), (5, (.int .i64 (fidx (fun x => !(inR bs.length x)) l))), (15, (.int .i64 ((fidx (fun x => !(inR bs.length x)) l) + 1)))] := hF18.keep (keep := [0, 1, 5, 15]) (by kernel_rfl)
    refine From_pure 1 3 [0, 1, 5, 6] hF18 (env' := [(0, (.slice B l.length d)), (1, (.func (.func 34) #[] #[(.pointer (some ⟨q, 0, none⟩))])), (5, (.int .i64 (fidx (fun x => !(inR bs.length x)) l))), (6, (.int .i64 ((fidx (fun x => !(inR bs.length x)) l) + 1)))]) (by kernel_rfl) rfl ?_
    intro a19 hF20; clear hF18 a17
    refine From_end (by kernel_rfl) ?_
    refine W_block (id := 0) (by kernel_rfl) ?_
    obtain ⟨i0, hi0, hil, hk0⟩ := kept_start cnone
    rw [hi0] at hF20
    obtain ⟨g0, hg0⟩ := row_some (hM6.get 0 rfl) (show 0 < l.length by omega)
    subst hg0
    have hle := row_le (hM6.get 0 rfl)
    have hlen0 : (kept (fun x => !(inR bs.length x)) l (i0 + 1)).length = i0 := by rw [hk0]; simp; omega
    have hc1 : ((i0 + 1 : Nat) : Int) = (i0 : Int) + 1 := by omega
    replace hF20 : Fr a19 42 [(0, .slice (some ⟨g0, 0, none⟩) l.length d), (1, ((.func (.func 34) #[] #[(.pointer (some ⟨q, 0, none⟩))]))), (5, (.int .i64 ((kept (fun x => !(inR bs.length x)) l (i0 + 1)).length : Int))), (6, (.int .i64 ((i0 + 1 : Nat) : Int)))] := by rw [hlen0]; exact hF20.keep (keep := [0, 1, 5, 6]) (by kernel_rfl)
    refine W_loop (by kernel_rfl) (fun n_ a_ w_ => ∃ (j : Nat) (m : List Int), n_ = l.length - j ∧ Fr a_ 42 [(0, (.slice (some ⟨g0, 0, none⟩) l.length d)), (1, (.func (.func 34) #[] #[(.pointer (some ⟨q, 0, none⟩))])), (5, (.int .i64 ((kept (fun x => !(inR bs.length x)) l j).length : Int))), (6, (.int .i64 (j : Int)))] ∧ Mem ((Res.row 3 1 (some ⟨g0, 0, none⟩) l.length d (ints l)).fp) w w_ [.row 3 1 (some ⟨g0, 0, none⟩) l.length d (ints m)] ∧ (j ≤ l.length) ∧ (Half l m (kept (fun x => !(inR bs.length x)) l j) j)) (n := _) ⟨i0 + 1, l, rfl, hF20.keep (keep := [0, 1, 5, 6]) (by kernel_rfl), hM6, by omega, by rw [hk0]; exact half_start hil⟩ ?_
    clear hF20 a19 hM6; rintro n a23 w21 ⟨j, m, rfl, hF24, hM22, hj, hh⟩
    refine W_seq (by kernel_rfl) ?_
    refine W_seq (by kernel_rfl) ?_
    refine W_region (by kernel_rfl) ?_   -- region 5
    refine From_pure 3 3 [0, 1, 5, 6, 16, 18] hF24 (env' := [(0, (.slice (some ⟨g0, 0, none⟩) l.length d)), (1, (.func (.func 34) #[] #[(.pointer (some ⟨q, 0, none⟩))])), (5, (.int .i64 ((kept (fun x => !(inR bs.length x)) l j).length : Int))), (6, (.int .i64 (j : Int))), (16, (.int .i64 (j : Int))), (18, (.int .i64 ((l.length : Nat) : Int)))]) (by kernel_rfl) rfl ?_
    intro a25 hF26; clear hF24 a23
    refine From_cmp (by kernel_rfl : coreAt _ 3 = some (some 19, (Go.Op.binOp Go.BinOp.lss 3 (Go.Operand.tmp 16) (Go.Operand.tmp 18) 3), 4, none)) hF26 (by kernel_rfl) (by kernel_rfl) (k' := 4) rfl (kd := .i64) (i := (j : Int)) (j := ((l.length : Nat) : Int)) (by kernel_rfl) (by kernel_rfl) rfl ?_
    intro B27 hB27 a28 ea hF29; clear ea hF26 a25
    replace hF29 : Fr a28 42 [(0, (.slice (some ⟨g0, 0, none⟩) l.length d)), (1, (.func (.func 34) #[] #[(.pointer (some ⟨q, 0, none⟩))])), (5, (.int .i64 ((kept (fun x => !(inR bs.length x)) l j).length : Int))), (6, (.int .i64 (j : Int))), (19, (.bool B27))] := hF29.keep (keep := [0, 1, 5, 6, 19]) (by kernel_rfl)
    refine From_end (by kernel_rfl) ?_
    cases B27
    · have c27 : ¬ ((j : Int) < ((l.length : Nat) : Int)) := by simpa using hB27
      refine W_cond (t := 19) (B := false) (by kernel_rfl) hF29 (by kernel_rfl) (fun t => Bool.noConfusion t) (fun _ => ?_)
      refine W_exit (id := 0) (by kernel_rfl) ?_
      refine inB_hit rfl ?_
      refine W_seq (by kernel_rfl) ?_
      refine W_region (by kernel_rfl) ?_   -- region 11
      refine From_pure 2 2 [0, 5, 36, 37] hF29 (env' := [(0, (.slice (some ⟨g0, 0, none⟩) l.length d)), (5, (.int .i64 ((kept (fun x => !(inR bs.length x)) l j).length : Int))), (36, (.slice (some ⟨g0, 0, none⟩) l.length d)), (37, (.int .i64 ((kept (fun x => !(inR bs.length x)) l j).length : Int)))]) (by kernel_rfl) rfl ?_
      intro a30 hF31; clear hF29 a28
      have hjl : j = l.length := by omega
      have hkl := hh.2.2.2
      refine From_sliceLo (by kernel_rfl : coreAt _ 2 = some (some 38, (Go.Op.slice 27 (Go.Operand.tmp 36) (some (Go.Operand.tmp 37)) none none), 27, none)) hF31 (by kernel_rfl) (by kernel_rfl) (k' := 3) rfl (A := (some ⟨g0, 0, none⟩)) (n := l.length) (cap := d) (e := 3) (size := 1) (kd := .i64) (i := ((kept (fun x => !(inR bs.length x)) l j).length : Int)) (kept (fun x => !(inR bs.length x)) l j).length (by kernel_rfl) (by kernel_rfl) rfl (by kernel_rfl) (by kernel_rfl) (by omega) ?_
      intro a32 ea hF33; clear ea hF31 a30
      rw [if_neg (show ¬ (d = (kept (fun x => !(inR bs.length x)) l j).length) by omega)] at hF33
      replace hF33 : Fr a32 42 [(0, (.slice (some ⟨g0, 0, none⟩) l.length d)), (5, (.int .i64 ((kept (fun x => !(inR bs.length x)) l j).length : Int))), (38, (.slice (some ((⟨g0, 0, none⟩ : Addr).add ((kept (fun x => !(inR bs.length x)) l j).length * 1))) (l.length - (kept (fun x => !(inR bs.length x)) l j).length) (d - (kept (fun x => !(inR bs.length x)) l j).length)))] := hF33.keep (keep := [0, 5, 38]) (by kernel_rfl)
      refine From_clear (by kernel_rfl : coreAt _ 3 = some (none, (Go.Op.call { callee := (Go.Callee.builtin Go.Builtin.clear), args := #[(Go.Operand.tmp 38)], argTypes := #[27] }), 0, none)) hF33 (by kernel_rfl) (by kernel_rfl) (k' := 4) rfl (e := 3) (z := .int .i64 0) (by kernel_rfl) (by kernel_rfl) rfl (ad := ⟨g0, 0, none⟩) (off := (kept (fun x => !(inR bs.length x)) l j).length * 1) (m := l.length - (kept (fun x => !(inR bs.length x)) l j).length) (cap' := d - (kept (fun x => !(inR bs.length x)) l j).length) (n := l.length) (cap := d) (xs := ints m) (by kernel_rfl) hM22 0 rfl (by omega) ?_
      intro w34 hM35 _ a36 ea hF37; clear ea hF33 a32
      change Mem ((Res.row 3 1 (some ⟨g0, 0, none⟩) l.length d (ints l)).fp) w w34 [.row 3 1 (some ⟨g0, 0, none⟩) l.length d ((ints m).take ((kept (fun x => !(inR bs.length x)) l j).length * 1) ++ List.replicate (l.length - (kept (fun x => !(inR bs.length x)) l j).length) (.int .i64 0) ++ (ints m).drop ((kept (fun x => !(inR bs.length x)) l j).length * 1 + (l.length - (kept (fun x => !(inR bs.length x)) l j).length)))] at hM35
      clear hM22
      replace hF37 : Fr a36 42 [(0, (.slice (some ⟨g0, 0, none⟩) l.length d)), (5, (.int .i64 ((kept (fun x => !(inR bs.length x)) l j).length : Int)))] := hF37.keep (keep := [0, 5]) (by kernel_rfl)
      refine From_end (by kernel_rfl) ?_
      refine W_seq (by kernel_rfl) ?_
      refine W_region (by kernel_rfl) ?_   -- region 12
      refine From_pure 2 2 [39, 40] hF37 (env' := [(39, (.slice (some ⟨g0, 0, none⟩) l.length d)), (40, (.int .i64 ((kept (fun x => !(inR bs.length x)) l j).length : Int)))]) (by kernel_rfl) rfl ?_
      intro a38 hF39; clear hF37 a36
      refine From_sliceHi (by kernel_rfl : coreAt _ 2 = some (some 41, (Go.Op.slice 27 (Go.Operand.tmp 39) none (some (Go.Operand.tmp 40)) none), 27, none)) hF39 (by kernel_rfl) (by kernel_rfl) (k' := 3) rfl (A := (some ⟨g0, 0, none⟩)) (n := l.length) (cap := d) (e := 3) (size := 1) (kd := .i64) (i := ((kept (fun x => !(inR bs.length x)) l j).length : Int)) (kept (fun x => !(inR bs.length x)) l j).length (by kernel_rfl) (by kernel_rfl) rfl (by kernel_rfl) (by kernel_rfl) (by omega) ?_
      intro a40 ea hF41; clear ea hF39 a38
      replace hF41 : Fr a40 42 [(41, (.slice (some ⟨g0, 0, none⟩) ((kept (fun x => !(inR bs.length x)) l j).length) d))] := hF41.keep (keep := [41]) (by kernel_rfl)
      refine From_pure 1 4 [4] hF41 (env' := [(4, (.slice (some ⟨g0, 0, none⟩) ((kept (fun x => !(inR bs.length x)) l j).length) d))]) (by kernel_rfl) rfl ?_
      intro a42 hF43; clear hF41 a40
      refine From_end (by kernel_rfl) ?_
      refine W_ret (by kernel_rfl) ?_
      refine out1 (v := (.slice (some ⟨g0, 0, none⟩) ((kept (fun x => !(inR bs.length x)) l j).length) d)) hF43 rfl (by kernel_rfl) ?_
      refine ⟨_, rfl, ?_⟩
      have hm2 := hM35.take_row 0 rfl (kept (fun x => !(inR bs.length x)) l j).length (by omega)
      refine ⟨some ⟨g0, 0, none⟩, d, by rw [← kept_all (p := (fun x => !(inR bs.length x))) (show l.length ≤ j by omega)], hm2.cast ?_⟩
      rw [← kept_all (p := (fun x => !(inR bs.length x))) (show l.length ≤ j by omega)]
      show [_] = _; rw [cleared hh.2.1]
    · have c27 : (j : Int) < ((l.length : Nat) : Int) := by simpa using hB27
      refine W_cond (t := 19) (B := true) (by kernel_rfl) hF29 (by kernel_rfl) (fun _ => ?_) (fun t => Bool.noConfusion t)
      refine W_skip (by kernel_rfl) ?_
      refine W_seq (by kernel_rfl) ?_
      refine W_block (id := 1) (by kernel_rfl) ?_
      refine W_seq (by kernel_rfl) ?_
      refine W_region (by kernel_rfl) ?_   -- region 7
      refine From_pure 2 2 [0, 1, 5, 6, 22, 23] hF29 (env' := [(0, (.slice (some ⟨g0, 0, none⟩) l.length d)), (1, (.func (.func 34) #[] #[(.pointer (some ⟨q, 0, none⟩))])), (5, (.int .i64 ((kept (fun x => !(inR bs.length x)) l j).length : Int))), (6, (.int .i64 (j : Int))), (22, (.slice (some ⟨g0, 0, none⟩) l.length d)), (23, (.int .i64 (j : Int)))]) (by kernel_rfl) rfl ?_
      intro a44 hF45; clear hF29 a28
      refine From_index (by kernel_rfl : coreAt _ 2 = some (some 24, (Go.Op.indexAddr 27 (Go.Operand.tmp 22) (Go.Operand.tmp 23)), 0, none)) hF45 (by kernel_rfl) (by kernel_rfl) (k' := 3) rfl (A := (some ⟨g0, 0, none⟩)) (ad := ⟨g0, 0, none⟩) (n := l.length) (cap := d) (e := 3) (size := 1) (kd := .i64) (i := (j : Int)) (by kernel_rfl) (by kernel_rfl) rfl (by kernel_rfl) (by kernel_rfl) (by omega) (by omega) ?_
      intro a46 ea hF47; clear ea hF45 a44
      replace hF47 : Fr a46 42 [(0, (.slice (some ⟨g0, 0, none⟩) l.length d)), (1, (.func (.func 34) #[] #[(.pointer (some ⟨q, 0, none⟩))])), (5, (.int .i64 ((kept (fun x => !(inR bs.length x)) l j).length : Int))), (6, (.int .i64 (j : Int))), (24, (.pointer (some ((⟨g0, 0, none⟩ : Addr).add (((j : Int)).toNat * 1)))))] := hF47.keep (keep := [0, 1, 5, 6, 24]) (by kernel_rfl)
      refine From_load1 (by kernel_rfl : coreAt _ 3 = some (some 25, (Go.Op.load 3 (Go.Operand.tmp 24)), 3, none)) hF47 (by kernel_rfl) (by kernel_rfl) (k' := 4) rfl (ad := ((⟨g0, 0, none⟩ : Addr).add (((j : Int)).toNat * 1))) (v := (.int .i64 (l.getD (j : Int).toNat 0))) (by kernel_rfl) (by kernel_rfl) (by rw [← half_get hh]; exact rd_int (row_rd (hM22.get 0 rfl)) rfl (by omega) (by have := hh.1; omega)) ?_
      intro a48 ea hF49; clear ea hF47 a46
      replace hF49 : Fr a48 42 [(0, (.slice (some ⟨g0, 0, none⟩) l.length d)), (1, (.func (.func 34) #[] #[(.pointer (some ⟨q, 0, none⟩))])), (5, (.int .i64 ((kept (fun x => !(inR bs.length x)) l j).length : Int))), (6, (.int .i64 (j : Int))), (25, (.int .i64 (l.getD (j : Int).toNat 0)))] := hF49.keep (keep := [0, 1, 5, 6, 25]) (by kernel_rfl)
      refine From_pure 1 5 [0, 1, 5, 6, 7] hF49 (env' := [(0, (.slice (some ⟨g0, 0, none⟩) l.length d)), (1, (.func (.func 34) #[] #[(.pointer (some ⟨q, 0, none⟩))])), (5, (.int .i64 ((kept (fun x => !(inR bs.length x)) l j).length : Int))), (6, (.int .i64 (j : Int))), (7, (.int .i64 (l.getD (j : Int).toNat 0)))]) (by kernel_rfl) rfl ?_
      intro a50 hF51; clear hF49 a48
      refine From_end (by kernel_rfl) ?_
      refine W_seq (by kernel_rfl) ?_
      refine W_region (by kernel_rfl) ?_   -- region 8
      refine From_pure 2 2 [0, 1, 5, 6, 7, 26, 27] hF51 (env' := [(0, (.slice (some ⟨g0, 0, none⟩) l.length d)), (1, (.func (.func 34) #[] #[(.pointer (some ⟨q, 0, none⟩))])), (5, (.int .i64 ((kept (fun x => !(inR bs.length x)) l j).length : Int))), (6, (.int .i64 (j : Int))), (7, (.int .i64 (l.getD (j : Int).toNat 0))), (26, (.func (.func 34) #[] #[(.pointer (some ⟨q, 0, none⟩))])), (27, (.int .i64 (l.getD (j : Int).toNat 0)))]) (by kernel_rfl) rfl ?_
      intro a52 hF53; clear hF51 a50
      refine From_call (by kernel_rfl : coreAt _ 2 = some (some 28, (Go.Op.call { callee := (Go.Callee.value (Go.Operand.tmp 26)), args := #[(Go.Operand.tmp 27)], argTypes := #[3] }), 4, none)) hF53 (by kernel_rfl) (by kernel_rfl) (k' := 3) rfl (f := 34) (vs := [(.int .i64 (l.getD (j : Int).toNat 0))]) (cap := [(.pointer (some ⟨q, 0, none⟩))]) (by kernel_rfl) (by kernel_rfl) (by kernel_rfl) (tdel_c q nm wk pa va A c bs (l.getD (j : Int).toNat 0) w21 hm (hq.at_ hM22)) ?_
      rintro _ w54 ⟨rfl, hM55x⟩ a56 ea hF57; clear ea hF53 a52
      have hM55 : Mem ((Res.row 3 1 (some ⟨g0, 0, none⟩) l.length d (ints l)).fp) w w54 [.row 3 1 (some ⟨g0, 0, none⟩) l.length d (ints m)] := hM22.call hM55x
      clear hM55x hM22
      replace hF57 : Fr a56 42 (putE [(0, (.slice (some ⟨g0, 0, none⟩) l.length d)), (1, (.func (.func 34) #[] #[(.pointer (some ⟨q, 0, none⟩))])), (5, (.int .i64 ((kept (fun x => !(inR bs.length x)) l j).length : Int))), (6, (.int .i64 (j : Int))), (7, (.int .i64 (l.getD (j : Int).toNat 0))), (26, (.func (.func 34) #[] #[(.pointer (some ⟨q, 0, none⟩))])), (27, (.int .i64 (l.getD (j : Int).toNat 0)))] (some 28) (.bool (!(inR bs.length (l.getD (j : Int).toNat 0))))) := hF57
      obtain ⟨Bdel, hBdel⟩ : ∃ B, B = !(inR bs.length (l.getD (j : Int).toNat 0)) := ⟨_, rfl⟩
      rw [← hBdel] at hF57
      replace hF57 : Fr a56 42 [(0, (.slice (some ⟨g0, 0, none⟩) l.length d)), (1, (.func (.func 34) #[] #[(.pointer (some ⟨q, 0, none⟩))])), (5, (.int .i64 ((kept (fun x => !(inR bs.length x)) l j).length : Int))), (6, (.int .i64 (j : Int))), (7, (.int .i64 (l.getD (j : Int).toNat 0))), (28, (.bool Bdel))] := hF57.keep (keep := [0, 1, 5, 6, 7, 28]) (by kernel_rfl)
      refine From_pure 1 4 [0, 1, 5, 6, 7, 29] hF57 (env' := [(0, (.slice (some ⟨g0, 0, none⟩) l.length d)), (1, (.func (.func 34) #[] #[(.pointer (some ⟨q, 0, none⟩))])), (5, (.int .i64 ((kept (fun x => !(inR bs.length x)) l j).length : Int))), (6, (.int .i64 (j : Int))), (7, (.int .i64 (l.getD (j : Int).toNat 0))), (29, (.bool (!Bdel)))]) (by kernel_rfl) rfl ?_
      intro a58 hF59; clear hF57 a56
      refine From_end (by kernel_rfl) ?_
      cases Bdel
      · have cdel : (!(inR bs.length (l.getD (j : Int).toNat 0))) = false := hBdel.symm
        refine W_cond (t := 29) (B := true) (by kernel_rfl) hF59 (by kernel_rfl) (fun _ => ?_) (fun t => Bool.noConfusion t)
        refine W_seq (by kernel_rfl) ?_
        refine W_region (by kernel_rfl) ?_   -- region 9
        refine From_pure 3 3 [0, 1, 5, 6, 30, 31, 32] hF59 (env' := [(0, (.slice (some ⟨g0, 0, none⟩) l.length d)), (1, (.func (.func 34) #[] #[(.pointer (some ⟨q, 0, none⟩))])), (5, (.int .i64 ((kept (fun x => !(inR bs.length x)) l j).length : Int))), (6, (.int .i64 (j : Int))), (30, (.slice (some ⟨g0, 0, none⟩) l.length d)), (31, (.int .i64 ((kept (fun x => !(inR bs.length x)) l j).length : Int))), (32, (.int .i64 (l.getD (j : Int).toNat 0)))]) (by kernel_rfl) rfl ?_
        intro a60 hF61; clear hF59 a58
        refine From_index (by kernel_rfl : coreAt _ 3 = some (some 33, (Go.Op.indexAddr 27 (Go.Operand.tmp 30) (Go.Operand.tmp 31)), 0, none)) hF61 (by kernel_rfl) (by kernel_rfl) (k' := 4) rfl (A := (some ⟨g0, 0, none⟩)) (ad := ⟨g0, 0, none⟩) (n := l.length) (cap := d) (e := 3) (size := 1) (kd := .i64) (i := ((kept (fun x => !(inR bs.length x)) l j).length : Int)) (by kernel_rfl) (by kernel_rfl) rfl (by kernel_rfl) (by kernel_rfl) (by omega) (by have := hh.2.2.2; omega) ?_
        intro a62 ea hF63; clear ea hF61 a60
        replace hF63 : Fr a62 42 [(0, (.slice (some ⟨g0, 0, none⟩) l.length d)), (1, (.func (.func 34) #[] #[(.pointer (some ⟨q, 0, none⟩))])), (5, (.int .i64 ((kept (fun x => !(inR bs.length x)) l j).length : Int))), (6, (.int .i64 (j : Int))), (32, (.int .i64 (l.getD (j : Int).toNat 0))), (33, (.pointer (some ((⟨g0, 0, none⟩ : Addr).add ((((kept (fun x => !(inR bs.length x)) l j).length : Int)).toNat * 1)))))] := hF63.keep (keep := [0, 1, 5, 6, 32, 33]) (by kernel_rfl)
        refine From_store_row (by kernel_rfl : coreAt _ 4 = some (none, (Go.Op.store 3 (Go.Operand.tmp 33) (Go.Operand.tmp 32)), 0, none)) hF63 (by kernel_rfl) (by kernel_rfl) (k' := 5) rfl (ad := (⟨g0, 0, none⟩ : Addr)) (j := ((((kept (fun x => !(inR bs.length x)) l j).length : Int)).toNat * 1)) (e := 3) (size := 1) (n := l.length) (cap := d) (v := (.int .i64 (l.getD (j : Int).toNat 0))) (xs := (ints m)) (ad' := ((⟨g0, 0, none⟩ : Addr).add ((((kept (fun x => !(inR bs.length x)) l j).length : Int)).toNat * 1))) (by kernel_rfl) rfl (by kernel_rfl) (by kernel_rfl) rfl hM55 0 rfl (by have := hh.2.2.2; omega) ?_
        intro w64 hM65 _ a66 ea hF67; clear ea hF63 a62
        change Mem ((Res.row 3 1 (some ⟨g0, 0, none⟩) l.length d (ints l)).fp) w w64 [.row 3 1 (some ⟨g0, 0, none⟩) l.length d ((ints m).set ((((kept (fun x => !(inR bs.length x)) l j).length : Int)).toNat * 1) (.int .i64 (l.getD (j : Int).toNat 0)))] at hM65
        clear hM55
        replace hF67 : Fr a66 42 [(0, (.slice (some ⟨g0, 0, none⟩) l.length d)), (1, (.func (.func 34) #[] #[(.pointer (some ⟨q, 0, none⟩))])), (5, (.int .i64 ((kept (fun x => !(inR bs.length x)) l j).length : Int))), (6, (.int .i64 (j : Int)))] := hF67.keep (keep := [0, 1, 5, 6]) (by kernel_rfl)
        refine From_end (by kernel_rfl) ?_
        refine W_region (by kernel_rfl) ?_   -- region 10
        refine From_pure 1 1 [0, 1, 6, 34] hF67 (env' := [(0, (.slice (some ⟨g0, 0, none⟩) l.length d)), (1, (.func (.func 34) #[] #[(.pointer (some ⟨q, 0, none⟩))])), (6, (.int .i64 (j : Int))), (34, (.int .i64 ((kept (fun x => !(inR bs.length x)) l j).length : Int)))]) (by kernel_rfl) rfl ?_
        intro a68 hF69; clear hF67 a66
        refine From_arith (by kernel_rfl : coreAt _ 1 = some (some 35, (Go.Op.binOp Go.BinOp.add 3 (Go.Operand.tmp 34) (Go.Operand.const (Go.Value.int Go.IntKind.i64 1)) 3), 3, none)) hF69 (by kernel_rfl) (by kernel_rfl) (k' := 2) rfl (i := ((kept (fun x => !(inR bs.length x)) l j).length : Int)) (j := 1) (z := (((kept (fun x => !(inR bs.length x)) l j).length : Int) + 1)) (by kernel_rfl) (by kernel_rfl) rfl (by omega) (by have := hh.2.2.2; omega) ?_
        intro a70 ea hF71; clear ea hF69 a68
        replace hF71 : Fr a70 42 [(0, (.slice (some ⟨g0, 0, none⟩) l.length d)), (1, (.func (.func 34) #[] #[(.pointer (some ⟨q, 0, none⟩))])), (6, (.int .i64 (j : Int))), (35, (.int .i64 (((kept (fun x => !(inR bs.length x)) l j).length : Int) + 1)))] := hF71.keep (keep := [0, 1, 6, 35]) (by kernel_rfl)
        refine From_pure 1 3 [0, 1, 5, 6] hF71 (env' := [(0, (.slice (some ⟨g0, 0, none⟩) l.length d)), (1, (.func (.func 34) #[] #[(.pointer (some ⟨q, 0, none⟩))])), (5, (.int .i64 (((kept (fun x => !(inR bs.length x)) l j).length : Int) + 1))), (6, (.int .i64 (j : Int)))]) (by kernel_rfl) rfl ?_
        intro a72 hF73; clear hF71 a70
        refine From_end (by kernel_rfl) ?_
        refine W_region (by kernel_rfl) ?_   -- region 6
        refine From_pure 1 1 [0, 1, 5, 20] hF73 (env' := [(0, (.slice (some ⟨g0, 0, none⟩) l.length d)), (1, (.func (.func 34) #[] #[(.pointer (some ⟨q, 0, none⟩))])), (5, (.int .i64 (((kept (fun x => !(inR bs.length x)) l j).length : Int) + 1))), (20, (.int .i64 (j : Int)))]) (by kernel_rfl) rfl ?_
        intro a74 hF75; clear hF73 a72
        refine From_arith (by kernel_rfl : coreAt _ 1 = some (some 21, (Go.Op.binOp Go.BinOp.add 3 (Go.Operand.tmp 20) (Go.Operand.const (Go.Value.int Go.IntKind.i64 1)) 3), 3, none)) hF75 (by kernel_rfl) (by kernel_rfl) (k' := 2) rfl (i := (j : Int)) (j := 1) (z := ((j : Int) + 1)) (by kernel_rfl) (by kernel_rfl) rfl (by omega) (by omega) ?_
        intro a76 ea hF77; clear ea hF75 a74
        replace hF77 : Fr a76 42 [(0, (.slice (some ⟨g0, 0, none⟩) l.length d)), (1, (.func (.func 34) #[] #[(.pointer (some ⟨q, 0, none⟩))])), (5, (.int .i64 (((kept (fun x => !(inR bs.length x)) l j).length : Int) + 1))), (21, (.int .i64 ((j : Int) + 1)))] := hF77.keep (keep := [0, 1, 5, 21]) (by kernel_rfl)
        refine From_pure 1 3 [0, 1, 5, 6] hF77 (env' := [(0, (.slice (some ⟨g0, 0, none⟩) l.length d)), (1, (.func (.func 34) #[] #[(.pointer (some ⟨q, 0, none⟩))])), (5, (.int .i64 (((kept (fun x => !(inR bs.length x)) l j).length : Int) + 1))), (6, (.int .i64 ((j : Int) + 1)))]) (by kernel_rfl) rfl ?_
        intro a78 hF79; clear hF77 a76
        refine From_end (by kernel_rfl) ?_
        have hks := kept_yes (p := (fun x => !(inR bs.length x))) (show j < l.length by omega) cdel
        replace hF79 : Fr a78 42 [(0, .slice (some ⟨g0, 0, none⟩) l.length d), (1, ((.func (.func 34) #[] #[(.pointer (some ⟨q, 0, none⟩))]))), (5, (.int .i64 ((kept (fun x => !(inR bs.length x)) l (j + 1)).length : Int))), (6, (.int .i64 ((j : Int) + 1)))] := by rw [hks, List.length_append]; exact hF79.keep (keep := [0, 1, 5, 6]) (by kernel_rfl)
        exact ⟨l.length - (j + 1), by omega, j + 1, m.set (kept (fun x => !(inR bs.length x)) l j).length (l.getD (j : Int).toNat 0), rfl, hF79.keep (keep := [0, 1, 5, 6]) (by kernel_rfl), (hM65.cast (by rw [ints_set, Int.toNat_natCast, Nat.mul_one])), by omega, by rw [hks]; exact half_yes hh (by omega) _⟩
      · have cdel : (!(inR bs.length (l.getD (j : Int).toNat 0))) = true := hBdel.symm
        refine W_cond (t := 29) (B := false) (by kernel_rfl) hF59 (by kernel_rfl) (fun t => Bool.noConfusion t) (fun _ => ?_)
        refine W_skip (by kernel_rfl) ?_
        refine W_region (by kernel_rfl) ?_   -- region 6
        refine From_pure 1 1 [0, 1, 5, 20] hF59 (env' := [(0, (.slice (some ⟨g0, 0, none⟩) l.length d)), (1, (.func (.func 34) #[] #[(.pointer (some ⟨q, 0, none⟩))])), (5, (.int .i64 ((kept (fun x => !(inR bs.length x)) l j).length : Int))), (20, (.int .i64 (j : Int)))]) (by kernel_rfl) rfl ?_
        intro a80 hF81; clear hF59 a58
        refine From_arith (by kernel_rfl : coreAt _ 1 = some (some 21, (Go.Op.binOp Go.BinOp.add 3 (Go.Operand.tmp 20) (Go.Operand.const (Go.Value.int Go.IntKind.i64 1)) 3), 3, none)) hF81 (by kernel_rfl) (by kernel_rfl) (k' := 2) rfl (i := (j : Int)) (j := 1) (z := ((j : Int) + 1)) (by kernel_rfl) (by kernel_rfl) rfl (by omega) (by omega) ?_
        intro a82 ea hF83; clear ea hF81 a80
        replace hF83 : Fr a82 42 [(0, (.slice (some ⟨g0, 0, none⟩) l.length d)), (1, (.func (.func 34) #[] #[(.pointer (some ⟨q, 0, none⟩))])), (5, (.int .i64 ((kept (fun x => !(inR bs.length x)) l j).length : Int))), (21, (.int .i64 ((j : Int) + 1)))] := hF83.keep (keep := [0, 1, 5, 21]) (by kernel_rfl)
        refine From_pure 1 3 [0, 1, 5, 6] hF83 (env' := [(0, (.slice (some ⟨g0, 0, none⟩) l.length d)), (1, (.func (.func 34) #[] #[(.pointer (some ⟨q, 0, none⟩))])), (5, (.int .i64 ((kept (fun x => !(inR bs.length x)) l j).length : Int))), (6, (.int .i64 ((j : Int) + 1)))]) (by kernel_rfl) rfl ?_
        intro a84 hF85; clear hF83 a82
        refine From_end (by kernel_rfl) ?_
        have hks := kept_no (p := (fun x => !(inR bs.length x))) (show j < l.length by omega) cdel
        replace hF85 : Fr a84 42 [(0, .slice (some ⟨g0, 0, none⟩) l.length d), (1, ((.func (.func 34) #[] #[(.pointer (some ⟨q, 0, none⟩))]))), (5, (.int .i64 ((kept (fun x => !(inR bs.length x)) l (j + 1)).length : Int))), (6, (.int .i64 ((j : Int) + 1)))] := by rw [hks]; exact hF85.keep (keep := [0, 1, 5, 6]) (by kernel_rfl)
        exact ⟨l.length - (j + 1), by omega, j + 1, m, rfl, hF85.keep (keep := [0, 1, 5, 6]) (by kernel_rfl), hM55, by omega, by rw [hks]; exact half_no hh⟩
  · have cnone : (fidx (fun x => !(inR bs.length x)) l) = (-1) := by simpa using hBnone
    refine W_cond (t := 12) (B := true) (by kernel_rfl) hF14 (by kernel_rfl) (fun _ => ?_) (fun t => Bool.noConfusion t)
    refine W_seq (by kernel_rfl) ?_
    refine W_region (by kernel_rfl) ?_   -- region 3
    refine From_pure 2 2 [4] hF14 (env' := [(4, (.slice B l.length d))]) (by kernel_rfl) rfl ?_
    intro a86 hF87; clear hF14 a13
    refine From_end (by kernel_rfl) ?_
    refine W_ret (by kernel_rfl) ?_
    refine out1 (v := (.slice B l.length d)) hF87 rfl (by kernel_rfl) ?_
    refine ⟨_, rfl, ?_⟩
    exact ⟨B, d, by rw [any_filter cnone], hM6.cast (by rw [any_filter cnone])⟩

set_option maxRecDepth 10000 in
theorem targets_c (nm wk pa va : Value) (A : Option Addr) (c : Nat) (bs : List SB) (b : Int) (w : World) (hm : bs.length ≤ 1000000) (hA : RO noS w (.blocks A bs)) :
    Calls Try.prog 19 #[(.agg #[nm, wk, pa, va, (.slice A bs.length c)]), (.int .i64 b)] w (Ret fun v w' => ∃ A' c', v = .slice A' (tg bs b).length c' ∧ Mem noS w w' [.row 3 1 A' (tg bs b).length c' (ints (tg bs b))]) := by
  refine enter (N := 45) (vs := [(.agg #[nm, wk, pa, va, (.slice A bs.length c)]), (.int .i64 b)]) Try.func19 (by kernel_rfl) (by kernel_rfl) (by kernel_rfl) ?_
  intro a hF
  have hM := Mem.init w
  refine W_seq (by kernel_rfl) ?_
  refine W_region (by kernel_rfl) ?_   -- region 0
  refine From_box (by kernel_rfl : coreAt _ 0 = some (some 2, (Go.Op.box 24 (Go.Operand.tmp 0)), 0, none)) hF (by kernel_rfl) (by kernel_rfl) (k' := 1) rfl (v := (.agg #[nm, wk, pa, va, (.slice A bs.length c)])) (cs := [nm, wk, pa, va, (.slice A bs.length c)]) (by kernel_rfl) rfl hM ?_
  intro b1 w2 hb1 _ hM3 _ a4 ea hF5; clear ea hF a
  change Mem noS w w2 [.blk b1 24 [nm, wk, pa, va, (.slice A bs.length c)]] at hM3
  clear hM
  replace hF5 : Fr a4 45 [(1, (.int .i64 b)), (2, (.pointer (some ⟨b1, 0, none⟩)))] := hF5.keep (keep := [1, 2]) (by kernel_rfl)
  refine From_pure 1 2 [1, 2] hF5 (env' := [(1, (.int .i64 b)), (2, (.pointer (some ⟨b1, 0, none⟩)))]) (by kernel_rfl) rfl ?_
  intro a6 hF7; clear hF5 a4
  refine From_end (by kernel_rfl) ?_
  refine W_seq (by kernel_rfl) ?_
  refine W_seq (by kernel_rfl) ?_
  refine W_region (by kernel_rfl) ?_   -- region 1
  refine From_pure 1 1 [1, 2, 7] hF7 (env' := [(1, (.int .i64 b)), (2, (.pointer (some ⟨b1, 0, none⟩))), (7, (.int .i64 b))]) (by kernel_rfl) rfl ?_
  intro a8 hF9; clear hF7 a6
  refine From_cmp (by kernel_rfl : coreAt _ 1 = some (some 8, (Go.Op.binOp Go.BinOp.lss 3 (Go.Operand.tmp 7) (Go.Operand.const (Go.Value.int Go.IntKind.i64 0)) 3), 4, none)) hF9 (by kernel_rfl) (by kernel_rfl) (k' := 2) rfl (kd := .i64) (i := b) (j := 0) (by kernel_rfl) (by kernel_rfl) rfl ?_
  intro Blo hBlo a10 ea hF11; clear ea hF9 a8
  replace hF11 : Fr a10 45 [(1, (.int .i64 b)), (2, (.pointer (some ⟨b1, 0, none⟩))), (8, (.bool Blo))] := hF11.keep (keep := [1, 2, 8]) (by kernel_rfl)
  refine From_pure 1 3 [1, 2, 9] hF11 (env' := [(1, (.int .i64 b)), (2, (.pointer (some ⟨b1, 0, none⟩))), (9, (.bool Blo))]) (by kernel_rfl) rfl ?_
  intro a12 hF13; clear hF11 a10
  cases Blo
  · have clo : ¬ (b < 0) := by simpa using hBlo
    refine From_pure 2 5 [1, 2, 9, 10, 11] hF13 (env' := [(1, (.int .i64 b)), (2, (.pointer (some ⟨b1, 0, none⟩))), (9, (.bool false)), (10, (.int .i64 b)), (11, (.pointer (some ⟨b1, 4, none⟩)))]) (by kernel_rfl) rfl ?_
    intro a14 hF15; clear hF13 a12
    refine From_load1 (by kernel_rfl : coreAt _ 5 = some (some 12, (Go.Op.load 22 (Go.Operand.tmp 11)), 22, some (2, false))) hF15 (by kernel_rfl) (by kernel_rfl) (k' := 6) rfl (ad := ⟨b1, 4, none⟩) (v := (.slice A bs.length c)) (by kernel_rfl) (by kernel_rfl) (blk_cell (hM3.get 0 rfl) rfl) ?_
    intro a16 ea hF17; clear ea hF15 a14
    replace hF17 : Fr a16 45 [(1, (.int .i64 b)), (2, (.pointer (some ⟨b1, 0, none⟩))), (9, (.bool false)), (10, (.int .i64 b)), (12, (.slice A bs.length c))] := hF17.keep (keep := [1, 2, 9, 10, 12]) (by kernel_rfl)
    refine From_pure 1 7 [1, 2, 9, 10, 13] hF17 (env' := [(1, (.int .i64 b)), (2, (.pointer (some ⟨b1, 0, none⟩))), (9, (.bool false)), (10, (.int .i64 b)), (13, (.int .i64 ((bs.length : Nat) : Int)))]) (by kernel_rfl) rfl ?_
    intro a18 hF19; clear hF17 a16
    refine From_cmp (by kernel_rfl : coreAt _ 7 = some (some 14, (Go.Op.binOp Go.BinOp.geq 3 (Go.Operand.tmp 10) (Go.Operand.tmp 13) 3), 4, some (2, false))) hF19 (by kernel_rfl) (by kernel_rfl) (k' := 8) rfl (kd := .i64) (i := b) (j := ((bs.length : Nat) : Int)) (by kernel_rfl) (by kernel_rfl) rfl ?_
    intro Bhi hBhi a20 ea hF21; clear ea hF19 a18
    replace hF21 : Fr a20 45 [(1, (.int .i64 b)), (2, (.pointer (some ⟨b1, 0, none⟩))), (9, (.bool false)), (14, (.bool Bhi))] := hF21.keep (keep := [1, 2, 9, 14]) (by kernel_rfl)
    refine From_pure 1 9 [1, 2, 15] hF21 (env' := [(1, (.int .i64 b)), (2, (.pointer (some ⟨b1, 0, none⟩))), (15, (.bool Bhi))]) (by kernel_rfl) rfl ?_
    intro a22 hF23; clear hF21 a20
    refine From_end (by kernel_rfl) ?_
    cases Bhi
    · have chi : ¬ (b ≥ ((bs.length : Nat) : Int)) := by simpa using hBhi
      refine W_cond (t := 15) (B := false) (by kernel_rfl) hF23 (by kernel_rfl) (fun t => Bool.noConfusion t) (fun _ => ?_)
      refine W_skip (by kernel_rfl) ?_
      refine W_seq (by kernel_rfl) ?_
      refine W_region (by kernel_rfl) ?_   -- region 3
      obtain ⟨x, hx⟩ := get_lt (l := bs) (i := b) (by omega) (by omega)
      refine From_pure 1 1 [1, 2, 16] hF23 (env' := [(1, (.int .i64 b)), (2, (.pointer (some ⟨b1, 0, none⟩))), (16, (.pointer (some ⟨b1, 4, none⟩)))]) (by kernel_rfl) rfl ?_
      intro a24 hF25; clear hF23 a22
      refine From_load1 (by kernel_rfl : coreAt _ 1 = some (some 17, (Go.Op.load 22 (Go.Operand.tmp 16)), 22, none)) hF25 (by kernel_rfl) (by kernel_rfl) (k' := 2) rfl (ad := ⟨b1, 4, none⟩) (v := (.slice A bs.length c)) (by kernel_rfl) (by kernel_rfl) (blk_cell (hM3.get 0 rfl) rfl) ?_
      intro a26 ea hF27; clear ea hF25 a24
      replace hF27 : Fr a26 45 [(1, (.int .i64 b)), (2, (.pointer (some ⟨b1, 0, none⟩))), (17, (.slice A bs.length c))] := hF27.keep (keep := [1, 2, 17]) (by kernel_rfl)
      refine From_pure 1 3 [2, 17, 18] hF27 (env' := [(2, (.pointer (some ⟨b1, 0, none⟩))), (17, (.slice A bs.length c)), (18, (.int .i64 b))]) (by kernel_rfl) rfl ?_
      intro a28 hF29; clear hF27 a26
      obtain ⟨ad30, rfl⟩ := blocks_some (hM3.ro hA) hx
      refine From_index (by kernel_rfl : coreAt _ 3 = some (some 19, (Go.Op.indexAddr 22 (Go.Operand.tmp 17) (Go.Operand.tmp 18)), 0, none)) hF29 (by kernel_rfl) (by kernel_rfl) (k' := 4) rfl (A := (some ad30)) (ad := ad30) (n := bs.length) (cap := c) (e := 38) (size := 6) (kd := .i64) (i := b) (by kernel_rfl) (by kernel_rfl) rfl (by kernel_rfl) (by kernel_rfl) (by omega) (by omega) ?_
      intro a31 ea hF32; clear ea hF29 a28
      replace hF32 : Fr a31 45 [(2, (.pointer (some ⟨b1, 0, none⟩))), (19, (.pointer (some ((ad30 : Addr).add ((b).toNat * 6)))))] := hF32.keep (keep := [2, 19]) (by kernel_rfl)
      refine From_loadS (by kernel_rfl : coreAt _ 4 = some (some 20, (Go.Op.load 38 (Go.Operand.tmp 19)), 38, none)) hF32 (by kernel_rfl) (by kernel_rfl) (k' := 5) rfl (ad := ((ad30 : Addr).add ((b).toNat * 6))) (vs := [(.slice x.pA x.pn x.pc), (.slice x.iA x.ik x.ic), (.int .i64 x.e), (.int .i64 x.v), (.int .i64 x.a), (.int .i64 x.b)]) (by kernel_rfl) (by kernel_rfl) (blocks_get (hM3.ro hA) rfl hx) ?_
      intro a33 ea hF34; clear ea hF32 a31
      replace hF34 : Fr a33 45 [(2, (.pointer (some ⟨b1, 0, none⟩))), (20, (.agg #[(.slice x.pA x.pn x.pc), (.slice x.iA x.ik x.ic), (.int .i64 x.e), (.int .i64 x.v), (.int .i64 x.a), (.int .i64 x.b)]))] := hF34.keep (keep := [2, 20]) (by kernel_rfl)
      refine From_alloc (by kernel_rfl : coreAt _ 5 = some (some 5, (Go.Op.alloc 38), 0, none)) hF34 (by kernel_rfl) (by kernel_rfl) (k' := 6) rfl (cs := [(.slice none 0 0), (.slice none 0 0), (.int .i64 0), (.int .i64 0), (.int .i64 0), (.int .i64 0)]) (by kernel_rfl) hM3 ?_
      intro b35 w36 hb35 _ hM37 _ a38 ea hF39; clear ea hF34 a33
      change Mem noS w w36 [.blk b1 24 [nm, wk, pa, va, (.slice (some ad30) bs.length c)], .blk b35 38 [(.slice none 0 0), (.slice none 0 0), (.int .i64 0), (.int .i64 0), (.int .i64 0), (.int .i64 0)]] at hM37
      clear hM3
      replace hF39 : Fr a38 45 [(2, (.pointer (some ⟨b1, 0, none⟩))), (5, (.pointer (some ⟨b35, 0, none⟩))), (20, (.agg #[(.slice x.pA x.pn x.pc), (.slice x.iA x.ik x.ic), (.int .i64 x.e), (.int .i64 x.v), (.int .i64 x.a), (.int .i64 x.b)]))] := hF39.keep (keep := [2, 5, 20]) (by kernel_rfl)
      refine From_storeS_blk (by kernel_rfl : coreAt _ 6 = some (none, (Go.Op.store 38 (Go.Operand.tmp 5) (Go.Operand.tmp 20)), 0, none)) hF39 (by kernel_rfl) (by kernel_rfl) (k' := 7) rfl (b := b35) (t0 := 38) (vs := [(.slice x.pA x.pn x.pc), (.slice x.iA x.ik x.ic), (.int .i64 x.e), (.int .i64 x.v), (.int .i64 x.a), (.int .i64 x.b)]) (cs := [(.slice none 0 0), (.slice none 0 0), (.int .i64 0), (.int .i64 0), (.int .i64 0), (.int .i64 0)]) (by kernel_rfl) (by kernel_rfl) (by kernel_rfl) (by simp only [List.mem_cons, List.not_mem_nil, or_false]; intro v hv; rcases hv with rfl | rfl | rfl | rfl | rfl | rfl <;> first | rfl | assumption) hM37 1 rfl rfl ?_
      intro w40 hM41 _ a42 ea hF43; clear ea hF39 a38
      change Mem noS w w40 [.blk b1 24 [nm, wk, pa, va, (.slice (some ad30) bs.length c)], .blk b35 38 [(.slice x.pA x.pn x.pc), (.slice x.iA x.ik x.ic), (.int .i64 x.e), (.int .i64 x.v), (.int .i64 x.a), (.int .i64 x.b)]] at hM41
      clear hM37
      replace hF43 : Fr a42 45 [(2, (.pointer (some ⟨b1, 0, none⟩))), (5, (.pointer (some ⟨b35, 0, none⟩)))] := hF43.keep (keep := [2, 5]) (by kernel_rfl)
      refine From_end (by kernel_rfl) ?_
      refine W_seq (by kernel_rfl) ?_
      refine W_region (by kernel_rfl) ?_   -- region 4
      refine From_pure 1 1 [2, 5, 6] hF43 (env' := [(2, (.pointer (some ⟨b1, 0, none⟩))), (5, (.pointer (some ⟨b35, 0, none⟩))), (6, (.slice none 0 0))]) (by kernel_rfl) rfl ?_
      intro a44 hF45; clear hF43 a42
      refine From_end (by kernel_rfl) ?_
      refine W_seq (by kernel_rfl) ?_
      refine W_seq (by kernel_rfl) ?_
      refine W_region (by kernel_rfl) ?_   -- region 5
      refine From_pure 1 1 [2, 5, 6, 21] hF45 (env' := [(2, (.pointer (some ⟨b1, 0, none⟩))), (5, (.pointer (some ⟨b35, 0, none⟩))), (6, (.slice none 0 0)), (21, (.pointer (some ⟨b35, 2, none⟩)))]) (by kernel_rfl) rfl ?_
      intro a46 hF47; clear hF45 a44
      refine From_load1 (by kernel_rfl : coreAt _ 1 = some (some 22, (Go.Op.load 3 (Go.Operand.tmp 21)), 3, none)) hF47 (by kernel_rfl) (by kernel_rfl) (k' := 2) rfl (ad := ⟨b35, 2, none⟩) (v := (.int .i64 x.e)) (by kernel_rfl) (by kernel_rfl) (blk_cell (hM41.get 1 rfl) rfl) ?_
      intro a48 ea hF49; clear ea hF47 a46
      replace hF49 : Fr a48 45 [(2, (.pointer (some ⟨b1, 0, none⟩))), (5, (.pointer (some ⟨b35, 0, none⟩))), (6, (.slice none 0 0)), (22, (.int .i64 x.e))] := hF49.keep (keep := [2, 5, 6, 22]) (by kernel_rfl)
      refine From_end (by kernel_rfl) ?_
      refine W_block (id := 0) (by kernel_rfl) ?_
      refine W_seq (by kernel_rfl) ?_
      refine W_region (by kernel_rfl) ?_   -- region 6
      refine From_cmp (by kernel_rfl : coreAt _ 0 = some (some 24, (Go.Op.binOp Go.BinOp.eql 3 (Go.Operand.tmp 22) (Go.Operand.const (Go.Value.int Go.IntKind.i64 0)) 3), 4, none)) hF49 (by kernel_rfl) (by kernel_rfl) (k' := 1) rfl (kd := .i64) (i := x.e) (j := 0) (by kernel_rfl) (by kernel_rfl) rfl ?_
      intro Be0 hBe0 a50 ea hF51; clear ea hF49 a48
      replace hF51 : Fr a50 45 [(2, (.pointer (some ⟨b1, 0, none⟩))), (5, (.pointer (some ⟨b35, 0, none⟩))), (6, (.slice none 0 0)), (22, (.int .i64 x.e)), (24, (.bool Be0))] := hF51.keep (keep := [2, 5, 6, 22, 24]) (by kernel_rfl)
      refine From_pure 1 2 [2, 5, 6, 22, 23] hF51 (env' := [(2, (.pointer (some ⟨b1, 0, none⟩))), (5, (.pointer (some ⟨b35, 0, none⟩))), (6, (.slice none 0 0)), (22, (.int .i64 x.e)), (23, (.bool Be0))]) (by kernel_rfl) rfl ?_
      intro a52 hF53; clear hF51 a50
      refine From_end (by kernel_rfl) ?_
      cases Be0
      · have ce0 : ¬ (x.e = 0) := by simpa using hBe0
        refine W_cond (t := 23) (B := false) (by kernel_rfl) hF53 (by kernel_rfl) (fun t => Bool.noConfusion t) (fun _ => ?_)
        refine W_seq (by kernel_rfl) ?_
        refine W_region (by kernel_rfl) ?_   -- region 8
        refine From_cmp (by kernel_rfl : coreAt _ 0 = some (some 29, (Go.Op.binOp Go.BinOp.eql 3 (Go.Operand.tmp 22) (Go.Operand.const (Go.Value.int Go.IntKind.i64 1)) 3), 4, none)) hF53 (by kernel_rfl) (by kernel_rfl) (k' := 1) rfl (kd := .i64) (i := x.e) (j := 1) (by kernel_rfl) (by kernel_rfl) rfl ?_
        intro Be1 hBe1 a54 ea hF55; clear ea hF53 a52
        replace hF55 : Fr a54 45 [(2, (.pointer (some ⟨b1, 0, none⟩))), (5, (.pointer (some ⟨b35, 0, none⟩))), (6, (.slice none 0 0)), (29, (.bool Be1))] := hF55.keep (keep := [2, 5, 6, 29]) (by kernel_rfl)
        refine From_pure 1 2 [2, 5, 6, 28] hF55 (env' := [(2, (.pointer (some ⟨b1, 0, none⟩))), (5, (.pointer (some ⟨b35, 0, none⟩))), (6, (.slice none 0 0)), (28, (.bool Be1))]) (by kernel_rfl) rfl ?_
        intro a56 hF57; clear hF55 a54
        refine From_end (by kernel_rfl) ?_
        cases Be1
        · have ce1 : ¬ (x.e = 1) := by simpa using hBe1
          refine W_cond (t := 28) (B := false) (by kernel_rfl) hF57 (by kernel_rfl) (fun t => Bool.noConfusion t) (fun _ => ?_)
          refine W_skip (by kernel_rfl) ?_
          refine W_seq (by kernel_rfl) ?_
          refine W_region (by kernel_rfl) ?_   -- region 12
          refine From_pure 2 2 [42, 43] hF57 (env' := [(42, (.slice none 0 0)), (43, (.func (.func 34) #[] #[(.pointer (some ⟨b1, 0, none⟩))]))]) (by kernel_rfl) rfl ?_
          intro a58 hF59; clear hF57 a56
          have hM60 : Mem noS w w40 [.blk b1 24 [nm, wk, pa, va, (.slice (some ad30) bs.length c)], .blk b35 38 [(.slice x.pA x.pn x.pc), (.slice x.iA x.ik x.ic), (.int .i64 x.e), (.int .i64 x.v), (.int .i64 x.a), (.int .i64 x.b)], .row 3 1 none 0 0 []] := hM41.call (Mem.nilrow _ 3 1)
          clear hM41
          refine From_call (by kernel_rfl : coreAt _ 2 = some (some 44, (Go.Op.call { callee := (Go.Callee.value (Go.Operand.func 33)), args := #[(Go.Operand.tmp 42), (Go.Operand.tmp 43)], argTypes := #[27, 51] }), 27, none)) hF59 (by kernel_rfl) (by kernel_rfl) (k' := 3) rfl (f := 33) (vs := [(.slice none 0 0), (.func (.func 34) #[] #[(.pointer (some ⟨b1, 0, none⟩))])]) (cap := []) (by kernel_rfl) (by kernel_rfl) (by kernel_rfl) (deletef_c [] none 0 b1 nm wk pa va _ c bs w40 (by simp) (hM60.get 2 rfl) hm (hM60.own_but 0 2 rfl rfl (by decide))) ?_
          rintro _ w63 ⟨A61, c62, rfl, hM64x⟩ a65 ea hF66; clear ea hF59 a58
          have hM64 : Mem noS w w63 [.blk b1 24 [nm, wk, pa, va, (.slice (some ad30) bs.length c)], .blk b35 38 [(.slice x.pA x.pn x.pc), (.slice x.iA x.ik x.ic), (.int .i64 x.e), (.int .i64 x.v), (.int .i64 x.a), (.int .i64 x.b)], .row 3 1 A61 (([].filter (fun x => !((fun x => !(inR bs.length x)) x))).length) c62 (ints ([].filter (fun x => !((fun x => !(inR bs.length x)) x))))] := hM60.mod 2 rfl hM64x
          clear hM64x hM60
          replace hF66 : Fr a65 45 [(44, (.slice A61 (([].filter (fun x => !((fun x => !(inR bs.length x)) x))).length) c62))] := hF66.keep (keep := [44]) (by kernel_rfl)
          refine From_pure 1 4 [4] hF66 (env' := [(4, (.slice A61 (([].filter (fun x => !((fun x => !(inR bs.length x)) x))).length) c62))]) (by kernel_rfl) rfl ?_
          intro a67 hF68; clear hF66 a65
          refine From_end (by kernel_rfl) ?_
          refine W_ret (by kernel_rfl) ?_
          refine out1 (v := (.slice A61 (([].filter (fun x => !((fun x => !(inR bs.length x)) x))).length) c62)) hF68 rfl (by kernel_rfl) ?_
          refine ⟨_, rfl, ?_⟩
          exact row_ret (hM64.pick [false, false, true] rfl) (by rw [tg_in (by omega) hx]; exact tgx_none ce0 ce1) rfl
        · have ce1 : x.e = 1 := by simpa using hBe1
          refine W_cond (t := 28) (B := true) (by kernel_rfl) hF57 (by kernel_rfl) (fun _ => ?_) (fun t => Bool.noConfusion t)
          refine W_seq (by kernel_rfl) ?_
          refine W_region (by kernel_rfl) ?_   -- region 9
          refine From_pure 1 1 [2, 5, 30] hF57 (env' := [(2, (.pointer (some ⟨b1, 0, none⟩))), (5, (.pointer (some ⟨b35, 0, none⟩))), (30, (.pointer (some ⟨b35, 4, none⟩)))]) (by kernel_rfl) rfl ?_
          intro a69 hF70; clear hF57 a56
          refine From_load1 (by kernel_rfl : coreAt _ 1 = some (some 31, (Go.Op.load 3 (Go.Operand.tmp 30)), 3, none)) hF70 (by kernel_rfl) (by kernel_rfl) (k' := 2) rfl (ad := ⟨b35, 4, none⟩) (v := (.int .i64 x.a)) (by kernel_rfl) (by kernel_rfl) (blk_cell (hM41.get 1 rfl) rfl) ?_
          intro a71 ea hF72; clear ea hF70 a69
          replace hF72 : Fr a71 45 [(2, (.pointer (some ⟨b1, 0, none⟩))), (5, (.pointer (some ⟨b35, 0, none⟩))), (31, (.int .i64 x.a))] := hF72.keep (keep := [2, 5, 31]) (by kernel_rfl)
          refine From_pure 1 3 [2, 5, 31, 32] hF72 (env' := [(2, (.pointer (some ⟨b1, 0, none⟩))), (5, (.pointer (some ⟨b35, 0, none⟩))), (31, (.int .i64 x.a)), (32, (.pointer (some ⟨b35, 5, none⟩)))]) (by kernel_rfl) rfl ?_
          intro a73 hF74; clear hF72 a71
          refine From_load1 (by kernel_rfl : coreAt _ 3 = some (some 33, (Go.Op.load 3 (Go.Operand.tmp 32)), 3, none)) hF74 (by kernel_rfl) (by kernel_rfl) (k' := 4) rfl (ad := ⟨b35, 5, none⟩) (v := (.int .i64 x.b)) (by kernel_rfl) (by kernel_rfl) (blk_cell (hM41.get 1 rfl) rfl) ?_
          intro a75 ea hF76; clear ea hF74 a73
          replace hF76 : Fr a75 45 [(2, (.pointer (some ⟨b1, 0, none⟩))), (5, (.pointer (some ⟨b35, 0, none⟩))), (31, (.int .i64 x.a)), (33, (.int .i64 x.b))] := hF76.keep (keep := [2, 5, 31, 33]) (by kernel_rfl)
          refine From_buildSlice (by kernel_rfl : coreAt _ 4 = some (some 34, (Go.Op.buildSlice 27 2 #[(0, (Go.Operand.tmp 31)), (1, (Go.Operand.tmp 33))]), 27, none)) hF76 (by kernel_rfl) (by kernel_rfl) (k' := 5) rfl (e := 3) (size := 1) (zs := [(.int .i64 0)]) (vs := [(0, (.int .i64 x.a)), (1, (.int .i64 x.b))]) (cs := [(.int .i64 x.a), (.int .i64 x.b)]) (by kernel_rfl) (by kernel_rfl) (by kernel_rfl) (by kernel_rfl) (by kernel_rfl) (by kernel_rfl) hM41 ?_
          intro b77 w78 hb77 _ hM79 _ a80 ea hF81; clear ea hF76 a75
          change Mem noS w w78 [.blk b1 24 [nm, wk, pa, va, (.slice (some ad30) bs.length c)], .blk b35 38 [(.slice x.pA x.pn x.pc), (.slice x.iA x.ik x.ic), (.int .i64 x.e), (.int .i64 x.v), (.int .i64 x.a), (.int .i64 x.b)], .row 3 1 (some ⟨b77, 0, none⟩) 2 2 [(.int .i64 x.a), (.int .i64 x.b)]] at hM79
          clear hM41
          replace hF81 : Fr a80 45 [(2, (.pointer (some ⟨b1, 0, none⟩))), (5, (.pointer (some ⟨b35, 0, none⟩))), (34, (.slice (some ⟨b77, 0, none⟩) 2 2))] := hF81.keep (keep := [2, 5, 34]) (by kernel_rfl)
          refine From_pure 1 6 [2, 5, 6] hF81 (env' := [(2, (.pointer (some ⟨b1, 0, none⟩))), (5, (.pointer (some ⟨b35, 0, none⟩))), (6, (.slice (some ⟨b77, 0, none⟩) 2 2))]) (by kernel_rfl) rfl ?_
          intro a82 hF83; clear hF81 a80
          refine From_end (by kernel_rfl) ?_
          refine W_seq (by kernel_rfl) ?_
          refine W_region (by kernel_rfl) ?_   -- region 10
          refine From_pure 1 1 [2, 5, 6, 35] hF83 (env' := [(2, (.pointer (some ⟨b1, 0, none⟩))), (5, (.pointer (some ⟨b35, 0, none⟩))), (6, (.slice (some ⟨b77, 0, none⟩) 2 2)), (35, (.pointer (some ⟨b35, 4, none⟩)))]) (by kernel_rfl) rfl ?_
          intro a84 hF85; clear hF83 a82
          refine From_load1 (by kernel_rfl : coreAt _ 1 = some (some 36, (Go.Op.load 3 (Go.Operand.tmp 35)), 3, none)) hF85 (by kernel_rfl) (by kernel_rfl) (k' := 2) rfl (ad := ⟨b35, 4, none⟩) (v := (.int .i64 x.a)) (by kernel_rfl) (by kernel_rfl) (blk_cell (hM79.get 1 rfl) rfl) ?_
          intro a86 ea hF87; clear ea hF85 a84
          replace hF87 : Fr a86 45 [(2, (.pointer (some ⟨b1, 0, none⟩))), (5, (.pointer (some ⟨b35, 0, none⟩))), (6, (.slice (some ⟨b77, 0, none⟩) 2 2)), (36, (.int .i64 x.a))] := hF87.keep (keep := [2, 5, 6, 36]) (by kernel_rfl)
          refine From_pure 1 3 [2, 6, 36, 37] hF87 (env' := [(2, (.pointer (some ⟨b1, 0, none⟩))), (6, (.slice (some ⟨b77, 0, none⟩) 2 2)), (36, (.int .i64 x.a)), (37, (.pointer (some ⟨b35, 5, none⟩)))]) (by kernel_rfl) rfl ?_
          intro a88 hF89; clear hF87 a86
          refine From_load1 (by kernel_rfl : coreAt _ 3 = some (some 38, (Go.Op.load 3 (Go.Operand.tmp 37)), 3, none)) hF89 (by kernel_rfl) (by kernel_rfl) (k' := 4) rfl (ad := ⟨b35, 5, none⟩) (v := (.int .i64 x.b)) (by kernel_rfl) (by kernel_rfl) (blk_cell (hM79.get 1 rfl) rfl) ?_
          intro a90 ea hF91; clear ea hF89 a88
          replace hF91 : Fr a90 45 [(2, (.pointer (some ⟨b1, 0, none⟩))), (6, (.slice (some ⟨b77, 0, none⟩) 2 2)), (36, (.int .i64 x.a)), (38, (.int .i64 x.b))] := hF91.keep (keep := [2, 6, 36, 38]) (by kernel_rfl)
          refine From_cmp (by kernel_rfl : coreAt _ 4 = some (some 39, (Go.Op.binOp Go.BinOp.eql 3 (Go.Operand.tmp 36) (Go.Operand.tmp 38) 3), 4, none)) hF91 (by kernel_rfl) (by kernel_rfl) (k' := 5) rfl (kd := .i64) (i := x.a) (j := x.b) (by kernel_rfl) (by kernel_rfl) rfl ?_
          intro Bab hBab a92 ea hF93; clear ea hF91 a90
          replace hF93 : Fr a92 45 [(2, (.pointer (some ⟨b1, 0, none⟩))), (6, (.slice (some ⟨b77, 0, none⟩) 2 2)), (39, (.bool Bab))] := hF93.keep (keep := [2, 6, 39]) (by kernel_rfl)
          refine From_end (by kernel_rfl) ?_
          cases Bab
          · have cab : ¬ (x.a = x.b) := by simpa using hBab
            refine W_cond (t := 39) (B := false) (by kernel_rfl) hF93 (by kernel_rfl) (fun t => Bool.noConfusion t) (fun _ => ?_)
            refine W_skip (by kernel_rfl) ?_
            refine W_seq (by kernel_rfl) ?_
            refine W_region (by kernel_rfl) ?_   -- region 12
            refine From_pure 2 2 [42, 43] hF93 (env' := [(42, (.slice (some ⟨b77, 0, none⟩) 2 2)), (43, (.func (.func 34) #[] #[(.pointer (some ⟨b1, 0, none⟩))]))]) (by kernel_rfl) rfl ?_
            intro a94 hF95; clear hF93 a92
            refine From_call (by kernel_rfl : coreAt _ 2 = some (some 44, (Go.Op.call { callee := (Go.Callee.value (Go.Operand.func 33)), args := #[(Go.Operand.tmp 42), (Go.Operand.tmp 43)], argTypes := #[27, 51] }), 27, none)) hF95 (by kernel_rfl) (by kernel_rfl) (k' := 3) rfl (f := 33) (vs := [(.slice (some ⟨b77, 0, none⟩) 2 2), (.func (.func 34) #[] #[(.pointer (some ⟨b1, 0, none⟩))])]) (cap := []) (by kernel_rfl) (by kernel_rfl) (by kernel_rfl) (deletef_c [x.a, x.b] (some ⟨b77, 0, none⟩) 2 b1 nm wk pa va _ c bs w78 (by simp) (hM79.get 2 rfl) hm (hM79.own_but 0 2 rfl rfl (by decide))) ?_
            rintro _ w98 ⟨A96, c97, rfl, hM99x⟩ a100 ea hF101; clear ea hF95 a94
            have hM99 : Mem noS w w98 [.blk b1 24 [nm, wk, pa, va, (.slice (some ad30) bs.length c)], .blk b35 38 [(.slice x.pA x.pn x.pc), (.slice x.iA x.ik x.ic), (.int .i64 x.e), (.int .i64 x.v), (.int .i64 x.a), (.int .i64 x.b)], .row 3 1 A96 (([x.a, x.b].filter (fun x => !((fun x => !(inR bs.length x)) x))).length) c97 (ints ([x.a, x.b].filter (fun x => !((fun x => !(inR bs.length x)) x))))] := hM79.mod 2 rfl hM99x
            clear hM99x hM79
            replace hF101 : Fr a100 45 [(44, (.slice A96 (([x.a, x.b].filter (fun x => !((fun x => !(inR bs.length x)) x))).length) c97))] := hF101.keep (keep := [44]) (by kernel_rfl)
            refine From_pure 1 4 [4] hF101 (env' := [(4, (.slice A96 (([x.a, x.b].filter (fun x => !((fun x => !(inR bs.length x)) x))).length) c97))]) (by kernel_rfl) rfl ?_
            intro a102 hF103; clear hF101 a100
            refine From_end (by kernel_rfl) ?_
            refine W_ret (by kernel_rfl) ?_
            refine out1 (v := (.slice A96 (([x.a, x.b].filter (fun x => !((fun x => !(inR bs.length x)) x))).length) c97)) hF103 rfl (by kernel_rfl) ?_
            refine ⟨_, rfl, ?_⟩
            exact row_ret (hM99.pick [false, false, true] rfl) (by rw [tg_in (by omega) hx]; exact tgx_two (by omega) (by omega)) rfl
          · have cab : x.a = x.b := by simpa using hBab
            refine W_cond (t := 39) (B := true) (by kernel_rfl) hF93 (by kernel_rfl) (fun _ => ?_) (fun t => Bool.noConfusion t)
            refine W_region (by kernel_rfl) ?_   -- region 11
            refine From_pure 1 1 [2, 40] hF93 (env' := [(2, (.pointer (some ⟨b1, 0, none⟩))), (40, (.slice (some ⟨b77, 0, none⟩) 2 2))]) (by kernel_rfl) rfl ?_
            intro a104 hF105; clear hF93 a92
            refine From_sliceHi (by kernel_rfl : coreAt _ 1 = some (some 41, (Go.Op.slice 27 (Go.Operand.tmp 40) none (some (Go.Operand.const (Go.Value.int Go.IntKind.i64 1))) none), 27, none)) hF105 (by kernel_rfl) (by kernel_rfl) (k' := 2) rfl (A := (some ⟨b77, 0, none⟩)) (n := 2) (cap := 2) (e := 3) (size := 1) (kd := .i64) (i := 1) 1 (by kernel_rfl) (by kernel_rfl) rfl (by kernel_rfl) (by kernel_rfl) (by decide) ?_
            intro a106 ea hF107; clear ea hF105 a104
            have hM108 : Mem noS w w78 [.blk b1 24 [nm, wk, pa, va, (.slice (some ad30) bs.length c)], .blk b35 38 [(.slice x.pA x.pn x.pc), (.slice x.iA x.ik x.ic), (.int .i64 x.e), (.int .i64 x.v), (.int .i64 x.a), (.int .i64 x.b)], .row 3 1 (some ⟨b77, 0, none⟩) 1 2 [.int .i64 x.a]] := hM79.take_row 2 rfl 1 (by decide)
            clear hM79
            replace hF107 : Fr a106 45 [(2, (.pointer (some ⟨b1, 0, none⟩))), (41, (.slice (some ⟨b77, 0, none⟩) 1 2))] := hF107.keep (keep := [2, 41]) (by kernel_rfl)
            refine From_pure 1 3 [2, 6] hF107 (env' := [(2, (.pointer (some ⟨b1, 0, none⟩))), (6, (.slice (some ⟨b77, 0, none⟩) 1 2))]) (by kernel_rfl) rfl ?_
            intro a109 hF110; clear hF107 a106
            refine From_end (by kernel_rfl) ?_
            refine W_seq (by kernel_rfl) ?_
            refine W_region (by kernel_rfl) ?_   -- region 12
            refine From_pure 2 2 [42, 43] hF110 (env' := [(42, (.slice (some ⟨b77, 0, none⟩) 1 2)), (43, (.func (.func 34) #[] #[(.pointer (some ⟨b1, 0, none⟩))]))]) (by kernel_rfl) rfl ?_
            intro a111 hF112; clear hF110 a109
            refine From_call (by kernel_rfl : coreAt _ 2 = some (some 44, (Go.Op.call { callee := (Go.Callee.value (Go.Operand.func 33)), args := #[(Go.Operand.tmp 42), (Go.Operand.tmp 43)], argTypes := #[27, 51] }), 27, none)) hF112 (by kernel_rfl) (by kernel_rfl) (k' := 3) rfl (f := 33) (vs := [(.slice (some ⟨b77, 0, none⟩) 1 2), (.func (.func 34) #[] #[(.pointer (some ⟨b1, 0, none⟩))])]) (cap := []) (by kernel_rfl) (by kernel_rfl) (by kernel_rfl) (deletef_c [x.a] (some ⟨b77, 0, none⟩) 2 b1 nm wk pa va _ c bs w78 (by simp) (hM108.get 2 rfl) hm (hM108.own_but 0 2 rfl rfl (by decide))) ?_
            rintro _ w115 ⟨A113, c114, rfl, hM116x⟩ a117 ea hF118; clear ea hF112 a111
            have hM116 : Mem noS w w115 [.blk b1 24 [nm, wk, pa, va, (.slice (some ad30) bs.length c)], .blk b35 38 [(.slice x.pA x.pn x.pc), (.slice x.iA x.ik x.ic), (.int .i64 x.e), (.int .i64 x.v), (.int .i64 x.a), (.int .i64 x.b)], .row 3 1 A113 (([x.a].filter (fun x => !((fun x => !(inR bs.length x)) x))).length) c114 (ints ([x.a].filter (fun x => !((fun x => !(inR bs.length x)) x))))] := hM108.mod 2 rfl hM116x
            clear hM116x hM108
            replace hF118 : Fr a117 45 [(44, (.slice A113 (([x.a].filter (fun x => !((fun x => !(inR bs.length x)) x))).length) c114))] := hF118.keep (keep := [44]) (by kernel_rfl)
            refine From_pure 1 4 [4] hF118 (env' := [(4, (.slice A113 (([x.a].filter (fun x => !((fun x => !(inR bs.length x)) x))).length) c114))]) (by kernel_rfl) rfl ?_
            intro a119 hF120; clear hF118 a117
            refine From_end (by kernel_rfl) ?_
            refine W_ret (by kernel_rfl) ?_
            refine out1 (v := (.slice A113 (([x.a].filter (fun x => !((fun x => !(inR bs.length x)) x))).length) c114)) hF120 rfl (by kernel_rfl) ?_
            refine ⟨_, rfl, ?_⟩
            exact row_ret (hM116.pick [false, false, true] rfl) (by rw [tg_in (by omega) hx]; exact tgx_one (by omega)) rfl
      · have ce0 : x.e = 0 := by simpa using hBe0
        refine W_cond (t := 23) (B := true) (by kernel_rfl) hF53 (by kernel_rfl) (fun _ => ?_) (fun t => Bool.noConfusion t)
        refine W_region (by kernel_rfl) ?_   -- region 7
        refine From_pure 1 1 [2, 25] hF53 (env' := [(2, (.pointer (some ⟨b1, 0, none⟩))), (25, (.pointer (some ⟨b35, 4, none⟩)))]) (by kernel_rfl) rfl ?_
        intro a121 hF122; clear hF53 a52
        refine From_load1 (by kernel_rfl : coreAt _ 1 = some (some 26, (Go.Op.load 3 (Go.Operand.tmp 25)), 3, none)) hF122 (by kernel_rfl) (by kernel_rfl) (k' := 2) rfl (ad := ⟨b35, 4, none⟩) (v := (.int .i64 x.a)) (by kernel_rfl) (by kernel_rfl) (blk_cell (hM41.get 1 rfl) rfl) ?_
        intro a123 ea hF124; clear ea hF122 a121
        replace hF124 : Fr a123 45 [(2, (.pointer (some ⟨b1, 0, none⟩))), (26, (.int .i64 x.a))] := hF124.keep (keep := [2, 26]) (by kernel_rfl)
        refine From_buildSlice (by kernel_rfl : coreAt _ 2 = some (some 27, (Go.Op.buildSlice 27 1 #[(0, (Go.Operand.tmp 26))]), 27, none)) hF124 (by kernel_rfl) (by kernel_rfl) (k' := 3) rfl (e := 3) (size := 1) (zs := [(.int .i64 0)]) (vs := [(0, (.int .i64 x.a))]) (cs := [(.int .i64 x.a)]) (by kernel_rfl) (by kernel_rfl) (by kernel_rfl) (by kernel_rfl) (by kernel_rfl) (by kernel_rfl) hM41 ?_
        intro b125 w126 hb125 _ hM127 _ a128 ea hF129; clear ea hF124 a123
        change Mem noS w w126 [.blk b1 24 [nm, wk, pa, va, (.slice (some ad30) bs.length c)], .blk b35 38 [(.slice x.pA x.pn x.pc), (.slice x.iA x.ik x.ic), (.int .i64 x.e), (.int .i64 x.v), (.int .i64 x.a), (.int .i64 x.b)], .row 3 1 (some ⟨b125, 0, none⟩) 1 1 [(.int .i64 x.a)]] at hM127
        clear hM41
        replace hF129 : Fr a128 45 [(2, (.pointer (some ⟨b1, 0, none⟩))), (27, (.slice (some ⟨b125, 0, none⟩) 1 1))] := hF129.keep (keep := [2, 27]) (by kernel_rfl)
        refine From_pure 1 4 [2, 6] hF129 (env' := [(2, (.pointer (some ⟨b1, 0, none⟩))), (6, (.slice (some ⟨b125, 0, none⟩) 1 1))]) (by kernel_rfl) rfl ?_
        intro a130 hF131; clear hF129 a128
        refine From_end (by kernel_rfl) ?_
        refine W_seq (by kernel_rfl) ?_
        refine W_region (by kernel_rfl) ?_   -- region 12
        refine From_pure 2 2 [42, 43] hF131 (env' := [(42, (.slice (some ⟨b125, 0, none⟩) 1 1)), (43, (.func (.func 34) #[] #[(.pointer (some ⟨b1, 0, none⟩))]))]) (by kernel_rfl) rfl ?_
        intro a132 hF133; clear hF131 a130
        refine From_call (by kernel_rfl : coreAt _ 2 = some (some 44, (Go.Op.call { callee := (Go.Callee.value (Go.Operand.func 33)), args := #[(Go.Operand.tmp 42), (Go.Operand.tmp 43)], argTypes := #[27, 51] }), 27, none)) hF133 (by kernel_rfl) (by kernel_rfl) (k' := 3) rfl (f := 33) (vs := [(.slice (some ⟨b125, 0, none⟩) 1 1), (.func (.func 34) #[] #[(.pointer (some ⟨b1, 0, none⟩))])]) (cap := []) (by kernel_rfl) (by kernel_rfl) (by kernel_rfl) (deletef_c [x.a] (some ⟨b125, 0, none⟩) 1 b1 nm wk pa va _ c bs w126 (by simp) (hM127.get 2 rfl) hm (hM127.own_but 0 2 rfl rfl (by decide))) ?_
        rintro _ w136 ⟨A134, c135, rfl, hM137x⟩ a138 ea hF139; clear ea hF133 a132
        have hM137 : Mem noS w w136 [.blk b1 24 [nm, wk, pa, va, (.slice (some ad30) bs.length c)], .blk b35 38 [(.slice x.pA x.pn x.pc), (.slice x.iA x.ik x.ic), (.int .i64 x.e), (.int .i64 x.v), (.int .i64 x.a), (.int .i64 x.b)], .row 3 1 A134 (([x.a].filter (fun x => !((fun x => !(inR bs.length x)) x))).length) c135 (ints ([x.a].filter (fun x => !((fun x => !(inR bs.length x)) x))))] := hM127.mod 2 rfl hM137x
        clear hM137x hM127
        replace hF139 : Fr a138 45 [(44, (.slice A134 (([x.a].filter (fun x => !((fun x => !(inR bs.length x)) x))).length) c135))] := hF139.keep (keep := [44]) (by kernel_rfl)
        refine From_pure 1 4 [4] hF139 (env' := [(4, (.slice A134 (([x.a].filter (fun x => !((fun x => !(inR bs.length x)) x))).length) c135))]) (by kernel_rfl) rfl ?_
        intro a140 hF141; clear hF139 a138
        refine From_end (by kernel_rfl) ?_
        refine W_ret (by kernel_rfl) ?_
        refine out1 (v := (.slice A134 (([x.a].filter (fun x => !((fun x => !(inR bs.length x)) x))).length) c135)) hF141 rfl (by kernel_rfl) ?_
        refine ⟨_, rfl, ?_⟩
        exact row_ret (hM137.pick [false, false, true] rfl) (by rw [tg_in (by omega) hx]; exact tgx_one (by omega)) rfl
    · have chi : b ≥ ((bs.length : Nat) : Int) := by simpa using hBhi
      refine W_cond (t := 15) (B := true) (by kernel_rfl) hF23 (by kernel_rfl) (fun _ => ?_) (fun t => Bool.noConfusion t)
      refine W_seq (by kernel_rfl) ?_
      refine W_region (by kernel_rfl) ?_   -- region 2
      refine From_pure 1 1 [4] hF23 (env' := [(4, (.slice none 0 0))]) (by kernel_rfl) rfl ?_
      intro a142 hF143; clear hF23 a22
      refine From_end (by kernel_rfl) ?_
      refine W_ret (by kernel_rfl) ?_
      refine out1 (v := (.slice none 0 0)) hF143 rfl (by kernel_rfl) ?_
      refine ⟨_, rfl, ?_⟩
      exact nil_ret (hM3.pick [false] rfl) (tg_out (by omega))
  · have clo : b < 0 := by simpa using hBlo
    refine From_pure 6 9 [1, 2, 15] hF13 (env' := [(1, (.int .i64 b)), (2, (.pointer (some ⟨b1, 0, none⟩))), (15, (.bool true))]) (by kernel_rfl) rfl ?_
    intro a144 hF145; clear hF13 a12
    refine From_end (by kernel_rfl) ?_
    refine W_cond (t := 15) (B := true) (by kernel_rfl) hF145 (by kernel_rfl) (fun _ => ?_) (fun t => Bool.noConfusion t)
    refine W_seq (by kernel_rfl) ?_
    refine W_region (by kernel_rfl) ?_   -- region 2
    refine From_pure 1 1 [4] hF145 (env' := [(4, (.slice none 0 0))]) (by kernel_rfl) rfl ?_
    intro a146 hF147; clear hF145 a144
    refine From_end (by kernel_rfl) ?_
    refine W_ret (by kernel_rfl) ?_
    refine out1 (v := (.slice none 0 0)) hF147 rfl (by kernel_rfl) ?_
    refine ⟨_, rfl, ?_⟩
    exact nil_ret (hM3.pick [false] rfl) (tg_out (by omega))

set_option maxRecDepth 10000 in
theorem rsources_c (nm wk pa va : Value) (A : Option Addr) (c : Nat) (bs : List SB) (b : Int) (w : World) (hm : bs.length ≤ 1000000) (hA : RO noS w (.blocks A bs)) :
    Calls Try.prog 22 #[(.agg #[nm, wk, pa, va, (.slice A bs.length c)]), (.int .i64 b)] w (Ret fun v w' => ∃ A' c', v = .slice A' (srcs bs b).length c' ∧ Mem noS w w' [.row 3 1 A' (srcs bs b).length c' (ints (srcs bs b))]) := by
  refine enter (N := 24) (vs := [(.agg #[nm, wk, pa, va, (.slice A bs.length c)]), (.int .i64 b)]) Try.func22 (by kernel_rfl) (by kernel_rfl) (by kernel_rfl) ?_
  intro a hF
  have hM := Mem.init w
  refine W_seq (by kernel_rfl) ?_
  refine W_region (by kernel_rfl) ?_   -- region 0
  refine From_box (by kernel_rfl : coreAt _ 0 = some (some 2, (Go.Op.box 24 (Go.Operand.tmp 0)), 0, none)) hF (by kernel_rfl) (by kernel_rfl) (k' := 1) rfl (v := (.agg #[nm, wk, pa, va, (.slice A bs.length c)])) (cs := [nm, wk, pa, va, (.slice A bs.length c)]) (by kernel_rfl) rfl hM ?_
  intro b1 w2 hb1 _ hM3 _ a4 ea hF5; clear ea hF a
  change Mem noS w w2 [.blk b1 24 [nm, wk, pa, va, (.slice A bs.length c)]] at hM3
  clear hM
  replace hF5 : Fr a4 24 [(1, (.int .i64 b)), (2, (.pointer (some ⟨b1, 0, none⟩)))] := hF5.keep (keep := [1, 2]) (by kernel_rfl)
  refine From_pure 1 2 [1, 2] hF5 (env' := [(1, (.int .i64 b)), (2, (.pointer (some ⟨b1, 0, none⟩)))]) (by kernel_rfl) rfl ?_
  intro a6 hF7; clear hF5 a4
  refine From_end (by kernel_rfl) ?_
  refine W_seq (by kernel_rfl) ?_
  refine W_region (by kernel_rfl) ?_   -- region 1
  refine From_pure 1 1 [1, 2, 5] hF7 (env' := [(1, (.int .i64 b)), (2, (.pointer (some ⟨b1, 0, none⟩))), (5, (.slice none 0 0))]) (by kernel_rfl) rfl ?_
  intro a8 hF9; clear hF7 a6
  refine From_end (by kernel_rfl) ?_
  refine W_seq (by kernel_rfl) ?_
  refine W_seq (by kernel_rfl) ?_
  refine W_region (by kernel_rfl) ?_   -- region 2
  refine From_pure 1 1 [1, 2, 5, 6] hF9 (env' := [(1, (.int .i64 b)), (2, (.pointer (some ⟨b1, 0, none⟩))), (5, (.slice none 0 0)), (6, (.int .i64 0))]) (by kernel_rfl) rfl ?_
  intro a10 hF11; clear hF9 a8
  refine From_end (by kernel_rfl) ?_
  refine W_block (id := 0) (by kernel_rfl) ?_
  refine W_loop (by kernel_rfl) (fun n_ a_ w_ => ∃ (k : Nat) (A1 : Option Addr) (n1 : Nat) (c1 : Nat) (l1 : List Int), n_ = bs.length - k ∧ Fr a_ 24 [(1, (.int .i64 b)), (2, (.pointer (some ⟨b1, 0, none⟩))), (5, (.slice A1 n1 c1)), (6, (.int .i64 (k : Int)))] ∧ Mem noS w w_ [.blk b1 24 [nm, wk, pa, va, (.slice A bs.length c)], .row 3 1 A1 n1 c1 (ints l1)] ∧ (k ≤ bs.length) ∧ (l1 = srcsTo bs b k) ∧ (n1 = l1.length)) (n := _) ⟨0, none, 0, 0, [], rfl, hF11.keep (keep := [1, 2, 5, 6]) (by kernel_rfl), hM3.call (Mem.nilrow _ 3 1), by omega, rfl, rfl⟩ ?_
  clear hF11 a10 hM3; rintro n a14 w12 ⟨k, A1, n1, c1, l1, rfl, hF15, hM13, hk, hl1, hn1⟩
  refine W_seq (by kernel_rfl) ?_
  refine W_seq (by kernel_rfl) ?_
  refine W_region (by kernel_rfl) ?_   -- region 3
  refine From_pure 2 2 [1, 2, 5, 6, 7, 8] hF15 (env' := [(1, (.int .i64 b)), (2, (.pointer (some ⟨b1, 0, none⟩))), (5, (.slice A1 n1 c1)), (6, (.int .i64 (k : Int))), (7, (.int .i64 (k : Int))), (8, (.pointer (some ⟨b1, 4, none⟩)))]) (by kernel_rfl) rfl ?_
  intro a16 hF17; clear hF15 a14
  refine From_load1 (by kernel_rfl : coreAt _ 2 = some (some 9, (Go.Op.load 22 (Go.Operand.tmp 8)), 22, none)) hF17 (by kernel_rfl) (by kernel_rfl) (k' := 3) rfl (ad := ⟨b1, 4, none⟩) (v := (.slice A bs.length c)) (by kernel_rfl) (by kernel_rfl) (blk_cell (hM13.get 0 rfl) rfl) ?_
  intro a18 ea hF19; clear ea hF17 a16
  replace hF19 : Fr a18 24 [(1, (.int .i64 b)), (2, (.pointer (some ⟨b1, 0, none⟩))), (5, (.slice A1 n1 c1)), (6, (.int .i64 (k : Int))), (7, (.int .i64 (k : Int))), (9, (.slice A bs.length c))] := hF19.keep (keep := [1, 2, 5, 6, 7, 9]) (by kernel_rfl)
  refine From_pure 1 4 [1, 2, 5, 6, 7, 10] hF19 (env' := [(1, (.int .i64 b)), (2, (.pointer (some ⟨b1, 0, none⟩))), (5, (.slice A1 n1 c1)), (6, (.int .i64 (k : Int))), (7, (.int .i64 (k : Int))), (10, (.int .i64 ((bs.length : Nat) : Int)))]) (by kernel_rfl) rfl ?_
  intro a20 hF21; clear hF19 a18
  refine From_cmp (by kernel_rfl : coreAt _ 4 = some (some 11, (Go.Op.binOp Go.BinOp.lss 3 (Go.Operand.tmp 7) (Go.Operand.tmp 10) 3), 4, none)) hF21 (by kernel_rfl) (by kernel_rfl) (k' := 5) rfl (kd := .i64) (i := (k : Int)) (j := ((bs.length : Nat) : Int)) (by kernel_rfl) (by kernel_rfl) rfl ?_
  intro B22 hB22 a23 ea hF24; clear ea hF21 a20
  replace hF24 : Fr a23 24 [(1, (.int .i64 b)), (2, (.pointer (some ⟨b1, 0, none⟩))), (5, (.slice A1 n1 c1)), (6, (.int .i64 (k : Int))), (11, (.bool B22))] := hF24.keep (keep := [1, 2, 5, 6, 11]) (by kernel_rfl)
  refine From_end (by kernel_rfl) ?_
  cases B22
  · have c22 : ¬ ((k : Int) < ((bs.length : Nat) : Int)) := by simpa using hB22
    refine W_cond (t := 11) (B := false) (by kernel_rfl) hF24 (by kernel_rfl) (fun t => Bool.noConfusion t) (fun _ => ?_)
    refine W_exit (id := 0) (by kernel_rfl) ?_
    refine inB_hit rfl ?_
    refine W_seq (by kernel_rfl) ?_
    refine W_region (by kernel_rfl) ?_   -- region 7
    refine From_pure 2 2 [4] hF24 (env' := [(4, (.slice A1 n1 c1))]) (by kernel_rfl) rfl ?_
    intro a25 hF26; clear hF24 a23
    refine From_end (by kernel_rfl) ?_
    refine W_ret (by kernel_rfl) ?_
    refine out1 (v := (.slice A1 n1 c1)) hF26 rfl (by kernel_rfl) ?_
    refine ⟨_, rfl, ?_⟩
    obtain rfl : k = bs.length := by omega
    exact row_ret (hM13.pick [false, true] rfl) hl1 hn1
  · have c22 : (k : Int) < ((bs.length : Nat) : Int) := by simpa using hB22
    refine W_cond (t := 11) (B := true) (by kernel_rfl) hF24 (by kernel_rfl) (fun _ => ?_) (fun t => Bool.noConfusion t)
    refine W_skip (by kernel_rfl) ?_
    refine W_seq (by kernel_rfl) ?_
    refine W_block (id := 1) (by kernel_rfl) ?_
    refine W_seq (by kernel_rfl) ?_
    refine W_region (by kernel_rfl) ?_   -- region 5
    refine From_loadS (by kernel_rfl : coreAt _ 0 = some (some 14, (Go.Op.load 24 (Go.Operand.tmp 2)), 24, none)) hF24 (by kernel_rfl) (by kernel_rfl) (k' := 1) rfl (ad := ⟨b1, 0, none⟩) (vs := [nm, wk, pa, va, (.slice A bs.length c)]) (by kernel_rfl) (by kernel_rfl) (blk_cells (hM13.get 0 rfl)) ?_
    intro a27 ea hF28; clear ea hF24 a23
    replace hF28 : Fr a27 24 [(1, (.int .i64 b)), (2, (.pointer (some ⟨b1, 0, none⟩))), (5, (.slice A1 n1 c1)), (6, (.int .i64 (k : Int))), (14, (.agg #[nm, wk, pa, va, (.slice A bs.length c)]))] := hF28.keep (keep := [1, 2, 5, 6, 14]) (by kernel_rfl)
    refine From_pure 1 2 [1, 2, 5, 6, 14, 15] hF28 (env' := [(1, (.int .i64 b)), (2, (.pointer (some ⟨b1, 0, none⟩))), (5, (.slice A1 n1 c1)), (6, (.int .i64 (k : Int))), (14, (.agg #[nm, wk, pa, va, (.slice A bs.length c)])), (15, (.int .i64 (k : Int)))]) (by kernel_rfl) rfl ?_
    intro a29 hF30; clear hF28 a27
    refine From_call (by kernel_rfl : coreAt _ 2 = some (some 16, (Go.Op.call { callee := (Go.Callee.value (Go.Operand.func 20)), args := #[(Go.Operand.tmp 14), (Go.Operand.tmp 15)], argTypes := #[24, 3] }), 27, none)) hF30 (by kernel_rfl) (by kernel_rfl) (k' := 3) rfl (f := 20) (vs := [(.agg #[nm, wk, pa, va, (.slice A bs.length c)]), (.int .i64 (k : Int))]) (cap := []) (by kernel_rfl) (by kernel_rfl) (by kernel_rfl) (rtargets_c _ _ _ _ A c bs (k : Int) w12 hm (hA.at_ hM13)) ?_
    rintro _ w33 ⟨A31, c32, rfl, hM34x⟩ a35 ea hF36; clear ea hF30 a29
    have hM34 : Mem noS w w33 [.blk b1 24 [nm, wk, pa, va, (.slice A bs.length c)], .row 3 1 A1 n1 c1 (ints l1), .row 3 1 A31 ((tg bs (k : Int)).length) c32 (ints (tg bs (k : Int)))] := hM13.call hM34x
    clear hM34x hM13
    replace hF36 : Fr a35 24 [(1, (.int .i64 b)), (2, (.pointer (some ⟨b1, 0, none⟩))), (5, (.slice A1 n1 c1)), (6, (.int .i64 (k : Int))), (16, (.slice A31 ((tg bs (k : Int)).length) c32))] := hF36.keep (keep := [1, 2, 5, 6, 16]) (by kernel_rfl)
    refine From_pure 1 4 [1, 2, 5, 6, 16, 17] hF36 (env' := [(1, (.int .i64 b)), (2, (.pointer (some ⟨b1, 0, none⟩))), (5, (.slice A1 n1 c1)), (6, (.int .i64 (k : Int))), (16, (.slice A31 ((tg bs (k : Int)).length) c32)), (17, (.int .i64 b))]) (by kernel_rfl) rfl ?_
    intro a37 hF38; clear hF36 a35
    refine From_call (by kernel_rfl : coreAt _ 4 = some (some 18, (Go.Op.call { callee := (Go.Callee.value (Go.Operand.func 36)), args := #[(Go.Operand.tmp 16), (Go.Operand.tmp 17)], argTypes := #[27, 3] }), 4, none)) hF38 (by kernel_rfl) (by kernel_rfl) (k' := 5) rfl (f := 36) (vs := [(.slice A31 ((tg bs (k : Int)).length) c32), (.int .i64 b)]) (cap := []) (by kernel_rfl) (by kernel_rfl) (by kernel_rfl) (has_c (tg bs (k : Int)) b A31 c32 w33 (Nat.le_trans (tg_len _ _) (by decide)) (RO.row_rd (hM34.own_ro 2 rfl))) ?_
    rintro _ w39 ⟨rfl, hM40x⟩ a41 ea hF42; clear ea hF38 a37
    have hM40 : Mem noS w w39 [.blk b1 24 [nm, wk, pa, va, (.slice A bs.length c)], .row 3 1 A1 n1 c1 (ints l1), .row 3 1 A31 ((tg bs (k : Int)).length) c32 (ints (tg bs (k : Int)))] := hM34.call hM40x
    clear hM40x hM34
    replace hF42 : Fr a41 24 (putE [(1, (.int .i64 b)), (2, (.pointer (some ⟨b1, 0, none⟩))), (5, (.slice A1 n1 c1)), (6, (.int .i64 (k : Int))), (16, (.slice A31 ((tg bs (k : Int)).length) c32)), (17, (.int .i64 b))] (some 18) (.bool ((tg bs (k : Int)).contains b))) := hF42
    obtain ⟨Bhit, hBhit⟩ : ∃ B, B = (tg bs (k : Int)).contains b := ⟨_, rfl⟩
    rw [← hBhit] at hF42
    replace hF42 : Fr a41 24 [(1, (.int .i64 b)), (2, (.pointer (some ⟨b1, 0, none⟩))), (5, (.slice A1 n1 c1)), (6, (.int .i64 (k : Int))), (18, (.bool Bhit))] := hF42.keep (keep := [1, 2, 5, 6, 18]) (by kernel_rfl)
    refine From_end (by kernel_rfl) ?_
    cases Bhit
    · have chit : ((tg bs (k : Int)).contains b) = false := hBhit.symm
      refine W_cond (t := 18) (B := false) (by kernel_rfl) hF42 (by kernel_rfl) (fun t => Bool.noConfusion t) (fun _ => ?_)
      refine W_skip (by kernel_rfl) ?_
      refine W_region (by kernel_rfl) ?_   -- region 4
      refine From_pure 1 1 [1, 2, 5, 12] hF42 (env' := [(1, (.int .i64 b)), (2, (.pointer (some ⟨b1, 0, none⟩))), (5, (.slice A1 n1 c1)), (12, (.int .i64 (k : Int)))]) (by kernel_rfl) rfl ?_
      intro a43 hF44; clear hF42 a41
      refine From_arith (by kernel_rfl : coreAt _ 1 = some (some 13, (Go.Op.binOp Go.BinOp.add 3 (Go.Operand.tmp 12) (Go.Operand.const (Go.Value.int Go.IntKind.i64 1)) 3), 3, none)) hF44 (by kernel_rfl) (by kernel_rfl) (k' := 2) rfl (i := (k : Int)) (j := 1) (z := ((k : Int) + 1)) (by kernel_rfl) (by kernel_rfl) rfl (by omega) (by omega) ?_
      intro a45 ea hF46; clear ea hF44 a43
      replace hF46 : Fr a45 24 [(1, (.int .i64 b)), (2, (.pointer (some ⟨b1, 0, none⟩))), (5, (.slice A1 n1 c1)), (13, (.int .i64 ((k : Int) + 1)))] := hF46.keep (keep := [1, 2, 5, 13]) (by kernel_rfl)
      refine From_pure 1 3 [1, 2, 5, 6] hF46 (env' := [(1, (.int .i64 b)), (2, (.pointer (some ⟨b1, 0, none⟩))), (5, (.slice A1 n1 c1)), (6, (.int .i64 ((k : Int) + 1)))]) (by kernel_rfl) rfl ?_
      intro a47 hF48; clear hF46 a45
      refine From_end (by kernel_rfl) ?_
      exact ⟨bs.length - (k + 1), by omega, k + 1, A1, n1, c1, l1, rfl, hF48.keep (keep := [1, 2, 5, 6]) (by kernel_rfl), (hM40.pick [true, true, false] rfl), by omega, by rw [srcsTo_succ, if_neg (by rw [chit]; simp), List.append_nil]; exact hl1, hn1⟩
    · have chit : ((tg bs (k : Int)).contains b) = true := hBhit.symm
      refine W_cond (t := 18) (B := true) (by kernel_rfl) hF42 (by kernel_rfl) (fun _ => ?_) (fun t => Bool.noConfusion t)
      refine W_region (by kernel_rfl) ?_   -- region 6
      refine From_pure 2 2 [1, 2, 6, 19, 20] hF42 (env' := [(1, (.int .i64 b)), (2, (.pointer (some ⟨b1, 0, none⟩))), (6, (.int .i64 (k : Int))), (19, (.slice A1 n1 c1)), (20, (.int .i64 (k : Int)))]) (by kernel_rfl) rfl ?_
      intro a49 hF50; clear hF42 a41
      refine From_buildSlice (by kernel_rfl : coreAt _ 2 = some (some 21, (Go.Op.buildSlice 27 1 #[(0, (Go.Operand.tmp 20))]), 27, none)) hF50 (by kernel_rfl) (by kernel_rfl) (k' := 3) rfl (e := 3) (size := 1) (zs := [(.int .i64 0)]) (vs := [(0, (.int .i64 (k : Int)))]) (cs := [(.int .i64 (k : Int))]) (by kernel_rfl) (by kernel_rfl) (by kernel_rfl) (by kernel_rfl) (by kernel_rfl) (by kernel_rfl) hM40 ?_
      intro b51 w52 hb51 _ hM53 _ a54 ea hF55; clear ea hF50 a49
      change Mem noS w w52 [.blk b1 24 [nm, wk, pa, va, (.slice A bs.length c)], .row 3 1 A1 n1 c1 (ints l1), .row 3 1 A31 ((tg bs (k : Int)).length) c32 (ints (tg bs (k : Int))), .row 3 1 (some ⟨b51, 0, none⟩) 1 1 [(.int .i64 (k : Int))]] at hM53
      clear hM40
      replace hF55 : Fr a54 24 [(1, (.int .i64 b)), (2, (.pointer (some ⟨b1, 0, none⟩))), (6, (.int .i64 (k : Int))), (19, (.slice A1 n1 c1)), (21, (.slice (some ⟨b51, 0, none⟩) 1 1))] := hF55.keep (keep := [1, 2, 6, 19, 21]) (by kernel_rfl)
      refine From_append (by kernel_rfl : coreAt _ 3 = some (some 22, (Go.Op.call { callee := (Go.Callee.builtin Go.Builtin.append), args := #[(Go.Operand.tmp 19), (Go.Operand.tmp 21)], argTypes := #[27, 27] }), 27, none)) hF55 (by kernel_rfl) (by kernel_rfl) (k' := 4) rfl (e := 3) (size := 1) (bytes := 8) (z := (.int .i64 0)) (by kernel_rfl) (by kernel_rfl) (by kernel_rfl) (by kernel_rfl) (A := A1) (B := (some ⟨b51, 0, none⟩)) (n := n1) (cap := c1) (m := 1) (cap' := 1) (xs := (ints l1)) (news := [(.int .i64 (k : Int))]) (by kernel_rfl) (by kernel_rfl) hM53 1 rfl (row_rd (hM53.get 3 rfl)) rfl (by simp [Value.oneCell']) (by have := srcsTo_len bs b k; rw [hl1] at hn1; omega) (by have := srcsTo_len bs b k; rw [hl1] at hn1; simp only [maxLen]; omega) ?_
      intro A56 c57 w58 hM59 _ a60 ea hF61; clear ea hF55 a54
      change Mem noS w w58 [.blk b1 24 [nm, wk, pa, va, (.slice A bs.length c)], .row 3 1 A56 (n1 + 1) c57 ((ints l1) ++ [(.int .i64 (k : Int))]), .row 3 1 A31 ((tg bs (k : Int)).length) c32 (ints (tg bs (k : Int))), .row 3 1 (some ⟨b51, 0, none⟩) 1 1 [(.int .i64 (k : Int))]] at hM59
      clear hM53
      replace hM59 : Mem noS w w58 [.blk b1 24 [nm, wk, pa, va, (.slice A bs.length c)], .row 3 1 A56 (n1 + 1) c57 ((ints l1) ++ [(.int .i64 (k : Int))]), .row 3 1 A31 ((tg bs (k : Int)).length) c32 (ints (tg bs (k : Int)))] := hM59.pick [true, true, true, false] rfl
      replace hF61 : Fr a60 24 [(1, (.int .i64 b)), (2, (.pointer (some ⟨b1, 0, none⟩))), (6, (.int .i64 (k : Int))), (22, (.slice A56 (n1 + 1) c57))] := hF61.keep (keep := [1, 2, 6, 22]) (by kernel_rfl)
      refine From_pure 1 5 [1, 2, 5, 6] hF61 (env' := [(1, (.int .i64 b)), (2, (.pointer (some ⟨b1, 0, none⟩))), (5, (.slice A56 (n1 + 1) c57)), (6, (.int .i64 (k : Int)))]) (by kernel_rfl) rfl ?_
      intro a62 hF63; clear hF61 a60
      refine From_end (by kernel_rfl) ?_
      refine W_region (by kernel_rfl) ?_   -- region 4
      refine From_pure 1 1 [1, 2, 5, 12] hF63 (env' := [(1, (.int .i64 b)), (2, (.pointer (some ⟨b1, 0, none⟩))), (5, (.slice A56 (n1 + 1) c57)), (12, (.int .i64 (k : Int)))]) (by kernel_rfl) rfl ?_
      intro a64 hF65; clear hF63 a62
      refine From_arith (by kernel_rfl : coreAt _ 1 = some (some 13, (Go.Op.binOp Go.BinOp.add 3 (Go.Operand.tmp 12) (Go.Operand.const (Go.Value.int Go.IntKind.i64 1)) 3), 3, none)) hF65 (by kernel_rfl) (by kernel_rfl) (k' := 2) rfl (i := (k : Int)) (j := 1) (z := ((k : Int) + 1)) (by kernel_rfl) (by kernel_rfl) rfl (by omega) (by omega) ?_
      intro a66 ea hF67; clear ea hF65 a64
      replace hF67 : Fr a66 24 [(1, (.int .i64 b)), (2, (.pointer (some ⟨b1, 0, none⟩))), (5, (.slice A56 (n1 + 1) c57)), (13, (.int .i64 ((k : Int) + 1)))] := hF67.keep (keep := [1, 2, 5, 13]) (by kernel_rfl)
      refine From_pure 1 3 [1, 2, 5, 6] hF67 (env' := [(1, (.int .i64 b)), (2, (.pointer (some ⟨b1, 0, none⟩))), (5, (.slice A56 (n1 + 1) c57)), (6, (.int .i64 ((k : Int) + 1)))]) (by kernel_rfl) rfl ?_
      intro a68 hF69; clear hF67 a66
      refine From_end (by kernel_rfl) ?_
      exact ⟨bs.length - (k + 1), by omega, k + 1, A56, (n1 + 1), c57, l1 ++ [(k : Int)], rfl, hF69.keep (keep := [1, 2, 5, 6]) (by kernel_rfl), ((hM59.pick [true, true, false] rfl).cast (by rw [ints_append]; rfl)), by omega, by rw [srcsTo_succ, if_pos chit, hl1], by rw [List.length_append, hn1]; rfl⟩

set_option maxRecDepth 10000 in
theorem sources_c (nm wk pa va : Value) (A : Option Addr) (c : Nat) (bs : List SB) (b : Int) (w : World) (hm : bs.length ≤ 1000000) (hA : RO noS w (.blocks A bs)) :
    Calls Try.prog 21 #[(.agg #[nm, wk, pa, va, (.slice A bs.length c)]), (.int .i64 b)] w (Ret fun v w' => ∃ A' c', v = .slice A' (srcs bs b).length c' ∧ Mem noS w w' [.row 3 1 A' (srcs bs b).length c' (ints (srcs bs b))]) := by
  refine enter (N := 24) (vs := [(.agg #[nm, wk, pa, va, (.slice A bs.length c)]), (.int .i64 b)]) Try.func21 (by kernel_rfl) (by kernel_rfl) (by kernel_rfl) ?_
  intro a hF
  have hM := Mem.init w
  refine W_seq (by kernel_rfl) ?_
  refine W_region (by kernel_rfl) ?_   -- region 0
  refine From_box (by kernel_rfl : coreAt _ 0 = some (some 2, (Go.Op.box 24 (Go.Operand.tmp 0)), 0, none)) hF (by kernel_rfl) (by kernel_rfl) (k' := 1) rfl (v := (.agg #[nm, wk, pa, va, (.slice A bs.length c)])) (cs := [nm, wk, pa, va, (.slice A bs.length c)]) (by kernel_rfl) rfl hM ?_
  intro b1 w2 hb1 _ hM3 _ a4 ea hF5; clear ea hF a
  change Mem noS w w2 [.blk b1 24 [nm, wk, pa, va, (.slice A bs.length c)]] at hM3
  clear hM
  replace hF5 : Fr a4 24 [(1, (.int .i64 b)), (2, (.pointer (some ⟨b1, 0, none⟩)))] := hF5.keep (keep := [1, 2]) (by kernel_rfl)
  refine From_pure 1 2 [1, 2] hF5 (env' := [(1, (.int .i64 b)), (2, (.pointer (some ⟨b1, 0, none⟩)))]) (by kernel_rfl) rfl ?_
  intro a6 hF7; clear hF5 a4
  refine From_end (by kernel_rfl) ?_
  refine W_seq (by kernel_rfl) ?_
  refine W_region (by kernel_rfl) ?_   -- region 1
  refine From_pure 1 1 [1, 2, 5] hF7 (env' := [(1, (.int .i64 b)), (2, (.pointer (some ⟨b1, 0, none⟩))), (5, (.slice none 0 0))]) (by kernel_rfl) rfl ?_
  intro a8 hF9; clear hF7 a6
  refine From_end (by kernel_rfl) ?_
  refine W_seq (by kernel_rfl) ?_
  refine W_seq (by kernel_rfl) ?_
  refine W_region (by kernel_rfl) ?_   -- region 2
  refine From_pure 1 1 [1, 2, 5, 7] hF9 (env' := [(1, (.int .i64 b)), (2, (.pointer (some ⟨b1, 0, none⟩))), (5, (.slice none 0 0)), (7, (.pointer (some ⟨b1, 4, none⟩)))]) (by kernel_rfl) rfl ?_
  intro a10 hF11; clear hF9 a8
  refine From_load1 (by kernel_rfl : coreAt _ 1 = some (some 8, (Go.Op.load 22 (Go.Operand.tmp 7)), 22, none)) hF11 (by kernel_rfl) (by kernel_rfl) (k' := 2) rfl (ad := ⟨b1, 4, none⟩) (v := (.slice A bs.length c)) (by kernel_rfl) (by kernel_rfl) (blk_cell (hM3.get 0 rfl) rfl) ?_
  intro a12 ea hF13; clear ea hF11 a10
  replace hF13 : Fr a12 24 [(1, (.int .i64 b)), (2, (.pointer (some ⟨b1, 0, none⟩))), (5, (.slice none 0 0)), (8, (.slice A bs.length c))] := hF13.keep (keep := [1, 2, 5, 8]) (by kernel_rfl)
  refine From_pure 2 4 [1, 2, 5, 9, 10] hF13 (env' := [(1, (.int .i64 b)), (2, (.pointer (some ⟨b1, 0, none⟩))), (5, (.slice none 0 0)), (9, (.int .i64 ((bs.length : Nat) : Int))), (10, (.int .i64 0))]) (by kernel_rfl) rfl ?_
  intro a14 hF15; clear hF13 a12
  refine From_end (by kernel_rfl) ?_
  refine W_block (id := 0) (by kernel_rfl) ?_
  refine W_loop (by kernel_rfl) (fun n_ a_ w_ => ∃ (k : Nat) (A1 : Option Addr) (n1 : Nat) (c1 : Nat) (l1 : List Int), n_ = bs.length - k ∧ Fr a_ 24 [(1, (.int .i64 b)), (2, (.pointer (some ⟨b1, 0, none⟩))), (5, (.slice A1 n1 c1)), (9, (.int .i64 ((bs.length : Nat) : Int))), (10, (.int .i64 (k : Int)))] ∧ Mem noS w w_ [.blk b1 24 [nm, wk, pa, va, (.slice A bs.length c)], .row 3 1 A1 n1 c1 (ints l1)] ∧ (k ≤ bs.length) ∧ (l1 = srcsTo bs b k) ∧ (n1 = l1.length)) (n := _) ⟨0, none, 0, 0, [], rfl, hF15.keep (keep := [1, 2, 5, 9, 10]) (by kernel_rfl), hM3.call (Mem.nilrow _ 3 1), by omega, rfl, rfl⟩ ?_
  clear hF15 a14 hM3; rintro n a18 w16 ⟨k, A1, n1, c1, l1, rfl, hF19, hM17, hk, hl1, hn1⟩
  refine W_seq (by kernel_rfl) ?_
  refine W_region (by kernel_rfl) ?_   -- region 3
  refine From_cmp (by kernel_rfl : coreAt _ 0 = some (some 11, (Go.Op.binOp Go.BinOp.lss 3 (Go.Operand.tmp 10) (Go.Operand.tmp 9) 3), 0, none)) hF19 (by kernel_rfl) (by kernel_rfl) (k' := 1) rfl (kd := .i64) (i := (k : Int)) (j := ((bs.length : Nat) : Int)) (by kernel_rfl) (by kernel_rfl) rfl ?_
  intro B20 hB20 a21 ea hF22; clear ea hF19 a18
  replace hF22 : Fr a21 24 [(1, (.int .i64 b)), (2, (.pointer (some ⟨b1, 0, none⟩))), (5, (.slice A1 n1 c1)), (9, (.int .i64 ((bs.length : Nat) : Int))), (10, (.int .i64 (k : Int))), (11, (.bool B20))] := hF22.keep (keep := [1, 2, 5, 9, 10, 11]) (by kernel_rfl)
  refine From_end (by kernel_rfl) ?_
  refine W_seq (by kernel_rfl) ?_
  cases B20
  · have c20 : ¬ ((k : Int) < ((bs.length : Nat) : Int)) := by simpa using hB20
    refine W_cond (t := 11) (B := false) (by kernel_rfl) hF22 (by kernel_rfl) (fun t => Bool.noConfusion t) (fun _ => ?_)
    refine W_exit (id := 0) (by kernel_rfl) ?_
    refine inB_hit rfl ?_
    refine W_seq (by kernel_rfl) ?_
    refine W_region (by kernel_rfl) ?_   -- region 8
    refine From_pure 2 2 [4] hF22 (env' := [(4, (.slice A1 n1 c1))]) (by kernel_rfl) rfl ?_
    intro a23 hF24; clear hF22 a21
    refine From_end (by kernel_rfl) ?_
    refine W_ret (by kernel_rfl) ?_
    refine out1 (v := (.slice A1 n1 c1)) hF24 rfl (by kernel_rfl) ?_
    refine ⟨_, rfl, ?_⟩
    obtain rfl : k = bs.length := by omega
    exact row_ret (hM17.pick [false, true] rfl) hl1 hn1
  · have c20 : (k : Int) < ((bs.length : Nat) : Int) := by simpa using hB20
    refine W_cond (t := 11) (B := true) (by kernel_rfl) hF22 (by kernel_rfl) (fun _ => ?_) (fun t => Bool.noConfusion t)
    refine W_skip (by kernel_rfl) ?_
    refine W_seq (by kernel_rfl) ?_
    refine W_block (id := 1) (by kernel_rfl) ?_
    refine W_seq (by kernel_rfl) ?_
    refine W_region (by kernel_rfl) ?_   -- region 4
    refine From_pure 2 2 [1, 2, 5, 6, 9, 10] hF22 (env' := [(1, (.int .i64 b)), (2, (.pointer (some ⟨b1, 0, none⟩))), (5, (.slice A1 n1 c1)), (6, (.int .i64 (k : Int))), (9, (.int .i64 ((bs.length : Nat) : Int))), (10, (.int .i64 (k : Int)))]) (by kernel_rfl) rfl ?_
    intro a25 hF26; clear hF22 a21
    refine From_end (by kernel_rfl) ?_
    refine W_seq (by kernel_rfl) ?_
    refine W_region (by kernel_rfl) ?_   -- region 5
    refine From_loadS (by kernel_rfl : coreAt _ 0 = some (some 13, (Go.Op.load 24 (Go.Operand.tmp 2)), 24, none)) hF26 (by kernel_rfl) (by kernel_rfl) (k' := 1) rfl (ad := ⟨b1, 0, none⟩) (vs := [nm, wk, pa, va, (.slice A bs.length c)]) (by kernel_rfl) (by kernel_rfl) (blk_cells (hM17.get 0 rfl)) ?_
    intro a27 ea hF28; clear ea hF26 a25
    replace hF28 : Fr a27 24 [(1, (.int .i64 b)), (2, (.pointer (some ⟨b1, 0, none⟩))), (5, (.slice A1 n1 c1)), (6, (.int .i64 (k : Int))), (9, (.int .i64 ((bs.length : Nat) : Int))), (10, (.int .i64 (k : Int))), (13, (.agg #[nm, wk, pa, va, (.slice A bs.length c)]))] := hF28.keep (keep := [1, 2, 5, 6, 9, 10, 13]) (by kernel_rfl)
    refine From_pure 1 2 [1, 2, 5, 6, 9, 10, 13, 14] hF28 (env' := [(1, (.int .i64 b)), (2, (.pointer (some ⟨b1, 0, none⟩))), (5, (.slice A1 n1 c1)), (6, (.int .i64 (k : Int))), (9, (.int .i64 ((bs.length : Nat) : Int))), (10, (.int .i64 (k : Int))), (13, (.agg #[nm, wk, pa, va, (.slice A bs.length c)])), (14, (.int .i64 (k : Int)))]) (by kernel_rfl) rfl ?_
    intro a29 hF30; clear hF28 a27
    refine From_call (by kernel_rfl : coreAt _ 2 = some (some 15, (Go.Op.call { callee := (Go.Callee.value (Go.Operand.func 19)), args := #[(Go.Operand.tmp 13), (Go.Operand.tmp 14)], argTypes := #[24, 3] }), 27, none)) hF30 (by kernel_rfl) (by kernel_rfl) (k' := 3) rfl (f := 19) (vs := [(.agg #[nm, wk, pa, va, (.slice A bs.length c)]), (.int .i64 (k : Int))]) (cap := []) (by kernel_rfl) (by kernel_rfl) (by kernel_rfl) (targets_c _ _ _ _ A c bs (k : Int) w16 hm (hA.at_ hM17)) ?_
    rintro _ w33 ⟨A31, c32, rfl, hM34x⟩ a35 ea hF36; clear ea hF30 a29
    have hM34 : Mem noS w w33 [.blk b1 24 [nm, wk, pa, va, (.slice A bs.length c)], .row 3 1 A1 n1 c1 (ints l1), .row 3 1 A31 ((tg bs (k : Int)).length) c32 (ints (tg bs (k : Int)))] := hM17.call hM34x
    clear hM34x hM17
    replace hF36 : Fr a35 24 [(1, (.int .i64 b)), (2, (.pointer (some ⟨b1, 0, none⟩))), (5, (.slice A1 n1 c1)), (6, (.int .i64 (k : Int))), (9, (.int .i64 ((bs.length : Nat) : Int))), (10, (.int .i64 (k : Int))), (15, (.slice A31 ((tg bs (k : Int)).length) c32))] := hF36.keep (keep := [1, 2, 5, 6, 9, 10, 15]) (by kernel_rfl)
    refine From_pure 1 4 [1, 2, 5, 6, 9, 10, 15, 16] hF36 (env' := [(1, (.int .i64 b)), (2, (.pointer (some ⟨b1, 0, none⟩))), (5, (.slice A1 n1 c1)), (6, (.int .i64 (k : Int))), (9, (.int .i64 ((bs.length : Nat) : Int))), (10, (.int .i64 (k : Int))), (15, (.slice A31 ((tg bs (k : Int)).length) c32)), (16, (.int .i64 b))]) (by kernel_rfl) rfl ?_
    intro a37 hF38; clear hF36 a35
    refine From_call (by kernel_rfl : coreAt _ 4 = some (some 17, (Go.Op.call { callee := (Go.Callee.value (Go.Operand.func 35)), args := #[(Go.Operand.tmp 15), (Go.Operand.tmp 16)], argTypes := #[27, 3] }), 4, none)) hF38 (by kernel_rfl) (by kernel_rfl) (k' := 5) rfl (f := 35) (vs := [(.slice A31 ((tg bs (k : Int)).length) c32), (.int .i64 b)]) (cap := []) (by kernel_rfl) (by kernel_rfl) (by kernel_rfl) (contains_c (tg bs (k : Int)) b A31 c32 w33 (Nat.le_trans (tg_len _ _) (by decide)) (RO.row_rd (hM34.own_ro 2 rfl))) ?_
    rintro _ w39 ⟨rfl, hM40x⟩ a41 ea hF42; clear ea hF38 a37
    have hM40 : Mem noS w w39 [.blk b1 24 [nm, wk, pa, va, (.slice A bs.length c)], .row 3 1 A1 n1 c1 (ints l1), .row 3 1 A31 ((tg bs (k : Int)).length) c32 (ints (tg bs (k : Int)))] := hM34.call hM40x
    clear hM40x hM34
    replace hF42 : Fr a41 24 (putE [(1, (.int .i64 b)), (2, (.pointer (some ⟨b1, 0, none⟩))), (5, (.slice A1 n1 c1)), (6, (.int .i64 (k : Int))), (9, (.int .i64 ((bs.length : Nat) : Int))), (10, (.int .i64 (k : Int))), (15, (.slice A31 ((tg bs (k : Int)).length) c32)), (16, (.int .i64 b))] (some 17) (.bool ((tg bs (k : Int)).contains b))) := hF42
    obtain ⟨Bhit, hBhit⟩ : ∃ B, B = (tg bs (k : Int)).contains b := ⟨_, rfl⟩
    rw [← hBhit] at hF42
    replace hF42 : Fr a41 24 [(1, (.int .i64 b)), (2, (.pointer (some ⟨b1, 0, none⟩))), (5, (.slice A1 n1 c1)), (6, (.int .i64 (k : Int))), (9, (.int .i64 ((bs.length : Nat) : Int))), (10, (.int .i64 (k : Int))), (17, (.bool Bhit))] := hF42.keep (keep := [1, 2, 5, 6, 9, 10, 17]) (by kernel_rfl)
    refine From_end (by kernel_rfl) ?_
    cases Bhit
    · have chit : ((tg bs (k : Int)).contains b) = false := hBhit.symm
      refine W_cond (t := 17) (B := false) (by kernel_rfl) hF42 (by kernel_rfl) (fun t => Bool.noConfusion t) (fun _ => ?_)
      refine W_skip (by kernel_rfl) ?_
      refine W_region (by kernel_rfl) ?_   -- region 7
      refine From_arith (by kernel_rfl : coreAt _ 0 = some (some 22, (Go.Op.binOp Go.BinOp.add 3 (Go.Operand.tmp 10) (Go.Operand.const (Go.Value.int Go.IntKind.i64 1)) 3), 3, none)) hF42 (by kernel_rfl) (by kernel_rfl) (k' := 1) rfl (i := (k : Int)) (j := 1) (z := ((k : Int) + 1)) (by kernel_rfl) (by kernel_rfl) rfl (by omega) (by omega) ?_
      intro a43 ea hF44; clear ea hF42 a41
      replace hF44 : Fr a43 24 [(1, (.int .i64 b)), (2, (.pointer (some ⟨b1, 0, none⟩))), (5, (.slice A1 n1 c1)), (9, (.int .i64 ((bs.length : Nat) : Int))), (22, (.int .i64 ((k : Int) + 1)))] := hF44.keep (keep := [1, 2, 5, 9, 22]) (by kernel_rfl)
      refine From_pure 1 2 [1, 2, 5, 9, 10] hF44 (env' := [(1, (.int .i64 b)), (2, (.pointer (some ⟨b1, 0, none⟩))), (5, (.slice A1 n1 c1)), (9, (.int .i64 ((bs.length : Nat) : Int))), (10, (.int .i64 ((k : Int) + 1)))]) (by kernel_rfl) rfl ?_
      intro a45 hF46; clear hF44 a43
      refine From_end (by kernel_rfl) ?_
      exact ⟨bs.length - (k + 1), by omega, k + 1, A1, n1, c1, l1, rfl, hF46.keep (keep := [1, 2, 5, 9, 10]) (by kernel_rfl), (hM40.pick [true, true, false] rfl), by omega, by rw [srcsTo_succ, if_neg (by rw [chit]; simp), List.append_nil]; exact hl1, hn1⟩
    · have chit : ((tg bs (k : Int)).contains b) = true := hBhit.symm
      refine W_cond (t := 17) (B := true) (by kernel_rfl) hF42 (by kernel_rfl) (fun _ => ?_) (fun t => Bool.noConfusion t)
      refine W_region (by kernel_rfl) ?_   -- region 6
      refine From_pure 2 2 [1, 2, 9, 10, 18, 19] hF42 (env' := [(1, (.int .i64 b)), (2, (.pointer (some ⟨b1, 0, none⟩))), (9, (.int .i64 ((bs.length : Nat) : Int))), (10, (.int .i64 (k : Int))), (18, (.slice A1 n1 c1)), (19, (.int .i64 (k : Int)))]) (by kernel_rfl) rfl ?_
      intro a47 hF48; clear hF42 a41
      refine From_buildSlice (by kernel_rfl : coreAt _ 2 = some (some 20, (Go.Op.buildSlice 27 1 #[(0, (Go.Operand.tmp 19))]), 27, none)) hF48 (by kernel_rfl) (by kernel_rfl) (k' := 3) rfl (e := 3) (size := 1) (zs := [(.int .i64 0)]) (vs := [(0, (.int .i64 (k : Int)))]) (cs := [(.int .i64 (k : Int))]) (by kernel_rfl) (by kernel_rfl) (by kernel_rfl) (by kernel_rfl) (by kernel_rfl) (by kernel_rfl) hM40 ?_
      intro b49 w50 hb49 _ hM51 _ a52 ea hF53; clear ea hF48 a47
      change Mem noS w w50 [.blk b1 24 [nm, wk, pa, va, (.slice A bs.length c)], .row 3 1 A1 n1 c1 (ints l1), .row 3 1 A31 ((tg bs (k : Int)).length) c32 (ints (tg bs (k : Int))), .row 3 1 (some ⟨b49, 0, none⟩) 1 1 [(.int .i64 (k : Int))]] at hM51
      clear hM40
      replace hF53 : Fr a52 24 [(1, (.int .i64 b)), (2, (.pointer (some ⟨b1, 0, none⟩))), (9, (.int .i64 ((bs.length : Nat) : Int))), (10, (.int .i64 (k : Int))), (18, (.slice A1 n1 c1)), (20, (.slice (some ⟨b49, 0, none⟩) 1 1))] := hF53.keep (keep := [1, 2, 9, 10, 18, 20]) (by kernel_rfl)
      refine From_append (by kernel_rfl : coreAt _ 3 = some (some 21, (Go.Op.call { callee := (Go.Callee.builtin Go.Builtin.append), args := #[(Go.Operand.tmp 18), (Go.Operand.tmp 20)], argTypes := #[27, 27] }), 27, none)) hF53 (by kernel_rfl) (by kernel_rfl) (k' := 4) rfl (e := 3) (size := 1) (bytes := 8) (z := (.int .i64 0)) (by kernel_rfl) (by kernel_rfl) (by kernel_rfl) (by kernel_rfl) (A := A1) (B := (some ⟨b49, 0, none⟩)) (n := n1) (cap := c1) (m := 1) (cap' := 1) (xs := (ints l1)) (news := [(.int .i64 (k : Int))]) (by kernel_rfl) (by kernel_rfl) hM51 1 rfl (row_rd (hM51.get 3 rfl)) rfl (by simp [Value.oneCell']) (by have := srcsTo_len bs b k; rw [hl1] at hn1; omega) (by have := srcsTo_len bs b k; rw [hl1] at hn1; simp only [maxLen]; omega) ?_
      intro A54 c55 w56 hM57 _ a58 ea hF59; clear ea hF53 a52
      change Mem noS w w56 [.blk b1 24 [nm, wk, pa, va, (.slice A bs.length c)], .row 3 1 A54 (n1 + 1) c55 ((ints l1) ++ [(.int .i64 (k : Int))]), .row 3 1 A31 ((tg bs (k : Int)).length) c32 (ints (tg bs (k : Int))), .row 3 1 (some ⟨b49, 0, none⟩) 1 1 [(.int .i64 (k : Int))]] at hM57
      clear hM51
      replace hM57 : Mem noS w w56 [.blk b1 24 [nm, wk, pa, va, (.slice A bs.length c)], .row 3 1 A54 (n1 + 1) c55 ((ints l1) ++ [(.int .i64 (k : Int))]), .row 3 1 A31 ((tg bs (k : Int)).length) c32 (ints (tg bs (k : Int)))] := hM57.pick [true, true, true, false] rfl
      replace hF59 : Fr a58 24 [(1, (.int .i64 b)), (2, (.pointer (some ⟨b1, 0, none⟩))), (9, (.int .i64 ((bs.length : Nat) : Int))), (10, (.int .i64 (k : Int))), (21, (.slice A54 (n1 + 1) c55))] := hF59.keep (keep := [1, 2, 9, 10, 21]) (by kernel_rfl)
      refine From_pure 1 5 [1, 2, 5, 9, 10] hF59 (env' := [(1, (.int .i64 b)), (2, (.pointer (some ⟨b1, 0, none⟩))), (5, (.slice A54 (n1 + 1) c55)), (9, (.int .i64 ((bs.length : Nat) : Int))), (10, (.int .i64 (k : Int)))]) (by kernel_rfl) rfl ?_
      intro a60 hF61; clear hF59 a58
      refine From_end (by kernel_rfl) ?_
      refine W_region (by kernel_rfl) ?_   -- region 7
      refine From_arith (by kernel_rfl : coreAt _ 0 = some (some 22, (Go.Op.binOp Go.BinOp.add 3 (Go.Operand.tmp 10) (Go.Operand.const (Go.Value.int Go.IntKind.i64 1)) 3), 3, none)) hF61 (by kernel_rfl) (by kernel_rfl) (k' := 1) rfl (i := (k : Int)) (j := 1) (z := ((k : Int) + 1)) (by kernel_rfl) (by kernel_rfl) rfl (by omega) (by omega) ?_
      intro a62 ea hF63; clear ea hF61 a60
      replace hF63 : Fr a62 24 [(1, (.int .i64 b)), (2, (.pointer (some ⟨b1, 0, none⟩))), (5, (.slice A54 (n1 + 1) c55)), (9, (.int .i64 ((bs.length : Nat) : Int))), (22, (.int .i64 ((k : Int) + 1)))] := hF63.keep (keep := [1, 2, 5, 9, 22]) (by kernel_rfl)
      refine From_pure 1 2 [1, 2, 5, 9, 10] hF63 (env' := [(1, (.int .i64 b)), (2, (.pointer (some ⟨b1, 0, none⟩))), (5, (.slice A54 (n1 + 1) c55)), (9, (.int .i64 ((bs.length : Nat) : Int))), (10, (.int .i64 ((k : Int) + 1)))]) (by kernel_rfl) rfl ?_
      intro a64 hF65; clear hF63 a62
      refine From_end (by kernel_rfl) ?_
      exact ⟨bs.length - (k + 1), by omega, k + 1, A54, (n1 + 1), c55, l1 ++ [(k : Int)], rfl, hF65.keep (keep := [1, 2, 5, 9, 10]) (by kernel_rfl), ((hM57.pick [true, true, false] rfl).cast (by rw [ints_append]; rfl)), by omega, by rw [srcsTo_succ, if_pos chit, hl1], by rw [List.length_append, hn1]; rfl⟩

end Go.Proofs.Ytlkpkinmmjcbcaa
