/-
  Walks of layer 18. Printed by wip/gen/dom.py.
-/
import Derived.Test.YtlkpkinmmjcbcaaD13
import Derived.Test.YtlkpkinmmjcbcaaM11
namespace Go.Proofs.Ytlkpkinmmjcbcaa
open Go.Mor

set_option maxRecDepth 10000 in
theorem lists_c (l m : List (List Int)) (rows rows2 : List RowV) (A A2 : Option Addr) (n n2 c c2 : Nat) (w : World) (hn : n = l.length) (hn2 : n2 = m.length) (_hl : l.length ≤ 1000000) (hm : ∀ x, x ∈ l → x.length ≤ 1000000) (hf : FamOf (Value.int .i64) rows l) (hf2 : FamOf (Value.int .i64) rows2 m) (hR : RO noS w (.rd A (slv rows))) (hR2 : RO noS w (.rd A2 (slv rows2))) (hF1 : RO noS w (.fam 3 rows)) (hF2 : RO noS w (.fam 3 rows2)) :
    Calls Try.prog 15 #[(.slice A n c), (.slice A2 n2 c2)] w (Ret fun v w' => v = .bool (decide (l = m)) ∧ Mem noS w w' []) := by
  refine enter (N := 27) (vs := [(.slice A n c), (.slice A2 n2 c2)]) Try.func15 (by kernel_rfl) (by kernel_rfl) (by kernel_rfl) ?_
  intro a hF
  have hM := Mem.init w
  refine W_seq (by kernel_rfl) ?_
  refine W_region (by kernel_rfl) ?_   -- region 0
  refine From_pure 1 1 [0, 1] hF (env' := [(0, (.slice A n c)), (1, (.slice A2 n2 c2))]) (by kernel_rfl) rfl ?_
  intro a1 hF2; clear hF a
  refine From_end (by kernel_rfl) ?_
  refine W_seq (by kernel_rfl) ?_
  refine W_seq (by kernel_rfl) ?_
  refine W_region (by kernel_rfl) ?_   -- region 1
  refine From_pure 4 4 [0, 1, 7, 9] hF2 (env' := [(0, (.slice A n c)), (1, (.slice A2 n2 c2)), (7, (.int .i64 ((n : Nat) : Int))), (9, (.int .i64 ((n2 : Nat) : Int)))]) (by kernel_rfl) rfl ?_
  intro a3 hF4; clear hF2 a1
  refine From_cmp (by kernel_rfl : coreAt _ 4 = some (some 10, (Go.Op.binOp Go.BinOp.neq 3 (Go.Operand.tmp 7) (Go.Operand.tmp 9) 3), 4, none)) hF4 (by kernel_rfl) (by kernel_rfl) (k' := 5) rfl (kd := .i64) (i := ((n : Nat) : Int)) (j := ((n2 : Nat) : Int)) (by kernel_rfl) (by kernel_rfl) rfl ?_
  intro Bln hBln a5 ea hF6; clear ea hF4 a3
  replace hF6 : Fr a5 27 [(0, (.slice A n c)), (1, (.slice A2 n2 c2)), (10, (.bool Bln))] := hF6.keep (keep := [0, 1, 10]) (by kernel_rfl)
  refine From_end (by kernel_rfl) ?_
  cases Bln
  · have cln : ¬ (((n : Nat) : Int) ≠ ((n2 : Nat) : Int)) := by simpa using hBln
    refine W_cond (t := 10) (B := false) (by kernel_rfl) hF6 (by kernel_rfl) (fun t => Bool.noConfusion t) (fun _ => ?_)
    refine W_skip (by kernel_rfl) ?_
    refine W_seq (by kernel_rfl) ?_
    refine W_seq (by kernel_rfl) ?_
    refine W_region (by kernel_rfl) ?_   -- region 3
    refine From_pure 1 1 [0, 1, 5] hF6 (env' := [(0, (.slice A n c)), (1, (.slice A2 n2 c2)), (5, (.int .i64 0))]) (by kernel_rfl) rfl ?_
    intro a7 hF8; clear hF6 a5
    refine From_end (by kernel_rfl) ?_
    refine W_block (id := 0) (by kernel_rfl) ?_
    refine W_loop (by kernel_rfl) (fun n_ a_ w_ => ∃ (j : Nat), n_ = n - j ∧ Fr a_ 27 [(0, (.slice A n c)), (1, (.slice A2 n2 c2)), (5, (.int .i64 (j : Int)))] ∧ Mem noS w w_ [] ∧ (j ≤ n) ∧ (l.take j = m.take j)) (n := _) ⟨0, rfl, hF8.keep (keep := [0, 1, 5]) (by kernel_rfl), hM, by omega, by simp⟩ ?_
    clear hF8 a7 hM; rintro n a11 w9 ⟨j, rfl, hF12, hM10, hj, hq⟩
    refine W_seq (by kernel_rfl) ?_
    refine W_seq (by kernel_rfl) ?_
    refine W_region (by kernel_rfl) ?_   -- region 4
    refine From_pure 3 3 [0, 1, 5, 11, 13] hF12 (env' := [(0, (.slice A n c)), (1, (.slice A2 n2 c2)), (5, (.int .i64 (j : Int))), (11, (.int .i64 (j : Int))), (13, (.int .i64 ((n : Nat) : Int)))]) (by kernel_rfl) rfl ?_
    intro a13 hF14; clear hF12 a11
    refine From_cmp (by kernel_rfl : coreAt _ 3 = some (some 14, (Go.Op.binOp Go.BinOp.lss 3 (Go.Operand.tmp 11) (Go.Operand.tmp 13) 3), 4, none)) hF14 (by kernel_rfl) (by kernel_rfl) (k' := 4) rfl (kd := .i64) (i := (j : Int)) (j := ((n : Nat) : Int)) (by kernel_rfl) (by kernel_rfl) rfl ?_
    intro Bj hBj a15 ea hF16; clear ea hF14 a13
    replace hF16 : Fr a15 27 [(0, (.slice A n c)), (1, (.slice A2 n2 c2)), (5, (.int .i64 (j : Int))), (14, (.bool Bj))] := hF16.keep (keep := [0, 1, 5, 14]) (by kernel_rfl)
    refine From_end (by kernel_rfl) ?_
    cases Bj
    · have cj : ¬ ((j : Int) < ((n : Nat) : Int)) := by simpa using hBj
      refine W_cond (t := 14) (B := false) (by kernel_rfl) hF16 (by kernel_rfl) (fun t => Bool.noConfusion t) (fun _ => ?_)
      refine W_exit (id := 0) (by kernel_rfl) ?_
      refine inB_hit rfl ?_
      refine W_seq (by kernel_rfl) ?_
      refine W_region (by kernel_rfl) ?_   -- region 8
      refine From_pure 1 1 [4] hF16 (env' := [(4, (.bool true))]) (by kernel_rfl) rfl ?_
      intro a17 hF18; clear hF16 a15
      refine From_end (by kernel_rfl) ?_
      refine W_ret (by kernel_rfl) ?_
      refine out1 (v := (.bool true)) hF18 rfl (by kernel_rfl) ?_
      refine ⟨_, rfl, ?_⟩
      exact ⟨by rw [ll_yes hq (by omega) (by omega)], hM10⟩
    · have cj : (j : Int) < ((n : Nat) : Int) := by simpa using hBj
      obtain ⟨x, hx⟩ : ∃ x, l[j]? = some x := ⟨_, List.getElem?_eq_getElem (by omega)⟩
      obtain ⟨y, hy⟩ : ∃ y, m[j]? = some y := ⟨_, List.getElem?_eq_getElem (by omega)⟩
      obtain ⟨Ax, cx, hrx⟩ := hf.get hx
      obtain ⟨Ay, cy, hry⟩ := hf2.get hy
      have hxl := hm x (List.mem_of_getElem? hx)
      refine W_cond (t := 14) (B := true) (by kernel_rfl) hF16 (by kernel_rfl) (fun _ => ?_) (fun t => Bool.noConfusion t)
      refine W_skip (by kernel_rfl) ?_
      refine W_seq (by kernel_rfl) ?_
      refine W_block (id := 1) (by kernel_rfl) ?_
      refine W_seq (by kernel_rfl) ?_
      obtain ⟨ad19, rfl⟩ := rd_some (hM10.ro hR) (by rw [slv_len, hf.len]; omega)
      obtain ⟨ad20, rfl⟩ := rd_some (hM10.ro hR2) (by rw [slv_len, hf2.len]; omega)
      obtain ⟨Bsm, hBsm⟩ : ∃ B : Bool, B = decide (x = y) := ⟨_, rfl⟩
      refine W_draw (N := 27) (env0 := [(0, (.slice (some ad19) n c)), (1, (.slice (some ad20) n2 c2)), (5, (.int .i64 (j : Int))), (14, (.bool true))]) (by kernel_rfl) (by kernel_rfl) (specAt [.det (.slice (some ad19) n c), .det (.int .i64 (j : Int)), .det (.pointer (some ((ad19 : Addr).add (((j : Int)).toNat * 1)))), .det (.slice Ax x.length cx), .det (.slice (some ad20) n2 c2), .det (.int .i64 (j : Int)), .det (.pointer (some ((ad20 : Addr).add (((j : Int)).toNat * 1)))), .det (.slice Ay y.length cy), .det (.bool Bsm), .det (.bool (!Bsm))]) (by kernel_rfl) (by kernel_rfl) hF16 (by kernel_rfl) (by kernel_rfl) ((lt_succ_all (lt_succ_all (lt_succ_all (lt_succ_all (lt_succ_all (lt_succ_all (lt_succ_all (lt_succ_all (lt_succ_all (lt_succ_all lt_zero_all ?_) ?_) ?_) ?_) ?_) ?_) ?_) ?_) ?_) ?_)) ?_   -- region 6
      · intro aa_ w_ vs rest_ hK hp hF
        refine ⟨true, opok_guard (g0 := none) (by kernel_rfl) (by kernel_rfl), fun _ => ?_, fun h => Bool.noConfusion h⟩
        replace hF : Fr aa_ 27 [(0, (.slice (some ad19) n c))] := hF.keep (keep := [0]) (by kernel_rfl)
        refine From_pure1 (by kernel_rfl : coreAt _ 0 = some (some 17, (Go.Op.move (Go.Operand.tmp 0)), 31, none)) hF (by kernel_rfl) (by kernel_rfl) (k' := 1) rfl (v := (.slice (some ad19) n c)) (by kernel_rfl) ?_
        intro a2 ea _
        refine From_end (by kernel_rfl) ?_; exact op_done (d := some 17) (by kernel_rfl) ea (Kp.refl _) rfl
      · intro aa_ w_ vs rest_ hK hp hF
        refine ⟨true, opok_guard (g0 := none) (by kernel_rfl) (by kernel_rfl), fun _ => ?_, fun h => Bool.noConfusion h⟩
        replace hF : Fr aa_ 27 [(5, (.int .i64 (j : Int)))] := hF.keep (keep := [5]) (by kernel_rfl)
        refine From_pure1 (by kernel_rfl : coreAt _ 0 = some (some 18, (Go.Op.move (Go.Operand.tmp 5)), 3, none)) hF (by kernel_rfl) (by kernel_rfl) (k' := 1) rfl (v := (.int .i64 (j : Int))) (by kernel_rfl) ?_
        intro a2 ea _
        refine From_end (by kernel_rfl) ?_; exact op_done (d := some 18) (by kernel_rfl) ea (Kp.refl _) rfl
      · intro aa_ w_ vs rest_ hK hp hF
        refine ⟨true, opok_guard (g0 := none) (by kernel_rfl) (by kernel_rfl), fun _ => ?_, fun h => Bool.noConfusion h⟩
        replace hF : Fr aa_ 27 [(17, (.slice (some ad19) n c)), (18, (.int .i64 (j : Int)))] := hF.keep (keep := [17, 18]) (by kernel_rfl)
        refine From_index (by kernel_rfl : coreAt _ 0 = some (some 19, (Go.Op.indexAddr 31 (Go.Operand.tmp 17) (Go.Operand.tmp 18)), 0, none)) hF (by kernel_rfl) (by kernel_rfl) (k' := 1) rfl (A := (some ad19)) (ad := ad19) (n := n) (cap := c) (e := 27) (size := 1) (kd := .i64) (i := (j : Int)) (by kernel_rfl) (by kernel_rfl) rfl (by kernel_rfl) (by kernel_rfl) (by omega) (by omega) ?_
        intro a2 ea _
        refine From_end (by kernel_rfl) ?_; exact op_done (d := some 19) (by kernel_rfl) ea (Kp.refl _) rfl
      · intro aa_ w_ vs rest_ hK hp hF
        refine ⟨true, opok_guard (g0 := none) (by kernel_rfl) (by kernel_rfl), fun _ => ?_, fun h => Bool.noConfusion h⟩
        replace hF : Fr aa_ 27 [(19, (.pointer (some ((ad19 : Addr).add (((j : Int)).toNat * 1)))))] := hF.keep (keep := [19]) (by kernel_rfl)
        refine From_load1 (by kernel_rfl : coreAt _ 0 = some (some 20, (Go.Op.load 27 (Go.Operand.tmp 19)), 27, none)) hF (by kernel_rfl) (by kernel_rfl) (k' := 1) rfl (ad := ((ad19 : Addr).add (((j : Int)).toNat * 1))) (v := (.slice Ax x.length cx)) (by kernel_rfl) (by kernel_rfl) (rd_get1 ((hM10.then_ hK).ro hR) rfl (slv_get hrx)) ?_
        intro a2 ea _
        refine From_end (by kernel_rfl) ?_; exact op_done (d := some 20) (by kernel_rfl) ea (Kp.refl _) rfl
      · intro aa_ w_ vs rest_ hK hp hF
        refine ⟨true, opok_guard (g0 := none) (by kernel_rfl) (by kernel_rfl), fun _ => ?_, fun h => Bool.noConfusion h⟩
        replace hF : Fr aa_ 27 [(1, (.slice (some ad20) n2 c2))] := hF.keep (keep := [1]) (by kernel_rfl)
        refine From_pure1 (by kernel_rfl : coreAt _ 0 = some (some 21, (Go.Op.move (Go.Operand.tmp 1)), 31, none)) hF (by kernel_rfl) (by kernel_rfl) (k' := 1) rfl (v := (.slice (some ad20) n2 c2)) (by kernel_rfl) ?_
        intro a2 ea _
        refine From_end (by kernel_rfl) ?_; exact op_done (d := some 21) (by kernel_rfl) ea (Kp.refl _) rfl
      · intro aa_ w_ vs rest_ hK hp hF
        refine ⟨true, opok_guard (g0 := none) (by kernel_rfl) (by kernel_rfl), fun _ => ?_, fun h => Bool.noConfusion h⟩
        replace hF : Fr aa_ 27 [(5, (.int .i64 (j : Int)))] := hF.keep (keep := [5]) (by kernel_rfl)
        refine From_pure1 (by kernel_rfl : coreAt _ 0 = some (some 22, (Go.Op.move (Go.Operand.tmp 5)), 3, none)) hF (by kernel_rfl) (by kernel_rfl) (k' := 1) rfl (v := (.int .i64 (j : Int))) (by kernel_rfl) ?_
        intro a2 ea _
        refine From_end (by kernel_rfl) ?_; exact op_done (d := some 22) (by kernel_rfl) ea (Kp.refl _) rfl
      · intro aa_ w_ vs rest_ hK hp hF
        refine ⟨true, opok_guard (g0 := none) (by kernel_rfl) (by kernel_rfl), fun _ => ?_, fun h => Bool.noConfusion h⟩
        replace hF : Fr aa_ 27 [(21, (.slice (some ad20) n2 c2)), (22, (.int .i64 (j : Int)))] := hF.keep (keep := [21, 22]) (by kernel_rfl)
        refine From_index (by kernel_rfl : coreAt _ 0 = some (some 23, (Go.Op.indexAddr 31 (Go.Operand.tmp 21) (Go.Operand.tmp 22)), 0, none)) hF (by kernel_rfl) (by kernel_rfl) (k' := 1) rfl (A := (some ad20)) (ad := ad20) (n := n2) (cap := c2) (e := 27) (size := 1) (kd := .i64) (i := (j : Int)) (by kernel_rfl) (by kernel_rfl) rfl (by kernel_rfl) (by kernel_rfl) (by omega) (by omega) ?_
        intro a2 ea _
        refine From_end (by kernel_rfl) ?_; exact op_done (d := some 23) (by kernel_rfl) ea (Kp.refl _) rfl
      · intro aa_ w_ vs rest_ hK hp hF
        refine ⟨true, opok_guard (g0 := none) (by kernel_rfl) (by kernel_rfl), fun _ => ?_, fun h => Bool.noConfusion h⟩
        replace hF : Fr aa_ 27 [(23, (.pointer (some ((ad20 : Addr).add (((j : Int)).toNat * 1)))))] := hF.keep (keep := [23]) (by kernel_rfl)
        refine From_load1 (by kernel_rfl : coreAt _ 0 = some (some 24, (Go.Op.load 27 (Go.Operand.tmp 23)), 27, none)) hF (by kernel_rfl) (by kernel_rfl) (k' := 1) rfl (ad := ((ad20 : Addr).add (((j : Int)).toNat * 1))) (v := (.slice Ay y.length cy)) (by kernel_rfl) (by kernel_rfl) (rd_get1 ((hM10.then_ hK).ro hR2) rfl (slv_get hry)) ?_
        intro a2 ea _
        refine From_end (by kernel_rfl) ?_; exact op_done (d := some 24) (by kernel_rfl) ea (Kp.refl _) rfl
      · intro aa_ w_ vs rest_ hK hp hF
        refine ⟨true, opok_guard (g0 := none) (by kernel_rfl) (by kernel_rfl), fun _ => ?_, fun h => Bool.noConfusion h⟩
        replace hF : Fr aa_ 27 [(20, (.slice Ax x.length cx)), (24, (.slice Ay y.length cy))] := hF.keep (keep := [20, 24]) (by kernel_rfl)
        refine From_call (by kernel_rfl : coreAt _ 0 = some (some 25, (Go.Op.call { callee := (Go.Callee.value (Go.Operand.func 10)), args := #[(Go.Operand.tmp 20), (Go.Operand.tmp 24)], argTypes := #[27, 27] }), 4, none)) hF (by kernel_rfl) (by kernel_rfl) (k' := 1) rfl (f := 10) (vs := [(.slice Ax x.length cx), (.slice Ay y.length cy)]) (cap := []) (by kernel_rfl) (by kernel_rfl) (by kernel_rfl) (same_c x y Ax Ay cx cy w_ hxl (RO.row_rd (RO.fam_rd (hF1.at_ (hM10.then_ hK)) hrx)) (RO.row_rd (RO.fam_rd (hF2.at_ (hM10.then_ hK)) hry))) ?_
        rintro _ w2 ⟨rfl, hm_⟩ a2 ea _
        refine From_end (by kernel_rfl) ?_; exact op_done (d := some 25) (by kernel_rfl) ea hm_.kp (congrArg Value.bool hBsm.symm)
      · intro aa_ w_ vs rest_ hK hp hF
        refine ⟨true, opok_guard (g0 := none) (by kernel_rfl) (by kernel_rfl), fun _ => ?_, fun h => Bool.noConfusion h⟩
        replace hF : Fr aa_ 27 [(25, (.bool Bsm))] := hF.keep (keep := [25]) (by kernel_rfl)
        refine From_pure1 (by kernel_rfl : coreAt _ 0 = some (some 26, (Go.Op.unOp Go.UnOp.not 4 (Go.Operand.tmp 25)), 4, none)) hF (by kernel_rfl) (by kernel_rfl) (k' := 1) rfl (v := (.bool (!Bsm))) (by kernel_rfl) ?_
        intro a2 ea _
        refine From_end (by kernel_rfl) ?_; exact op_done (d := some 26) (by kernel_rfl) ea (Kp.refl _) rfl
      intro a21 w23 vs hK hv hF22
      replace hF22 : Fr a21 27 [(0, (.slice (some ad19) n c)), (1, (.slice (some ad20) n2 c2)), (5, (.int .i64 (j : Int))), (26, (.bool (!Bsm)))] := hF22.keep (keep := [0, 1, 5, 26]) (by kernel_rfl)
      have hM24 := hM10.then_ hK
      clear hK hv hF16 a15 hM10; clear vs
      cases Bsm
      · have csm : (decide (x = y)) = false := hBsm.symm
        refine W_cond (t := 26) (B := true) (by kernel_rfl) hF22 (by kernel_rfl) (fun _ => ?_) (fun t => Bool.noConfusion t)
        refine W_seq (by kernel_rfl) ?_
        refine W_region (by kernel_rfl) ?_   -- region 7
        refine From_pure 1 1 [4] hF22 (env' := [(4, (.bool false))]) (by kernel_rfl) rfl ?_
        intro a25 hF26; clear hF22 a21
        refine From_end (by kernel_rfl) ?_
        refine W_ret (by kernel_rfl) ?_
        refine inB_ret ?_
        refine inB_ret ?_
        refine out1 (v := (.bool false)) hF26 rfl (by kernel_rfl) ?_
        refine ⟨_, rfl, ?_⟩
        exact ⟨by rw [ll_no hx hy csm], hM24⟩
      · have csm : (decide (x = y)) = true := hBsm.symm
        refine W_cond (t := 26) (B := false) (by kernel_rfl) hF22 (by kernel_rfl) (fun t => Bool.noConfusion t) (fun _ => ?_)
        refine W_skip (by kernel_rfl) ?_
        refine W_region (by kernel_rfl) ?_   -- region 5
        refine From_pure 1 1 [0, 1, 15] hF22 (env' := [(0, (.slice (some ad19) n c)), (1, (.slice (some ad20) n2 c2)), (15, (.int .i64 (j : Int)))]) (by kernel_rfl) rfl ?_
        intro a27 hF28; clear hF22 a21
        refine From_arith (by kernel_rfl : coreAt _ 1 = some (some 16, (Go.Op.binOp Go.BinOp.add 3 (Go.Operand.tmp 15) (Go.Operand.const (Go.Value.int Go.IntKind.i64 1)) 3), 3, none)) hF28 (by kernel_rfl) (by kernel_rfl) (k' := 2) rfl (i := (j : Int)) (j := 1) (z := ((j : Int) + 1)) (by kernel_rfl) (by kernel_rfl) rfl (by omega) (by omega) ?_
        intro a29 ea hF30; clear ea hF28 a27
        replace hF30 : Fr a29 27 [(0, (.slice (some ad19) n c)), (1, (.slice (some ad20) n2 c2)), (16, (.int .i64 ((j : Int) + 1)))] := hF30.keep (keep := [0, 1, 16]) (by kernel_rfl)
        refine From_pure 1 3 [0, 1, 5] hF30 (env' := [(0, (.slice (some ad19) n c)), (1, (.slice (some ad20) n2 c2)), (5, (.int .i64 ((j : Int) + 1)))]) (by kernel_rfl) rfl ?_
        intro a31 hF32; clear hF30 a29
        refine From_end (by kernel_rfl) ?_
        exact ⟨n - (j + 1), by omega, j + 1, rfl, hF32.keep (keep := [0, 1, 5]) (by kernel_rfl), hM24, by omega, ll_next hq hx hy (by simpa using csm)⟩
  · have cln : ((n : Nat) : Int) ≠ ((n2 : Nat) : Int) := by simpa using hBln
    refine W_cond (t := 10) (B := true) (by kernel_rfl) hF6 (by kernel_rfl) (fun _ => ?_) (fun t => Bool.noConfusion t)
    refine W_seq (by kernel_rfl) ?_
    refine W_region (by kernel_rfl) ?_   -- region 2
    refine From_pure 1 1 [4] hF6 (env' := [(4, (.bool false))]) (by kernel_rfl) rfl ?_
    intro a33 hF34; clear hF6 a5
    refine From_end (by kernel_rfl) ?_
    refine W_ret (by kernel_rfl) ?_
    refine out1 (v := (.bool false)) hF34 rfl (by kernel_rfl) ?_
    refine ⟨_, rfl, ?_⟩
    exact ⟨by rw [ll_len (by omega)], hM⟩

end Go.Proofs.Ytlkpkinmmjcbcaa
