/-
  Walks of layer 18. Printed by wip/gen/dom.py.
-/
import Derived.Test.YtlkpkinmmjcbcaaD9
import Derived.Test.YtlkpkinmmjcbcaaM7
namespace Go.Proofs.Ytlkpkinmmjcbcaa
open Go.Mor

set_option maxRecDepth 10000 in
theorem meet_c (g5 g6 : Nat) (ada adb : Addr) (n ca cb : Nat) (atl ab : List Int) (T : Int → List Int) (pl up : Int → Int) (xa xb : Int) (w : World) (_hm : n ≤ 1000000) (h5 : RO noS w (.blk g5 27 [.slice (some ada) n ca])) (h6 : RO noS w (.blk g6 27 [.slice (some adb) n cb])) (hA : RO noS w (.rd (some ada) (ints atl))) (hB : RO noS w (.rd (some adb) (ints ab))) (hmk : Mok T pl up n atl ab) (hxa : Prc pl up xa) (hxb : Prc pl up xb) :
    Calls Try.prog 37 #[(.int .i64 xa), (.int .i64 xb), (.pointer (some ⟨g5, 0, none⟩)), (.pointer (some ⟨g6, 0, none⟩))] w (Ret fun v w' => ∃ c : Int, v = .int .i64 c ∧ Climb pl up xa xb c ∧ Mem noS w w' []) := by
  refine enter (N := 37) (vs := [(.int .i64 xa), (.int .i64 xb), (.pointer (some ⟨g5, 0, none⟩)), (.pointer (some ⟨g6, 0, none⟩))]) Try.func37 (by kernel_rfl) (by kernel_rfl) (by kernel_rfl) ?_
  intro a hF
  have hM := Mem.init w
  refine W_seq (by kernel_rfl) ?_
  refine W_region (by kernel_rfl) ?_   -- region 0
  refine From_pure 1 1 [0, 1, 2, 3] hF (env' := [(0, (.int .i64 xa)), (1, (.int .i64 xb)), (2, (.pointer (some ⟨g5, 0, none⟩))), (3, (.pointer (some ⟨g6, 0, none⟩)))]) (by kernel_rfl) rfl ?_
  intro a1 hF2; clear hF a
  refine From_end (by kernel_rfl) ?_
  refine W_seq (by kernel_rfl) ?_
  refine W_block (id := 0) (by kernel_rfl) ?_
  refine W_loop (by kernel_rfl) (fun n_ a_ w_ => ∃ (a1 : Int) (b1 : Int), n_ = (pl a1 + pl b1).toNat ∧ Fr a_ 37 [(0, (.int .i64 a1)), (1, (.int .i64 b1)), (2, (.pointer (some ⟨g5, 0, none⟩))), (3, (.pointer (some ⟨g6, 0, none⟩)))] ∧ Mem noS w w_ [] ∧ (Prc pl up a1) ∧ (Prc pl up b1) ∧ (∀ c, Climb pl up a1 b1 c → Climb pl up xa xb c)) (n := _) ⟨xa, xb, rfl, hF2.keep (keep := [0, 1, 2, 3]) (by kernel_rfl), hM, hxa, hxb, fun _ h => h⟩ ?_
  clear hF2 a1 hM; rintro n a5 w3 ⟨a1, b1, rfl, hF6, hM4, ha1, hb1, hc1⟩
  refine W_seq (by kernel_rfl) ?_
  refine W_seq (by kernel_rfl) ?_
  refine W_region (by kernel_rfl) ?_   -- region 1
  refine From_pure 2 2 [0, 1, 2, 3, 7, 8] hF6 (env' := [(0, (.int .i64 a1)), (1, (.int .i64 b1)), (2, (.pointer (some ⟨g5, 0, none⟩))), (3, (.pointer (some ⟨g6, 0, none⟩))), (7, (.int .i64 a1)), (8, (.int .i64 b1))]) (by kernel_rfl) rfl ?_
  intro a7 hF8; clear hF6 a5
  refine From_cmp (by kernel_rfl : coreAt _ 2 = some (some 9, (Go.Op.binOp Go.BinOp.neq 3 (Go.Operand.tmp 7) (Go.Operand.tmp 8) 3), 4, none)) hF8 (by kernel_rfl) (by kernel_rfl) (k' := 3) rfl (kd := .i64) (i := a1) (j := b1) (by kernel_rfl) (by kernel_rfl) rfl ?_
  intro Bne hBne a9 ea hF10; clear ea hF8 a7
  replace hF10 : Fr a9 37 [(0, (.int .i64 a1)), (1, (.int .i64 b1)), (2, (.pointer (some ⟨g5, 0, none⟩))), (3, (.pointer (some ⟨g6, 0, none⟩))), (9, (.bool Bne))] := hF10.keep (keep := [0, 1, 2, 3, 9]) (by kernel_rfl)
  refine From_end (by kernel_rfl) ?_
  cases Bne
  · have cne : ¬ (a1 ≠ b1) := by simpa using hBne
    refine W_cond (t := 9) (B := false) (by kernel_rfl) hF10 (by kernel_rfl) (fun t => Bool.noConfusion t) (fun _ => ?_)
    refine W_exit (id := 0) (by kernel_rfl) ?_
    refine inB_hit rfl ?_
    refine W_seq (by kernel_rfl) ?_
    refine W_region (by kernel_rfl) ?_   -- region 6
    refine From_pure 2 2 [6] hF10 (env' := [(6, (.int .i64 a1))]) (by kernel_rfl) rfl ?_
    intro a11 hF12; clear hF10 a9
    refine From_end (by kernel_rfl) ?_
    refine W_ret (by kernel_rfl) ?_
    refine out1 (v := (.int .i64 a1)) hF12 rfl (by kernel_rfl) ?_
    refine ⟨_, rfl, ?_⟩
    obtain rfl : a1 = b1 := by omega
    exact ⟨_, rfl, hc1 _ (.done _), hM4⟩
  · have cne : a1 ≠ b1 := by simpa using hBne
    refine W_cond (t := 9) (B := true) (by kernel_rfl) hF10 (by kernel_rfl) (fun _ => ?_) (fun t => Bool.noConfusion t)
    refine W_skip (by kernel_rfl) ?_
    refine W_block (id := 1) (by kernel_rfl) ?_
    refine W_seq (by kernel_rfl) ?_
    refine W_block (id := 2) (by kernel_rfl) ?_
    refine W_loop (by kernel_rfl) (fun n_ a_ w_ => ∃ (a2 : Int), n_ = (pl a2).toNat ∧ Fr a_ 37 [(0, (.int .i64 a2)), (1, (.int .i64 b1)), (2, (.pointer (some ⟨g5, 0, none⟩))), (3, (.pointer (some ⟨g6, 0, none⟩)))] ∧ Mem noS w w_ [] ∧ (Prc pl up a2) ∧ (∀ c, Climb pl up a2 b1 c → Climb pl up a1 b1 c) ∧ (a2 = a1 ∨ pl a2 < pl a1)) (n := _) ⟨a1, rfl, hF10.keep (keep := [0, 1, 2, 3]) (by kernel_rfl), hM4, ha1, fun _ h => h, .inl rfl⟩ ?_
    clear hF10 a9 hM4; rintro n a15 w13 ⟨a2, rfl, hF16, hM14, ha2, hc2, hd2⟩
    refine W_seq (by kernel_rfl) ?_
    refine W_seq (by kernel_rfl) ?_
    obtain ⟨Bgt, hBgt⟩ : ∃ B : Bool, B = decide ((pl a2) > (pl b1)) := ⟨_, rfl⟩
    refine W_draw (N := 37) (env0 := [(0, (.int .i64 a2)), (1, (.int .i64 b1)), (2, (.pointer (some ⟨g5, 0, none⟩))), (3, (.pointer (some ⟨g6, 0, none⟩)))]) (by kernel_rfl) (by kernel_rfl) (specAt [.det (.slice (some ada) n ca), .det (.int .i64 a2), .det (.pointer (some ((ada : Addr).add ((a2).toNat * 1)))), .det (.int .i64 (pl a2)), .det (.slice (some ada) n ca), .det (.int .i64 b1), .det (.pointer (some ((ada : Addr).add ((b1).toNat * 1)))), .det (.int .i64 (pl b1)), .det (.bool Bgt)]) (by kernel_rfl) (by kernel_rfl) hF16 (by kernel_rfl) (by kernel_rfl) ((lt_succ_all (lt_succ_all (lt_succ_all (lt_succ_all (lt_succ_all (lt_succ_all (lt_succ_all (lt_succ_all (lt_succ_all lt_zero_all ?_) ?_) ?_) ?_) ?_) ?_) ?_) ?_) ?_)) ?_   -- region 2
    · intro aa_ w_ vs rest_ hK hp hF
      refine ⟨true, opok_guard (g0 := none) (by kernel_rfl) (by kernel_rfl), fun _ => ?_, fun h => Bool.noConfusion h⟩
      replace hF : Fr aa_ 37 [(2, (.pointer (some ⟨g5, 0, none⟩)))] := hF.keep (keep := [2]) (by kernel_rfl)
      refine From_load1 (by kernel_rfl : coreAt _ 0 = some (some 10, (Go.Op.load 27 (Go.Operand.tmp 2)), 27, none)) hF (by kernel_rfl) (by kernel_rfl) (k' := 1) rfl (ad := ⟨g5, 0, none⟩) (v := (.slice (some ada) n ca)) (by kernel_rfl) (by kernel_rfl) (blk_cell ((hM14.then_ hK).ro h5) rfl) ?_
      intro a2 ea _
      refine From_end (by kernel_rfl) ?_; exact op_done (d := some 10) (by kernel_rfl) ea (Kp.refl _) rfl
    · intro aa_ w_ vs rest_ hK hp hF
      refine ⟨true, opok_guard (g0 := none) (by kernel_rfl) (by kernel_rfl), fun _ => ?_, fun h => Bool.noConfusion h⟩
      replace hF : Fr aa_ 37 [(0, (.int .i64 a2))] := hF.keep (keep := [0]) (by kernel_rfl)
      refine From_pure1 (by kernel_rfl : coreAt _ 0 = some (some 11, (Go.Op.move (Go.Operand.tmp 0)), 3, none)) hF (by kernel_rfl) (by kernel_rfl) (k' := 1) rfl (v := (.int .i64 a2)) (by kernel_rfl) ?_
      intro a2 ea _
      refine From_end (by kernel_rfl) ?_; exact op_done (d := some 11) (by kernel_rfl) ea (Kp.refl _) rfl
    · intro aa_ w_ vs rest_ hK hp hF
      refine ⟨true, opok_guard (g0 := none) (by kernel_rfl) (by kernel_rfl), fun _ => ?_, fun h => Bool.noConfusion h⟩
      replace hF : Fr aa_ 37 [(10, (.slice (some ada) n ca)), (11, (.int .i64 a2))] := hF.keep (keep := [10, 11]) (by kernel_rfl)
      refine From_index (by kernel_rfl : coreAt _ 0 = some (some 12, (Go.Op.indexAddr 27 (Go.Operand.tmp 10) (Go.Operand.tmp 11)), 0, none)) hF (by kernel_rfl) (by kernel_rfl) (k' := 1) rfl (A := (some ada)) (ad := ada) (n := n) (cap := ca) (e := 3) (size := 1) (kd := .i64) (i := a2) (by kernel_rfl) (by kernel_rfl) rfl (by kernel_rfl) (by kernel_rfl) (hmk.rng a2 ha2.1).1 (hmk.rng a2 ha2.1).2 ?_
      intro a2 ea _
      refine From_end (by kernel_rfl) ?_; exact op_done (d := some 12) (by kernel_rfl) ea (Kp.refl _) rfl
    · intro aa_ w_ vs rest_ hK hp hF
      refine ⟨true, opok_guard (g0 := none) (by kernel_rfl) (by kernel_rfl), fun _ => ?_, fun h => Bool.noConfusion h⟩
      replace hF : Fr aa_ 37 [(12, (.pointer (some ((ada : Addr).add ((a2).toNat * 1)))))] := hF.keep (keep := [12]) (by kernel_rfl)
      refine From_load1 (by kernel_rfl : coreAt _ 0 = some (some 13, (Go.Op.load 3 (Go.Operand.tmp 12)), 3, none)) hF (by kernel_rfl) (by kernel_rfl) (k' := 1) rfl (ad := ((ada : Addr).add ((a2).toNat * 1))) (v := (.int .i64 (pl a2))) (by kernel_rfl) (by kernel_rfl) (rd_get1 ((hM14.then_ hK).ro hA) rfl (hmk.at0 ha2)) ?_
      intro a2 ea _
      refine From_end (by kernel_rfl) ?_; exact op_done (d := some 13) (by kernel_rfl) ea (Kp.refl _) rfl
    · intro aa_ w_ vs rest_ hK hp hF
      refine ⟨true, opok_guard (g0 := none) (by kernel_rfl) (by kernel_rfl), fun _ => ?_, fun h => Bool.noConfusion h⟩
      replace hF : Fr aa_ 37 [(2, (.pointer (some ⟨g5, 0, none⟩)))] := hF.keep (keep := [2]) (by kernel_rfl)
      refine From_load1 (by kernel_rfl : coreAt _ 0 = some (some 14, (Go.Op.load 27 (Go.Operand.tmp 2)), 27, none)) hF (by kernel_rfl) (by kernel_rfl) (k' := 1) rfl (ad := ⟨g5, 0, none⟩) (v := (.slice (some ada) n ca)) (by kernel_rfl) (by kernel_rfl) (blk_cell ((hM14.then_ hK).ro h5) rfl) ?_
      intro a2 ea _
      refine From_end (by kernel_rfl) ?_; exact op_done (d := some 14) (by kernel_rfl) ea (Kp.refl _) rfl
    · intro aa_ w_ vs rest_ hK hp hF
      refine ⟨true, opok_guard (g0 := none) (by kernel_rfl) (by kernel_rfl), fun _ => ?_, fun h => Bool.noConfusion h⟩
      replace hF : Fr aa_ 37 [(1, (.int .i64 b1))] := hF.keep (keep := [1]) (by kernel_rfl)
      refine From_pure1 (by kernel_rfl : coreAt _ 0 = some (some 15, (Go.Op.move (Go.Operand.tmp 1)), 3, none)) hF (by kernel_rfl) (by kernel_rfl) (k' := 1) rfl (v := (.int .i64 b1)) (by kernel_rfl) ?_
      intro a2 ea _
      refine From_end (by kernel_rfl) ?_; exact op_done (d := some 15) (by kernel_rfl) ea (Kp.refl _) rfl
    · intro aa_ w_ vs rest_ hK hp hF
      refine ⟨true, opok_guard (g0 := none) (by kernel_rfl) (by kernel_rfl), fun _ => ?_, fun h => Bool.noConfusion h⟩
      replace hF : Fr aa_ 37 [(14, (.slice (some ada) n ca)), (15, (.int .i64 b1))] := hF.keep (keep := [14, 15]) (by kernel_rfl)
      refine From_index (by kernel_rfl : coreAt _ 0 = some (some 16, (Go.Op.indexAddr 27 (Go.Operand.tmp 14) (Go.Operand.tmp 15)), 0, none)) hF (by kernel_rfl) (by kernel_rfl) (k' := 1) rfl (A := (some ada)) (ad := ada) (n := n) (cap := ca) (e := 3) (size := 1) (kd := .i64) (i := b1) (by kernel_rfl) (by kernel_rfl) rfl (by kernel_rfl) (by kernel_rfl) (hmk.rng b1 hb1.1).1 (hmk.rng b1 hb1.1).2 ?_
      intro a2 ea _
      refine From_end (by kernel_rfl) ?_; exact op_done (d := some 16) (by kernel_rfl) ea (Kp.refl _) rfl
    · intro aa_ w_ vs rest_ hK hp hF
      refine ⟨true, opok_guard (g0 := none) (by kernel_rfl) (by kernel_rfl), fun _ => ?_, fun h => Bool.noConfusion h⟩
      replace hF : Fr aa_ 37 [(16, (.pointer (some ((ada : Addr).add ((b1).toNat * 1)))))] := hF.keep (keep := [16]) (by kernel_rfl)
      refine From_load1 (by kernel_rfl : coreAt _ 0 = some (some 17, (Go.Op.load 3 (Go.Operand.tmp 16)), 3, none)) hF (by kernel_rfl) (by kernel_rfl) (k' := 1) rfl (ad := ((ada : Addr).add ((b1).toNat * 1))) (v := (.int .i64 (pl b1))) (by kernel_rfl) (by kernel_rfl) (rd_get1 ((hM14.then_ hK).ro hA) rfl (hmk.at0 hb1)) ?_
      intro a2 ea _
      refine From_end (by kernel_rfl) ?_; exact op_done (d := some 17) (by kernel_rfl) ea (Kp.refl _) rfl
    · intro aa_ w_ vs rest_ hK hp hF
      refine ⟨true, opok_guard (g0 := none) (by kernel_rfl) (by kernel_rfl), fun _ => ?_, fun h => Bool.noConfusion h⟩
      replace hF : Fr aa_ 37 [(13, (.int .i64 (pl a2))), (17, (.int .i64 (pl b1)))] := hF.keep (keep := [13, 17]) (by kernel_rfl)
      refine From_cmp (by kernel_rfl : coreAt _ 0 = some (some 18, (Go.Op.binOp Go.BinOp.gtr 3 (Go.Operand.tmp 13) (Go.Operand.tmp 17) 3), 4, none)) hF (by kernel_rfl) (by kernel_rfl) (k' := 1) rfl (kd := .i64) (i := (pl a2)) (j := (pl b1)) (by kernel_rfl) (by kernel_rfl) rfl ?_
      intro B_ hB_ a2 ea _
      refine From_end (by kernel_rfl) ?_; exact op_done (d := some 18) (by kernel_rfl) ea (Kp.refl _) (congrArg Value.bool (hB_.trans hBgt.symm))
    intro a17 w19 vs hK hv hF18
    replace hF18 : Fr a17 37 [(0, (.int .i64 a2)), (1, (.int .i64 b1)), (2, (.pointer (some ⟨g5, 0, none⟩))), (3, (.pointer (some ⟨g6, 0, none⟩))), (18, (.bool Bgt))] := hF18.keep (keep := [0, 1, 2, 3, 18]) (by kernel_rfl)
    have hM20 := hM14.then_ hK
    clear hK hv hF16 a15 hM14; clear vs
    cases Bgt
    · have cgt : ¬ ((pl a2) > (pl b1)) := by simpa using hBgt
      refine W_cond (t := 18) (B := false) (by kernel_rfl) hF18 (by kernel_rfl) (fun t => Bool.noConfusion t) (fun _ => ?_)
      refine W_exit (id := 2) (by kernel_rfl) ?_
      refine inB_hit rfl ?_
      refine W_block (id := 4) (by kernel_rfl) ?_
      refine W_loop (by kernel_rfl) (fun n_ a_ w_ => ∃ (b2 : Int), n_ = (pl b2).toNat ∧ Fr a_ 37 [(0, (.int .i64 a2)), (1, (.int .i64 b2)), (2, (.pointer (some ⟨g5, 0, none⟩))), (3, (.pointer (some ⟨g6, 0, none⟩)))] ∧ Mem noS w w_ [] ∧ (Prc pl up b2) ∧ (∀ c, Climb pl up a2 b2 c → Climb pl up a2 b1 c) ∧ (b2 = b1 ∨ pl b2 < pl b1)) (n := _) ⟨b1, rfl, hF18.keep (keep := [0, 1, 2, 3]) (by kernel_rfl), hM20, hb1, fun _ h => h, .inl rfl⟩ ?_
      clear hF18 a17 hM20; rintro n a23 w21 ⟨b2, rfl, hF24, hM22, hb2, hc3, hd3⟩
      refine W_seq (by kernel_rfl) ?_
      refine W_seq (by kernel_rfl) ?_
      obtain ⟨Bgu, hBgu⟩ : ∃ B : Bool, B = decide ((pl b2) > (pl a2)) := ⟨_, rfl⟩
      refine W_draw (N := 37) (env0 := [(0, (.int .i64 a2)), (1, (.int .i64 b2)), (2, (.pointer (some ⟨g5, 0, none⟩))), (3, (.pointer (some ⟨g6, 0, none⟩)))]) (by kernel_rfl) (by kernel_rfl) (specAt [.det (.slice (some ada) n ca), .det (.int .i64 b2), .det (.pointer (some ((ada : Addr).add ((b2).toNat * 1)))), .det (.int .i64 (pl b2)), .det (.slice (some ada) n ca), .det (.int .i64 a2), .det (.pointer (some ((ada : Addr).add ((a2).toNat * 1)))), .det (.int .i64 (pl a2)), .det (.bool Bgu)]) (by kernel_rfl) (by kernel_rfl) hF24 (by kernel_rfl) (by kernel_rfl) ((lt_succ_all (lt_succ_all (lt_succ_all (lt_succ_all (lt_succ_all (lt_succ_all (lt_succ_all (lt_succ_all (lt_succ_all lt_zero_all ?_) ?_) ?_) ?_) ?_) ?_) ?_) ?_) ?_)) ?_   -- region 4
      · intro aa_ w_ vs rest_ hK hp hF
        refine ⟨true, opok_guard (g0 := none) (by kernel_rfl) (by kernel_rfl), fun _ => ?_, fun h => Bool.noConfusion h⟩
        replace hF : Fr aa_ 37 [(2, (.pointer (some ⟨g5, 0, none⟩)))] := hF.keep (keep := [2]) (by kernel_rfl)
        refine From_load1 (by kernel_rfl : coreAt _ 0 = some (some 23, (Go.Op.load 27 (Go.Operand.tmp 2)), 27, none)) hF (by kernel_rfl) (by kernel_rfl) (k' := 1) rfl (ad := ⟨g5, 0, none⟩) (v := (.slice (some ada) n ca)) (by kernel_rfl) (by kernel_rfl) (blk_cell ((hM22.then_ hK).ro h5) rfl) ?_
        intro a2 ea _
        refine From_end (by kernel_rfl) ?_; exact op_done (d := some 23) (by kernel_rfl) ea (Kp.refl _) rfl
      · intro aa_ w_ vs rest_ hK hp hF
        refine ⟨true, opok_guard (g0 := none) (by kernel_rfl) (by kernel_rfl), fun _ => ?_, fun h => Bool.noConfusion h⟩
        replace hF : Fr aa_ 37 [(1, (.int .i64 b2))] := hF.keep (keep := [1]) (by kernel_rfl)
        refine From_pure1 (by kernel_rfl : coreAt _ 0 = some (some 24, (Go.Op.move (Go.Operand.tmp 1)), 3, none)) hF (by kernel_rfl) (by kernel_rfl) (k' := 1) rfl (v := (.int .i64 b2)) (by kernel_rfl) ?_
        intro a2 ea _
        refine From_end (by kernel_rfl) ?_; exact op_done (d := some 24) (by kernel_rfl) ea (Kp.refl _) rfl
      · intro aa_ w_ vs rest_ hK hp hF
        refine ⟨true, opok_guard (g0 := none) (by kernel_rfl) (by kernel_rfl), fun _ => ?_, fun h => Bool.noConfusion h⟩
        replace hF : Fr aa_ 37 [(23, (.slice (some ada) n ca)), (24, (.int .i64 b2))] := hF.keep (keep := [23, 24]) (by kernel_rfl)
        refine From_index (by kernel_rfl : coreAt _ 0 = some (some 25, (Go.Op.indexAddr 27 (Go.Operand.tmp 23) (Go.Operand.tmp 24)), 0, none)) hF (by kernel_rfl) (by kernel_rfl) (k' := 1) rfl (A := (some ada)) (ad := ada) (n := n) (cap := ca) (e := 3) (size := 1) (kd := .i64) (i := b2) (by kernel_rfl) (by kernel_rfl) rfl (by kernel_rfl) (by kernel_rfl) (hmk.rng b2 hb2.1).1 (hmk.rng b2 hb2.1).2 ?_
        intro a2 ea _
        refine From_end (by kernel_rfl) ?_; exact op_done (d := some 25) (by kernel_rfl) ea (Kp.refl _) rfl
      · intro aa_ w_ vs rest_ hK hp hF
        refine ⟨true, opok_guard (g0 := none) (by kernel_rfl) (by kernel_rfl), fun _ => ?_, fun h => Bool.noConfusion h⟩
        replace hF : Fr aa_ 37 [(25, (.pointer (some ((ada : Addr).add ((b2).toNat * 1)))))] := hF.keep (keep := [25]) (by kernel_rfl)
        refine From_load1 (by kernel_rfl : coreAt _ 0 = some (some 26, (Go.Op.load 3 (Go.Operand.tmp 25)), 3, none)) hF (by kernel_rfl) (by kernel_rfl) (k' := 1) rfl (ad := ((ada : Addr).add ((b2).toNat * 1))) (v := (.int .i64 (pl b2))) (by kernel_rfl) (by kernel_rfl) (rd_get1 ((hM22.then_ hK).ro hA) rfl (hmk.at0 hb2)) ?_
        intro a2 ea _
        refine From_end (by kernel_rfl) ?_; exact op_done (d := some 26) (by kernel_rfl) ea (Kp.refl _) rfl
      · intro aa_ w_ vs rest_ hK hp hF
        refine ⟨true, opok_guard (g0 := none) (by kernel_rfl) (by kernel_rfl), fun _ => ?_, fun h => Bool.noConfusion h⟩
        replace hF : Fr aa_ 37 [(2, (.pointer (some ⟨g5, 0, none⟩)))] := hF.keep (keep := [2]) (by kernel_rfl)
        refine From_load1 (by kernel_rfl : coreAt _ 0 = some (some 27, (Go.Op.load 27 (Go.Operand.tmp 2)), 27, none)) hF (by kernel_rfl) (by kernel_rfl) (k' := 1) rfl (ad := ⟨g5, 0, none⟩) (v := (.slice (some ada) n ca)) (by kernel_rfl) (by kernel_rfl) (blk_cell ((hM22.then_ hK).ro h5) rfl) ?_
        intro a2 ea _
        refine From_end (by kernel_rfl) ?_; exact op_done (d := some 27) (by kernel_rfl) ea (Kp.refl _) rfl
      · intro aa_ w_ vs rest_ hK hp hF
        refine ⟨true, opok_guard (g0 := none) (by kernel_rfl) (by kernel_rfl), fun _ => ?_, fun h => Bool.noConfusion h⟩
        replace hF : Fr aa_ 37 [(0, (.int .i64 a2))] := hF.keep (keep := [0]) (by kernel_rfl)
        refine From_pure1 (by kernel_rfl : coreAt _ 0 = some (some 28, (Go.Op.move (Go.Operand.tmp 0)), 3, none)) hF (by kernel_rfl) (by kernel_rfl) (k' := 1) rfl (v := (.int .i64 a2)) (by kernel_rfl) ?_
        intro a2 ea _
        refine From_end (by kernel_rfl) ?_; exact op_done (d := some 28) (by kernel_rfl) ea (Kp.refl _) rfl
      · intro aa_ w_ vs rest_ hK hp hF
        refine ⟨true, opok_guard (g0 := none) (by kernel_rfl) (by kernel_rfl), fun _ => ?_, fun h => Bool.noConfusion h⟩
        replace hF : Fr aa_ 37 [(27, (.slice (some ada) n ca)), (28, (.int .i64 a2))] := hF.keep (keep := [27, 28]) (by kernel_rfl)
        refine From_index (by kernel_rfl : coreAt _ 0 = some (some 29, (Go.Op.indexAddr 27 (Go.Operand.tmp 27) (Go.Operand.tmp 28)), 0, none)) hF (by kernel_rfl) (by kernel_rfl) (k' := 1) rfl (A := (some ada)) (ad := ada) (n := n) (cap := ca) (e := 3) (size := 1) (kd := .i64) (i := a2) (by kernel_rfl) (by kernel_rfl) rfl (by kernel_rfl) (by kernel_rfl) (hmk.rng a2 ha2.1).1 (hmk.rng a2 ha2.1).2 ?_
        intro a2 ea _
        refine From_end (by kernel_rfl) ?_; exact op_done (d := some 29) (by kernel_rfl) ea (Kp.refl _) rfl
      · intro aa_ w_ vs rest_ hK hp hF
        refine ⟨true, opok_guard (g0 := none) (by kernel_rfl) (by kernel_rfl), fun _ => ?_, fun h => Bool.noConfusion h⟩
        replace hF : Fr aa_ 37 [(29, (.pointer (some ((ada : Addr).add ((a2).toNat * 1)))))] := hF.keep (keep := [29]) (by kernel_rfl)
        refine From_load1 (by kernel_rfl : coreAt _ 0 = some (some 30, (Go.Op.load 3 (Go.Operand.tmp 29)), 3, none)) hF (by kernel_rfl) (by kernel_rfl) (k' := 1) rfl (ad := ((ada : Addr).add ((a2).toNat * 1))) (v := (.int .i64 (pl a2))) (by kernel_rfl) (by kernel_rfl) (rd_get1 ((hM22.then_ hK).ro hA) rfl (hmk.at0 ha2)) ?_
        intro a2 ea _
        refine From_end (by kernel_rfl) ?_; exact op_done (d := some 30) (by kernel_rfl) ea (Kp.refl _) rfl
      · intro aa_ w_ vs rest_ hK hp hF
        refine ⟨true, opok_guard (g0 := none) (by kernel_rfl) (by kernel_rfl), fun _ => ?_, fun h => Bool.noConfusion h⟩
        replace hF : Fr aa_ 37 [(26, (.int .i64 (pl b2))), (30, (.int .i64 (pl a2)))] := hF.keep (keep := [26, 30]) (by kernel_rfl)
        refine From_cmp (by kernel_rfl : coreAt _ 0 = some (some 31, (Go.Op.binOp Go.BinOp.gtr 3 (Go.Operand.tmp 26) (Go.Operand.tmp 30) 3), 4, none)) hF (by kernel_rfl) (by kernel_rfl) (k' := 1) rfl (kd := .i64) (i := (pl b2)) (j := (pl a2)) (by kernel_rfl) (by kernel_rfl) rfl ?_
        intro B_ hB_ a2 ea _
        refine From_end (by kernel_rfl) ?_; exact op_done (d := some 31) (by kernel_rfl) ea (Kp.refl _) (congrArg Value.bool (hB_.trans hBgu.symm))
      intro a25 w27 vs hK hv hF26
      replace hF26 : Fr a25 37 [(0, (.int .i64 a2)), (1, (.int .i64 b2)), (2, (.pointer (some ⟨g5, 0, none⟩))), (3, (.pointer (some ⟨g6, 0, none⟩))), (31, (.bool Bgu))] := hF26.keep (keep := [0, 1, 2, 3, 31]) (by kernel_rfl)
      have hM28 := hM22.then_ hK
      clear hK hv hF24 a23 hM22; clear vs
      cases Bgu
      · have cgu : ¬ ((pl b2) > (pl a2)) := by simpa using hBgu
        refine W_cond (t := 31) (B := false) (by kernel_rfl) hF26 (by kernel_rfl) (fun t => Bool.noConfusion t) (fun _ => ?_)
        refine W_exit (id := 4) (by kernel_rfl) ?_
        refine inB_hit rfl ?_
        exact ⟨(pl a2 + pl b2).toNat, meet_dec hmk ha1 ha2 hb2 cne hd2 hd3 cgt cgu, a2, b2, rfl, hF26.keep (keep := [0, 1, 2, 3]) (by kernel_rfl), hM28, ha2, hb2, fun c h => hc1 c (hc2 c (hc3 c h))⟩
      · have cgu : (pl b2) > (pl a2) := by simpa using hBgu
        refine W_cond (t := 31) (B := true) (by kernel_rfl) hF26 (by kernel_rfl) (fun _ => ?_) (fun t => Bool.noConfusion t)
        refine W_skip (by kernel_rfl) ?_
        refine W_block (id := 5) (by kernel_rfl) ?_
        refine W_region (by kernel_rfl) ?_   -- region 5
        refine From_load1 (by kernel_rfl : coreAt _ 0 = some (some 32, (Go.Op.load 27 (Go.Operand.tmp 3)), 27, none)) hF26 (by kernel_rfl) (by kernel_rfl) (k' := 1) rfl (ad := ⟨g6, 0, none⟩) (v := (.slice (some adb) n cb)) (by kernel_rfl) (by kernel_rfl) (blk_cell (hM28.ro h6) rfl) ?_
        intro a29 ea hF30; clear ea hF26 a25
        replace hF30 : Fr a29 37 [(0, (.int .i64 a2)), (1, (.int .i64 b2)), (2, (.pointer (some ⟨g5, 0, none⟩))), (3, (.pointer (some ⟨g6, 0, none⟩))), (32, (.slice (some adb) n cb))] := hF30.keep (keep := [0, 1, 2, 3, 32]) (by kernel_rfl)
        refine From_pure 1 2 [0, 2, 3, 32, 33] hF30 (env' := [(0, (.int .i64 a2)), (2, (.pointer (some ⟨g5, 0, none⟩))), (3, (.pointer (some ⟨g6, 0, none⟩))), (32, (.slice (some adb) n cb)), (33, (.int .i64 b2))]) (by kernel_rfl) rfl ?_
        intro a31 hF32; clear hF30 a29
        refine From_index (by kernel_rfl : coreAt _ 2 = some (some 34, (Go.Op.indexAddr 27 (Go.Operand.tmp 32) (Go.Operand.tmp 33)), 0, none)) hF32 (by kernel_rfl) (by kernel_rfl) (k' := 3) rfl (A := (some adb)) (ad := adb) (n := n) (cap := cb) (e := 3) (size := 1) (kd := .i64) (i := b2) (by kernel_rfl) (by kernel_rfl) rfl (by kernel_rfl) (by kernel_rfl) (hmk.rng b2 hb2.1).1 (hmk.rng b2 hb2.1).2 ?_
        intro a33 ea hF34; clear ea hF32 a31
        replace hF34 : Fr a33 37 [(0, (.int .i64 a2)), (2, (.pointer (some ⟨g5, 0, none⟩))), (3, (.pointer (some ⟨g6, 0, none⟩))), (34, (.pointer (some ((adb : Addr).add ((b2).toNat * 1)))))] := hF34.keep (keep := [0, 2, 3, 34]) (by kernel_rfl)
        refine From_load1 (by kernel_rfl : coreAt _ 3 = some (some 35, (Go.Op.load 3 (Go.Operand.tmp 34)), 3, none)) hF34 (by kernel_rfl) (by kernel_rfl) (k' := 4) rfl (ad := ((adb : Addr).add ((b2).toNat * 1))) (v := (.int .i64 (up b2))) (by kernel_rfl) (by kernel_rfl) (rd_get1 (hM28.ro hB) rfl (hmk.up0 hb2)) ?_
        intro a35 ea hF36; clear ea hF34 a33
        replace hF36 : Fr a35 37 [(0, (.int .i64 a2)), (2, (.pointer (some ⟨g5, 0, none⟩))), (3, (.pointer (some ⟨g6, 0, none⟩))), (35, (.int .i64 (up b2)))] := hF36.keep (keep := [0, 2, 3, 35]) (by kernel_rfl)
        refine From_pure 1 5 [0, 1, 2, 3] hF36 (env' := [(0, (.int .i64 a2)), (1, (.int .i64 (up b2))), (2, (.pointer (some ⟨g5, 0, none⟩))), (3, (.pointer (some ⟨g6, 0, none⟩)))]) (by kernel_rfl) rfl ?_
        intro a37 hF38; clear hF36 a35
        refine From_end (by kernel_rfl) ?_
        have hne := hmk.ne0 ha2 cgu
        obtain ⟨hl1, hl2⟩ := hmk.ok.low b2 hb2 hne
        have hl0 := hl1.1
        exact ⟨(pl (up b2)).toNat, by omega, up b2, rfl, hF38.keep (keep := [0, 1, 2, 3]) (by kernel_rfl), hM28, hl1, fun c h => hc3 c (.right cgu h), .inr (by rcases hd3 with hd3 | hd3 <;> (try subst hd3) <;> omega)⟩
    · have cgt : (pl a2) > (pl b1) := by simpa using hBgt
      refine W_cond (t := 18) (B := true) (by kernel_rfl) hF18 (by kernel_rfl) (fun _ => ?_) (fun t => Bool.noConfusion t)
      refine W_skip (by kernel_rfl) ?_
      refine W_block (id := 3) (by kernel_rfl) ?_
      refine W_region (by kernel_rfl) ?_   -- region 3
      refine From_load1 (by kernel_rfl : coreAt _ 0 = some (some 19, (Go.Op.load 27 (Go.Operand.tmp 3)), 27, none)) hF18 (by kernel_rfl) (by kernel_rfl) (k' := 1) rfl (ad := ⟨g6, 0, none⟩) (v := (.slice (some adb) n cb)) (by kernel_rfl) (by kernel_rfl) (blk_cell (hM20.ro h6) rfl) ?_
      intro a39 ea hF40; clear ea hF18 a17
      replace hF40 : Fr a39 37 [(0, (.int .i64 a2)), (1, (.int .i64 b1)), (2, (.pointer (some ⟨g5, 0, none⟩))), (3, (.pointer (some ⟨g6, 0, none⟩))), (19, (.slice (some adb) n cb))] := hF40.keep (keep := [0, 1, 2, 3, 19]) (by kernel_rfl)
      refine From_pure 1 2 [1, 2, 3, 19, 20] hF40 (env' := [(1, (.int .i64 b1)), (2, (.pointer (some ⟨g5, 0, none⟩))), (3, (.pointer (some ⟨g6, 0, none⟩))), (19, (.slice (some adb) n cb)), (20, (.int .i64 a2))]) (by kernel_rfl) rfl ?_
      intro a41 hF42; clear hF40 a39
      refine From_index (by kernel_rfl : coreAt _ 2 = some (some 21, (Go.Op.indexAddr 27 (Go.Operand.tmp 19) (Go.Operand.tmp 20)), 0, none)) hF42 (by kernel_rfl) (by kernel_rfl) (k' := 3) rfl (A := (some adb)) (ad := adb) (n := n) (cap := cb) (e := 3) (size := 1) (kd := .i64) (i := a2) (by kernel_rfl) (by kernel_rfl) rfl (by kernel_rfl) (by kernel_rfl) (hmk.rng a2 ha2.1).1 (hmk.rng a2 ha2.1).2 ?_
      intro a43 ea hF44; clear ea hF42 a41
      replace hF44 : Fr a43 37 [(1, (.int .i64 b1)), (2, (.pointer (some ⟨g5, 0, none⟩))), (3, (.pointer (some ⟨g6, 0, none⟩))), (21, (.pointer (some ((adb : Addr).add ((a2).toNat * 1)))))] := hF44.keep (keep := [1, 2, 3, 21]) (by kernel_rfl)
      refine From_load1 (by kernel_rfl : coreAt _ 3 = some (some 22, (Go.Op.load 3 (Go.Operand.tmp 21)), 3, none)) hF44 (by kernel_rfl) (by kernel_rfl) (k' := 4) rfl (ad := ((adb : Addr).add ((a2).toNat * 1))) (v := (.int .i64 (up a2))) (by kernel_rfl) (by kernel_rfl) (rd_get1 (hM20.ro hB) rfl (hmk.up0 ha2)) ?_
      intro a45 ea hF46; clear ea hF44 a43
      replace hF46 : Fr a45 37 [(1, (.int .i64 b1)), (2, (.pointer (some ⟨g5, 0, none⟩))), (3, (.pointer (some ⟨g6, 0, none⟩))), (22, (.int .i64 (up a2)))] := hF46.keep (keep := [1, 2, 3, 22]) (by kernel_rfl)
      refine From_pure 1 5 [0, 1, 2, 3] hF46 (env' := [(0, (.int .i64 (up a2))), (1, (.int .i64 b1)), (2, (.pointer (some ⟨g5, 0, none⟩))), (3, (.pointer (some ⟨g6, 0, none⟩)))]) (by kernel_rfl) rfl ?_
      intro a47 hF48; clear hF46 a45
      refine From_end (by kernel_rfl) ?_
      have hne := hmk.ne0 hb1 cgt
      obtain ⟨hl1, hl2⟩ := hmk.ok.low a2 ha2 hne
      have hl0 := hl1.1
      exact ⟨(pl (up a2)).toNat, by omega, up a2, rfl, hF48.keep (keep := [0, 1, 2, 3]) (by kernel_rfl), hM20, hl1, fun c h => hc2 c (.left cgt h), .inr (by rcases hd2 with hd2 | hd2 <;> (try subst hd2) <;> omega)⟩

end Go.Proofs.Ytlkpkinmmjcbcaa
