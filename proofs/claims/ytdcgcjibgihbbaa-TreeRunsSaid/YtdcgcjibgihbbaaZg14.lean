/-
  Texts of the proof, part 14.
-/
import Derived.Test.YtdcgcjibgihbbaaZg13
set_option maxRecDepth 10000
namespace Go.Proofs.Ytdcgcjibgihbbaa
open Go.Mor
theorem tname_c (s : ByteArray) (w : World) (hs : LenOk s.size) :
    Calls Try.prog 48 #[(.string s)] w (Ret fun v w' => v = .bool (decide (nameQ s)) ∧ Mem noS w w' []) := by
 unfold LenOk at hs
 refine zen 11 [(.string s)] Try.func48 ?_
 have hM := Mem.init w
 refine zsp <| zsr <| zpn 4 ?_
 obtain ⟨B1, hB1⟩ : ∃ B : Bool, B = decide ((((s).size : Int) : Int) ≥ 1) := ⟨_, rfl⟩
 refine zkp [(0, (.string s)), (6, (.bool (decide ((((s).size : Int) : Int) ≥ 1))))] ?_
 rw [← hB1]
 have iB1 : B1 = true ↔ ((((s).size : Int) : Int) ≥ 1) := by rw [hB1]; simp only [decide_eq_true_eq]
 clear hB1
 intro aC fr
 refine zpk 5 9 [2, 10] fr (news := [(2, (.bool (B1 && decide ((((s).size : Int) : Int) ≤ 60)))), (10, (.bool (B1 && decide ((((s).size : Int) : Int) ≤ 60))))]) (by cases B1 <;> kernel_rfl) ?_
 intro aC fr
 revert aC
 refine zfe <| zre <| zo1 (.bool (B1 && decide ((((s).size : Int) : Int) ≤ 60))) ?_
 have hR : (B1 && decide ((((s).size : Int) : Int) ≤ 60)) = true ↔ (((((s).size : Int) : Int) ≥ 1) ∧ ((((s).size : Int) : Int) ≤ 60)) := by simp only [Bool.and_eq_true, decide_eq_true_eq, iB1]
 exact ⟨bool_dec hR (by unfold nameQ; omega), hM⟩
theorem tplace_c (n : Int) (w : World) :
    Calls Try.prog 77 #[(vI n)] w (Ret fun v w' => v = .bool (decide (placeQ n)) ∧ Mem noS w w' []) := by
 refine zen 9 [(vI n)] Try.func77 ?_
 have hM := Mem.init w
 refine zsp <| zsr <| zpn 3 ?_
 obtain ⟨B1, hB1⟩ : ∃ B : Bool, B = decide ((n : Int) ≥ 0) := ⟨_, rfl⟩
 refine zkp [(0, (vI n)), (5, (.bool (decide ((n : Int) ≥ 0))))] ?_
 rw [← hB1]
 have iB1 : B1 = true ↔ ((n : Int) ≥ 0) := by rw [hB1]; simp only [decide_eq_true_eq]
 clear hB1
 intro aC fr
 refine zpk 4 7 [2, 8] fr (news := [(2, (.bool (B1 && decide ((n : Int) ≤ 2147483647)))), (8, (.bool (B1 && decide ((n : Int) ≤ 2147483647))))]) (by cases B1 <;> kernel_rfl) ?_
 intro aC fr
 revert aC
 refine zfe <| zre <| zo1 (.bool (B1 && decide ((n : Int) ≤ 2147483647))) ?_
 have hR : (B1 && decide ((n : Int) ≤ 2147483647)) = true ↔ (((n : Int) ≥ 0) ∧ ((n : Int) ≤ 2147483647)) := by simp only [Bool.and_eq_true, decide_eq_true_eq, iB1]
 exact ⟨bool_dec hR (by unfold placeQ; omega), hM⟩
theorem tcode_c (n : Int) (w : World) :
    Calls Try.prog 78 #[(vI n)] w (Ret fun v w' => v = .bool (decide (codeQ n)) ∧ Mem noS w w' []) := by
 refine zen 9 [(vI n)] Try.func78 ?_
 have hM := Mem.init w
 refine zsp <| zsr <| zpn 3 ?_
 obtain ⟨B1, hB1⟩ : ∃ B : Bool, B = decide ((n : Int) ≥ 1) := ⟨_, rfl⟩
 refine zkp [(0, (vI n)), (5, (.bool (decide ((n : Int) ≥ 1))))] ?_
 rw [← hB1]
 have iB1 : B1 = true ↔ ((n : Int) ≥ 1) := by rw [hB1]; simp only [decide_eq_true_eq]
 clear hB1
 intro aC fr
 refine zpk 4 7 [2, 8] fr (news := [(2, (.bool (B1 && decide ((n : Int) ≤ 999)))), (8, (.bool (B1 && decide ((n : Int) ≤ 999))))]) (by cases B1 <;> kernel_rfl) ?_
 intro aC fr
 revert aC
 refine zfe <| zre <| zo1 (.bool (B1 && decide ((n : Int) ≤ 999))) ?_
 have hR : (B1 && decide ((n : Int) ≤ 999)) = true ↔ (((n : Int) ≥ 1) ∧ ((n : Int) ≤ 999)) := by simp only [Bool.and_eq_true, decide_eq_true_eq, iB1]
 exact ⟨bool_dec hR (by unfold codeQ; omega), hM⟩
set_option maxHeartbeats 2000000 in
set_option maxHeartbeats 1000000 in
theorem tshape_c (w : World) (c0 : Nat) (lo lp : Int) (hC : RO noS w (chkB c0 lo lp)) (e : MEx) (hI : ExI0 e) :
    Calls Try.prog 79 #[(pT c0 0), (.agg (EC e).toArray)] w (Ret fun v w' => v = .bool (decide (esQ lo e.op e.n e.nm.size e.kids.length)) ∧ Mem noS w w' []) := by
 have hkl := hI.kids
 unfold LenOk at hkl
 have hnl := hI.nm
 unfold LenOk at hnl
 refine zen 202 [(pT c0 0), (.agg (EC e).toArray)] Try.func79 ?_
 have hM := Mem.init w
 refine zsr <| zbx hM 53 (.agg (EC e).toArray) (EC e) fun b1 w2 hb1 M3 => ?_
 replace M3 := M3.nf
 clear hM
 refine zpn 1 <| zfe <| zsr <| zpn 1 <| zld ⟨b1, 3, none⟩ (vS e.A e.kids.length e.c) (blk_cell (M3.get 0 rfl) rfl) <| zpn 2 <| zfe <| zsq <| zsr <| zpn 1 ?_
 refine zld ⟨b1, 0, none⟩ (vI e.op) (blk_cell (M3.get 0 rfl) rfl) <| zfe <| zbk 0 <| zsp <| zcQ e.op 1 (fun c4 => ?_) (fun c4 => ?_)
 refine zsr <| zpn 3 ?_
 obtain ⟨B5, hB5⟩ : ∃ B : Bool, B = ((((e.kids.length : Nat) : Int) : Int) == 0) := ⟨_, rfl⟩
 refine zkp [(3, (pT b1 0)), (19, (.bool ((((e.kids.length : Nat) : Int) : Int) == 0)))] ?_
 rw [← hB5]
 have iB5 : B5 = true ↔ ((((e.kids.length : Nat) : Int) : Int) = 0) := by rw [hB5]; simp only [beq_iff_eq]
 clear hB5
 intro aC fr
 refine zpk 1 4 [20] fr (news := [(20, (cond B5 (pT b1 2) undef))]) (by cases B5 <;> kernel_rfl) ?_
 intro aC fr
 refine From_either (B := B5) (d := (some 21)) (.string e.nm) fr (by cases B5 <;> kernel_rfl) (fun hB hh => ?_) ?_
 cases B5 <;> try exact absurd hB (by decide)
 have c5 : ((((e.kids.length : Nat) : Int) : Int) = 0) := iB5.1 rfl
 exact From_ld (some 21) ⟨b1, 2, none⟩ fr (by kernel_rfl) (.string e.nm) (blk_cell (M3.get 0 rfl) rfl) hh
 intro aC fr
 refine zpk 3 8 [4, 23] fr (news := [(4, (.bool (B5 && ((e.nm : ByteArray).toList == (⟨#[]⟩ : ByteArray).toList)))), (23, (.bool (B5 && ((e.nm : ByteArray).toList == (⟨#[]⟩ : ByteArray).toList))))]) (by cases B5 <;> kernel_rfl) ?_
 intro aC fr
 revert aC
 refine zfe <| zre <| zbr <| zo1 (.bool (B5 && ((e.nm : ByteArray).toList == (⟨#[]⟩ : ByteArray).toList))) ?_
 have hR : (B5 && ((e.nm : ByteArray).toList == (⟨#[]⟩ : ByteArray).toList)) = true ↔ (((((e.kids.length : Nat) : Int) : Int) = 0) ∧ ((e.nm).size = 0)) := by simp only [Bool.and_eq_true, seq_nil, iB5]
 have M14 := M3.od [] 0
 exact ⟨bool_dec hR (by (try simp only [decide_eq_true_eq, decide_eq_false_iff_not] at *); (try unfold nameQ at *); (try unfold placeQ at *); (try unfold codeQ at *); rw [esQ_1 (by omega)]; have hb_ := bin_ok e.n; have hu_ := un_ok e.n; omega), M14⟩
 refine zsp <| zcQ e.op 2 (fun c15 => ?_) (fun c15 => ?_)
 refine zsq ?_
 obtain ⟨B16, hB16⟩ : ∃ B : Bool, B = (((e.kids.length : Nat) : Int) == 0) := ⟨_, rfl⟩
 cases B16
 have c16 : ¬ (((e.kids.length : Nat) : Int) = 0) := zne hB16
 refine zkp [(0, (pT c0 0)), (3, (pT b1 0)), (5, (vI ((e.kids.length : Nat) : Int))), (14, (vI e.op))] ?_
 intro aC fr
 refine zdt 19 (N := 202) (env0 := [(0, (pT c0 0)), (3, (pT b1 0)), (5, (vI ((e.kids.length : Nat) : Int))), (14, (vI e.op))]) (specAt [.det (vI ((e.kids.length : Nat) : Int)), .det (.bool false), .det (.bool false), dU, dU, dU, .det (.bool false), .det (.bool false), dU, dU, dU, .det (.bool false), .det (.bool false), dU, dU, dU, dU, dU, dU]) fr (la (la (la (la (la (la (la (la (la (la (la (la (la (la (la (la (la (la (la lz dP) (dC (((e.kids.length : Nat) : Int) == 0) hB16)) dP) dK) dK) dK) dP) dP) dK) dK) dK) dP) dP) dK) dK) dK) dK) dK) dK) ?_
 intro aC w21 vs hK hv fr
 revert aC; refine zkp [(38, (.bool false))] ?_
 have M22 := M3.then_ hK
 clear hK hv fr aC M3; clear vs
 refine zpn 3 <| zfe <| zre <| zbr <| zo1 (.bool false) ?_
 have hR : false = true ↔ False := by simp
 have M23 := M22.od [] 0
 exact ⟨bool_dec hR (⟨False.elim, fun h_ => by (try simp only [decide_eq_true_eq, decide_eq_false_iff_not] at *); rw [esQ_2 (by omega)] at h_; omega⟩), M23⟩
 have c16 : ((e.kids.length : Nat) : Int) = 0 := beq_iff_eq.1 hB16.symm
 obtain ⟨B24, hB24⟩ : ∃ B : Bool, B = ((e.nm : ByteArray).toList == (⟨#[]⟩ : ByteArray).toList) := ⟨_, rfl⟩
 cases B24
 have c24 : ¬ (e.nm).size = 0 := fun e_ => Bool.noConfusion (((Iff.of_eq (seq_nil _)).2 e_).symm.trans (hB24.symm))
 refine zkp [(0, (pT c0 0)), (3, (pT b1 0)), (5, (vI ((e.kids.length : Nat) : Int))), (14, (vI e.op))] ?_
 intro aC fr
 refine zdt 19 (N := 202) (env0 := [(0, (pT c0 0)), (3, (pT b1 0)), (5, (vI ((e.kids.length : Nat) : Int))), (14, (vI e.op))]) (specAt [.det (vI ((e.kids.length : Nat) : Int)), .det (.bool true), .det (.bool true), .det (pT b1 2), .det (.string e.nm), .det (.bool false), .det (.bool false), .det (.bool false), dU, dU, dU, .det (.bool false), .det (.bool false), dU, dU, dU, dU, dU, dU]) fr (la (la (la (la (la (la (la (la (la (la (la (la (la (la (la (la (la (la (la lz dP) (dC (((e.kids.length : Nat) : Int) == 0) hB16)) dP) dP) (dL ⟨b1, 2, none⟩ (.string e.nm) fun w_ hK => (blk_cell ((M3.then_ hK).get 0 rfl) rfl))) (dPe hB24)) dP) dP) dK) dK) dK) dP) dP) dK) dK) dK) dK) dK) dK) ?_
 intro aC w29 vs hK hv fr
 revert aC; refine zkp [(38, (.bool false))] ?_
 have M30 := M3.then_ hK
 clear hK hv fr aC M3; clear vs
 refine zpn 3 <| zfe <| zre <| zbr <| zo1 (.bool false) ?_
 have hR : false = true ↔ False := by simp
 have M31 := M30.od [] 0
 exact ⟨bool_dec hR (⟨False.elim, fun h_ => by (try simp only [decide_eq_true_eq, decide_eq_false_iff_not] at *); rw [esQ_2 (by omega)] at h_; omega⟩), M31⟩
 have c24 : (e.nm).size = 0 := (Iff.of_eq (seq_nil _)).1 (hB24.symm)
 obtain ⟨B32, hB32⟩ : ∃ B : Bool, B = decide (e.n ≥ 0) := ⟨_, rfl⟩
 cases B32
 have c32 : ¬ (e.n ≥ 0) := of_decide_eq_false hB32.symm
 refine zkp [(0, (pT c0 0)), (3, (pT b1 0)), (5, (vI ((e.kids.length : Nat) : Int))), (14, (vI e.op))] ?_
 intro aC fr
 refine zdt 19 (N := 202) (env0 := [(0, (pT c0 0)), (3, (pT b1 0)), (5, (vI ((e.kids.length : Nat) : Int))), (14, (vI e.op))]) (specAt [.det (vI ((e.kids.length : Nat) : Int)), .det (.bool true), .det (.bool true), .det (pT b1 2), .det (.string e.nm), .det (.bool true), .det (.bool true), .det (.bool true), .det (pT b1 1), .det (vI e.n), .det (.bool false), .det (.bool false), .det (.bool false), dU, dU, dU, dU, dU, dU]) fr (la (la (la (la (la (la (la (la (la (la (la (la (la (la (la (la (la (la (la lz dP) (dC (((e.kids.length : Nat) : Int) == 0) hB16)) dP) dP) (dL ⟨b1, 2, none⟩ (.string e.nm) fun w_ hK => (blk_cell ((M3.then_ hK).get 0 rfl) rfl))) (dPe hB24)) dP) dP) dP) (dL ⟨b1, 1, none⟩ (vI e.n) fun w_ hK => (blk_cell ((M3.then_ hK).get 0 rfl) rfl))) (dC (decide (e.n ≥ 0)) hB32)) dP) dP) dK) dK) dK) dK) dK) dK) ?_
 intro aC w37 vs hK hv fr
 revert aC; refine zkp [(38, (.bool false))] ?_
 have M38 := M3.then_ hK
 clear hK hv fr aC M3; clear vs
 refine zpn 3 <| zfe <| zre <| zbr <| zo1 (.bool false) ?_
 have hR : false = true ↔ False := by simp
 have M39 := M38.od [] 0
 exact ⟨bool_dec hR (⟨False.elim, fun h_ => by (try simp only [decide_eq_true_eq, decide_eq_false_iff_not] at *); rw [esQ_2 (by omega)] at h_; omega⟩), M39⟩
 have c32 : e.n ≥ 0 := of_decide_eq_true hB32.symm
 refine zkp [(0, (pT c0 0)), (3, (pT b1 0)), (5, (vI ((e.kids.length : Nat) : Int))), (14, (vI e.op))] ?_
 intro aC fr
 refine zdt 19 (N := 202) (env0 := [(0, (pT c0 0)), (3, (pT b1 0)), (5, (vI ((e.kids.length : Nat) : Int))), (14, (vI e.op))]) (specAt [.det (vI ((e.kids.length : Nat) : Int)), .det (.bool true), .det (.bool true), .det (pT b1 2), .det (.string e.nm), .det (.bool true), .det (.bool true), .det (.bool true), .det (pT b1 1), .det (vI e.n), .det (.bool true), .det (.bool true), .det (.bool true), .det (pT b1 1), .det (vI e.n), .det (pT c0 0), .det (pT c0 0), .det (pT c0 0), .det (vI lo)]) fr (la (la (la (la (la (la (la (la (la (la (la (la (la (la (la (la (la (la (la lz dP) (dC (((e.kids.length : Nat) : Int) == 0) hB16)) dP) dP) (dL ⟨b1, 2, none⟩ (.string e.nm) fun w_ hK => (blk_cell ((M3.then_ hK).get 0 rfl) rfl))) (dPe hB24)) dP) dP) dP) (dL ⟨b1, 1, none⟩ (vI e.n) fun w_ hK => (blk_cell ((M3.then_ hK).get 0 rfl) rfl))) (dC (decide (e.n ≥ 0)) hB32)) dP) dP) dP) (dL ⟨b1, 1, none⟩ (vI e.n) fun w_ hK => (blk_cell ((M3.then_ hK).get 0 rfl) rfl))) dP) dP) dP) (dL ⟨c0, 0, none⟩ (vI lo) fun w_ hK => (blk_cell ((M3.then_ hK).ro hC) rfl))) ?_
 intro aC w44 vs hK hv fr
 revert aC; refine zkp [(38, (.bool true)), (40, (vI e.n)), (44, (vI lo))] ?_
 have M45 := M3.then_ hK
 clear hK hv fr aC M3; clear vs
 refine zpn 3 <| zfe <| zre <| zbr <| zo1 (.bool (decide ((e.n : Int) < lo))) ?_
 have hR : decide ((e.n : Int) < lo) = true ↔ ((e.n : Int) < lo) := by simp only [decide_eq_true_eq]
 have M46 := M45.od [] 0
 exact ⟨bool_dec hR (by (try simp only [decide_eq_true_eq, decide_eq_false_iff_not] at *); (try unfold nameQ at *); (try unfold placeQ at *); (try unfold codeQ at *); rw [esQ_2 (by omega)]; have hb_ := bin_ok e.n; have hu_ := un_ok e.n; omega), M46⟩
 refine zsp <| zcQ e.op 3 (fun c47 => ?_) (fun c47 => ?_)
 refine zsr <| zpn 1 <| zld ⟨b1, 1, none⟩ (vI e.n) (blk_cell (M3.get 0 rfl) rfl) <| zkp [(3, (pT b1 0)), (5, (vI ((e.kids.length : Nat) : Int))), (51, (vI e.n))] <| zcl (bin_c e.n 1 1 w2) ?_
 rintro _ w48 ⟨rfl, M49x⟩
 have M49 := M3.cl M49x
 refine zpn 5 <| zfe <| zsr <| zpn 3 ?_
 obtain ⟨B50, hB50⟩ : ∃ B : Bool, B = ((((e.kids.length : Nat) : Int) : Int) == 2) := ⟨_, rfl⟩
 refine zkp [(3, (pT b1 0)), (7, (vI (binS e.n 1 1).2)), (57, (.bool ((((e.kids.length : Nat) : Int) : Int) == 2)))] ?_
 rw [← hB50]
 have iB50 : B50 = true ↔ ((((e.kids.length : Nat) : Int) : Int) = 2) := by rw [hB50]; simp only [beq_iff_eq]
 clear hB50
 intro aC fr
 refine zpk 1 4 [58] fr (news := [(58, (cond B50 (pT b1 2) undef))]) (by cases B50 <;> kernel_rfl) ?_
 intro aC fr
 refine From_either (B := B50) (d := (some 59)) (.string e.nm) fr (by cases B50 <;> kernel_rfl) (fun hB hh => ?_) ?_
 cases B50 <;> try exact absurd hB (by decide)
 have c50 : ((((e.kids.length : Nat) : Int) : Int) = 2) := iB50.1 rfl
 exact From_ld (some 59) ⟨b1, 2, none⟩ fr (by kernel_rfl) (.string e.nm) (blk_cell (M49.get 0 rfl) rfl) hh
 intro aC fr
 refine zpk 3 8 [61, 62] fr (news := [(61, (.bool (B50 && ((e.nm : ByteArray).toList == (⟨#[]⟩ : ByteArray).toList)))), (62, (.bool (B50 && ((e.nm : ByteArray).toList == (⟨#[]⟩ : ByteArray).toList))))]) (by cases B50 <;> kernel_rfl) ?_
 intro aC fr
 obtain ⟨B59, hB59⟩ : ∃ B : Bool, B = (B50 && ((e.nm : ByteArray).toList == (⟨#[]⟩ : ByteArray).toList)) := ⟨_, rfl⟩
 revert aC
 refine zkp [(7, (vI (binS e.n 1 1).2)), (62, (.bool (B50 && ((e.nm : ByteArray).toList == (⟨#[]⟩ : ByteArray).toList))))] ?_
 rw [← hB59]
 have iB59 : B59 = true ↔ (((((e.kids.length : Nat) : Int) : Int) = 2) ∧ ((e.nm).size = 0)) := by rw [hB59]; simp only [Bool.and_eq_true, seq_nil, iB50]
 clear hB59
 intro aC fr
 refine zpk 4 12 [4, 65] fr (news := [(4, (.bool (B59 && (((binS e.n 1 1).2 : Int) == 0)))), (65, (.bool (B59 && (((binS e.n 1 1).2 : Int) == 0))))]) (by cases B59 <;> kernel_rfl) ?_
 intro aC fr
 revert aC
 refine zfe <| zre <| zbr <| zo1 (.bool (B59 && (((binS e.n 1 1).2 : Int) == 0))) ?_
 have hR : (B59 && (((binS e.n 1 1).2 : Int) == 0)) = true ↔ ((((((e.kids.length : Nat) : Int) : Int) = 2) ∧ ((e.nm).size = 0)) ∧ (((binS e.n 1 1).2 : Int) = 0)) := by simp only [Bool.and_eq_true, beq_iff_eq, iB59]
 have M64 := M49.od [] 0
 exact ⟨bool_dec hR (by (try simp only [decide_eq_true_eq, decide_eq_false_iff_not] at *); (try unfold nameQ at *); (try unfold placeQ at *); (try unfold codeQ at *); rw [esQ_3 (by omega)]; have hb_ := bin_ok e.n; have hu_ := un_ok e.n; omega), M64⟩
 refine zsp <| zcQ e.op 4 (fun c65 => ?_) (fun c65 => ?_)
 refine zsr <| zpn 1 <| zld ⟨b1, 1, none⟩ (vI e.n) (blk_cell (M3.get 0 rfl) rfl) <| zkp [(3, (pT b1 0)), (5, (vI ((e.kids.length : Nat) : Int))), (70, (vI e.n))] <| zcl (un_c e.n 1 w2) ?_
 rintro _ w66 ⟨rfl, M67x⟩
 have M67 := M3.cl M67x
 refine zpn 5 <| zfe <| zsr <| zpn 3 ?_
 obtain ⟨B68, hB68⟩ : ∃ B : Bool, B = ((((e.kids.length : Nat) : Int) : Int) == 1) := ⟨_, rfl⟩
 refine zkp [(3, (pT b1 0)), (9, (vI (unS e.n 1).2)), (76, (.bool ((((e.kids.length : Nat) : Int) : Int) == 1)))] ?_
 rw [← hB68]
 have iB68 : B68 = true ↔ ((((e.kids.length : Nat) : Int) : Int) = 1) := by rw [hB68]; simp only [beq_iff_eq]
 clear hB68
 intro aC fr
 refine zpk 1 4 [77] fr (news := [(77, (cond B68 (pT b1 2) undef))]) (by cases B68 <;> kernel_rfl) ?_
 intro aC fr
 refine From_either (B := B68) (d := (some 78)) (.string e.nm) fr (by cases B68 <;> kernel_rfl) (fun hB hh => ?_) ?_
 cases B68 <;> try exact absurd hB (by decide)
 have c68 : ((((e.kids.length : Nat) : Int) : Int) = 1) := iB68.1 rfl
 exact From_ld (some 78) ⟨b1, 2, none⟩ fr (by kernel_rfl) (.string e.nm) (blk_cell (M67.get 0 rfl) rfl) hh
 intro aC fr
 refine zpk 3 8 [80, 81] fr (news := [(80, (.bool (B68 && ((e.nm : ByteArray).toList == (⟨#[]⟩ : ByteArray).toList)))), (81, (.bool (B68 && ((e.nm : ByteArray).toList == (⟨#[]⟩ : ByteArray).toList))))]) (by cases B68 <;> kernel_rfl) ?_
 intro aC fr
 obtain ⟨B77, hB77⟩ : ∃ B : Bool, B = (B68 && ((e.nm : ByteArray).toList == (⟨#[]⟩ : ByteArray).toList)) := ⟨_, rfl⟩
 revert aC
 refine zkp [(9, (vI (unS e.n 1).2)), (81, (.bool (B68 && ((e.nm : ByteArray).toList == (⟨#[]⟩ : ByteArray).toList))))] ?_
 rw [← hB77]
 have iB77 : B77 = true ↔ (((((e.kids.length : Nat) : Int) : Int) = 1) ∧ ((e.nm).size = 0)) := by rw [hB77]; simp only [Bool.and_eq_true, seq_nil, iB68]
 clear hB77
 intro aC fr
 refine zpk 4 12 [4, 84] fr (news := [(4, (.bool (B77 && (((unS e.n 1).2 : Int) == 0)))), (84, (.bool (B77 && (((unS e.n 1).2 : Int) == 0))))]) (by cases B77 <;> kernel_rfl) ?_
 intro aC fr
 revert aC
 refine zfe <| zre <| zbr <| zo1 (.bool (B77 && (((unS e.n 1).2 : Int) == 0))) ?_
 have hR : (B77 && (((unS e.n 1).2 : Int) == 0)) = true ↔ ((((((e.kids.length : Nat) : Int) : Int) = 1) ∧ ((e.nm).size = 0)) ∧ (((unS e.n 1).2 : Int) = 0)) := by simp only [Bool.and_eq_true, beq_iff_eq, iB77]
 have M82 := M67.od [] 0
 exact ⟨bool_dec hR (by (try simp only [decide_eq_true_eq, decide_eq_false_iff_not] at *); (try unfold nameQ at *); (try unfold placeQ at *); (try unfold codeQ at *); rw [esQ_4 (by omega)]; have hb_ := bin_ok e.n; have hu_ := un_ok e.n; omega), M82⟩
 refine zsp <| zcQ e.op 5 (fun c83 => ?_) (fun c83 => ?_)
 refine zsr <| zpn 3 ?_
 obtain ⟨B84, hB84⟩ : ∃ B : Bool, B = ((((e.kids.length : Nat) : Int) : Int) == 1) := ⟨_, rfl⟩
 refine zkp [(3, (pT b1 0)), (89, (.bool ((((e.kids.length : Nat) : Int) : Int) == 1)))] ?_
 rw [← hB84]
 have iB84 : B84 = true ↔ ((((e.kids.length : Nat) : Int) : Int) = 1) := by rw [hB84]; simp only [beq_iff_eq]
 clear hB84
 intro aC fr
 refine zpk 1 4 [90] fr (news := [(90, (cond B84 (pT b1 2) undef))]) (by cases B84 <;> kernel_rfl) ?_
 intro aC fr
 refine From_either (B := B84) (d := (some 91)) (.string e.nm) fr (by cases B84 <;> kernel_rfl) (fun hB hh => ?_) ?_
 cases B84 <;> try exact absurd hB (by decide)
 have c84 : ((((e.kids.length : Nat) : Int) : Int) = 1) := iB84.1 rfl
 exact From_ld (some 91) ⟨b1, 2, none⟩ fr (by kernel_rfl) (.string e.nm) (blk_cell (M3.get 0 rfl) rfl) hh
 intro aC fr
 refine zpk 3 8 [93, 94] fr (news := [(93, (.bool (B84 && ((e.nm : ByteArray).toList == (⟨#[]⟩ : ByteArray).toList)))), (94, (.bool (B84 && ((e.nm : ByteArray).toList == (⟨#[]⟩ : ByteArray).toList))))]) (by cases B84 <;> kernel_rfl) ?_
 intro aC fr
 obtain ⟨B93, hB93⟩ : ∃ B : Bool, B = (B84 && ((e.nm : ByteArray).toList == (⟨#[]⟩ : ByteArray).toList)) := ⟨_, rfl⟩
 revert aC
 refine zkp [(3, (pT b1 0)), (94, (.bool (B84 && ((e.nm : ByteArray).toList == (⟨#[]⟩ : ByteArray).toList))))] ?_
 rw [← hB93]
 have iB93 : B93 = true ↔ (((((e.kids.length : Nat) : Int) : Int) = 1) ∧ ((e.nm).size = 0)) := by rw [hB93]; simp only [Bool.and_eq_true, seq_nil, iB84]
 clear hB93
 intro aC fr
 refine zpk 1 9 [95] fr (news := [(95, (cond B93 (pT b1 1) undef))]) (by cases B93 <;> kernel_rfl) ?_
 intro aC fr
 refine From_either (B := B93) (d := (some 96)) (vI e.n) fr (by cases B93 <;> kernel_rfl) (fun hB hh => ?_) ?_
 cases B93 <;> try exact absurd hB (by decide)
 have c93 : (((((e.kids.length : Nat) : Int) : Int) = 1) ∧ ((e.nm).size = 0)) := iB93.1 rfl
 exact From_ld (some 96) ⟨b1, 1, none⟩ fr (by kernel_rfl) (vI e.n) (blk_cell (M3.get 0 rfl) rfl) hh
 intro aC fr
 refine From_eitherC (B := B93) (d := (some 97)) (.bool (decide (placeQ e.n))) fr (by cases B93 <;> kernel_rfl) (fun hB hh => ?_) ?_
 cases B93 <;> try exact absurd hB (by decide)
 have c93 : (((((e.kids.length : Nat) : Int) : Int) = 1) ∧ ((e.nm).size = 0)) := iB93.1 rfl
 refine From_cl (some 97) 77 [(vI e.n)] fr (by kernel_rfl) (tplace_c e.n w2) ?_
 rintro _ w2 ⟨rfl, hm2⟩ a2 hF2; exact hh a2 w2 hm2 hF2
 intro aC w100 M101x fr
 have M101 := M3.cl M101x
 refine zpk 2 13 [4, 98] fr (news := [(4, (.bool (B93 && decide (placeQ e.n)))), (98, (.bool (B93 && decide (placeQ e.n))))]) (by cases B93 <;> kernel_rfl) ?_
 intro aC fr
 revert aC
 refine zfe <| zre <| zbr <| zo1 (.bool (B93 && decide (placeQ e.n))) ?_
 have hR : (B93 && decide (placeQ e.n)) = true ↔ ((((((e.kids.length : Nat) : Int) : Int) = 1) ∧ ((e.nm).size = 0)) ∧ (placeQ e.n)) := by simp only [Bool.and_eq_true, decide_eq_true_eq, iB93]
 have M106 := M101.od [] 0
 exact ⟨bool_dec hR (by (try simp only [decide_eq_true_eq, decide_eq_false_iff_not] at *); (try unfold nameQ at *); (try unfold placeQ at *); (try unfold codeQ at *); rw [esQ_5 (by omega)]; have hb_ := bin_ok e.n; have hu_ := un_ok e.n; omega), M106⟩
 refine zsp <| zcQ e.op 6 (fun c107 => ?_) (fun c107 => ?_)
 refine zsr <| zpn 3 ?_
 obtain ⟨B108, hB108⟩ : ∃ B : Bool, B = decide ((((e.kids.length : Nat) : Int) : Int) ≤ 16) := ⟨_, rfl⟩
 refine zkp [(3, (pT b1 0)), (103, (.bool (decide ((((e.kids.length : Nat) : Int) : Int) ≤ 16))))] ?_
 rw [← hB108]
 have iB108 : B108 = true ↔ ((((e.kids.length : Nat) : Int) : Int) ≤ 16) := by rw [hB108]; simp only [decide_eq_true_eq]
 clear hB108
 intro aC fr
 refine zpk 1 4 [104] fr (news := [(104, (cond B108 (pT b1 2) undef))]) (by cases B108 <;> kernel_rfl) ?_
 intro aC fr
 refine From_either (B := B108) (d := (some 105)) (.string e.nm) fr (by cases B108 <;> kernel_rfl) (fun hB hh => ?_) ?_
 cases B108 <;> try exact absurd hB (by decide)
 have c108 : ((((e.kids.length : Nat) : Int) : Int) ≤ 16) := iB108.1 rfl
 exact From_ld (some 105) ⟨b1, 2, none⟩ fr (by kernel_rfl) (.string e.nm) (blk_cell (M3.get 0 rfl) rfl) hh
 intro aC fr
 refine From_eitherC (B := B108) (d := (some 106)) (.bool (decide (nameQ e.nm))) fr (by cases B108 <;> kernel_rfl) (fun hB hh => ?_) ?_
 cases B108 <;> try exact absurd hB (by decide)
 have c108 : ((((e.kids.length : Nat) : Int) : Int) ≤ 16) := iB108.1 rfl
 refine From_cl (some 106) 48 [(.string e.nm)] fr (by kernel_rfl) (tname_c e.nm w2 hI.nm) ?_
 rintro _ w2 ⟨rfl, hm2⟩ a2 hF2; exact hh a2 w2 hm2 hF2
 intro aC w115 M116x fr
 have M116 := M3.cl M116x
 refine zpk 2 8 [107, 108] fr (news := [(107, (.bool (B108 && decide (nameQ e.nm)))), (108, (.bool (B108 && decide (nameQ e.nm))))]) (by cases B108 <;> kernel_rfl) ?_
 intro aC fr
 obtain ⟨B121, hB121⟩ : ∃ B : Bool, B = (B108 && decide (nameQ e.nm)) := ⟨_, rfl⟩
 revert aC
 refine zkp [(3, (pT b1 0)), (108, (.bool (B108 && decide (nameQ e.nm))))] ?_
 rw [← hB121]
 have iB121 : B121 = true ↔ (((((e.kids.length : Nat) : Int) : Int) ≤ 16) ∧ (nameQ e.nm)) := by rw [hB121]; simp only [Bool.and_eq_true, decide_eq_true_eq, iB108]
 clear hB121
 intro aC fr
 refine zpk 1 9 [109] fr (news := [(109, (cond B121 (pT b1 1) undef))]) (by cases B121 <;> kernel_rfl) ?_
 intro aC fr
 refine From_either (B := B121) (d := (some 110)) (vI e.n) fr (by cases B121 <;> kernel_rfl) (fun hB hh => ?_) ?_
 cases B121 <;> try exact absurd hB (by decide)
 have c121 : (((((e.kids.length : Nat) : Int) : Int) ≤ 16) ∧ (nameQ e.nm)) := iB121.1 rfl
 exact From_ld (some 110) ⟨b1, 1, none⟩ fr (by kernel_rfl) (vI e.n) (blk_cell (M116.get 0 rfl) rfl) hh
 intro aC fr
 refine zpk 3 13 [4, 112] fr (news := [(4, (.bool (B121 && ((e.n : Int) == 0)))), (112, (.bool (B121 && ((e.n : Int) == 0))))]) (by cases B121 <;> kernel_rfl) ?_
 intro aC fr
 revert aC
 refine zfe <| zre <| zbr <| zo1 (.bool (B121 && ((e.n : Int) == 0))) ?_
 have hR : (B121 && ((e.n : Int) == 0)) = true ↔ ((((((e.kids.length : Nat) : Int) : Int) ≤ 16) ∧ (nameQ e.nm)) ∧ ((e.n : Int) = 0)) := by simp only [Bool.and_eq_true, beq_iff_eq, iB121]
 have M130 := M116.od [] 0
 exact ⟨bool_dec hR (by (try simp only [decide_eq_true_eq, decide_eq_false_iff_not] at *); (try unfold nameQ at *); (try unfold placeQ at *); (try unfold codeQ at *); rw [esQ_6 (by omega)]; have hb_ := bin_ok e.n; have hu_ := un_ok e.n; omega), M130⟩
 refine zsp <| zcQ e.op 7 (fun c131 => ?_) (fun c131 => ?_)
 refine zsr <| zpn 3 ?_
 obtain ⟨B132, hB132⟩ : ∃ B : Bool, B = decide ((((e.kids.length : Nat) : Int) : Int) ≥ 1) := ⟨_, rfl⟩
 refine zkp [(3, (pT b1 0)), (5, (vI ((e.kids.length : Nat) : Int))), (117, (.bool (decide ((((e.kids.length : Nat) : Int) : Int) ≥ 1))))] ?_
 rw [← hB132]
 have iB132 : B132 = true ↔ ((((e.kids.length : Nat) : Int) : Int) ≥ 1) := by rw [hB132]; simp only [decide_eq_true_eq]
 clear hB132
 intro aC fr
 refine zpk 4 7 [120, 121] fr (news := [(120, (.bool (B132 && decide ((((e.kids.length : Nat) : Int) : Int) ≤ 17)))), (121, (.bool (B132 && decide ((((e.kids.length : Nat) : Int) : Int) ≤ 17))))]) (by cases B132 <;> kernel_rfl) ?_
 intro aC fr
 obtain ⟨B137, hB137⟩ : ∃ B : Bool, B = (B132 && decide ((((e.kids.length : Nat) : Int) : Int) ≤ 17)) := ⟨_, rfl⟩
 revert aC
 refine zkp [(3, (pT b1 0)), (121, (.bool (B132 && decide ((((e.kids.length : Nat) : Int) : Int) ≤ 17))))] ?_
 rw [← hB137]
 have iB137 : B137 = true ↔ (((((e.kids.length : Nat) : Int) : Int) ≥ 1) ∧ ((((e.kids.length : Nat) : Int) : Int) ≤ 17)) := by rw [hB137]; simp only [Bool.and_eq_true, decide_eq_true_eq, iB132]
 clear hB137
 intro aC fr
 refine zpk 1 8 [122] fr (news := [(122, (cond B137 (pT b1 2) undef))]) (by cases B137 <;> kernel_rfl) ?_
 intro aC fr
 refine From_either (B := B137) (d := (some 123)) (.string e.nm) fr (by cases B137 <;> kernel_rfl) (fun hB hh => ?_) ?_
 cases B137 <;> try exact absurd hB (by decide)
 have c137 : (((((e.kids.length : Nat) : Int) : Int) ≥ 1) ∧ ((((e.kids.length : Nat) : Int) : Int) ≤ 17)) := iB137.1 rfl
 exact From_ld (some 123) ⟨b1, 2, none⟩ fr (by kernel_rfl) (.string e.nm) (blk_cell (M3.get 0 rfl) rfl) hh
 intro aC fr
 refine zpk 3 12 [125, 126] fr (news := [(125, (.bool (B137 && ((e.nm : ByteArray).toList == (⟨#[]⟩ : ByteArray).toList)))), (126, (.bool (B137 && ((e.nm : ByteArray).toList == (⟨#[]⟩ : ByteArray).toList))))]) (by cases B137 <;> kernel_rfl) ?_
 intro aC fr
 obtain ⟨B146, hB146⟩ : ∃ B : Bool, B = (B137 && ((e.nm : ByteArray).toList == (⟨#[]⟩ : ByteArray).toList)) := ⟨_, rfl⟩
 revert aC
 refine zkp [(3, (pT b1 0)), (126, (.bool (B137 && ((e.nm : ByteArray).toList == (⟨#[]⟩ : ByteArray).toList))))] ?_
 rw [← hB146]
 have iB146 : B146 = true ↔ ((((((e.kids.length : Nat) : Int) : Int) ≥ 1) ∧ ((((e.kids.length : Nat) : Int) : Int) ≤ 17)) ∧ ((e.nm).size = 0)) := by rw [hB146]; simp only [Bool.and_eq_true, seq_nil, iB137]
 clear hB146
 intro aC fr
 refine zpk 1 13 [127] fr (news := [(127, (cond B146 (pT b1 1) undef))]) (by cases B146 <;> kernel_rfl) ?_
 intro aC fr
 refine From_either (B := B146) (d := (some 128)) (vI e.n) fr (by cases B146 <;> kernel_rfl) (fun hB hh => ?_) ?_
 cases B146 <;> try exact absurd hB (by decide)
 have c146 : ((((((e.kids.length : Nat) : Int) : Int) ≥ 1) ∧ ((((e.kids.length : Nat) : Int) : Int) ≤ 17)) ∧ ((e.nm).size = 0)) := iB146.1 rfl
 exact From_ld (some 128) ⟨b1, 1, none⟩ fr (by kernel_rfl) (vI e.n) (blk_cell (M3.get 0 rfl) rfl) hh
 intro aC fr
 refine zpk 3 17 [4, 130] fr (news := [(4, (.bool (B146 && ((e.n : Int) == 0)))), (130, (.bool (B146 && ((e.n : Int) == 0))))]) (by cases B146 <;> kernel_rfl) ?_
 intro aC fr
 revert aC
 refine zfe <| zre <| zbr <| zo1 (.bool (B146 && ((e.n : Int) == 0))) ?_
 have hR : (B146 && ((e.n : Int) == 0)) = true ↔ (((((((e.kids.length : Nat) : Int) : Int) ≥ 1) ∧ ((((e.kids.length : Nat) : Int) : Int) ≤ 17)) ∧ ((e.nm).size = 0)) ∧ ((e.n : Int) = 0)) := by simp only [Bool.and_eq_true, beq_iff_eq, iB146]
 have M155 := M3.od [] 0
 exact ⟨bool_dec hR (by (try simp only [decide_eq_true_eq, decide_eq_false_iff_not] at *); (try unfold nameQ at *); (try unfold placeQ at *); (try unfold codeQ at *); rw [esQ_7 (by omega)]; have hb_ := bin_ok e.n; have hu_ := un_ok e.n; omega), M155⟩
 refine zsq <| zsp ?_
 obtain ⟨B156, hB156⟩ : ∃ B : Bool, B = ((e.op : Int) == 8) := ⟨_, rfl⟩
 refine zkp [(3, (pT b1 0)), (5, (vI ((e.kids.length : Nat) : Int))), (14, (vI e.op)), (131, (.bool ((e.op : Int) == 8)))] ?_
 rw [← hB156]
 have iB156 : B156 = true ↔ ((e.op : Int) = 8) := by rw [hB156]; simp only [beq_iff_eq]
 clear hB156
 cases B156
 have c156 : ¬ ((e.op : Int) = 8) := (fun h => Bool.noConfusion (iB156.2 h) : ¬ ((e.op : Int) = 8))
 refine zcF <| zrp <| zcQ e.op 9 (fun c157 => ?_) (fun c157 => ?_)
 refine zsr <| zpn 3 ?_
 obtain ⟨B158, hB158⟩ : ∃ B : Bool, B = ((((e.kids.length : Nat) : Int) : Int) == 0) := ⟨_, rfl⟩
 refine zkp [(3, (pT b1 0)), (136, (.bool ((((e.kids.length : Nat) : Int) : Int) == 0)))] ?_
 rw [← hB158]
 have iB158 : B158 = true ↔ ((((e.kids.length : Nat) : Int) : Int) = 0) := by rw [hB158]; simp only [beq_iff_eq]
 clear hB158
 intro aC fr
 refine zpk 1 4 [137] fr (news := [(137, (cond B158 (pT b1 2) undef))]) (by cases B158 <;> kernel_rfl) ?_
 intro aC fr
 refine From_either (B := B158) (d := (some 138)) (.string e.nm) fr (by cases B158 <;> kernel_rfl) (fun hB hh => ?_) ?_
 cases B158 <;> try exact absurd hB (by decide)
 have c158 : ((((e.kids.length : Nat) : Int) : Int) = 0) := iB158.1 rfl
 exact From_ld (some 138) ⟨b1, 2, none⟩ fr (by kernel_rfl) (.string e.nm) (blk_cell (M3.get 0 rfl) rfl) hh
 intro aC fr
 refine From_eitherC (B := B158) (d := (some 139)) (.bool (decide (nameQ e.nm))) fr (by cases B158 <;> kernel_rfl) (fun hB hh => ?_) ?_
 cases B158 <;> try exact absurd hB (by decide)
 have c158 : ((((e.kids.length : Nat) : Int) : Int) = 0) := iB158.1 rfl
 refine From_cl (some 139) 48 [(.string e.nm)] fr (by kernel_rfl) (tname_c e.nm w2 hI.nm) ?_
 rintro _ w2 ⟨rfl, hm2⟩ a2 hF2; exact hh a2 w2 hm2 hF2
 intro aC w165 M166x fr
 have M166 := M3.cl M166x
 refine zpk 2 8 [140, 141] fr (news := [(140, (.bool (B158 && decide (nameQ e.nm)))), (141, (.bool (B158 && decide (nameQ e.nm))))]) (by cases B158 <;> kernel_rfl) ?_
 intro aC fr
 obtain ⟨B171, hB171⟩ : ∃ B : Bool, B = (B158 && decide (nameQ e.nm)) := ⟨_, rfl⟩
 revert aC
 refine zkp [(3, (pT b1 0)), (141, (.bool (B158 && decide (nameQ e.nm))))] ?_
 rw [← hB171]
 have iB171 : B171 = true ↔ (((((e.kids.length : Nat) : Int) : Int) = 0) ∧ (nameQ e.nm)) := by rw [hB171]; simp only [Bool.and_eq_true, decide_eq_true_eq, iB158]
 clear hB171
 intro aC fr
 refine zpk 1 9 [142] fr (news := [(142, (cond B171 (pT b1 1) undef))]) (by cases B171 <;> kernel_rfl) ?_
 intro aC fr
 refine From_either (B := B171) (d := (some 143)) (vI e.n) fr (by cases B171 <;> kernel_rfl) (fun hB hh => ?_) ?_
 cases B171 <;> try exact absurd hB (by decide)
 have c171 : (((((e.kids.length : Nat) : Int) : Int) = 0) ∧ (nameQ e.nm)) := iB171.1 rfl
 exact From_ld (some 143) ⟨b1, 1, none⟩ fr (by kernel_rfl) (vI e.n) (blk_cell (M166.get 0 rfl) rfl) hh
 intro aC fr
 refine zpk 3 13 [4, 145] fr (news := [(4, (.bool (B171 && ((e.n : Int) == 0)))), (145, (.bool (B171 && ((e.n : Int) == 0))))]) (by cases B171 <;> kernel_rfl) ?_
 intro aC fr
 revert aC
 refine zfe <| zre <| zbr <| zo1 (.bool (B171 && ((e.n : Int) == 0))) ?_
 have hR : (B171 && ((e.n : Int) == 0)) = true ↔ ((((((e.kids.length : Nat) : Int) : Int) = 0) ∧ (nameQ e.nm)) ∧ ((e.n : Int) = 0)) := by simp only [Bool.and_eq_true, beq_iff_eq, iB171]
 have M180 := M166.od [] 0
 exact ⟨bool_dec hR (by (try simp only [decide_eq_true_eq, decide_eq_false_iff_not] at *); (try unfold nameQ at *); (try unfold placeQ at *); (try unfold codeQ at *); rw [esQ_9 (by omega)]; have hb_ := bin_ok e.n; have hu_ := un_ok e.n; omega), M180⟩
 refine zsp <| zcQ e.op 10 (fun c181 => ?_) (fun c181 => ?_)
 refine zsr <| zpn 3 ?_
 obtain ⟨B182, hB182⟩ : ∃ B : Bool, B = ((((e.kids.length : Nat) : Int) : Int) == 1) := ⟨_, rfl⟩
 refine zkp [(3, (pT b1 0)), (150, (.bool ((((e.kids.length : Nat) : Int) : Int) == 1)))] ?_
 rw [← hB182]
 have iB182 : B182 = true ↔ ((((e.kids.length : Nat) : Int) : Int) = 1) := by rw [hB182]; simp only [beq_iff_eq]
 clear hB182
 intro aC fr
 refine zpk 1 4 [151] fr (news := [(151, (cond B182 (pT b1 2) undef))]) (by cases B182 <;> kernel_rfl) ?_
 intro aC fr
 refine From_either (B := B182) (d := (some 152)) (.string e.nm) fr (by cases B182 <;> kernel_rfl) (fun hB hh => ?_) ?_
 cases B182 <;> try exact absurd hB (by decide)
 have c182 : ((((e.kids.length : Nat) : Int) : Int) = 1) := iB182.1 rfl
 exact From_ld (some 152) ⟨b1, 2, none⟩ fr (by kernel_rfl) (.string e.nm) (blk_cell (M3.get 0 rfl) rfl) hh
 intro aC fr
 refine zpk 3 8 [154, 155] fr (news := [(154, (.bool (B182 && ((e.nm : ByteArray).toList == (⟨#[]⟩ : ByteArray).toList)))), (155, (.bool (B182 && ((e.nm : ByteArray).toList == (⟨#[]⟩ : ByteArray).toList))))]) (by cases B182 <;> kernel_rfl) ?_
 intro aC fr
 obtain ⟨B191, hB191⟩ : ∃ B : Bool, B = (B182 && ((e.nm : ByteArray).toList == (⟨#[]⟩ : ByteArray).toList)) := ⟨_, rfl⟩
 revert aC
 refine zkp [(3, (pT b1 0)), (155, (.bool (B182 && ((e.nm : ByteArray).toList == (⟨#[]⟩ : ByteArray).toList))))] ?_
 rw [← hB191]
 have iB191 : B191 = true ↔ (((((e.kids.length : Nat) : Int) : Int) = 1) ∧ ((e.nm).size = 0)) := by rw [hB191]; simp only [Bool.and_eq_true, seq_nil, iB182]
 clear hB191
 intro aC fr
 refine zpk 1 9 [156] fr (news := [(156, (cond B191 (pT b1 1) undef))]) (by cases B191 <;> kernel_rfl) ?_
 intro aC fr
 refine From_either (B := B191) (d := (some 157)) (vI e.n) fr (by cases B191 <;> kernel_rfl) (fun hB hh => ?_) ?_
 cases B191 <;> try exact absurd hB (by decide)
 have c191 : (((((e.kids.length : Nat) : Int) : Int) = 1) ∧ ((e.nm).size = 0)) := iB191.1 rfl
 exact From_ld (some 157) ⟨b1, 1, none⟩ fr (by kernel_rfl) (vI e.n) (blk_cell (M3.get 0 rfl) rfl) hh
 intro aC fr
 refine zpk 3 13 [4, 159] fr (news := [(4, (.bool (B191 && ((e.n : Int) == 0)))), (159, (.bool (B191 && ((e.n : Int) == 0))))]) (by cases B191 <;> kernel_rfl) ?_
 intro aC fr
 revert aC
 refine zfe <| zre <| zbr <| zo1 (.bool (B191 && ((e.n : Int) == 0))) ?_
 have hR : (B191 && ((e.n : Int) == 0)) = true ↔ ((((((e.kids.length : Nat) : Int) : Int) = 1) ∧ ((e.nm).size = 0)) ∧ ((e.n : Int) = 0)) := by simp only [Bool.and_eq_true, beq_iff_eq, iB191]
 have M200 := M3.od [] 0
 exact ⟨bool_dec hR (by (try simp only [decide_eq_true_eq, decide_eq_false_iff_not] at *); (try unfold nameQ at *); (try unfold placeQ at *); (try unfold codeQ at *); rw [esQ_10 (by omega)]; have hb_ := bin_ok e.n; have hu_ := un_ok e.n; omega), M200⟩
 refine zsp <| zcQ e.op 11 (fun c201 => ?_) (fun c201 => ?_)
 refine zsr <| zpn 3 ?_
 obtain ⟨B202, hB202⟩ : ∃ B : Bool, B = ((((e.kids.length : Nat) : Int) : Int) == 0) := ⟨_, rfl⟩
 refine zkp [(3, (pT b1 0)), (164, (.bool ((((e.kids.length : Nat) : Int) : Int) == 0)))] ?_
 rw [← hB202]
 have iB202 : B202 = true ↔ ((((e.kids.length : Nat) : Int) : Int) = 0) := by rw [hB202]; simp only [beq_iff_eq]
 clear hB202
 intro aC fr
 refine zpk 1 4 [165] fr (news := [(165, (cond B202 (pT b1 2) undef))]) (by cases B202 <;> kernel_rfl) ?_
 intro aC fr
 refine From_either (B := B202) (d := (some 166)) (.string e.nm) fr (by cases B202 <;> kernel_rfl) (fun hB hh => ?_) ?_
 cases B202 <;> try exact absurd hB (by decide)
 have c202 : ((((e.kids.length : Nat) : Int) : Int) = 0) := iB202.1 rfl
 exact From_ld (some 166) ⟨b1, 2, none⟩ fr (by kernel_rfl) (.string e.nm) (blk_cell (M3.get 0 rfl) rfl) hh
 intro aC fr
 refine zpk 3 8 [168, 169] fr (news := [(168, (.bool (B202 && ((e.nm : ByteArray).toList == (⟨#[]⟩ : ByteArray).toList)))), (169, (.bool (B202 && ((e.nm : ByteArray).toList == (⟨#[]⟩ : ByteArray).toList))))]) (by cases B202 <;> kernel_rfl) ?_
 intro aC fr
 obtain ⟨B211, hB211⟩ : ∃ B : Bool, B = (B202 && ((e.nm : ByteArray).toList == (⟨#[]⟩ : ByteArray).toList)) := ⟨_, rfl⟩
 revert aC
 refine zkp [(3, (pT b1 0)), (169, (.bool (B202 && ((e.nm : ByteArray).toList == (⟨#[]⟩ : ByteArray).toList))))] ?_
 rw [← hB211]
 have iB211 : B211 = true ↔ (((((e.kids.length : Nat) : Int) : Int) = 0) ∧ ((e.nm).size = 0)) := by rw [hB211]; simp only [Bool.and_eq_true, seq_nil, iB202]
 clear hB211
 intro aC fr
 refine zpk 1 9 [170] fr (news := [(170, (cond B211 (pT b1 1) undef))]) (by cases B211 <;> kernel_rfl) ?_
 intro aC fr
 refine From_either (B := B211) (d := (some 171)) (vI e.n) fr (by cases B211 <;> kernel_rfl) (fun hB hh => ?_) ?_
 cases B211 <;> try exact absurd hB (by decide)
 have c211 : (((((e.kids.length : Nat) : Int) : Int) = 0) ∧ ((e.nm).size = 0)) := iB211.1 rfl
 exact From_ld (some 171) ⟨b1, 1, none⟩ fr (by kernel_rfl) (vI e.n) (blk_cell (M3.get 0 rfl) rfl) hh
 intro aC fr
 refine zpk 3 13 [4, 173] fr (news := [(4, (.bool (B211 && ((e.n : Int) == 0)))), (173, (.bool (B211 && ((e.n : Int) == 0))))]) (by cases B211 <;> kernel_rfl) ?_
 intro aC fr
 revert aC
 refine zfe <| zre <| zbr <| zo1 (.bool (B211 && ((e.n : Int) == 0))) ?_
 have hR : (B211 && ((e.n : Int) == 0)) = true ↔ ((((((e.kids.length : Nat) : Int) : Int) = 0) ∧ ((e.nm).size = 0)) ∧ ((e.n : Int) = 0)) := by simp only [Bool.and_eq_true, beq_iff_eq, iB211]
 have M220 := M3.od [] 0
 exact ⟨bool_dec hR (by (try simp only [decide_eq_true_eq, decide_eq_false_iff_not] at *); (try unfold nameQ at *); (try unfold placeQ at *); (try unfold codeQ at *); rw [esQ_11 (by omega)]; have hb_ := bin_ok e.n; have hu_ := un_ok e.n; omega), M220⟩
 refine zsp <| zcQ e.op 12 (fun c221 => ?_) (fun c221 => ?_)
 refine zsr <| zpn 3 ?_
 obtain ⟨B222, hB222⟩ : ∃ B : Bool, B = ((((e.kids.length : Nat) : Int) : Int) == 3) := ⟨_, rfl⟩
 refine zkp [(3, (pT b1 0)), (178, (.bool ((((e.kids.length : Nat) : Int) : Int) == 3)))] ?_
 rw [← hB222]
 have iB222 : B222 = true ↔ ((((e.kids.length : Nat) : Int) : Int) = 3) := by rw [hB222]; simp only [beq_iff_eq]
 clear hB222
 intro aC fr
 refine zpk 1 4 [179] fr (news := [(179, (cond B222 (pT b1 2) undef))]) (by cases B222 <;> kernel_rfl) ?_
 intro aC fr
 refine From_either (B := B222) (d := (some 180)) (.string e.nm) fr (by cases B222 <;> kernel_rfl) (fun hB hh => ?_) ?_
 cases B222 <;> try exact absurd hB (by decide)
 have c222 : ((((e.kids.length : Nat) : Int) : Int) = 3) := iB222.1 rfl
 exact From_ld (some 180) ⟨b1, 2, none⟩ fr (by kernel_rfl) (.string e.nm) (blk_cell (M3.get 0 rfl) rfl) hh
 intro aC fr
 refine zpk 3 8 [182, 183] fr (news := [(182, (.bool (B222 && ((e.nm : ByteArray).toList == (⟨#[]⟩ : ByteArray).toList)))), (183, (.bool (B222 && ((e.nm : ByteArray).toList == (⟨#[]⟩ : ByteArray).toList))))]) (by cases B222 <;> kernel_rfl) ?_
 intro aC fr
 obtain ⟨B231, hB231⟩ : ∃ B : Bool, B = (B222 && ((e.nm : ByteArray).toList == (⟨#[]⟩ : ByteArray).toList)) := ⟨_, rfl⟩
 revert aC
 refine zkp [(3, (pT b1 0)), (183, (.bool (B222 && ((e.nm : ByteArray).toList == (⟨#[]⟩ : ByteArray).toList))))] ?_
 rw [← hB231]
 have iB231 : B231 = true ↔ (((((e.kids.length : Nat) : Int) : Int) = 3) ∧ ((e.nm).size = 0)) := by rw [hB231]; simp only [Bool.and_eq_true, seq_nil, iB222]
 clear hB231
 intro aC fr
 refine zpk 1 9 [184] fr (news := [(184, (cond B231 (pT b1 1) undef))]) (by cases B231 <;> kernel_rfl) ?_
 intro aC fr
 refine From_either (B := B231) (d := (some 185)) (vI e.n) fr (by cases B231 <;> kernel_rfl) (fun hB hh => ?_) ?_
 cases B231 <;> try exact absurd hB (by decide)
 have c231 : (((((e.kids.length : Nat) : Int) : Int) = 3) ∧ ((e.nm).size = 0)) := iB231.1 rfl
 exact From_ld (some 185) ⟨b1, 1, none⟩ fr (by kernel_rfl) (vI e.n) (blk_cell (M3.get 0 rfl) rfl) hh
 intro aC fr
 refine zpk 3 13 [4, 187] fr (news := [(4, (.bool (B231 && ((e.n : Int) == 0)))), (187, (.bool (B231 && ((e.n : Int) == 0))))]) (by cases B231 <;> kernel_rfl) ?_
 intro aC fr
 revert aC
 refine zfe <| zre <| zbr <| zo1 (.bool (B231 && ((e.n : Int) == 0))) ?_
 have hR : (B231 && ((e.n : Int) == 0)) = true ↔ ((((((e.kids.length : Nat) : Int) : Int) = 3) ∧ ((e.nm).size = 0)) ∧ ((e.n : Int) = 0)) := by simp only [Bool.and_eq_true, beq_iff_eq, iB231]
 have M240 := M3.od [] 0
 exact ⟨bool_dec hR (by (try simp only [decide_eq_true_eq, decide_eq_false_iff_not] at *); (try unfold nameQ at *); (try unfold placeQ at *); (try unfold codeQ at *); rw [esQ_12 (by omega)]; have hb_ := bin_ok e.n; have hu_ := un_ok e.n; omega), M240⟩
 refine zsp <| zcQ e.op 13 (fun c241 => ?_) (fun c241 => ?_)
 refine zsr <| zpn 3 ?_
 obtain ⟨B242, hB242⟩ : ∃ B : Bool, B = ((((e.kids.length : Nat) : Int) : Int) == 2) := ⟨_, rfl⟩
 refine zkp [(3, (pT b1 0)), (192, (.bool ((((e.kids.length : Nat) : Int) : Int) == 2)))] ?_
 rw [← hB242]
 have iB242 : B242 = true ↔ ((((e.kids.length : Nat) : Int) : Int) = 2) := by rw [hB242]; simp only [beq_iff_eq]
 clear hB242
 intro aC fr
 refine zpk 1 4 [193] fr (news := [(193, (cond B242 (pT b1 2) undef))]) (by cases B242 <;> kernel_rfl) ?_
 intro aC fr
 refine From_either (B := B242) (d := (some 194)) (.string e.nm) fr (by cases B242 <;> kernel_rfl) (fun hB hh => ?_) ?_
 cases B242 <;> try exact absurd hB (by decide)
 have c242 : ((((e.kids.length : Nat) : Int) : Int) = 2) := iB242.1 rfl
 exact From_ld (some 194) ⟨b1, 2, none⟩ fr (by kernel_rfl) (.string e.nm) (blk_cell (M3.get 0 rfl) rfl) hh
 intro aC fr
 refine zpk 3 8 [196, 197] fr (news := [(196, (.bool (B242 && ((e.nm : ByteArray).toList == (⟨#[]⟩ : ByteArray).toList)))), (197, (.bool (B242 && ((e.nm : ByteArray).toList == (⟨#[]⟩ : ByteArray).toList))))]) (by cases B242 <;> kernel_rfl) ?_
 intro aC fr
 obtain ⟨B251, hB251⟩ : ∃ B : Bool, B = (B242 && ((e.nm : ByteArray).toList == (⟨#[]⟩ : ByteArray).toList)) := ⟨_, rfl⟩
 revert aC
 refine zkp [(3, (pT b1 0)), (197, (.bool (B242 && ((e.nm : ByteArray).toList == (⟨#[]⟩ : ByteArray).toList))))] ?_
 rw [← hB251]
 have iB251 : B251 = true ↔ (((((e.kids.length : Nat) : Int) : Int) = 2) ∧ ((e.nm).size = 0)) := by rw [hB251]; simp only [Bool.and_eq_true, seq_nil, iB242]
 clear hB251
 intro aC fr
 refine zpk 1 9 [198] fr (news := [(198, (cond B251 (pT b1 1) undef))]) (by cases B251 <;> kernel_rfl) ?_
 intro aC fr
 refine From_either (B := B251) (d := (some 199)) (vI e.n) fr (by cases B251 <;> kernel_rfl) (fun hB hh => ?_) ?_
 cases B251 <;> try exact absurd hB (by decide)
 have c251 : (((((e.kids.length : Nat) : Int) : Int) = 2) ∧ ((e.nm).size = 0)) := iB251.1 rfl
 exact From_ld (some 199) ⟨b1, 1, none⟩ fr (by kernel_rfl) (vI e.n) (blk_cell (M3.get 0 rfl) rfl) hh
 intro aC fr
 refine From_eitherC (B := B251) (d := (some 200)) (.bool (decide (codeQ e.n))) fr (by cases B251 <;> kernel_rfl) (fun hB hh => ?_) ?_
 cases B251 <;> try exact absurd hB (by decide)
 have c251 : (((((e.kids.length : Nat) : Int) : Int) = 2) ∧ ((e.nm).size = 0)) := iB251.1 rfl
 refine From_cl (some 200) 78 [(vI e.n)] fr (by kernel_rfl) (tcode_c e.n w2) ?_
 rintro _ w2 ⟨rfl, hm2⟩ a2 hF2; exact hh a2 w2 hm2 hF2
 intro aC w258 M259x fr
 have M259 := M3.cl M259x
 refine zpk 2 13 [4, 201] fr (news := [(4, (.bool (B251 && decide (codeQ e.n)))), (201, (.bool (B251 && decide (codeQ e.n))))]) (by cases B251 <;> kernel_rfl) ?_
 intro aC fr
 revert aC
 refine zfe <| zre <| zbr <| zo1 (.bool (B251 && decide (codeQ e.n))) ?_
 have hR : (B251 && decide (codeQ e.n)) = true ↔ ((((((e.kids.length : Nat) : Int) : Int) = 2) ∧ ((e.nm).size = 0)) ∧ (codeQ e.n)) := by simp only [Bool.and_eq_true, decide_eq_true_eq, iB251]
 have M264 := M259.od [] 0
 exact ⟨bool_dec hR (by (try simp only [decide_eq_true_eq, decide_eq_false_iff_not] at *); (try unfold nameQ at *); (try unfold placeQ at *); (try unfold codeQ at *); rw [esQ_13 (by omega)]; have hb_ := bin_ok e.n; have hu_ := un_ok e.n; omega), M264⟩
 refine zsk <| zsp <| zre <| zo1 (.bool false) ?_
 have hR : false = true ↔ False := by simp
 have M265 := M3.od [] 0
 exact ⟨bool_dec hR (⟨False.elim, fun h_ => by have := esQ_rng h_; omega⟩), M265⟩
 have c156 : ((e.op : Int) = 8) := iB156.1 rfl
 refine zcT <| zsk <| zcT <| zsr <| zpn 3 ?_
 obtain ⟨B266, hB266⟩ : ∃ B : Bool, B = ((((e.kids.length : Nat) : Int) : Int) == 0) := ⟨_, rfl⟩
 refine zkp [(3, (pT b1 0)), (136, (.bool ((((e.kids.length : Nat) : Int) : Int) == 0)))] ?_
 rw [← hB266]
 have iB266 : B266 = true ↔ ((((e.kids.length : Nat) : Int) : Int) = 0) := by rw [hB266]; simp only [beq_iff_eq]
 clear hB266
 intro aC fr
 refine zpk 1 4 [137] fr (news := [(137, (cond B266 (pT b1 2) undef))]) (by cases B266 <;> kernel_rfl) ?_
 intro aC fr
 refine From_either (B := B266) (d := (some 138)) (.string e.nm) fr (by cases B266 <;> kernel_rfl) (fun hB hh => ?_) ?_
 cases B266 <;> try exact absurd hB (by decide)
 have c266 : ((((e.kids.length : Nat) : Int) : Int) = 0) := iB266.1 rfl
 exact From_ld (some 138) ⟨b1, 2, none⟩ fr (by kernel_rfl) (.string e.nm) (blk_cell (M3.get 0 rfl) rfl) hh
 intro aC fr
 refine From_eitherC (B := B266) (d := (some 139)) (.bool (decide (nameQ e.nm))) fr (by cases B266 <;> kernel_rfl) (fun hB hh => ?_) ?_
 cases B266 <;> try exact absurd hB (by decide)
 have c266 : ((((e.kids.length : Nat) : Int) : Int) = 0) := iB266.1 rfl
 refine From_cl (some 139) 48 [(.string e.nm)] fr (by kernel_rfl) (tname_c e.nm w2 hI.nm) ?_
 rintro _ w2 ⟨rfl, hm2⟩ a2 hF2; exact hh a2 w2 hm2 hF2
 intro aC w273 M274x fr
 have M274 := M3.cl M274x
 refine zpk 2 8 [140, 141] fr (news := [(140, (.bool (B266 && decide (nameQ e.nm)))), (141, (.bool (B266 && decide (nameQ e.nm))))]) (by cases B266 <;> kernel_rfl) ?_
 intro aC fr
 obtain ⟨B279, hB279⟩ : ∃ B : Bool, B = (B266 && decide (nameQ e.nm)) := ⟨_, rfl⟩
 revert aC
 refine zkp [(3, (pT b1 0)), (141, (.bool (B266 && decide (nameQ e.nm))))] ?_
 rw [← hB279]
 have iB279 : B279 = true ↔ (((((e.kids.length : Nat) : Int) : Int) = 0) ∧ (nameQ e.nm)) := by rw [hB279]; simp only [Bool.and_eq_true, decide_eq_true_eq, iB266]
 clear hB279
 intro aC fr
 refine zpk 1 9 [142] fr (news := [(142, (cond B279 (pT b1 1) undef))]) (by cases B279 <;> kernel_rfl) ?_
 intro aC fr
 refine From_either (B := B279) (d := (some 143)) (vI e.n) fr (by cases B279 <;> kernel_rfl) (fun hB hh => ?_) ?_
 cases B279 <;> try exact absurd hB (by decide)
 have c279 : (((((e.kids.length : Nat) : Int) : Int) = 0) ∧ (nameQ e.nm)) := iB279.1 rfl
 exact From_ld (some 143) ⟨b1, 1, none⟩ fr (by kernel_rfl) (vI e.n) (blk_cell (M274.get 0 rfl) rfl) hh
 intro aC fr
 refine zpk 3 13 [4, 145] fr (news := [(4, (.bool (B279 && ((e.n : Int) == 0)))), (145, (.bool (B279 && ((e.n : Int) == 0))))]) (by cases B279 <;> kernel_rfl) ?_
 intro aC fr
 revert aC
 refine zfe <| zre <| zbr <| zo1 (.bool (B279 && ((e.n : Int) == 0))) ?_
 have hR : (B279 && ((e.n : Int) == 0)) = true ↔ ((((((e.kids.length : Nat) : Int) : Int) = 0) ∧ (nameQ e.nm)) ∧ ((e.n : Int) = 0)) := by simp only [Bool.and_eq_true, beq_iff_eq, iB279]
 have M288 := M274.od [] 0
 exact ⟨bool_dec hR (by (try simp only [decide_eq_true_eq, decide_eq_false_iff_not] at *); (try unfold nameQ at *); (try unfold placeQ at *); (try unfold codeQ at *); rw [esQ_8 (by omega)]; have hb_ := bin_ok e.n; have hu_ := un_ok e.n; omega), M288⟩
theorem thas_ff (x : MSt) (q : Int) (w : World) :
    Calls Try.prog 76 #[(.agg (SC x).toArray), (vI q), (.bool false), (.bool false)] w (Ret fun v w' => v = .bool (decide ((x.exprs.length : Int) = q ∧ x.body.length = 0 ∧ x.els.length = 0)) ∧ Mem noS w w' []) := by
 refine zen 32 [(.agg (SC x).toArray), (vI q), (.bool false), (.bool false)] Try.func76 ?_
 have hM := Mem.init w
 refine zsr <| zbx hM 48 (.agg (SC x).toArray) (SC x) fun b1 w2 hb1 M3 => ?_
 replace M3 := M3.nf
 clear hM
 refine zpn 1 <| zfe <| zsr <| zpn 1 <| zld ⟨b1, 2, none⟩ (vS x.eA x.exprs.length x.ec) (blk_cell (M3.get 0 rfl) rfl) <| zpn 4 ?_
 obtain ⟨B4, hB4⟩ : ∃ B : Bool, B = ((((x.exprs.length : Nat) : Int) : Int) == q) := ⟨_, rfl⟩
 refine zkp [(2, (.bool false)), (3, (.bool false)), (4, (pT b1 0)), (14, (.bool ((((x.exprs.length : Nat) : Int) : Int) == q)))] ?_
 rw [← hB4]
 have iB4 : B4 = true ↔ ((((x.exprs.length : Nat) : Int) : Int) = q) := by rw [hB4]; simp only [beq_iff_eq]
 clear hB4
 intro aC fr
 refine zpk 3 9 [16, 17] fr (news := [(16, (cond B4 (.bool false) undef)), (17, (cond B4 (pT b1 3) undef))]) (by cases B4 <;> kernel_rfl) ?_
 intro aC fr
 refine From_either (B := B4) (d := (some 18)) (vS x.bA x.body.length x.bc) fr (by cases B4 <;> kernel_rfl) (fun hB hh => ?_) ?_
 cases B4 <;> try exact absurd hB (by decide)
 have c4 : ((((x.exprs.length : Nat) : Int) : Int) = q) := iB4.1 rfl
 exact From_ld (some 18) ⟨b1, 3, none⟩ fr (by kernel_rfl) (vS x.bA x.body.length x.bc) (blk_cell (M3.get 0 rfl) rfl) hh
 intro aC fr
 refine zpk 5 15 [22, 23] fr (news := [(22, (.bool (B4 && ((((x.body.length : Nat) : Int) : Int) == 0)))), (23, (.bool (B4 && ((((x.body.length : Nat) : Int) : Int) == 0))))]) (by cases B4 <;> kernel_rfl) ?_
 intro aC fr
 obtain ⟨B13, hB13⟩ : ∃ B : Bool, B = (B4 && ((((x.body.length : Nat) : Int) : Int) == 0)) := ⟨_, rfl⟩
 revert aC
 refine zkp [(3, (.bool false)), (4, (pT b1 0)), (23, (.bool (B4 && ((((x.body.length : Nat) : Int) : Int) == 0))))] ?_
 rw [← hB13]
 have iB13 : B13 = true ↔ (((((x.exprs.length : Nat) : Int) : Int) = q) ∧ ((((x.body.length : Nat) : Int) : Int) = 0)) := by rw [hB13]; simp only [Bool.and_eq_true, beq_iff_eq, iB4]
 clear hB13
 intro aC fr
 refine zpk 3 18 [25, 26] fr (news := [(25, (cond B13 (.bool false) undef)), (26, (cond B13 (pT b1 4) undef))]) (by cases B13 <;> kernel_rfl) ?_
 intro aC fr
 refine From_either (B := B13) (d := (some 27)) (vS x.lA x.els.length x.lc) fr (by cases B13 <;> kernel_rfl) (fun hB hh => ?_) ?_
 cases B13 <;> try exact absurd hB (by decide)
 have c13 : (((((x.exprs.length : Nat) : Int) : Int) = q) ∧ ((((x.body.length : Nat) : Int) : Int) = 0)) := iB13.1 rfl
 exact From_ld (some 27) ⟨b1, 4, none⟩ fr (by kernel_rfl) (vS x.lA x.els.length x.lc) (blk_cell (M3.get 0 rfl) rfl) hh
 intro aC fr
 refine zpk 5 24 [8, 31] fr (news := [(8, (.bool (B13 && ((((x.els.length : Nat) : Int) : Int) == 0)))), (31, (.bool (B13 && ((((x.els.length : Nat) : Int) : Int) == 0))))]) (by cases B13 <;> kernel_rfl) ?_
 intro aC fr
 revert aC
 refine zfe <| zre <| zo1 (.bool (B13 && ((((x.els.length : Nat) : Int) : Int) == 0))) ?_
 have hR : (B13 && ((((x.els.length : Nat) : Int) : Int) == 0)) = true ↔ ((((((x.exprs.length : Nat) : Int) : Int) = q) ∧ ((((x.body.length : Nat) : Int) : Int) = 0)) ∧ ((((x.els.length : Nat) : Int) : Int) = 0)) := by simp only [Bool.and_eq_true, beq_iff_eq, iB13]
 have M22 := M3.od [] 0
 exact ⟨bool_dec hR (by omega), M22⟩
theorem thas_tt (x : MSt) (q : Int) (w : World) :
    Calls Try.prog 76 #[(.agg (SC x).toArray), (vI q), (.bool true), (.bool true)] w (Ret fun v w' => v = .bool (decide ((x.exprs.length : Int) = q)) ∧ Mem noS w w' []) := by
 refine zen 32 [(.agg (SC x).toArray), (vI q), (.bool true), (.bool true)] Try.func76 ?_
 have hM := Mem.init w
 refine zsr <| zbx hM 48 (.agg (SC x).toArray) (SC x) fun b1 w2 hb1 M3 => ?_
 replace M3 := M3.nf
 clear hM
 refine zpn 1 <| zfe <| zsr <| zpn 1 <| zld ⟨b1, 2, none⟩ (vS x.eA x.exprs.length x.ec) (blk_cell (M3.get 0 rfl) rfl) <| zpn 4 ?_
 obtain ⟨B4, hB4⟩ : ∃ B : Bool, B = ((((x.exprs.length : Nat) : Int) : Int) == q) := ⟨_, rfl⟩
 refine zkp [(2, (.bool true)), (3, (.bool true)), (4, (pT b1 0)), (14, (.bool ((((x.exprs.length : Nat) : Int) : Int) == q)))] ?_
 rw [← hB4]
 have iB4 : B4 = true ↔ ((((x.exprs.length : Nat) : Int) : Int) = q) := by rw [hB4]; simp only [beq_iff_eq]
 clear hB4
 intro aC fr
 refine zpk 18 24 [8, 22, 23, 31] fr (news := [(8, (.bool B4)), (22, (.bool B4)), (23, (.bool B4)), (31, (.bool B4))]) (by cases B4 <;> kernel_rfl) ?_
 intro aC fr
 revert aC
 refine zfe <| zre <| zo1 (.bool B4) ?_
 have hR : B4 = true ↔ ((((x.exprs.length : Nat) : Int) : Int) = q) := by simp only [iB4]
 have M9 := M3.od [] 0
 exact ⟨bool_dec hR (by omega), M9⟩
theorem thas_tf (x : MSt) (q : Int) (w : World) :
    Calls Try.prog 76 #[(.agg (SC x).toArray), (vI q), (.bool true), (.bool false)] w (Ret fun v w' => v = .bool (decide ((x.exprs.length : Int) = q ∧ x.els.length = 0)) ∧ Mem noS w w' []) := by
 refine zen 32 [(.agg (SC x).toArray), (vI q), (.bool true), (.bool false)] Try.func76 ?_
 have hM := Mem.init w
 refine zsr <| zbx hM 48 (.agg (SC x).toArray) (SC x) fun b1 w2 hb1 M3 => ?_
 replace M3 := M3.nf
 clear hM
 refine zpn 1 <| zfe <| zsr <| zpn 1 <| zld ⟨b1, 2, none⟩ (vS x.eA x.exprs.length x.ec) (blk_cell (M3.get 0 rfl) rfl) <| zpn 4 ?_
 obtain ⟨B4, hB4⟩ : ∃ B : Bool, B = ((((x.exprs.length : Nat) : Int) : Int) == q) := ⟨_, rfl⟩
 refine zkp [(2, (.bool true)), (3, (.bool false)), (4, (pT b1 0)), (14, (.bool ((((x.exprs.length : Nat) : Int) : Int) == q)))] ?_
 rw [← hB4]
 have iB4 : B4 = true ↔ ((((x.exprs.length : Nat) : Int) : Int) = q) := by rw [hB4]; simp only [beq_iff_eq]
 clear hB4
 intro aC fr
 refine zpk 12 18 [22, 23, 25, 26] fr (news := [(22, (.bool B4)), (23, (.bool B4)), (25, (cond B4 (.bool false) undef)), (26, (cond B4 (pT b1 4) undef))]) (by cases B4 <;> kernel_rfl) ?_
 intro aC fr
 refine From_either (B := B4) (d := (some 27)) (vS x.lA x.els.length x.lc) fr (by cases B4 <;> kernel_rfl) (fun hB hh => ?_) ?_
 cases B4 <;> try exact absurd hB (by decide)
 have c4 : ((((x.exprs.length : Nat) : Int) : Int) = q) := iB4.1 rfl
 exact From_ld (some 27) ⟨b1, 4, none⟩ fr (by kernel_rfl) (vS x.lA x.els.length x.lc) (blk_cell (M3.get 0 rfl) rfl) hh
 intro aC fr
 refine zpk 5 24 [8, 31] fr (news := [(8, (.bool (B4 && ((((x.els.length : Nat) : Int) : Int) == 0)))), (31, (.bool (B4 && ((((x.els.length : Nat) : Int) : Int) == 0))))]) (by cases B4 <;> kernel_rfl) ?_
 intro aC fr
 revert aC
 refine zfe <| zre <| zo1 (.bool (B4 && ((((x.els.length : Nat) : Int) : Int) == 0))) ?_
 have hR : (B4 && ((((x.els.length : Nat) : Int) : Int) == 0)) = true ↔ (((((x.exprs.length : Nat) : Int) : Int) = q) ∧ ((((x.els.length : Nat) : Int) : Int) = 0)) := by simp only [Bool.and_eq_true, beq_iff_eq, iB4]
 have M13 := M3.od [] 0
 exact ⟨bool_dec hR (by omega), M13⟩
set_option maxHeartbeats 1000000 in
theorem tform_c (w : World) (c0 : Nat) (lo lp : Int) (hC : RO noS w (chkB c0 lo lp)) (x : MSt) (hI : StI0 x) :
    Calls Try.prog 67 #[(pT c0 0), (.agg (SC x).toArray)] w (Ret fun v w' => v = .bool (decide (sfQ lo lp x.op x.n x.exprs.length x.body.length x.els.length)) ∧ Mem noS w w' []) := by
 have h1_ := hI.exprs
 have h2_ := hI.body
 have h3_ := hI.els
 unfold LenOk at h1_ h2_ h3_
 refine zen 103 [(pT c0 0), (.agg (SC x).toArray)] Try.func67 ?_
 have hM := Mem.init w
 refine zsr <| zbx hM 48 (.agg (SC x).toArray) (SC x) fun b1 w2 hb1 M3 => ?_
 replace M3 := M3.nf
 clear hM
 refine zpn 1 <| zfe <| zsq <| zsr <| zpn 1 <| zld ⟨b1, 0, none⟩ (vI x.op) (blk_cell (M3.get 0 rfl) rfl) <| zfe <| zbk 0 <| zsp <| zcQ x.op 1 (fun c4 => ?_) (fun c4 => ?_)
 refine zsq ?_
 obtain ⟨B5, hB5⟩ : ∃ B : Bool, B = decide ((x.exprs.length : Int) = 1 ∧ x.body.length = 0 ∧ x.els.length = 0) := ⟨_, rfl⟩
 cases B5
 have c5 : (decide ((x.exprs.length : Int) = 1 ∧ x.body.length = 0 ∧ x.els.length = 0)) = false := hB5.symm
 refine zkp [(0, (pT c0 0)), (3, (pT b1 0)), (6, (vI x.op))] ?_
 intro aC fr
 refine zdt 14 (N := 103) (env0 := [(0, (pT c0 0)), (3, (pT b1 0)), (6, (vI x.op))]) (specAt [.det (.agg (SC x).toArray), .det (.bool false), .det (.bool false), dU, dU, dU, .det (.bool false), .det (.bool false), dU, dU, dU, dU, dU, dU]) fr (la (la (la (la (la (la (la (la (la (la (la (la (la (la lz (dS ⟨b1, 0, none⟩ (SC x) fun w_ hK => (blk_cells ((M3.then_ hK).get 0 rfl)))) (dD (fun w_ hK => thas_ff x 1 w_) (congrArg Value.bool hB5.symm))) dP) dK) dK) dK) dP) dP) dK) dK) dK) dK) dK) dK) ?_
 intro aC w10 vs hK hv fr
 revert aC; refine zkp [(16, (.bool false))] ?_
 have M11 := M3.then_ hK
 clear hK hv fr aC M3; clear vs
 refine zpn 3 <| zfe <| zre <| zbr <| zo1 (.bool false) ?_
 have hR : false = true ↔ False := by simp
 have M12 := M11.od [] 0
 exact ⟨bool_dec hR (⟨False.elim, fun h_ => by (try simp only [decide_eq_true_eq, decide_eq_false_iff_not] at *); rw [sfQ_1 (by omega)] at h_; omega⟩), M12⟩
 have c5 : (decide ((x.exprs.length : Int) = 1 ∧ x.body.length = 0 ∧ x.els.length = 0)) = true := hB5.symm
 obtain ⟨B13, hB13⟩ : ∃ B : Bool, B = decide (x.n ≥ 0) := ⟨_, rfl⟩
 cases B13
 have c13 : ¬ (x.n ≥ 0) := of_decide_eq_false hB13.symm
 refine zkp [(0, (pT c0 0)), (3, (pT b1 0)), (6, (vI x.op))] ?_
 intro aC fr
 refine zdt 14 (N := 103) (env0 := [(0, (pT c0 0)), (3, (pT b1 0)), (6, (vI x.op))]) (specAt [.det (.agg (SC x).toArray), .det (.bool true), .det (.bool true), .det (pT b1 1), .det (vI x.n), .det (.bool false), .det (.bool false), .det (.bool false), dU, dU, dU, dU, dU, dU]) fr (la (la (la (la (la (la (la (la (la (la (la (la (la (la lz (dS ⟨b1, 0, none⟩ (SC x) fun w_ hK => (blk_cells ((M3.then_ hK).get 0 rfl)))) (dD (fun w_ hK => thas_ff x 1 w_) (congrArg Value.bool hB5.symm))) dP) dP) (dL ⟨b1, 1, none⟩ (vI x.n) fun w_ hK => (blk_cell ((M3.then_ hK).get 0 rfl) rfl))) (dC (decide (x.n ≥ 0)) hB13)) dP) dP) dK) dK) dK) dK) dK) dK) ?_
 intro aC w18 vs hK hv fr
 revert aC; refine zkp [(16, (.bool false))] ?_
 have M19 := M3.then_ hK
 clear hK hv fr aC M3; clear vs
 refine zpn 3 <| zfe <| zre <| zbr <| zo1 (.bool false) ?_
 have hR : false = true ↔ False := by simp
 have M20 := M19.od [] 0
 exact ⟨bool_dec hR (⟨False.elim, fun h_ => by (try simp only [decide_eq_true_eq, decide_eq_false_iff_not] at *); rw [sfQ_1 (by omega)] at h_; omega⟩), M20⟩
 have c13 : x.n ≥ 0 := of_decide_eq_true hB13.symm
 refine zkp [(0, (pT c0 0)), (3, (pT b1 0)), (6, (vI x.op))] ?_
 intro aC fr
 refine zdt 14 (N := 103) (env0 := [(0, (pT c0 0)), (3, (pT b1 0)), (6, (vI x.op))]) (specAt [.det (.agg (SC x).toArray), .det (.bool true), .det (.bool true), .det (pT b1 1), .det (vI x.n), .det (.bool true), .det (.bool true), .det (.bool true), .det (pT b1 1), .det (vI x.n), .det (pT c0 0), .det (pT c0 0), .det (pT c0 0), .det (vI lo)]) fr (la (la (la (la (la (la (la (la (la (la (la (la (la (la lz (dS ⟨b1, 0, none⟩ (SC x) fun w_ hK => (blk_cells ((M3.then_ hK).get 0 rfl)))) (dD (fun w_ hK => thas_ff x 1 w_) (congrArg Value.bool hB5.symm))) dP) dP) (dL ⟨b1, 1, none⟩ (vI x.n) fun w_ hK => (blk_cell ((M3.then_ hK).get 0 rfl) rfl))) (dC (decide (x.n ≥ 0)) hB13)) dP) dP) dP) (dL ⟨b1, 1, none⟩ (vI x.n) fun w_ hK => (blk_cell ((M3.then_ hK).get 0 rfl) rfl))) dP) dP) dP) (dL ⟨c0, 0, none⟩ (vI lo) fun w_ hK => (blk_cell ((M3.then_ hK).ro hC) rfl))) ?_
 intro aC w25 vs hK hv fr
 revert aC; refine zkp [(16, (.bool true)), (18, (vI x.n)), (22, (vI lo))] ?_
 have M26 := M3.then_ hK
 clear hK hv fr aC M3; clear vs
 refine zpn 3 <| zfe <| zre <| zbr <| zo1 (.bool (decide ((x.n : Int) < lo))) ?_
 have hR : decide ((x.n : Int) < lo) = true ↔ ((x.n : Int) < lo) := by simp only [decide_eq_true_eq]
 have M27 := M26.od [] 0
 exact ⟨bool_dec hR (by (try simp only [decide_eq_true_eq, decide_eq_false_iff_not] at *); (try unfold placeQ at *); (try unfold codeQ at *); rw [sfQ_1 (by omega)]; omega), M27⟩
 refine zsp <| zcQ x.op 2 (fun c28 => ?_) (fun c28 => ?_)
 refine zsr <| zls ⟨b1, 0, none⟩ (SC x) (blk_cells (M3.get 0 rfl)) <| zcl (thas_ff x 2 w2) ?_
 rintro _ w29 ⟨rfl, M30x⟩
 have M30 := M3.cl M30x
 refine zpn 1 ?_
 obtain ⟨B31, hB31⟩ : ∃ B : Bool, B = decide ((x.exprs.length : Int) = 2 ∧ x.body.length = 0 ∧ x.els.length = 0) := ⟨_, rfl⟩
 refine zkp [(3, (pT b1 0)), (29, (.bool (decide ((x.exprs.length : Int) = 2 ∧ x.body.length = 0 ∧ x.els.length = 0))))] ?_
 rw [← hB31]
 have iB31 : B31 = true ↔ ((x.exprs.length : Int) = 2 ∧ x.body.length = 0 ∧ x.els.length = 0) := by rw [hB31]; simp only [decide_eq_true_eq]
 clear hB31
 intro aC fr
 refine zpk 1 4 [30] fr (news := [(30, (cond B31 (pT b1 1) undef))]) (by cases B31 <;> kernel_rfl) ?_
 intro aC fr
 refine From_either (B := B31) (d := (some 31)) (vI x.n) fr (by cases B31 <;> kernel_rfl) (fun hB hh => ?_) ?_
 cases B31 <;> try exact absurd hB (by decide)
 have c31 : ((x.exprs.length : Int) = 2 ∧ x.body.length = 0 ∧ x.els.length = 0) := iB31.1 rfl
 exact From_ld (some 31) ⟨b1, 1, none⟩ fr (by kernel_rfl) (vI x.n) (blk_cell (M30.get 0 rfl) rfl) hh
 intro aC fr
 refine From_eitherC (B := B31) (d := (some 32)) (.bool (decide (placeQ x.n))) fr (by cases B31 <;> kernel_rfl) (fun hB hh => ?_) ?_
 cases B31 <;> try exact absurd hB (by decide)
 have c31 : ((x.exprs.length : Int) = 2 ∧ x.body.length = 0 ∧ x.els.length = 0) := iB31.1 rfl
 refine From_cl (some 32) 77 [(vI x.n)] fr (by kernel_rfl) (tplace_c x.n w29) ?_
 rintro _ w2 ⟨rfl, hm2⟩ a2 hF2; exact hh a2 w2 hm2 hF2
 intro aC w38 M39x fr
 have M39 := M30.cl M39x
 refine zpk 2 8 [4, 33] fr (news := [(4, (.bool (B31 && decide (placeQ x.n)))), (33, (.bool (B31 && decide (placeQ x.n))))]) (by cases B31 <;> kernel_rfl) ?_
 intro aC fr
 revert aC
 refine zfe <| zre <| zbr <| zo1 (.bool (B31 && decide (placeQ x.n))) ?_
 have hR : (B31 && decide (placeQ x.n)) = true ↔ (((x.exprs.length : Int) = 2 ∧ x.body.length = 0 ∧ x.els.length = 0) ∧ (placeQ x.n)) := by simp only [Bool.and_eq_true, decide_eq_true_eq, iB31]
 have M44 := M39.od [] 0
 exact ⟨bool_dec hR (by (try simp only [decide_eq_true_eq, decide_eq_false_iff_not] at *); (try unfold placeQ at *); (try unfold codeQ at *); rw [sfQ_2 (by omega)]; omega), M44⟩
 refine zsq <| zsp ?_
 obtain ⟨B45, hB45⟩ : ∃ B : Bool, B = ((x.op : Int) == 3) := ⟨_, rfl⟩
 refine zkp [(0, (pT c0 0)), (3, (pT b1 0)), (6, (vI x.op)), (34, (.bool ((x.op : Int) == 3)))] ?_
 rw [← hB45]
 have iB45 : B45 = true ↔ ((x.op : Int) = 3) := by rw [hB45]; simp only [beq_iff_eq]
 clear hB45
 cases B45
 have c45 : ¬ ((x.op : Int) = 3) := (fun h => Bool.noConfusion (iB45.2 h) : ¬ ((x.op : Int) = 3))
 refine zcF <| zrp <| zcQ x.op 4 (fun c46 => ?_) (fun c46 => ?_)
 refine zsr <| zls ⟨b1, 0, none⟩ (SC x) (blk_cells (M3.get 0 rfl)) <| zcl (thas_ff x 1 w2) ?_
 rintro _ w47 ⟨rfl, M48x⟩
 have M48 := M3.cl M48x
 refine zpn 1 ?_
 obtain ⟨B49, hB49⟩ : ∃ B : Bool, B = decide ((x.exprs.length : Int) = 1 ∧ x.body.length = 0 ∧ x.els.length = 0) := ⟨_, rfl⟩
 refine zkp [(3, (pT b1 0)), (39, (.bool (decide ((x.exprs.length : Int) = 1 ∧ x.body.length = 0 ∧ x.els.length = 0))))] ?_
 rw [← hB49]
 have iB49 : B49 = true ↔ ((x.exprs.length : Int) = 1 ∧ x.body.length = 0 ∧ x.els.length = 0) := by rw [hB49]; simp only [decide_eq_true_eq]
 clear hB49
 intro aC fr
 refine zpk 1 4 [40] fr (news := [(40, (cond B49 (pT b1 1) undef))]) (by cases B49 <;> kernel_rfl) ?_
 intro aC fr
 refine From_either (B := B49) (d := (some 41)) (vI x.n) fr (by cases B49 <;> kernel_rfl) (fun hB hh => ?_) ?_
 cases B49 <;> try exact absurd hB (by decide)
 have c49 : ((x.exprs.length : Int) = 1 ∧ x.body.length = 0 ∧ x.els.length = 0) := iB49.1 rfl
 exact From_ld (some 41) ⟨b1, 1, none⟩ fr (by kernel_rfl) (vI x.n) (blk_cell (M48.get 0 rfl) rfl) hh
 intro aC fr
 refine zpk 3 8 [4, 43] fr (news := [(4, (.bool (B49 && ((x.n : Int) == 0)))), (43, (.bool (B49 && ((x.n : Int) == 0))))]) (by cases B49 <;> kernel_rfl) ?_
 intro aC fr
 revert aC
 refine zfe <| zre <| zbr <| zo1 (.bool (B49 && ((x.n : Int) == 0))) ?_
 have hR : (B49 && ((x.n : Int) == 0)) = true ↔ (((x.exprs.length : Int) = 1 ∧ x.body.length = 0 ∧ x.els.length = 0) ∧ ((x.n : Int) = 0)) := by simp only [Bool.and_eq_true, beq_iff_eq, iB49]
 have M58 := M48.od [] 0
 exact ⟨bool_dec hR (by (try simp only [decide_eq_true_eq, decide_eq_false_iff_not] at *); (try unfold placeQ at *); (try unfold codeQ at *); rw [sfQ_4 (by omega)]; omega), M58⟩
 refine zsp <| zcQ x.op 5 (fun c59 => ?_) (fun c59 => ?_)
 refine zsr <| zls ⟨b1, 0, none⟩ (SC x) (blk_cells (M3.get 0 rfl)) <| zcl (thas_tt x 1 w2) ?_
 rintro _ w60 ⟨rfl, M61x⟩
 have M61 := M3.cl M61x
 refine zpn 1 ?_
 obtain ⟨B62, hB62⟩ : ∃ B : Bool, B = decide ((x.exprs.length : Int) = 1) := ⟨_, rfl⟩
 refine zkp [(3, (pT b1 0)), (48, (.bool (decide ((x.exprs.length : Int) = 1))))] ?_
 rw [← hB62]
 have iB62 : B62 = true ↔ ((x.exprs.length : Int) = 1) := by rw [hB62]; simp only [decide_eq_true_eq]
 clear hB62
 intro aC fr
 refine zpk 1 4 [49] fr (news := [(49, (cond B62 (pT b1 1) undef))]) (by cases B62 <;> kernel_rfl) ?_
 intro aC fr
 refine From_either (B := B62) (d := (some 50)) (vI x.n) fr (by cases B62 <;> kernel_rfl) (fun hB hh => ?_) ?_
 cases B62 <;> try exact absurd hB (by decide)
 have c62 : ((x.exprs.length : Int) = 1) := iB62.1 rfl
 exact From_ld (some 50) ⟨b1, 1, none⟩ fr (by kernel_rfl) (vI x.n) (blk_cell (M61.get 0 rfl) rfl) hh
 intro aC fr
 refine zpk 3 8 [4, 52] fr (news := [(4, (.bool (B62 && ((x.n : Int) == 0)))), (52, (.bool (B62 && ((x.n : Int) == 0))))]) (by cases B62 <;> kernel_rfl) ?_
 intro aC fr
 revert aC
 refine zfe <| zre <| zbr <| zo1 (.bool (B62 && ((x.n : Int) == 0))) ?_
 have hR : (B62 && ((x.n : Int) == 0)) = true ↔ (((x.exprs.length : Int) = 1) ∧ ((x.n : Int) = 0)) := by simp only [Bool.and_eq_true, beq_iff_eq, iB62]
 have M71 := M61.od [] 0
 exact ⟨bool_dec hR (by (try simp only [decide_eq_true_eq, decide_eq_false_iff_not] at *); (try unfold placeQ at *); (try unfold codeQ at *); rw [sfQ_5 (by omega)]; omega), M71⟩
 refine zsp <| zcQ x.op 6 (fun c72 => ?_) (fun c72 => ?_)
 refine zsr <| zls ⟨b1, 0, none⟩ (SC x) (blk_cells (M3.get 0 rfl)) <| zcl (thas_tf x 0 w2) ?_
 rintro _ w73 ⟨rfl, M74x⟩
 have M74 := M3.cl M74x
 refine zpn 1 ?_
 obtain ⟨B75, hB75⟩ : ∃ B : Bool, B = decide ((x.exprs.length : Int) = 0 ∧ x.els.length = 0) := ⟨_, rfl⟩
 refine zkp [(3, (pT b1 0)), (57, (.bool (decide ((x.exprs.length : Int) = 0 ∧ x.els.length = 0))))] ?_
 rw [← hB75]
 have iB75 : B75 = true ↔ ((x.exprs.length : Int) = 0 ∧ x.els.length = 0) := by rw [hB75]; simp only [decide_eq_true_eq]
 clear hB75
 intro aC fr
 refine zpk 1 4 [58] fr (news := [(58, (cond B75 (pT b1 1) undef))]) (by cases B75 <;> kernel_rfl) ?_
 intro aC fr
 refine From_either (B := B75) (d := (some 59)) (vI x.n) fr (by cases B75 <;> kernel_rfl) (fun hB hh => ?_) ?_
 cases B75 <;> try exact absurd hB (by decide)
 have c75 : ((x.exprs.length : Int) = 0 ∧ x.els.length = 0) := iB75.1 rfl
 exact From_ld (some 59) ⟨b1, 1, none⟩ fr (by kernel_rfl) (vI x.n) (blk_cell (M74.get 0 rfl) rfl) hh
 intro aC fr
 refine zpk 3 8 [4, 61] fr (news := [(4, (.bool (B75 && ((x.n : Int) == 0)))), (61, (.bool (B75 && ((x.n : Int) == 0))))]) (by cases B75 <;> kernel_rfl) ?_
 intro aC fr
 revert aC
 refine zfe <| zre <| zbr <| zo1 (.bool (B75 && ((x.n : Int) == 0))) ?_
 have hR : (B75 && ((x.n : Int) == 0)) = true ↔ (((x.exprs.length : Int) = 0 ∧ x.els.length = 0) ∧ ((x.n : Int) = 0)) := by simp only [Bool.and_eq_true, beq_iff_eq, iB75]
 have M84 := M74.od [] 0
 exact ⟨bool_dec hR (by (try simp only [decide_eq_true_eq, decide_eq_false_iff_not] at *); (try unfold placeQ at *); (try unfold codeQ at *); rw [sfQ_6 (by omega)]; omega), M84⟩
 refine zsq <| zsp ?_
 obtain ⟨B85, hB85⟩ : ∃ B : Bool, B = ((x.op : Int) == 7) := ⟨_, rfl⟩
 refine zkp [(0, (pT c0 0)), (3, (pT b1 0)), (6, (vI x.op)), (62, (.bool ((x.op : Int) == 7)))] ?_
 rw [← hB85]
 have iB85 : B85 = true ↔ ((x.op : Int) = 7) := by rw [hB85]; simp only [beq_iff_eq]
 clear hB85
 cases B85
 have c85 : ¬ ((x.op : Int) = 7) := (fun h => Bool.noConfusion (iB85.2 h) : ¬ ((x.op : Int) = 7))
 refine zcF <| zrp <| zcQ x.op 8 (fun c86 => ?_) (fun c86 => ?_)
 refine zsq ?_
 obtain ⟨B87, hB87⟩ : ∃ B : Bool, B = decide ((x.exprs.length : Int) = 0 ∧ x.body.length = 0 ∧ x.els.length = 0) := ⟨_, rfl⟩
 cases B87
 have c87 : (decide ((x.exprs.length : Int) = 0 ∧ x.body.length = 0 ∧ x.els.length = 0)) = false := hB87.symm
 refine zkp [(0, (pT c0 0)), (3, (pT b1 0)), (6, (vI x.op))] ?_
 intro aC fr
 refine zdt 14 (N := 103) (env0 := [(0, (pT c0 0)), (3, (pT b1 0)), (6, (vI x.op))]) (specAt [.det (.agg (SC x).toArray), .det (.bool false), .det (.bool false), dU, dU, dU, .det (.bool false), .det (.bool false), dU, dU, dU, dU, dU, dU]) fr (la (la (la (la (la (la (la (la (la (la (la (la (la (la lz (dS ⟨b1, 0, none⟩ (SC x) fun w_ hK => (blk_cells ((M3.then_ hK).get 0 rfl)))) (dD (fun w_ hK => thas_ff x 0 w_) (congrArg Value.bool hB87.symm))) dP) dK) dK) dK) dP) dP) dK) dK) dK) dK) dK) dK) ?_
 intro aC w92 vs hK hv fr
 revert aC; refine zkp [(72, (.bool false))] ?_
 have M93 := M3.then_ hK
 clear hK hv fr aC M3; clear vs
 refine zpn 3 <| zfe <| zre <| zbr <| zo1 (.bool false) ?_
 have hR : false = true ↔ False := by simp
 have M94 := M93.od [] 0
 exact ⟨bool_dec hR (⟨False.elim, fun h_ => by (try simp only [decide_eq_true_eq, decide_eq_false_iff_not] at *); rw [sfQ_8 (by omega)] at h_; omega⟩), M94⟩
 have c87 : (decide ((x.exprs.length : Int) = 0 ∧ x.body.length = 0 ∧ x.els.length = 0)) = true := hB87.symm
 obtain ⟨B95, hB95⟩ : ∃ B : Bool, B = decide (x.n ≥ 0) := ⟨_, rfl⟩
 cases B95
 have c95 : ¬ (x.n ≥ 0) := of_decide_eq_false hB95.symm
 refine zkp [(0, (pT c0 0)), (3, (pT b1 0)), (6, (vI x.op))] ?_
 intro aC fr
 refine zdt 14 (N := 103) (env0 := [(0, (pT c0 0)), (3, (pT b1 0)), (6, (vI x.op))]) (specAt [.det (.agg (SC x).toArray), .det (.bool true), .det (.bool true), .det (pT b1 1), .det (vI x.n), .det (.bool false), .det (.bool false), .det (.bool false), dU, dU, dU, dU, dU, dU]) fr (la (la (la (la (la (la (la (la (la (la (la (la (la (la lz (dS ⟨b1, 0, none⟩ (SC x) fun w_ hK => (blk_cells ((M3.then_ hK).get 0 rfl)))) (dD (fun w_ hK => thas_ff x 0 w_) (congrArg Value.bool hB87.symm))) dP) dP) (dL ⟨b1, 1, none⟩ (vI x.n) fun w_ hK => (blk_cell ((M3.then_ hK).get 0 rfl) rfl))) (dC (decide (x.n ≥ 0)) hB95)) dP) dP) dK) dK) dK) dK) dK) dK) ?_
 intro aC w100 vs hK hv fr
 revert aC; refine zkp [(72, (.bool false))] ?_
 have M101 := M3.then_ hK
 clear hK hv fr aC M3; clear vs
 refine zpn 3 <| zfe <| zre <| zbr <| zo1 (.bool false) ?_
 have hR : false = true ↔ False := by simp
 have M102 := M101.od [] 0
 exact ⟨bool_dec hR (⟨False.elim, fun h_ => by (try simp only [decide_eq_true_eq, decide_eq_false_iff_not] at *); rw [sfQ_8 (by omega)] at h_; omega⟩), M102⟩
 have c95 : x.n ≥ 0 := of_decide_eq_true hB95.symm
 refine zkp [(0, (pT c0 0)), (3, (pT b1 0)), (6, (vI x.op))] ?_
 intro aC fr
 refine zdt 14 (N := 103) (env0 := [(0, (pT c0 0)), (3, (pT b1 0)), (6, (vI x.op))]) (specAt [.det (.agg (SC x).toArray), .det (.bool true), .det (.bool true), .det (pT b1 1), .det (vI x.n), .det (.bool true), .det (.bool true), .det (.bool true), .det (pT b1 1), .det (vI x.n), .det (pT c0 0), .det (pT c0 0), .det (pT c0 1), .det (vI lp)]) fr (la (la (la (la (la (la (la (la (la (la (la (la (la (la lz (dS ⟨b1, 0, none⟩ (SC x) fun w_ hK => (blk_cells ((M3.then_ hK).get 0 rfl)))) (dD (fun w_ hK => thas_ff x 0 w_) (congrArg Value.bool hB87.symm))) dP) dP) (dL ⟨b1, 1, none⟩ (vI x.n) fun w_ hK => (blk_cell ((M3.then_ hK).get 0 rfl) rfl))) (dC (decide (x.n ≥ 0)) hB95)) dP) dP) dP) (dL ⟨b1, 1, none⟩ (vI x.n) fun w_ hK => (blk_cell ((M3.then_ hK).get 0 rfl) rfl))) dP) dP) dP) (dL ⟨c0, 1, none⟩ (vI lp) fun w_ hK => (blk_cell ((M3.then_ hK).ro hC) rfl))) ?_
 intro aC w107 vs hK hv fr
 revert aC; refine zkp [(72, (.bool true)), (74, (vI x.n)), (78, (vI lp))] ?_
 have M108 := M3.then_ hK
 clear hK hv fr aC M3; clear vs
 refine zpn 3 <| zfe <| zre <| zbr <| zo1 (.bool (decide ((x.n : Int) < lp))) ?_
 have hR : decide ((x.n : Int) < lp) = true ↔ ((x.n : Int) < lp) := by simp only [decide_eq_true_eq]
 have M109 := M108.od [] 0
 exact ⟨bool_dec hR (by (try simp only [decide_eq_true_eq, decide_eq_false_iff_not] at *); (try unfold placeQ at *); (try unfold codeQ at *); rw [sfQ_8 (by omega)]; omega), M109⟩
 refine zsp <| zcQ x.op 9 (fun c110 => ?_) (fun c110 => ?_)
 refine zsr <| zls ⟨b1, 0, none⟩ (SC x) (blk_cells (M3.get 0 rfl)) <| zcl (thas_ff x 0 w2) ?_
 rintro _ w111 ⟨rfl, M112x⟩
 have M112 := M3.cl M112x
 refine zpn 1 ?_
 obtain ⟨B113, hB113⟩ : ∃ B : Bool, B = decide ((x.exprs.length : Int) = 0 ∧ x.body.length = 0 ∧ x.els.length = 0) := ⟨_, rfl⟩
 refine zkp [(3, (pT b1 0)), (85, (.bool (decide ((x.exprs.length : Int) = 0 ∧ x.body.length = 0 ∧ x.els.length = 0))))] ?_
 rw [← hB113]
 have iB113 : B113 = true ↔ ((x.exprs.length : Int) = 0 ∧ x.body.length = 0 ∧ x.els.length = 0) := by rw [hB113]; simp only [decide_eq_true_eq]
 clear hB113
 cases B113
 have c113 : ¬ ((x.exprs.length : Int) = 0 ∧ x.body.length = 0 ∧ x.els.length = 0) := (fun h => Bool.noConfusion (iB113.2 h) : ¬ ((x.exprs.length : Int) = 0 ∧ x.body.length = 0 ∧ x.els.length = 0))
 refine zls ⟨b1, 0, none⟩ (SC x) (blk_cells (M112.get 0 rfl)) <| zcl (thas_ff x 1 w111) ?_
 rintro _ w114 ⟨rfl, M115x⟩
 have M115 := M112.cl M115x
 refine zpn 2 ?_
 obtain ⟨B116, hB116⟩ : ∃ B : Bool, B = decide ((x.exprs.length : Int) = 1 ∧ x.body.length = 0 ∧ x.els.length = 0) := ⟨_, rfl⟩
 refine zkp [(3, (pT b1 0)), (89, (.bool (decide ((x.exprs.length : Int) = 1 ∧ x.body.length = 0 ∧ x.els.length = 0))))] ?_
 rw [← hB116]
 have iB116 : B116 = true ↔ ((x.exprs.length : Int) = 1 ∧ x.body.length = 0 ∧ x.els.length = 0) := by rw [hB116]; simp only [decide_eq_true_eq]
 clear hB116
 intro aC fr
 refine zpk 1 8 [90] fr (news := [(90, (cond B116 (pT b1 1) undef))]) (by cases B116 <;> kernel_rfl) ?_
 intro aC fr
 refine From_either (B := B116) (d := (some 91)) (vI x.n) fr (by cases B116 <;> kernel_rfl) (fun hB hh => ?_) ?_
 cases B116 <;> try exact absurd hB (by decide)
 have c116 : ((x.exprs.length : Int) = 1 ∧ x.body.length = 0 ∧ x.els.length = 0) := iB116.1 rfl
 exact From_ld (some 91) ⟨b1, 1, none⟩ fr (by kernel_rfl) (vI x.n) (blk_cell (M115.get 0 rfl) rfl) hh
 intro aC fr
 refine zpk 3 12 [4, 93] fr (news := [(4, (.bool (B116 && ((x.n : Int) == 0)))), (93, (.bool (B116 && ((x.n : Int) == 0))))]) (by cases B116 <;> kernel_rfl) ?_
 intro aC fr
 revert aC
 refine zfe <| zre <| zbr <| zo1 (.bool (B116 && ((x.n : Int) == 0))) ?_
 have hR : (B116 && ((x.n : Int) == 0)) = true ↔ (((x.exprs.length : Int) = 1 ∧ x.body.length = 0 ∧ x.els.length = 0) ∧ ((x.n : Int) = 0)) := by simp only [Bool.and_eq_true, beq_iff_eq, iB116]
 have M125 := M115.od [] 0
 exact ⟨bool_dec hR (by (try simp only [decide_eq_true_eq, decide_eq_false_iff_not] at *); (try unfold placeQ at *); (try unfold codeQ at *); rw [sfQ_9 (by omega)]; omega), M125⟩
 have c113 : ((x.exprs.length : Int) = 0 ∧ x.body.length = 0 ∧ x.els.length = 0) := iB113.1 rfl
 refine zpn 5 <| zld ⟨b1, 1, none⟩ (vI x.n) (blk_cell (M112.get 0 rfl) rfl) <| zpn 3 <| zfe <| zre <| zbr <| zo1 (.bool ((x.n : Int) == 0)) ?_
 have hR : ((x.n : Int) == 0) = true ↔ ((x.n : Int) = 0) := by simp only [beq_iff_eq]
 have M126 := M112.od [] 0
 exact ⟨bool_dec hR (by (try simp only [decide_eq_true_eq, decide_eq_false_iff_not] at *); (try unfold placeQ at *); (try unfold codeQ at *); rw [sfQ_9 (by omega)]; omega), M126⟩
 refine zsp <| zcQ x.op 10 (fun c127 => ?_) (fun c127 => ?_)
 refine zsr <| zls ⟨b1, 0, none⟩ (SC x) (blk_cells (M3.get 0 rfl)) <| zcl (thas_ff x 0 w2) ?_
 rintro _ w128 ⟨rfl, M129x⟩
 have M129 := M3.cl M129x
 refine zpn 1 ?_
 obtain ⟨B130, hB130⟩ : ∃ B : Bool, B = decide ((x.exprs.length : Int) = 0 ∧ x.body.length = 0 ∧ x.els.length = 0) := ⟨_, rfl⟩
 refine zkp [(3, (pT b1 0)), (98, (.bool (decide ((x.exprs.length : Int) = 0 ∧ x.body.length = 0 ∧ x.els.length = 0))))] ?_
 rw [← hB130]
 have iB130 : B130 = true ↔ ((x.exprs.length : Int) = 0 ∧ x.body.length = 0 ∧ x.els.length = 0) := by rw [hB130]; simp only [decide_eq_true_eq]
 clear hB130
 intro aC fr
 refine zpk 1 4 [99] fr (news := [(99, (cond B130 (pT b1 1) undef))]) (by cases B130 <;> kernel_rfl) ?_
 intro aC fr
 refine From_either (B := B130) (d := (some 100)) (vI x.n) fr (by cases B130 <;> kernel_rfl) (fun hB hh => ?_) ?_
 cases B130 <;> try exact absurd hB (by decide)
 have c130 : ((x.exprs.length : Int) = 0 ∧ x.body.length = 0 ∧ x.els.length = 0) := iB130.1 rfl
 exact From_ld (some 100) ⟨b1, 1, none⟩ fr (by kernel_rfl) (vI x.n) (blk_cell (M129.get 0 rfl) rfl) hh
 intro aC fr
 refine From_eitherC (B := B130) (d := (some 101)) (.bool (decide (codeQ x.n))) fr (by cases B130 <;> kernel_rfl) (fun hB hh => ?_) ?_
 cases B130 <;> try exact absurd hB (by decide)
 have c130 : ((x.exprs.length : Int) = 0 ∧ x.body.length = 0 ∧ x.els.length = 0) := iB130.1 rfl
 refine From_cl (some 101) 78 [(vI x.n)] fr (by kernel_rfl) (tcode_c x.n w128) ?_
 rintro _ w2 ⟨rfl, hm2⟩ a2 hF2; exact hh a2 w2 hm2 hF2
 intro aC w137 M138x fr
 have M138 := M129.cl M138x
 refine zpk 2 8 [4, 102] fr (news := [(4, (.bool (B130 && decide (codeQ x.n)))), (102, (.bool (B130 && decide (codeQ x.n))))]) (by cases B130 <;> kernel_rfl) ?_
 intro aC fr
 revert aC
 refine zfe <| zre <| zbr <| zo1 (.bool (B130 && decide (codeQ x.n))) ?_
 have hR : (B130 && decide (codeQ x.n)) = true ↔ (((x.exprs.length : Int) = 0 ∧ x.body.length = 0 ∧ x.els.length = 0) ∧ (codeQ x.n)) := by simp only [Bool.and_eq_true, decide_eq_true_eq, iB130]
 have M143 := M138.od [] 0
 exact ⟨bool_dec hR (by (try simp only [decide_eq_true_eq, decide_eq_false_iff_not] at *); (try unfold placeQ at *); (try unfold codeQ at *); rw [sfQ_10 (by omega)]; omega), M143⟩
 refine zsk <| zsp <| zre <| zo1 (.bool false) ?_
 have hR : false = true ↔ False := by simp
 have M144 := M3.od [] 0
 exact ⟨bool_dec hR (⟨False.elim, fun h_ => by have := sfQ_rng h_; omega⟩), M144⟩
 have c85 : ((x.op : Int) = 7) := iB85.1 rfl
 refine zcT <| zsk <| zcT <| zsq ?_
 obtain ⟨B145, hB145⟩ : ∃ B : Bool, B = decide ((x.exprs.length : Int) = 0 ∧ x.body.length = 0 ∧ x.els.length = 0) := ⟨_, rfl⟩
 cases B145
 have c145 : (decide ((x.exprs.length : Int) = 0 ∧ x.body.length = 0 ∧ x.els.length = 0)) = false := hB145.symm
 refine zkp [(0, (pT c0 0)), (3, (pT b1 0)), (6, (vI x.op)), (62, (.bool true))] ?_
 intro aC fr
 refine zdt 14 (N := 103) (env0 := [(0, (pT c0 0)), (3, (pT b1 0)), (6, (vI x.op)), (62, (.bool true))]) (specAt [.det (.agg (SC x).toArray), .det (.bool false), .det (.bool false), dU, dU, dU, .det (.bool false), .det (.bool false), dU, dU, dU, dU, dU, dU]) fr (la (la (la (la (la (la (la (la (la (la (la (la (la (la lz (dS ⟨b1, 0, none⟩ (SC x) fun w_ hK => (blk_cells ((M3.then_ hK).get 0 rfl)))) (dD (fun w_ hK => thas_ff x 0 w_) (congrArg Value.bool hB145.symm))) dP) dK) dK) dK) dP) dP) dK) dK) dK) dK) dK) dK) ?_
 intro aC w150 vs hK hv fr
 revert aC; refine zkp [(72, (.bool false))] ?_
 have M151 := M3.then_ hK
 clear hK hv fr aC M3; clear vs
 refine zpn 3 <| zfe <| zre <| zbr <| zo1 (.bool false) ?_
 have hR : false = true ↔ False := by simp
 have M152 := M151.od [] 0
 exact ⟨bool_dec hR (⟨False.elim, fun h_ => by (try simp only [decide_eq_true_eq, decide_eq_false_iff_not] at *); rw [sfQ_7 (by omega)] at h_; omega⟩), M152⟩
 have c145 : (decide ((x.exprs.length : Int) = 0 ∧ x.body.length = 0 ∧ x.els.length = 0)) = true := hB145.symm
 obtain ⟨B153, hB153⟩ : ∃ B : Bool, B = decide (x.n ≥ 0) := ⟨_, rfl⟩
 cases B153
 have c153 : ¬ (x.n ≥ 0) := of_decide_eq_false hB153.symm
 refine zkp [(0, (pT c0 0)), (3, (pT b1 0)), (6, (vI x.op)), (62, (.bool true))] ?_
 intro aC fr
 refine zdt 14 (N := 103) (env0 := [(0, (pT c0 0)), (3, (pT b1 0)), (6, (vI x.op)), (62, (.bool true))]) (specAt [.det (.agg (SC x).toArray), .det (.bool true), .det (.bool true), .det (pT b1 1), .det (vI x.n), .det (.bool false), .det (.bool false), .det (.bool false), dU, dU, dU, dU, dU, dU]) fr (la (la (la (la (la (la (la (la (la (la (la (la (la (la lz (dS ⟨b1, 0, none⟩ (SC x) fun w_ hK => (blk_cells ((M3.then_ hK).get 0 rfl)))) (dD (fun w_ hK => thas_ff x 0 w_) (congrArg Value.bool hB145.symm))) dP) dP) (dL ⟨b1, 1, none⟩ (vI x.n) fun w_ hK => (blk_cell ((M3.then_ hK).get 0 rfl) rfl))) (dC (decide (x.n ≥ 0)) hB153)) dP) dP) dK) dK) dK) dK) dK) dK) ?_
 intro aC w158 vs hK hv fr
 revert aC; refine zkp [(72, (.bool false))] ?_
 have M159 := M3.then_ hK
 clear hK hv fr aC M3; clear vs
 refine zpn 3 <| zfe <| zre <| zbr <| zo1 (.bool false) ?_
 have hR : false = true ↔ False := by simp
 have M160 := M159.od [] 0
 exact ⟨bool_dec hR (⟨False.elim, fun h_ => by (try simp only [decide_eq_true_eq, decide_eq_false_iff_not] at *); rw [sfQ_7 (by omega)] at h_; omega⟩), M160⟩
 have c153 : x.n ≥ 0 := of_decide_eq_true hB153.symm
 refine zkp [(0, (pT c0 0)), (3, (pT b1 0)), (6, (vI x.op)), (62, (.bool true))] ?_
 intro aC fr
 refine zdt 14 (N := 103) (env0 := [(0, (pT c0 0)), (3, (pT b1 0)), (6, (vI x.op)), (62, (.bool true))]) (specAt [.det (.agg (SC x).toArray), .det (.bool true), .det (.bool true), .det (pT b1 1), .det (vI x.n), .det (.bool true), .det (.bool true), .det (.bool true), .det (pT b1 1), .det (vI x.n), .det (pT c0 0), .det (pT c0 0), .det (pT c0 1), .det (vI lp)]) fr (la (la (la (la (la (la (la (la (la (la (la (la (la (la lz (dS ⟨b1, 0, none⟩ (SC x) fun w_ hK => (blk_cells ((M3.then_ hK).get 0 rfl)))) (dD (fun w_ hK => thas_ff x 0 w_) (congrArg Value.bool hB145.symm))) dP) dP) (dL ⟨b1, 1, none⟩ (vI x.n) fun w_ hK => (blk_cell ((M3.then_ hK).get 0 rfl) rfl))) (dC (decide (x.n ≥ 0)) hB153)) dP) dP) dP) (dL ⟨b1, 1, none⟩ (vI x.n) fun w_ hK => (blk_cell ((M3.then_ hK).get 0 rfl) rfl))) dP) dP) dP) (dL ⟨c0, 1, none⟩ (vI lp) fun w_ hK => (blk_cell ((M3.then_ hK).ro hC) rfl))) ?_
 intro aC w165 vs hK hv fr
 revert aC; refine zkp [(72, (.bool true)), (74, (vI x.n)), (78, (vI lp))] ?_
 have M166 := M3.then_ hK
 clear hK hv fr aC M3; clear vs
 refine zpn 3 <| zfe <| zre <| zbr <| zo1 (.bool (decide ((x.n : Int) < lp))) ?_
 have hR : decide ((x.n : Int) < lp) = true ↔ ((x.n : Int) < lp) := by simp only [decide_eq_true_eq]
 have M167 := M166.od [] 0
 exact ⟨bool_dec hR (by (try simp only [decide_eq_true_eq, decide_eq_false_iff_not] at *); (try unfold placeQ at *); (try unfold codeQ at *); rw [sfQ_7 (by omega)]; omega), M167⟩
 have c45 : ((x.op : Int) = 3) := iB45.1 rfl
 refine zcT <| zsk <| zcT <| zsr <| zls ⟨b1, 0, none⟩ (SC x) (blk_cells (M3.get 0 rfl)) <| zcl (thas_ff x 1 w2) ?_
 rintro _ w168 ⟨rfl, M169x⟩
 have M169 := M3.cl M169x
 refine zpn 1 ?_
 obtain ⟨B170, hB170⟩ : ∃ B : Bool, B = decide ((x.exprs.length : Int) = 1 ∧ x.body.length = 0 ∧ x.els.length = 0) := ⟨_, rfl⟩
 refine zkp [(3, (pT b1 0)), (39, (.bool (decide ((x.exprs.length : Int) = 1 ∧ x.body.length = 0 ∧ x.els.length = 0))))] ?_
 rw [← hB170]
 have iB170 : B170 = true ↔ ((x.exprs.length : Int) = 1 ∧ x.body.length = 0 ∧ x.els.length = 0) := by rw [hB170]; simp only [decide_eq_true_eq]
 clear hB170
 intro aC fr
 refine zpk 1 4 [40] fr (news := [(40, (cond B170 (pT b1 1) undef))]) (by cases B170 <;> kernel_rfl) ?_
 intro aC fr
 refine From_either (B := B170) (d := (some 41)) (vI x.n) fr (by cases B170 <;> kernel_rfl) (fun hB hh => ?_) ?_
 cases B170 <;> try exact absurd hB (by decide)
 have c170 : ((x.exprs.length : Int) = 1 ∧ x.body.length = 0 ∧ x.els.length = 0) := iB170.1 rfl
 exact From_ld (some 41) ⟨b1, 1, none⟩ fr (by kernel_rfl) (vI x.n) (blk_cell (M169.get 0 rfl) rfl) hh
 intro aC fr
 refine zpk 3 8 [4, 43] fr (news := [(4, (.bool (B170 && ((x.n : Int) == 0)))), (43, (.bool (B170 && ((x.n : Int) == 0))))]) (by cases B170 <;> kernel_rfl) ?_
 intro aC fr
 revert aC
 refine zfe <| zre <| zbr <| zo1 (.bool (B170 && ((x.n : Int) == 0))) ?_
 have hR : (B170 && ((x.n : Int) == 0)) = true ↔ (((x.exprs.length : Int) = 1 ∧ x.body.length = 0 ∧ x.els.length = 0) ∧ ((x.n : Int) = 0)) := by simp only [Bool.and_eq_true, beq_iff_eq, iB170]
 have M179 := M169.od [] 0
 exact ⟨bool_dec hR (by (try simp only [decide_eq_true_eq, decide_eq_false_iff_not] at *); (try unfold placeQ at *); (try unfold codeQ at *); rw [sfQ_3 (by omega)]; omega), M179⟩
end Go.Proofs.Ytdcgcjibgihbbaa
namespace Go.Proofs.Ytdcgcjibgihbbaa
open Go.Mor
theorem texv_c (e : MEx) (ih : ∀ k, k ∈ e.kids → ExVOk Try.prog k) (d : Int) (c0 : Nat) (lo lp : Int) (T : List Res) (w : World) (hd0 : 0 ≤ d) (hd : d ≤ 1000) (hC : RO noS w (chkB c0 lo lp)) (hT : RO noS w (.all T)) (hs : SubE T e) (hI : exI e) :
    Calls Try.prog 68 #[(pT c0 0), (.agg (EC e).toArray), (vI d)] w (Ret fun v w' => v = .bool (exV lo d e) ∧ Mem noS w w' []) := by
 have hkl := hI.own.kids
 unfold LenOk at hkl
 refine zen 31 [(pT c0 0), (.agg (EC e).toArray), (vI d)] Try.func68 ?_
 have hM := Mem.init w
 refine zsr <| zbx hM 53 (.agg (EC e).toArray) (EC e) fun b1 w2 hb1 M3 => ?_
 replace M3 := M3.nf
 clear hM
 refine zpn 1 <| zfe <| zsq <| zsr <| zpn 3 ?_
 obtain ⟨B4, hB4⟩ : ∃ B : Bool, B = decide ((d : Int) > 100) := ⟨_, rfl⟩
 refine zkp [(0, (pT c0 0)), (2, (vI d)), (4, (pT b1 0)), (11, (.bool (decide ((d : Int) > 100))))] ?_
 rw [← hB4]
 have iB4 : B4 = true ↔ ((d : Int) > 100) := by rw [hB4]; simp only [decide_eq_true_eq]
 clear hB4
 intro aC fr
 refine zpk 1 4 [12] fr (news := [(12, (cond (!B4) (pT c0 0) undef))]) (by cases B4 <;> kernel_rfl) ?_
 intro aC fr
 cases B4
 have c4 : ¬ ((d : Int) > 100) := (fun h => Bool.noConfusion (iB4.2 h) : ¬ ((d : Int) > 100))
 revert aC
 refine zls ⟨b1, 0, none⟩ (EC e) (blk_cells (M3.get 0 rfl)) <| zcl (tshape_c w2 c0 lo lp (hC.at_ M3) e hI.own) ?_
 rintro _ w9 ⟨rfl, M10x⟩
 have M10 := M3.cl M10x
 refine zpn 2 <| zfe <| zcP (!(decide (esQ lo e.op e.n e.nm.size e.kids.length))) (¬ (esQ lo e.op e.n e.nm.size e.kids.length)) (by simp only [notT, decide_eq_true_eq]) (fun c11 => ?_) (fun c11 => ?_)
 refine zsp <| zre <| zo1 (.bool false) ?_
 have M12 := M10.od [] 0
 exact ⟨congrArg Value.bool (by rw [exV_eq, decide_eq_false (by first | exact or_nand c11 | exact (fun h_ => c11 h_.2) | exact (fun h_ => absurd h_.1 (by omega))), Bool.false_and] : exV lo d e = false).symm, M12⟩
 refine zsk <| zsq <| zsr <| zpn 1 <| zld ⟨b1, 3, none⟩ (vS e.A e.kids.length e.c) (blk_cell (M10.get 0 rfl) rfl) <| zpn 2 <| zfe <| zbk 0 ?_
 have hsq : d ≤ 100 ∧ esQ lo e.op e.n e.nm.size e.kids.length := by first | exact nor_and c11 | exact ⟨by omega, Classical.not_not.1 c11⟩
 have hx0 : exV lo d e = exsV lo (d + 1) (e.kids.drop 0) := by rw [exV_eq, decide_eq_true hsq, Bool.true_and, List.drop_zero]
 intro aC fr
 refine zlp (fun n_ a_ w_ => ∃ (j : Nat), n_ = e.kids.length - j ∧ Fr a_ 31 [(0, (pT c0 0)), (2, (vI d)), (18, (vS e.A e.kids.length e.c)), (19, (vI ((e.kids.length : Nat) : Int))), (20, (nV j))] ∧ Mem noS w w_ [.blk b1 53 (EC e)] ∧ (j ≤ e.kids.length) ∧ (exV lo d e = exsV lo (d + 1) (e.kids.drop j))) (n := _) ⟨0, rfl, fr.kp [0, 2, 18, 19, 20], M10, Nat.zero_le _, hx0⟩ ?_
 clear fr aC M10; rintro n aC w15 ⟨j, rfl, fr, M16, hj, hr⟩
 revert aC
 refine zsp <| zsq <| zcD (((j : Int) : Int) < ((e.kids.length : Nat) : Int)) (fun c19 => ?_) (fun c19 => ?_)
 refine zsk <| zsq <| zbk 1 <| zsr ?_
 obtain ⟨k, hk⟩ := get_of (l := e.kids) (i := j) (by omega)
 have hkm := List.mem_of_getElem? hk
 obtain ⟨ad20, had21⟩ := rds_some (M16.ro (hT.sub hs.kids.1)) (cs := k.cells) (i := j) (gm hk)
 intro aC fr
 refine From_ixA (some 22) e.A ad20 e.kids.length 4 (j : Int) fr (by kernel_rfl) had21 (by omega) (by omega) ?_
 intro aC fr
 revert aC
 refine zls ((ad20 : Addr).add (((j : Int)).toNat * 4)) (EC k) (rds_cells (i := j) (M16.ro (hT.sub hs.kids.1)) had21 (gm hk)) ?_
 refine zal M16 53 [(vI 0), (vI 0), (.string ⟨#[]⟩), (vS none 0 0)] fun b26 w27 hb26 M28 => ?_
 replace M28 := M28.nf
 refine zss M28 1 (EC k) rfl fun w29 M30 => ?_
 replace M30 := M30.nf
 refine zfe <| zsr <| zpn 1 <| zls ⟨b26, 0, none⟩ (EC k) (blk_cells (M30.get 1 rfl)) <| zpn 1 <| zar (d + 1) <| zcl (ih k hkm (d + 1) c0 lo lp T w29 (by omega) (by omega) (hC.at_ M30) (hT.at_ M30) (hs.kids.2 k hkm) (exsI_mem hI.kids hkm)) ?_
 rintro _ w31 ⟨rfl, M32x⟩
 have M32 := M30.cl M32x
 refine zpn 1 <| zfe <| zcP (!(exV lo (d + 1) k)) (¬ ((exV lo (d + 1) k) = true)) (by simp only [notT]) (fun c33 => ?_) (fun c33 => ?_)
 replace c33 : (exV lo (d + 1) k) = false := Bool.eq_false_iff.2 c33
 refine zsp <| zre <| zbr <| zbr <| zo1 (.bool false) ?_
 have M34 := M32.od [] 0
 exact ⟨congrArg Value.bool (hr.trans (by rw [exsV_at hk, c33, Bool.false_and])).symm, M34⟩
 replace c33 : (exV lo (d + 1) k) = true := Classical.not_not.1 c33
 refine zsk <| zrg <| zar ((j : Int) + 1) <| zkp [(0, (pT c0 0)), (2, (vI d)), (18, (vS e.A e.kids.length e.c)), (19, (vI ((e.kids.length : Nat) : Int))), (30, (vI ((j : Int) + 1)))] <| zpn 1 <| zfe ?_
 intro aC fr
 exact ⟨e.kids.length - (j + 1), by omega, j + 1, rfl, fr.kp [0, 2, 18, 19, 20], (M32.tk 1), by omega, hr.trans (by rw [exsV_at hk, c33, Bool.true_and])⟩
 refine zex 0 <| zbh <| zsp <| zre <| zo1 (.bool true) ?_
 have M37 := M16.od [] 0
 exact ⟨congrArg Value.bool (hr.trans (by rw [List.drop_eq_nil_of_le (by omega), exsV_nil])).symm, M37⟩
 have c4 : ((d : Int) > 100) := iB4.1 rfl
 revert aC
 refine zpn 4 <| zfe <| zcT <| zsp <| zre <| zo1 (.bool false) ?_
 have M38 := M3.od [] 0
 exact ⟨congrArg Value.bool (by rw [exV_eq, decide_eq_false (by first | exact or_nand c4 | exact (fun h_ => c4 h_.2) | exact (fun h_ => absurd h_.1 (by omega))), Bool.false_and] : exV lo d e = false).symm, M38⟩
theorem texv_all (e : MEx) : ExVOk Try.prog e := MEx.ind (fun e ih d c0 lo lp T w h0 h1 hC hT hs hI => texv_c e ih d c0 lo lp T w h0 h1 hC hT hs hI) e
set_option maxHeartbeats 1000000 in
theorem tstsv_c (l : List MSt) (ih : ∀ x, x ∈ l → StsVOk Try.prog x.body ∧ StsVOk Try.prog x.els) (A : Option Addr) (c : Nat) (d : Int) (c0 : Nat) (lo lp : Int) (T : List Res) (w : World) (hd0 : 0 ≤ d) (hd : d ≤ 1000) (hp0 : 0 ≤ lp) (hpd : lp ≤ d) (hR : (chkB c0 lo lp).holds w) (hT : RO (chkB c0 lo lp).fp w (.all T)) (hs : SubXs T A l) (hI : stsI l) (hll : LenOk l.length) :
    Calls Try.prog 49 #[(pT c0 0), (vS A l.length c), (vI d)] w (Ret fun v w' => ∃ q, v = .bool (stsV lo lp d l) ∧ (stsV lo lp d l = true → q = lp) ∧ Mem (chkB c0 lo lp).fp w w' [chkB c0 lo q]) := by
 unfold LenOk at hll
 refine zen 76 [(pT c0 0), (vS A l.length c), (vI d)] Try.func49 ?_
 have hM := Mem.initS hR
 refine zsp <| zsq <| zsp <| zbk 0 ?_
 intro aC fr
 refine zlp (fun n_ a_ w_ => ∃ (j : Nat), n_ = l.length - j ∧ Fr a_ 76 [(0, (pT c0 0)), (2, (vI d)), (11, (vS A l.length c)), (12, (vI ((l.length : Nat) : Int))), (13, (nV j))] ∧ Mem (chkB c0 lo lp).fp w w_ [.blk c0 92 [(vI lo), (vI lp)]] ∧ (j ≤ l.length) ∧ (stsV lo lp d l = stsV lo lp d (l.drop j))) (n := _) ⟨0, rfl, fr.kp [0, 2, 11, 12, 13], hM, Nat.zero_le _, (by rw [List.drop_zero])⟩ ?_
 clear fr aC hM; rintro n aC w3 ⟨j, rfl, fr, M4, hj, hr⟩
 revert aC
 refine zsp <| zsq <| zcD (((j : Int) : Int) < ((l.length : Nat) : Int)) (fun c7 => ?_) (fun c7 => ?_)
 refine zsk <| zsq <| zbk 1 <| zsr ?_
 obtain ⟨x, hx⟩ := get_of (l := l) (i := j) (by omega)
 have hxm := List.mem_of_getElem? hx
 have hxI := stsI_mem hI hxm
 have h1_ := hxI.own.exprs
 unfold LenOk at h1_
 obtain ⟨ad8, rfl⟩ := rds_some (M4.ro (hT.sub hs.1)) (cs := x.cells) (i := j) (gm hx)
 refine zix ad8 l.length 5 (j : Int) ?_
 refine zls ((ad8 : Addr).add (((j : Int)).toNat * 5)) (SC x) (rds_cells (i := j) (M4.ro (hT.sub hs.1)) rfl (gm hx)) ?_
 refine zal M4 48 [(vI 0), (vI 0), (vS none 0 0), (vS none 0 0), (vS none 0 0)] fun b9 w10 hb9 M11 => ?_
 replace M11 := M11.nf
 refine zss M11 1 (SC x) rfl fun w12 M13 => ?_
 replace M13 := M13.nf
 refine zfe <| zsq <| zsr <| zpn 3 ?_
 obtain ⟨B14, hB14⟩ : ∃ B : Bool, B = decide ((d : Int) > 100) := ⟨_, rfl⟩
 refine zkp [(0, (pT c0 0)), (2, (vI d)), (8, (pT b9 0)), (11, (vS (some ad8) l.length c)), (12, (vI ((l.length : Nat) : Int))), (13, (nV j)), (19, (.bool (decide ((d : Int) > 100))))] ?_
 rw [← hB14]
 have iB14 : B14 = true ↔ ((d : Int) > 100) := by rw [hB14]; simp only [decide_eq_true_eq]
 clear hB14
 intro aC fr
 refine zpk 1 4 [20] fr (news := [(20, (cond (!B14) (pT c0 0) undef))]) (by cases B14 <;> kernel_rfl) ?_
 intro aC fr
 cases B14
 have c14 : ¬ ((d : Int) > 100) := (fun h => Bool.noConfusion (iB14.2 h) : ¬ ((d : Int) > 100))
 revert aC
 refine zls ⟨b9, 0, none⟩ (SC x) (blk_cells (M13.get 1 rfl)) <| zcl (tform_c w12 c0 lo lp (M13.own_ro 0 rfl) x hxI.own) ?_
 rintro _ w19 ⟨rfl, M20x⟩
 have M20 := M13.cl M20x
 refine zpn 2 <| zfe <| zcP (!(decide (sfQ lo lp x.op x.n x.exprs.length x.body.length x.els.length))) (¬ (sfQ lo lp x.op x.n x.exprs.length x.body.length x.els.length)) (by simp only [notT, decide_eq_true_eq]) (fun c21 => ?_) (fun c21 => ?_)
 refine zsp <| zre <| zbr <| zbr <| zo1 (.bool false) ?_
 have hF_ : stsV lo lp d l = false := hr.trans (by rw [stsV_at hx, stV_eq, decide_eq_false (by first | exact or_nand c21 | exact (fun h_ => c21 h_.2) | exact (fun h_ => absurd h_.1 (by omega))), Bool.false_and, Bool.false_and])
 exact ⟨lp, congrArg Value.bool hF_.symm, fun h_ => Bool.noConfusion (hF_.symm.trans h_), M20.tk 1⟩
 refine zsk <| zsq <| zsr <| zpn 1 <| zld ⟨b9, 2, none⟩ (vS x.eA x.exprs.length x.ec) (blk_cell (M20.get 1 rfl) rfl) <| zpn 2 <| zfe <| zbk 2 ?_
 have hsq : d ≤ 100 ∧ sfQ lo lp x.op x.n x.exprs.length x.body.length x.els.length := by first | exact nor_and c21 | exact ⟨by omega, Classical.not_not.1 c21⟩
 intro aC fr
 refine zlp (fun n_ a_ w_ => ∃ (k : Nat), n_ = x.exprs.length - k ∧ Fr a_ 76 [(0, (pT c0 0)), (2, (vI d)), (8, (pT b9 0)), (11, (vS (some ad8) l.length c)), (12, (vI ((l.length : Nat) : Int))), (13, (nV j)), (26, (vS x.eA x.exprs.length x.ec)), (27, (vI ((x.exprs.length : Nat) : Int))), (28, (nV k))] ∧ Mem (chkB c0 lo lp).fp w w_ [.blk c0 92 [(vI lo), (vI lp)], .blk b9 48 (SC x)] ∧ (k ≤ x.exprs.length) ∧ (exsV lo (d + 1) x.exprs = exsV lo (d + 1) (x.exprs.drop k))) (n := _) ⟨0, rfl, fr.kp [0, 2, 8, 11, 12, 13, 26, 27, 28], M20, Nat.zero_le _, (by rw [List.drop_zero])⟩ ?_
 clear fr aC M20; rintro n aC w24 ⟨k, rfl, fr, M25, hk, hre⟩
 revert aC
 refine zsp <| zsq <| zcD (((k : Int) : Int) < ((x.exprs.length : Nat) : Int)) (fun c28 => ?_) (fun c28 => ?_)
 refine zsk <| zsq <| zbk 3 <| zsr ?_
 obtain ⟨y, hy⟩ := get_of (l := x.exprs) (i := k) (by omega)
 have hym := List.mem_of_getElem? hy
 obtain ⟨ad29, had30⟩ := rds_some (M25.ro (hT.sub (hs.2 x hxm).exprs.1)) (cs := y.cells) (i := k) (gm hy)
 intro aC fr
 refine From_ixA (some 30) x.eA ad29 x.exprs.length 4 (k : Int) fr (by kernel_rfl) had30 (by omega) (by omega) ?_
 intro aC fr
 revert aC
 refine zls ((ad29 : Addr).add (((k : Int)).toNat * 4)) (EC y) (rds_cells (i := k) (M25.ro (hT.sub (hs.2 x hxm).exprs.1)) had30 (gm hy)) ?_
 refine zal M25 53 [(vI 0), (vI 0), (.string ⟨#[]⟩), (vS none 0 0)] fun b35 w36 hb35 M37 => ?_
 replace M37 := M37.nf
 refine zss M37 2 (EC y) rfl fun w38 M39 => ?_
 replace M39 := M39.nf
 refine zfe <| zsr <| zpn 1 <| zls ⟨b35, 0, none⟩ (EC y) (blk_cells (M39.get 2 rfl)) <| zpn 1 <| zar (d + 1) <| zcl (texv_all y (d + 1) c0 lo lp T w38 (by omega) (by omega) (M39.own_ro 0 rfl) (hT.at_ M39) ((hs.2 x hxm).exprs.2 y hym) (exsI_mem hxI.exprs hym)) ?_
 rintro _ w40 ⟨rfl, M41x⟩
 have M41 := M39.cl M41x
 refine zpn 1 <| zfe <| zcP (!(exV lo (d + 1) y)) (¬ ((exV lo (d + 1) y) = true)) (by simp only [notT]) (fun c42 => ?_) (fun c42 => ?_)
 replace c42 : (exV lo (d + 1) y) = false := Bool.eq_false_iff.2 c42
 refine zsp <| zre <| zbr <| zbr <| zbr <| zbr <| zo1 (.bool false) ?_
 have hF_ : stsV lo lp d l = false := hr.trans (by rw [stsV_at hx, stV_eq, hre, exsV_at hy, c42, Bool.false_and, Bool.false_and, Bool.and_false, Bool.false_and])
 exact ⟨lp, congrArg Value.bool hF_.symm, fun h_ => Bool.noConfusion (hF_.symm.trans h_), M41.tk 1⟩
 replace c42 : (exV lo (d + 1) y) = true := Classical.not_not.1 c42
 refine zsk <| zrg <| zar ((k : Int) + 1) <| zkp [(0, (pT c0 0)), (2, (vI d)), (8, (pT b9 0)), (11, (vS (some ad8) l.length c)), (12, (vI ((l.length : Nat) : Int))), (13, (nV j)), (26, (vS x.eA x.exprs.length x.ec)), (27, (vI ((x.exprs.length : Nat) : Int))), (38, (vI ((k : Int) + 1)))] <| zpn 1 <| zfe ?_
 intro aC fr
 exact ⟨x.exprs.length - (k + 1), by omega, k + 1, rfl, fr.kp [0, 2, 8, 11, 12, 13, 26, 27, 28], (M41.tk 2), by omega, hre.trans (by rw [exsV_at hy, c42, Bool.true_and])⟩
 refine zex 2 <| zbh <| zsq <| zsr ?_
 have hxe : exsV lo (d + 1) x.exprs = true := hre.trans (by rw [List.drop_eq_nil_of_le (by omega), exsV_nil])
 refine zpn 1 <| zld ⟨b9, 0, none⟩ (vI x.op) (blk_cell (M25.get 1 rfl) rfl) <| zpn 1 <| zfe <| zcQ x.op 6 (fun c45 => ?_) (fun c45 => ?_)
 have hin : inner x.op lp = (lp + 1) := if_pos c45
 refine zrg <| zpn 3 <| zld ⟨c0, 1, none⟩ (vI lp) (blk_cell (M25.get 0 rfl) rfl) <| zar (lp + 1) <| zpn 2 <| zsb (ho := (by simp)) M25 0 1 (vI (lp + 1)) rfl fun w46 M47 => ?_
 replace M47 := M47.nf
 refine zfe <| zsq <| zsr <| zpn 2 <| zld ⟨b9, 3, none⟩ (vS x.bA x.body.length x.bc) (blk_cell (M47.get 1 rfl) rfl) <| zpn 1 <| zar (d + 1) <| zkp [(0, (pT c0 0)), (2, (vI d)), (8, (pT b9 0)), (11, (vS (some ad8) l.length c)), (12, (vI ((l.length : Nat) : Int))), (13, (nV j)), (49, (pT c0 0)), (51, (vS x.bA x.body.length x.bc)), (53, (vI (d + 1)))] <| zcl ((ih x hxm).1 x.bA x.bc (d + 1) c0 lo (lp + 1) T w46 (by omega) (by omega) (by omega) (by omega) (M47.get 0 rfl) (hT.but M47 0 rfl) (hs.2 x hxm).body hxI.body hxI.own.body) ?_
 rintro _ w50 ⟨q48, rfl, hq49, M51x⟩
 have M51 := M47.md 0 rfl M51x
 refine zpn 2 ?_
 obtain ⟨B52, hB52⟩ : ∃ B : Bool, B = (!(stsV lo (lp + 1) (d + 1) x.body)) := ⟨_, rfl⟩
 refine zkp [(0, (pT c0 0)), (2, (vI d)), (8, (pT b9 0)), (11, (vS (some ad8) l.length c)), (12, (vI ((l.length : Nat) : Int))), (13, (nV j)), (56, (.bool (!(stsV lo (lp + 1) (d + 1) x.body))))] ?_
 rw [← hB52]
 have iB52 : B52 = true ↔ (¬ ((stsV lo (lp + 1) (d + 1) x.body) = true)) := by rw [hB52]; simp only [notT]
 clear hB52
 intro aC fr
 refine zpk 2 10 [57, 58] fr (news := [(57, (cond (!B52) (pT c0 0) undef)), (58, (cond (!B52) (pT b9 4) undef))]) (by cases B52 <;> kernel_rfl) ?_
 intro aC fr
 refine From_either (B := (!B52)) (d := (some 59)) (vS x.lA x.els.length x.lc) fr (by cases B52 <;> kernel_rfl) (fun hB hh => ?_) ?_
 cases B52 <;> try exact absurd hB (by decide)
 have c52 : (stsV lo (lp + 1) (d + 1) x.body) = true := Classical.not_not.1 ((fun h => Bool.noConfusion (iB52.2 h) : ¬ (¬ ((stsV lo (lp + 1) (d + 1) x.body) = true))))
 exact From_ld (some 59) ⟨b9, 4, none⟩ fr (by kernel_rfl) (vS x.lA x.els.length x.lc) (blk_cell (M51.get 1 rfl) rfl) hh
 intro aC fr
 refine zpk 1 12 [60] fr (news := [(60, (cond (!B52) (vI d) undef))]) (by cases B52 <;> kernel_rfl) ?_
 intro aC fr
 refine From_either (B := (!B52)) (d := (some 61)) (vI (d + 1)) fr (by cases B52 <;> kernel_rfl) (fun hB hh => ?_) ?_
 cases B52 <;> try exact absurd hB (by decide)
 have c52 : (stsV lo (lp + 1) (d + 1) x.body) = true := Classical.not_not.1 ((fun h => Bool.noConfusion (iB52.2 h) : ¬ (¬ ((stsV lo (lp + 1) (d + 1) x.body) = true))))
 exact From_ar (some 61) (d + 1) fr (z0 := d + 1) (by kernel_rfl) rfl (by omega) (by omega) hh
 intro aC fr
 cases B52
 have c52 : (stsV lo (lp + 1) (d + 1) x.body) = true := Classical.not_not.1 ((fun h => Bool.noConfusion (iB52.2 h) : ¬ (¬ ((stsV lo (lp + 1) (d + 1) x.body) = true))))
 obtain rfl := hq49 c52
 have hfb_ : stsV lo (inner x.op lp) (d + 1) x.body = true := by rw [hin]; exact c52
 revert aC
 refine zcl ((ih x hxm).2 x.lA x.lc (d + 1) c0 lo (lp + 1) T w50 (by omega) (by omega) (by omega) (by omega) (M51.get 0 rfl) (hT.but M51 0 rfl) (hs.2 x hxm).els hxI.els hxI.own.els) ?_
 rintro _ w67 ⟨q65, rfl, hq66, M68x⟩
 have M68 := M51.md 0 rfl M68x
 refine zpn 2 <| zfe <| zcP (!(stsV lo (lp + 1) (d + 1) x.els)) (¬ ((stsV lo (lp + 1) (d + 1) x.els) = true)) (by simp only [notT]) (fun c69 => ?_) (fun c69 => ?_)
 replace c69 : (stsV lo (lp + 1) (d + 1) x.els) = false := Bool.eq_false_iff.2 c69
 refine zsp <| zre <| zbr <| zbr <| zo1 (.bool false) ?_
 have hF_ : stsV lo lp d l = false := hr.trans (by rw [stsV_at hx, stV_eq, hin, c69]; simp)
 exact ⟨q65, congrArg Value.bool hF_.symm, fun h_ => Bool.noConfusion (hF_.symm.trans h_), M68.tk 1⟩
 replace c69 : (stsV lo (lp + 1) (d + 1) x.els) = true := Classical.not_not.1 c69
 obtain rfl := hq66 c69
 have hfl_ : stsV lo (inner x.op lp) (d + 1) x.els = true := by rw [hin]; exact c69
 refine zsk <| zsr <| zpn 1 <| zld ⟨b9, 0, none⟩ (vI x.op) (blk_cell (M68.get 1 rfl) rfl) <| zpn 1 <| zfe <| zcQ x.op 6 (fun c70 => ?_) (fun c70 => ?_)
 refine zrg <| zpn 3 <| zld ⟨c0, 1, none⟩ (vI (lp + 1)) (blk_cell (M68.get 0 rfl) rfl) <| zar ((lp + 1) - 1) <| zkp [(0, (pT c0 0)), (2, (vI d)), (11, (vS (some ad8) l.length c)), (12, (vI ((l.length : Nat) : Int))), (13, (nV j)), (68, (pT c0 0)), (72, (vI ((lp + 1) - 1)))] <| zpn 2 <| zsb (ho := (by simp)) M68 0 1 (vI ((lp + 1) - 1)) rfl fun w71 M72 => ?_
 replace M72 := M72.nf
 refine zfe <| zrg ?_
 have M73 : Mem (chkB c0 lo lp).fp w w71 [.blk c0 92 [(vI lo), (vI lp)], .blk b9 48 (SC x)] := M72.cast (by rw [show lp + 1 - 1 = lp by omega])
 refine zar ((j : Int) + 1) <| zpn 1 <| zfe ?_
 intro aC fr
 exact ⟨l.length - (j + 1), by omega, j + 1, rfl, fr.kp [0, 2, 11, 12, 13], (M73.tk 1), by omega, hr.trans (by rw [stsV_at hx, stV_eq, decide_eq_true hsq, hxe, hfb_, hfl_]; rfl)⟩
 exact absurd c45 c70
 have c52 : (stsV lo (lp + 1) (d + 1) x.body) = false := Bool.eq_false_iff.2 (iB52.1 rfl)
 revert aC
 refine zpn 3 <| zfe <| zcT <| zsp <| zre <| zbr <| zbr <| zo1 (.bool false) ?_
 have hF_ : stsV lo lp d l = false := hr.trans (by rw [stsV_at hx, stV_eq, hin, c52]; simp)
 exact ⟨q48, congrArg Value.bool hF_.symm, fun h_ => Bool.noConfusion (hF_.symm.trans h_), M51.tk 1⟩
 have hin : inner x.op lp = lp := if_neg c45
 refine zsk <| zsq <| zsr <| zpn 2 <| zld ⟨b9, 3, none⟩ (vS x.bA x.body.length x.bc) (blk_cell (M25.get 1 rfl) rfl) <| zpn 1 <| zar (d + 1) <| zcl ((ih x hxm).1 x.bA x.bc (d + 1) c0 lo lp T w24 (by omega) (by omega) (by omega) (by omega) (M25.get 0 rfl) (hT.but M25 0 rfl) (hs.2 x hxm).body hxI.body hxI.own.body) ?_
 rintro _ w78 ⟨q76, rfl, hq77, M79x⟩
 have M79 := M25.md 0 rfl M79x
 refine zpn 2 ?_
 obtain ⟨B80, hB80⟩ : ∃ B : Bool, B = (!(stsV lo lp (d + 1) x.body)) := ⟨_, rfl⟩
 refine zkp [(0, (pT c0 0)), (2, (vI d)), (8, (pT b9 0)), (11, (vS (some ad8) l.length c)), (12, (vI ((l.length : Nat) : Int))), (13, (nV j)), (56, (.bool (!(stsV lo lp (d + 1) x.body))))] ?_
 rw [← hB80]
 have iB80 : B80 = true ↔ (¬ ((stsV lo lp (d + 1) x.body) = true)) := by rw [hB80]; simp only [notT]
 clear hB80
 intro aC fr
 refine zpk 2 10 [57, 58] fr (news := [(57, (cond (!B80) (pT c0 0) undef)), (58, (cond (!B80) (pT b9 4) undef))]) (by cases B80 <;> kernel_rfl) ?_
 intro aC fr
 refine From_either (B := (!B80)) (d := (some 59)) (vS x.lA x.els.length x.lc) fr (by cases B80 <;> kernel_rfl) (fun hB hh => ?_) ?_
 cases B80 <;> try exact absurd hB (by decide)
 have c80 : (stsV lo lp (d + 1) x.body) = true := Classical.not_not.1 ((fun h => Bool.noConfusion (iB80.2 h) : ¬ (¬ ((stsV lo lp (d + 1) x.body) = true))))
 exact From_ld (some 59) ⟨b9, 4, none⟩ fr (by kernel_rfl) (vS x.lA x.els.length x.lc) (blk_cell (M79.get 1 rfl) rfl) hh
 intro aC fr
 refine zpk 1 12 [60] fr (news := [(60, (cond (!B80) (vI d) undef))]) (by cases B80 <;> kernel_rfl) ?_
 intro aC fr
 refine From_either (B := (!B80)) (d := (some 61)) (vI (d + 1)) fr (by cases B80 <;> kernel_rfl) (fun hB hh => ?_) ?_
 cases B80 <;> try exact absurd hB (by decide)
 have c80 : (stsV lo lp (d + 1) x.body) = true := Classical.not_not.1 ((fun h => Bool.noConfusion (iB80.2 h) : ¬ (¬ ((stsV lo lp (d + 1) x.body) = true))))
 exact From_ar (some 61) (d + 1) fr (z0 := d + 1) (by kernel_rfl) rfl (by omega) (by omega) hh
 intro aC fr
 cases B80
 have c80 : (stsV lo lp (d + 1) x.body) = true := Classical.not_not.1 ((fun h => Bool.noConfusion (iB80.2 h) : ¬ (¬ ((stsV lo lp (d + 1) x.body) = true))))
 have hq772 := (hq77 c80).symm
 subst hq772
 have hfb_ : stsV lo (inner x.op lp) (d + 1) x.body = true := by rw [hin]; exact c80
 revert aC
 refine zcl ((ih x hxm).2 x.lA x.lc (d + 1) c0 lo lp T w78 (by omega) (by omega) (by omega) (by omega) (M79.get 0 rfl) (hT.but M79 0 rfl) (hs.2 x hxm).els hxI.els hxI.own.els) ?_
 rintro _ w95 ⟨q93, rfl, hq94, M96x⟩
 have M96 := M79.md 0 rfl M96x
 refine zpn 2 <| zfe <| zcP (!(stsV lo lp (d + 1) x.els)) (¬ ((stsV lo lp (d + 1) x.els) = true)) (by simp only [notT]) (fun c97 => ?_) (fun c97 => ?_)
 replace c97 : (stsV lo lp (d + 1) x.els) = false := Bool.eq_false_iff.2 c97
 refine zsp <| zre <| zbr <| zbr <| zo1 (.bool false) ?_
 have hF_ : stsV lo lp d l = false := hr.trans (by rw [stsV_at hx, stV_eq, hin, c97]; simp)
 exact ⟨q93, congrArg Value.bool hF_.symm, fun h_ => Bool.noConfusion (hF_.symm.trans h_), M96.tk 1⟩
 replace c97 : (stsV lo lp (d + 1) x.els) = true := Classical.not_not.1 c97
 have hq942 := (hq94 c97).symm
 subst hq942
 have hfl_ : stsV lo (inner x.op lp) (d + 1) x.els = true := by rw [hin]; exact c97
 refine zsk <| zsr <| zpn 1 <| zld ⟨b9, 0, none⟩ (vI x.op) (blk_cell (M96.get 1 rfl) rfl) <| zpn 1 <| zfe <| zcQ x.op 6 (fun c98 => ?_) (fun c98 => ?_)
 exact absurd c98 c45
 refine zsk <| zrg <| zar ((j : Int) + 1) <| zpn 1 <| zfe ?_
 intro aC fr
 exact ⟨l.length - (j + 1), by omega, j + 1, rfl, fr.kp [0, 2, 11, 12, 13], (M96.tk 1), by omega, hr.trans (by rw [stsV_at hx, stV_eq, decide_eq_true hsq, hxe, hfb_, hfl_]; rfl)⟩
 have c80 : (stsV lo lp (d + 1) x.body) = false := Bool.eq_false_iff.2 (iB80.1 rfl)
 revert aC
 refine zpn 3 <| zfe <| zcT <| zsp <| zre <| zbr <| zbr <| zo1 (.bool false) ?_
 have hF_ : stsV lo lp d l = false := hr.trans (by rw [stsV_at hx, stV_eq, hin, c80]; simp)
 exact ⟨q76, congrArg Value.bool hF_.symm, fun h_ => Bool.noConfusion (hF_.symm.trans h_), M79.tk 1⟩
 have c14 : ((d : Int) > 100) := iB14.1 rfl
 revert aC
 refine zpn 4 <| zfe <| zcT <| zsp <| zre <| zbr <| zbr <| zo1 (.bool false) ?_
 have hF_ : stsV lo lp d l = false := hr.trans (by rw [stsV_at hx, stV_eq, decide_eq_false (by first | exact or_nand c14 | exact (fun h_ => c14 h_.2) | exact (fun h_ => absurd h_.1 (by omega))), Bool.false_and, Bool.false_and])
 exact ⟨lp, congrArg Value.bool hF_.symm, fun h_ => Bool.noConfusion (hF_.symm.trans h_), M13.tk 1⟩
 refine zex 0 <| zbh <| zsp <| zre <| zo1 (.bool true) ?_
 exact ⟨lp, congrArg Value.bool (hr.trans (by rw [List.drop_eq_nil_of_le (by omega), stsV_nil])).symm, fun _ => rfl, M4.tk 1⟩
theorem tstsv_step (l : List MSt) (ih : ∀ x, x ∈ l → StsVOk Try.prog x.body ∧ StsVOk Try.prog x.els) : StsVOk Try.prog l := fun A c d c0 lo lp T w h0 h1 h2 h3 hR hT hs hI hll => tstsv_c l ih A c d c0 lo lp T w h0 h1 h2 h3 hR hT hs hI hll
theorem tstsv_x (x : MSt) : StsVOk Try.prog x.body ∧ StsVOk Try.prog x.els := MSt.ind (p := fun x => StsVOk Try.prog x.body ∧ StsVOk Try.prog x.els) (fun e hb hl => ⟨tstsv_step e.body hb, tstsv_step e.els hl⟩) x
theorem tstsv_all (l : List MSt) : StsVOk Try.prog l := tstsv_step l (fun x _ => tstsv_x x)
end Go.Proofs.Ytdcgcjibgihbbaa
namespace Go.Proofs.Ytdcgcjibgihbbaa
open Go.Mor
set_option maxHeartbeats 1000000 in
theorem tfunction_c (f : TFn) (T : List Res) (w : World) (hT : RO noS w (.all T)) (hs : SubXs T f.A f.body) (hI : f.In) :
    Calls Try.prog 28 #[(.agg (FC f).toArray)] w (Ret fun v w' => v = .bool (fnV f) ∧ Mem noS w w' []) := by
 have hnl := hI.nm
 unfold LenOk at hnl
 refine zen 38 [(.agg (FC f).toArray)] Try.func28 ?_
 have hM := Mem.init w
 refine zsr <| zbx hM 45 (.agg (FC f).toArray) (FC f) fun b1 w2 hb1 M3 => ?_
 replace M3 := M3.nf
 clear hM
 refine zpn 1 <| zfe <| zsq <| zsr <| zpn 1 <| zld ⟨b1, 0, none⟩ (.string f.nm) (blk_cell (M3.get 0 rfl) rfl) <| zcl (tname_c f.nm w2 hI.nm) ?_
 rintro _ w4 ⟨rfl, M5x⟩
 have M5 := M3.cl M5x
 refine zpn 2 ?_
 obtain ⟨B6, hB6⟩ : ∃ B : Bool, B = (!(decide (nameQ f.nm))) := ⟨_, rfl⟩
 refine zkp [(1, (pT b1 0)), (8, (.bool (!(decide (nameQ f.nm)))))] ?_
 rw [← hB6]
 have iB6 : B6 = true ↔ (¬ (nameQ f.nm)) := by rw [hB6]; simp only [notT, decide_eq_true_eq]
 clear hB6
 intro aC fr
 refine zpk 1 6 [9] fr (news := [(9, (cond (!B6) (pT b1 2) undef))]) (by cases B6 <;> kernel_rfl) ?_
 intro aC fr
 refine From_either (B := (!B6)) (d := (some 10)) (vI f.pa) fr (by cases B6 <;> kernel_rfl) (fun hB hh => ?_) ?_
 cases B6 <;> try exact absurd hB (by decide)
 have c6 : ¬ (¬ (nameQ f.nm)) := (fun h => Bool.noConfusion (iB6.2 h) : ¬ (¬ (nameQ f.nm)))
 exact From_ld (some 10) ⟨b1, 2, none⟩ fr (by kernel_rfl) (vI f.pa) (blk_cell (M5.get 0 rfl) rfl) hh
 intro aC fr
 refine zpk 3 10 [12, 13] fr (news := [(12, (.bool (B6 || decide ((f.pa : Int) < 0)))), (13, (.bool (B6 || decide ((f.pa : Int) < 0))))]) (by cases B6 <;> kernel_rfl) ?_
 intro aC fr
 obtain ⟨B15, hB15⟩ : ∃ B : Bool, B = (B6 || decide ((f.pa : Int) < 0)) := ⟨_, rfl⟩
 revert aC
 refine zkp [(1, (pT b1 0)), (13, (.bool (B6 || decide ((f.pa : Int) < 0))))] ?_
 rw [← hB15]
 have iB15 : B15 = true ↔ ((¬ (nameQ f.nm)) ∨ ((f.pa : Int) < 0)) := by rw [hB15]; simp only [Bool.or_eq_true, decide_eq_true_eq, iB6]
 clear hB15
 intro aC fr
 refine zpk 1 11 [14] fr (news := [(14, (cond (!B15) (pT b1 2) undef))]) (by cases B15 <;> kernel_rfl) ?_
 intro aC fr
 refine From_either (B := (!B15)) (d := (some 15)) (vI f.pa) fr (by cases B15 <;> kernel_rfl) (fun hB hh => ?_) ?_
 cases B15 <;> try exact absurd hB (by decide)
 have c15 : ¬ ((¬ (nameQ f.nm)) ∨ ((f.pa : Int) < 0)) := (fun h => Bool.noConfusion (iB15.2 h) : ¬ ((¬ (nameQ f.nm)) ∨ ((f.pa : Int) < 0)))
 exact From_ld (some 15) ⟨b1, 2, none⟩ fr (by kernel_rfl) (vI f.pa) (blk_cell (M5.get 0 rfl) rfl) hh
 intro aC fr
 refine zpk 3 15 [17, 18] fr (news := [(17, (.bool (B15 || decide ((f.pa : Int) > 16)))), (18, (.bool (B15 || decide ((f.pa : Int) > 16))))]) (by cases B15 <;> kernel_rfl) ?_
 intro aC fr
 obtain ⟨B24, hB24⟩ : ∃ B : Bool, B = (B15 || decide ((f.pa : Int) > 16)) := ⟨_, rfl⟩
 revert aC
 refine zkp [(1, (pT b1 0)), (18, (.bool (B15 || decide ((f.pa : Int) > 16))))] ?_
 rw [← hB24]
 have iB24 : B24 = true ↔ (((¬ (nameQ f.nm)) ∨ ((f.pa : Int) < 0)) ∨ ((f.pa : Int) > 16)) := by rw [hB24]; simp only [Bool.or_eq_true, decide_eq_true_eq, iB15]
 clear hB24
 intro aC fr
 refine zpk 1 16 [19] fr (news := [(19, (cond (!B24) (pT b1 3) undef))]) (by cases B24 <;> kernel_rfl) ?_
 intro aC fr
 refine From_either (B := (!B24)) (d := (some 20)) (vI f.lo) fr (by cases B24 <;> kernel_rfl) (fun hB hh => ?_) ?_
 cases B24 <;> try exact absurd hB (by decide)
 have c24 : ¬ (((¬ (nameQ f.nm)) ∨ ((f.pa : Int) < 0)) ∨ ((f.pa : Int) > 16)) := (fun h => Bool.noConfusion (iB24.2 h) : ¬ (((¬ (nameQ f.nm)) ∨ ((f.pa : Int) < 0)) ∨ ((f.pa : Int) > 16)))
 exact From_ld (some 20) ⟨b1, 3, none⟩ fr (by kernel_rfl) (vI f.lo) (blk_cell (M5.get 0 rfl) rfl) hh
 intro aC fr
 refine zpk 1 18 [21] fr (news := [(21, (cond (!B24) (pT b1 2) undef))]) (by cases B24 <;> kernel_rfl) ?_
 intro aC fr
 refine From_either (B := (!B24)) (d := (some 22)) (vI f.pa) fr (by cases B24 <;> kernel_rfl) (fun hB hh => ?_) ?_
 cases B24 <;> try exact absurd hB (by decide)
 have c24 : ¬ (((¬ (nameQ f.nm)) ∨ ((f.pa : Int) < 0)) ∨ ((f.pa : Int) > 16)) := (fun h => Bool.noConfusion (iB24.2 h) : ¬ (((¬ (nameQ f.nm)) ∨ ((f.pa : Int) < 0)) ∨ ((f.pa : Int) > 16)))
 exact From_ld (some 22) ⟨b1, 2, none⟩ fr (by kernel_rfl) (vI f.pa) (blk_cell (M5.get 0 rfl) rfl) hh
 intro aC fr
 refine zpk 3 22 [24, 25] fr (news := [(24, (.bool (B24 || decide ((f.lo : Int) < f.pa)))), (25, (.bool (B24 || decide ((f.lo : Int) < f.pa))))]) (by cases B24 <;> kernel_rfl) ?_
 intro aC fr
 obtain ⟨B37, hB37⟩ : ∃ B : Bool, B = (B24 || decide ((f.lo : Int) < f.pa)) := ⟨_, rfl⟩
 revert aC
 refine zkp [(1, (pT b1 0)), (25, (.bool (B24 || decide ((f.lo : Int) < f.pa))))] ?_
 rw [← hB37]
 have iB37 : B37 = true ↔ ((((¬ (nameQ f.nm)) ∨ ((f.pa : Int) < 0)) ∨ ((f.pa : Int) > 16)) ∨ ((f.lo : Int) < f.pa)) := by rw [hB37]; simp only [Bool.or_eq_true, decide_eq_true_eq, iB24]
 clear hB37
 intro aC fr
 refine zpk 1 23 [26] fr (news := [(26, (cond (!B37) (pT b1 3) undef))]) (by cases B37 <;> kernel_rfl) ?_
 intro aC fr
 refine From_either (B := (!B37)) (d := (some 27)) (vI f.lo) fr (by cases B37 <;> kernel_rfl) (fun hB hh => ?_) ?_
 cases B37 <;> try exact absurd hB (by decide)
 have c37 : ¬ ((((¬ (nameQ f.nm)) ∨ ((f.pa : Int) < 0)) ∨ ((f.pa : Int) > 16)) ∨ ((f.lo : Int) < f.pa)) := (fun h => Bool.noConfusion (iB37.2 h) : ¬ ((((¬ (nameQ f.nm)) ∨ ((f.pa : Int) < 0)) ∨ ((f.pa : Int) > 16)) ∨ ((f.lo : Int) < f.pa)))
 exact From_ld (some 27) ⟨b1, 3, none⟩ fr (by kernel_rfl) (vI f.lo) (blk_cell (M5.get 0 rfl) rfl) hh
 intro aC fr
 refine zpk 2 26 [29] fr (news := [(29, (.bool (B37 || decide ((f.lo : Int) > 2000))))]) (by cases B37 <;> kernel_rfl) ?_
 intro aC fr
 revert aC
 refine zfe <| zcP (B37 || decide ((f.lo : Int) > 2000)) (((((¬ (nameQ f.nm)) ∨ ((f.pa : Int) < 0)) ∨ ((f.pa : Int) > 16)) ∨ ((f.lo : Int) < f.pa)) ∨ ((f.lo : Int) > 2000)) (by simp only [Bool.or_eq_true, decide_eq_true_eq, iB37]) (fun c46 => ?_) (fun c46 => ?_)
 refine zsp <| zre <| zo1 (.bool false) ?_
 have M47 := M5.od [] 0
 exact ⟨congrArg Value.bool (by unfold fnV; rw [decide_eq_false (by unfold fnQ; (try simp only [decide_eq_true_eq, decide_eq_false_iff_not] at *); unfold nameQ at *; omega), Bool.false_and] : fnV f = false).symm, M47⟩
 refine zsk <| zsr <| zpn 1 <| zld ⟨b1, 3, none⟩ (vI f.lo) (blk_cell (M5.get 0 rfl) rfl) <| zpn 1 <| zbx M5 92 (.agg #[(vI f.lo), (vI 0)]) [(vI f.lo), (vI 0)] fun b48 w49 hb48 M50 => ?_
 replace M50 := M50.nf
 refine zpn 1 <| zfe <| zsr <| zpn 2 <| zld ⟨b1, 4, none⟩ (vS f.A f.body.length f.c) (blk_cell (M50.get 0 rfl) rfl) <| zcl (tstsv_all f.body f.A f.c 0 b48 f.lo 0 T w49 (by omega) (by omega) (by omega) (by omega) (M50.get 1 rfl) (hT.but M50 1 rfl) hs hI.body hI.len) ?_
 rintro _ w53 ⟨q51, rfl, hq52, M54x⟩
 have M54 := M50.md 1 rfl M54x
 refine zpn 1 <| zfe <| zre <| zo1 (.bool (stsV f.lo 0 0 f.body)) ?_
 have hq_ : fnQ f := by unfold fnQ; (try simp only [decide_eq_true_eq, decide_eq_false_iff_not] at *); unfold nameQ at *; omega
 have M55 := M54.od [] 0
 exact ⟨congrArg Value.bool (by unfold fnV; rw [decide_eq_true hq_, Bool.true_and] : fnV f = _).symm, M55⟩
set_option maxHeartbeats 1000000 in
theorem twords_c (d : FDat) (w : World) (hR : RO noS w (.rds d.rA 2 (d.refs.map refCells))) (hI : LenOk d.nm.size ∧ LenOk d.words.length ∧ LenOk d.refs.length ∧ ∀ r, r ∈ d.refs → In64 r.1 ∧ LenOk r.2.size) :
    Calls Try.prog 29 #[(.agg (DC d).toArray)] w (Ret fun v w' => v = .bool (decide (datQ d)) ∧ Mem noS w w' []) := by
 have h1_ := hI.1
 have h2_ := hI.2.1
 have h3_ := hI.2.2.1
 unfold LenOk at h1_ h2_ h3_
 refine zen 47 [(.agg (DC d).toArray)] Try.func29 ?_
 have hM := Mem.init w
 refine zsr <| zbx hM 59 (.agg (DC d).toArray) (DC d) fun b1 w2 hb1 M3 => ?_
 replace M3 := M3.nf
 clear hM
 refine zpn 1 <| zfe <| zsr <| zmm M3 fun b4 w5 hb4 M6 => ?_
 replace M6 := M6.nf
 have M7 : Mem noS w w5 [.blk b1 59 (DC d), .map b4 (inK (Value.int .i64) (vN []))] := M6.cast rfl
 refine zpn 1 <| zfe <| zsq <| zsr <| zpn 1 <| zld ⟨b1, 3, none⟩ (vS d.rA d.refs.length d.rc) (blk_cell (M7.get 0 rfl) rfl) <| zpn 2 <| zfe <| zbk 0 ?_
 have M8 : Mem noS w w5 [.blk b1 59 (DC d), .map b4 (inK (Value.int .i64) (vN (cntM ((d.refs.take 0).map (·.1)))))] := M7.cast rfl
 intro aC fr
 refine zlp (fun n_ a_ w_ => ∃ (j : Nat), n_ = d.refs.length - j ∧ Fr a_ 47 [(1, (pT b1 0)), (3, (.map (some b4))), (8, (vS d.rA d.refs.length d.rc)), (9, (vI ((d.refs.length : Nat) : Int))), (10, (nV j))] ∧ Mem noS w w_ [.blk b1 59 (DC d), .map b4 (inK (Value.int .i64) (vN (cntM ((d.refs.take j).map (·.1)))))] ∧ (j ≤ d.refs.length) ∧ (refsTo d j)) (n := _) ⟨0, rfl, fr.kp [1, 3, 8, 9, 10], M8, Nat.zero_le _, refsTo_zero d⟩ ?_
 clear fr aC M8; rintro n aC w11 ⟨j, rfl, fr, M12, hj, hr⟩
 revert aC
 refine zsp <| zsq <| zcD (((j : Int) : Int) < ((d.refs.length : Nat) : Int)) (fun c15 => ?_) (fun c15 => ?_)
 refine zsk <| zsq <| zbk 1 <| zsr ?_
 obtain ⟨r, hx⟩ := get_of (l := d.refs) (i := j) (by omega)
 have hrI := hI.2.2.2 r (List.mem_of_getElem? hx)
 have hrn := hrI.2
 unfold LenOk at hrn
 have hks : ((d.refs.take (j + 1)).map (·.1)) = ((d.refs.take j).map (·.1)) ++ [r.1] := by rw [List.take_add_one, hx]; simp
 have hct := cnt_twice (ks := ((d.refs.take j).map (·.1))) (k := r.1)
 rw [← hks] at hct
 have hcl := cnt_le ((d.refs.take j).map (·.1)) r.1
 have hkl_ : ((d.refs.take j).map (·.1)).length ≤ d.refs.length := by simp; omega
 obtain ⟨ad16, had17⟩ := rds_some (M12.ro hR) (i := j) (cs := refCells r) (gm hx)
 intro aC fr
 refine From_ixA (some 12) d.rA ad16 d.refs.length 2 (j : Int) fr (by kernel_rfl) had17 (by omega) (by omega) ?_
 intro aC fr
 revert aC
 refine zls ((ad16 : Addr).add (((j : Int)).toNat * 2)) [(vI r.1), (.string r.2)] (rds_cells (i := j) (M12.ro hR) had17 (gm hx)) ?_
 refine zal M12 96 [(vI 0), (.string ⟨#[]⟩)] fun b22 w23 hb22 M24 => ?_
 replace M24 := M24.nf
 refine zss M24 2 [(vI r.1), (.string r.2)] rfl fun w25 M26 => ?_
 replace M26 := M26.nf
 refine zfe <| zsr <| zpn 2 <| zld ⟨b22, 0, none⟩ (vI r.1) (blk_cell (M26.get 2 rfl) rfl) <| zlv (ht := Try.underlying94) (intLaw Try.underlying3) r.1 (vI 0) (M26.get 1 rfl) false (v := (vI ((lkp (cntM ((d.refs.take j).map (·.1))) r.1).getD 0))) (by rw [lkN_get]) <| zar (((lkp (cntM ((d.refs.take j).map (·.1))) r.1).getD 0) + 1) <| zmu (intLaw Try.underlying3) M26 1 r.1 (vI (((lkp (cntM ((d.refs.take j).map (·.1))) r.1).getD 0) + 1)) (l := (vN (cntM ((d.refs.take j).map (·.1))))) rfl Try.underlying94 fun w27 M28 => ?_
 replace M28 := M28.nf
 have M29 : Mem noS w w27 [.blk b1 59 (DC d), .map b4 (inK (Value.int .i64) (vN (cntM ((d.refs.take (j + 1)).map (·.1))))), .blk b22 96 [(vI r.1), (.string r.2)]] := M28.cast (by rw [vN_cnt hks])
 refine zfe <| zsr <| zpn 1 <| zld ⟨b22, 1, none⟩ (.string r.2) (blk_cell (M29.get 2 rfl) rfl) <| zkp [(1, (pT b1 0)), (3, (.map (some b4))), (5, (pT b22 0)), (8, (vS d.rA d.refs.length d.rc)), (9, (vI ((d.refs.length : Nat) : Int))), (10, (nV j)), (20, (.string r.2))] <| zcl (tname_c r.2 w27 hrn) ?_
 rintro _ w30 ⟨rfl, M31x⟩
 have M31 := M29.cl M31x
 refine zpn 2 ?_
 obtain ⟨B32, hB32⟩ : ∃ B : Bool, B = (!(decide (nameQ r.2))) := ⟨_, rfl⟩
 refine zkp [(1, (pT b1 0)), (3, (.map (some b4))), (5, (pT b22 0)), (8, (vS d.rA d.refs.length d.rc)), (9, (vI ((d.refs.length : Nat) : Int))), (10, (nV j)), (23, (.bool (!(decide (nameQ r.2)))))] ?_
 rw [← hB32]
 have iB32 : B32 = true ↔ (¬ (nameQ r.2)) := by rw [hB32]; simp only [notT, decide_eq_true_eq]
 clear hB32
 intro aC fr
 refine zpk 1 6 [24] fr (news := [(24, (cond (!B32) (pT b22 0) undef))]) (by cases B32 <;> kernel_rfl) ?_
 intro aC fr
 refine From_either (B := (!B32)) (d := (some 25)) (vI r.1) fr (by cases B32 <;> kernel_rfl) (fun hB hh => ?_) ?_
 cases B32 <;> try exact absurd hB (by decide)
 have c32 : ¬ (¬ (nameQ r.2)) := (fun h => Bool.noConfusion (iB32.2 h) : ¬ (¬ (nameQ r.2)))
 exact From_ld (some 25) ⟨b22, 0, none⟩ fr (by kernel_rfl) (vI r.1) (blk_cell (M31.get 2 rfl) rfl) hh
 intro aC fr
 refine zpk 3 10 [27, 28] fr (news := [(27, (.bool (B32 || decide ((r.1 : Int) < 0)))), (28, (.bool (B32 || decide ((r.1 : Int) < 0))))]) (by cases B32 <;> kernel_rfl) ?_
 intro aC fr
 obtain ⟨B41, hB41⟩ : ∃ B : Bool, B = (B32 || decide ((r.1 : Int) < 0)) := ⟨_, rfl⟩
 revert aC
 refine zkp [(1, (pT b1 0)), (3, (.map (some b4))), (5, (pT b22 0)), (8, (vS d.rA d.refs.length d.rc)), (9, (vI ((d.refs.length : Nat) : Int))), (10, (nV j)), (28, (.bool (B32 || decide ((r.1 : Int) < 0))))] ?_
 rw [← hB41]
 have iB41 : B41 = true ↔ ((¬ (nameQ r.2)) ∨ ((r.1 : Int) < 0)) := by rw [hB41]; simp only [Bool.or_eq_true, decide_eq_true_eq, iB32]
 clear hB41
 intro aC fr
 refine zpk 1 11 [29] fr (news := [(29, (cond (!B41) (pT b22 0) undef))]) (by cases B41 <;> kernel_rfl) ?_
 intro aC fr
 refine From_either (B := (!B41)) (d := (some 30)) (vI r.1) fr (by cases B41 <;> kernel_rfl) (fun hB hh => ?_) ?_
 cases B41 <;> try exact absurd hB (by decide)
 have c41 : ¬ ((¬ (nameQ r.2)) ∨ ((r.1 : Int) < 0)) := (fun h => Bool.noConfusion (iB41.2 h) : ¬ ((¬ (nameQ r.2)) ∨ ((r.1 : Int) < 0)))
 exact From_ld (some 30) ⟨b22, 0, none⟩ fr (by kernel_rfl) (vI r.1) (blk_cell (M31.get 2 rfl) rfl) hh
 intro aC fr
 refine zpk 1 13 [31] fr (news := [(31, (cond (!B41) (pT b1 2) undef))]) (by cases B41 <;> kernel_rfl) ?_
 intro aC fr
 refine From_either (B := (!B41)) (d := (some 32)) (vS d.wA d.words.length d.wc) fr (by cases B41 <;> kernel_rfl) (fun hB hh => ?_) ?_
 cases B41 <;> try exact absurd hB (by decide)
 have c41 : ¬ ((¬ (nameQ r.2)) ∨ ((r.1 : Int) < 0)) := (fun h => Bool.noConfusion (iB41.2 h) : ¬ ((¬ (nameQ r.2)) ∨ ((r.1 : Int) < 0)))
 exact From_ld (some 32) ⟨b1, 2, none⟩ fr (by kernel_rfl) (vS d.wA d.words.length d.wc) (blk_cell (M31.get 0 rfl) rfl) hh
 intro aC fr
 refine zpk 4 18 [35, 36] fr (news := [(35, (.bool (B41 || decide ((r.1 : Int) ≥ ((d.words.length : Nat) : Int))))), (36, (.bool (B41 || decide ((r.1 : Int) ≥ ((d.words.length : Nat) : Int)))))]) (by cases B41 <;> kernel_rfl) ?_
 intro aC fr
 obtain ⟨B54, hB54⟩ : ∃ B : Bool, B = (B41 || decide ((r.1 : Int) ≥ ((d.words.length : Nat) : Int))) := ⟨_, rfl⟩
 revert aC
 refine zkp [(1, (pT b1 0)), (3, (.map (some b4))), (5, (pT b22 0)), (8, (vS d.rA d.refs.length d.rc)), (9, (vI ((d.refs.length : Nat) : Int))), (10, (nV j)), (36, (.bool (B41 || decide ((r.1 : Int) ≥ ((d.words.length : Nat) : Int)))))] ?_
 rw [← hB54]
 have iB54 : B54 = true ↔ (((¬ (nameQ r.2)) ∨ ((r.1 : Int) < 0)) ∨ ((r.1 : Int) ≥ ((d.words.length : Nat) : Int))) := by rw [hB54]; simp only [Bool.or_eq_true, decide_eq_true_eq, iB41]
 clear hB54
 intro aC fr
 refine zpk 2 20 [37, 38] fr (news := [(37, (cond (!B54) (.map (some b4)) undef)), (38, (cond (!B54) (pT b22 0) undef))]) (by cases B54 <;> kernel_rfl) ?_
 intro aC fr
 refine From_either (B := (!B54)) (d := (some 39)) (vI r.1) fr (by cases B54 <;> kernel_rfl) (fun hB hh => ?_) ?_
 cases B54 <;> try exact absurd hB (by decide)
 have c54 : ¬ (((¬ (nameQ r.2)) ∨ ((r.1 : Int) < 0)) ∨ ((r.1 : Int) ≥ ((d.words.length : Nat) : Int))) := (fun h => Bool.noConfusion (iB54.2 h) : ¬ (((¬ (nameQ r.2)) ∨ ((r.1 : Int) < 0)) ∨ ((r.1 : Int) ≥ ((d.words.length : Nat) : Int))))
 exact From_ld (some 39) ⟨b22, 0, none⟩ fr (by kernel_rfl) (vI r.1) (blk_cell (M31.get 2 rfl) rfl) hh
 intro aC fr
 cases B54
 have c54 : ¬ (((¬ (nameQ r.2)) ∨ ((r.1 : Int) < 0)) ∨ ((r.1 : Int) ≥ ((d.words.length : Nat) : Int))) := (fun h => Bool.noConfusion (iB54.2 h) : ¬ (((¬ (nameQ r.2)) ∨ ((r.1 : Int) < 0)) ∨ ((r.1 : Int) ≥ ((d.words.length : Nat) : Int))))
 revert aC
 refine zlv (ht := Try.underlying94) (intLaw Try.underlying3) r.1 (vI 0) (M31.get 1 rfl) false (v := (vI ((lkp (cntM ((d.refs.take (j + 1)).map (·.1))) r.1).getD 0))) (by rw [lkN_get]) <| zpn 2 <| zfe <| zcD ((((lkp (cntM ((d.refs.take (j + 1)).map (·.1))) r.1).getD 0) : Int) > 1) (fun c61 => ?_) (fun c61 => ?_)
 refine zsp <| zre <| zbr <| zbr <| zo1 (.bool false) ?_
 have M62 := M31.od [] 0
 exact ⟨congrArg Value.bool (decide_eq_false (refs_no hx (by first | exact w_bad1 (by assumption) | exact w_bad2 hct (by assumption)))).symm, M62⟩
 refine zsk <| zrg <| zar ((j : Int) + 1) <| zpn 1 <| zfe ?_
 intro aC fr
 exact ⟨d.refs.length - (j + 1), by omega, j + 1, rfl, fr.kp [1, 3, 8, 9, 10], (M31.tk 2), by omega, refsTo_succ hr hx (w_ok hct (by assumption) (by assumption))⟩
 have c54 : (((¬ (nameQ r.2)) ∨ ((r.1 : Int) < 0)) ∨ ((r.1 : Int) ≥ ((d.words.length : Nat) : Int))) := iB54.1 rfl
 revert aC
 refine zpn 3 <| zfe <| zcT <| zsp <| zre <| zbr <| zbr <| zo1 (.bool false) ?_
 have M65 := M31.od [] 0
 exact ⟨congrArg Value.bool (decide_eq_false (refs_no hx (by first | exact w_bad1 (by assumption) | exact w_bad2 hct (by assumption)))).symm, M65⟩
 refine zex 0 <| zbh <| zsr <| zpn 1 <| zld ⟨b1, 0, none⟩ (.string d.nm) (blk_cell (M12.get 0 rfl) rfl) <| zcl (tname_c d.nm w11 hI.1) ?_
 rintro _ w66 ⟨rfl, M67x⟩
 have M67 := M12.cl M67x
 refine zpn 1 <| zfe <| zre <| zo1 (.bool (decide (nameQ d.nm))) ?_
 obtain rfl : j = d.refs.length := by omega
 have M68 := M67.od [] 0
 exact ⟨congrArg Value.bool (decide_eq_decide.2 ⟨fun h_ => datQ_iff.2 ⟨hr, h_⟩, fun h_ => h_.2⟩), M68⟩
theorem tcx_c (e : MEx) (ih : ∀ k, k ∈ e.kids → CxOk Try.prog k) (c0 : Nat) (n most : Int) (T : List Res) (w : World) (hn0 : 0 ≤ n) (hn : n + exN e ≤ 4611686018427387904) (hR : (cntB c0 n most).holds w) (hT : RO (cntB c0 n most).fp w (.all T)) (hs : SubE T e) (hI : exI e) :
    Calls Try.prog 66 #[(pT c0 0), (.agg (EC e).toArray)] w (Ret fun v w' => v = .tuple #[] ∧ ∃ n', Cnt most n (exN e) n' ∧ Mem (cntB c0 n most).fp w w' [cntB c0 n' most]) := by
 have hkl := hI.own.kids
 unfold LenOk at hkl
 rw [exN_eq] at hn
 refine zen 37 [(pT c0 0), (.agg (EC e).toArray)] Try.func66 ?_
 have hM := Mem.initS hR
 refine zsr <| zbx hM 53 (.agg (EC e).toArray) (EC e) fun b1 w2 hb1 M3 => ?_
 replace M3 := M3.nf
 clear hM
 refine zfe <| zsr <| zpn 3 <| zld ⟨c0, 0, none⟩ (vI n) (blk_cell (M3.get 0 rfl) rfl) <| zar (n + 1) <| zpn 2 <| zsb (ho := (by simp)) M3 0 0 (vI (n + 1)) rfl fun w4 M5 => ?_
 replace M5 := M5.nf
 refine zfe <| zsp <| zbk 0 ?_
 intro aC fr
 refine zlp (fun n_ a_ w_ => ∃ (j : Nat) (nj : Int), n_ = e.kids.length - j ∧ Fr a_ 37 [(0, (pT c0 0)), (3, (pT b1 0)), (4, (nV j))] ∧ Mem (cntB c0 n most).fp w w_ [.blk c0 86 [(vI nj), (vI most)], .blk b1 53 (EC e)] ∧ (j ≤ e.kids.length) ∧ (Cnt most (n + 1) (exsN (e.kids.take j)) nj)) (n := _) ⟨0, (n + 1), rfl, fr.kp [0, 3, 4], M5, Nat.zero_le _, by rw [List.take_zero]; exact Cnt.zero⟩ ?_
 clear fr aC M5; rintro n aC w8 ⟨j, nj, rfl, fr, M9, hj, hc⟩
 revert aC
 refine zsq <| zsq ?_
 have hcb := hc.le
 have htk := exsN_take_le e.kids j
 obtain ⟨B12, hB12⟩ : ∃ B : Bool, B = decide ((j : Int) < ((e.kids.length : Nat) : Int)) := ⟨_, rfl⟩
 cases B12
 have c12 : ¬ ((j : Int) < ((e.kids.length : Nat) : Int)) := of_decide_eq_false hB12.symm
 have hcb := hc.le
 have htk := exsN_take_le e.kids j
 refine zkp [(0, (pT c0 0)), (3, (pT b1 0)), (4, (nV j))] ?_
 intro aC fr
 refine zdt 14 (N := 37) (env0 := [(0, (pT c0 0)), (3, (pT b1 0)), (4, (nV j))]) (specAt [.det (nV j), .det (pT b1 3), .det (vS e.A e.kids.length e.c), .det (vI ((e.kids.length : Nat) : Int)), .det (.bool false), .det (.bool false), dU, dU, dU, dU, dU, dU, dU, dU]) fr (la (la (la (la (la (la (la (la (la (la (la (la (la (la lz dP) dP) (dL ⟨b1, 3, none⟩ (vS e.A e.kids.length e.c) fun w_ hK => (blk_cell ((M9.then_ hK).get 1 rfl) rfl))) dP) (dC (decide ((j : Int) < ((e.kids.length : Nat) : Int))) hB12)) dP) dK) dK) dK) dK) dK) dK) dK) dK) ?_
 intro aC w17 vs hK hv fr
 revert aC; refine zkp [(0, (pT c0 0)), (3, (pT b1 0)), (4, (nV j)), (17, (.bool false))] ?_
 have M18 := M9.then_ hK
 clear hK hv fr aC M9; clear vs
 refine zpn 2 <| zfe <| zcF <| zex 0 <| zbh <| zo0 ?_
 exact ⟨rfl, nj, (Cnt.one.trans (cnt_exs hc (by omega))).cast (by rw [exN_eq]; omega), M18.tk 1⟩
 have c12 : (j : Int) < ((e.kids.length : Nat) : Int) := of_decide_eq_true hB12.symm
 have hcb := hc.le
 have htk := exsN_take_le e.kids j
 refine zkp [(0, (pT c0 0)), (3, (pT b1 0)), (4, (nV j))] ?_
 intro aC fr
 refine zdt 14 (N := 37) (env0 := [(0, (pT c0 0)), (3, (pT b1 0)), (4, (nV j))]) (specAt [.det (nV j), .det (pT b1 3), .det (vS e.A e.kids.length e.c), .det (vI ((e.kids.length : Nat) : Int)), .det (.bool true), .det (.bool true), .det (pT c0 0), .det (pT c0 0), .det (pT c0 0), .det (vI nj), .det (pT c0 0), .det (pT c0 0), .det (pT c0 1), .det (vI most)]) fr (la (la (la (la (la (la (la (la (la (la (la (la (la (la lz dP) dP) (dL ⟨b1, 3, none⟩ (vS e.A e.kids.length e.c) fun w_ hK => (blk_cell ((M9.then_ hK).get 1 rfl) rfl))) dP) (dC (decide ((j : Int) < ((e.kids.length : Nat) : Int))) hB12)) dP) dP) dP) dP) (dL ⟨c0, 0, none⟩ (vI nj) fun w_ hK => (blk_cell ((M9.then_ hK).get 0 rfl) rfl))) dP) dP) dP) (dL ⟨c0, 1, none⟩ (vI most) fun w_ hK => (blk_cell ((M9.then_ hK).get 0 rfl) rfl))) ?_
 intro aC w23 vs hK hv fr
 revert aC; refine zkp [(0, (pT c0 0)), (3, (pT b1 0)), (4, (nV j)), (17, (.bool true)), (21, (vI nj)), (25, (vI most))] ?_
 have M24 := M9.then_ hK
 clear hK hv fr aC M9; clear vs
 refine zpn 2 <| zfe <| zcD ((nj : Int) ≤ most) (fun c25 => ?_) (fun c25 => ?_)
 refine zsk <| zsq <| zbk 1 <| zrg ?_
 obtain ⟨k, hk⟩ := get_of (l := e.kids) (i := j) (by omega)
 have hkm := List.mem_of_getElem? hk
 have htk2 := exsN_take hk
 have htk3 := exsN_take_le e.kids (j + 1)
 refine zpn 2 <| zld ⟨b1, 3, none⟩ (vS e.A e.kids.length e.c) (blk_cell (M24.get 1 rfl) rfl) <| zpn 1 ?_
 obtain ⟨ad26, had27⟩ := rds_some (M24.ro (hT.sub hs.kids.1)) (cs := k.cells) (i := j) (gm hk)
 intro aC fr
 refine From_ixA (some 34) e.A ad26 e.kids.length 4 (j : Int) fr (by kernel_rfl) had27 (by omega) (by omega) ?_
 intro aC fr
 revert aC
 refine zls ((ad26 : Addr).add (((j : Int)).toNat * 4)) (EC k) (rds_cells (i := j) (M24.ro (hT.sub hs.kids.1)) had27 (gm hk)) ?_
 refine zcl (ih k hkm c0 nj most T w23 (by omega) (by omega) (M24.get 0 rfl) (hT.but M24 0 rfl) (hs.kids.2 k hkm) (exsI_mem hI.kids hkm)) ?_
 rintro _ w33 ⟨rfl, n32, hcn, M34x⟩
 have M34 := M24.md 0 rfl M34x
 refine zfe <| zrg <| zpn 1 <| zar ((j : Int) + 1) <| zpn 1 <| zfe ?_
 intro aC fr
 exact ⟨e.kids.length - (j + 1), by omega, j + 1, n32, rfl, fr.kp [0, 3, 4], M34, by omega, (hc.trans hcn).cast (by rw [exsN_take hk]; omega)⟩
 refine zex 0 <| zbh <| zo0 ?_
 exact ⟨rfl, nj, (Cnt.one.trans (cnt_exs hc (by omega))).cast (by rw [exN_eq]; omega), M24.tk 1⟩
theorem tcx_all (e : MEx) : CxOk Try.prog e := MEx.ind (fun e ih c0 n most T w h0 h1 hR hT hs hI => tcx_c e ih c0 n most T w h0 h1 hR hT hs hI) e
set_option maxHeartbeats 1000000 in
theorem tcs_c (l : List MSt) (ih : ∀ x, x ∈ l → CsOk Try.prog x.body ∧ CsOk Try.prog x.els) (A : Option Addr) (c : Nat) (c0 : Nat) (n most : Int) (T : List Res) (w : World) (hn0 : 0 ≤ n) (hn : n + stsN l ≤ 4611686018427387904) (hR : (cntB c0 n most).holds w) (hT : RO (cntB c0 n most).fp w (.all T)) (hs : SubXs T A l) (hI : stsI l) (hll : LenOk l.length) :
    Calls Try.prog 46 #[(pT c0 0), (vS A l.length c)] w (Ret fun v w' => v = .tuple #[] ∧ ∃ n', Cnt most n (stsN l) n' ∧ Mem (cntB c0 n most).fp w w' [cntB c0 n' most]) := by
 unfold LenOk at hll
 refine zen 75 [(pT c0 0), (vS A l.length c)] Try.func46 ?_
 have hM := Mem.initS hR
 refine zsp <| zbk 0 ?_
 intro aC fr
 refine zlp (fun n_ a_ w_ => ∃ (j : Nat) (nj : Int), n_ = l.length - j ∧ Fr a_ 75 [(0, (pT c0 0)), (1, (vS A l.length c)), (4, (nV j))] ∧ Mem (cntB c0 n most).fp w w_ [.blk c0 86 [(vI nj), (vI most)]] ∧ (j ≤ l.length) ∧ (Cnt most n (stsN (l.take j)) nj)) (n := _) ⟨0, n, rfl, fr.kp [0, 1, 4], hM, Nat.zero_le _, by rw [List.take_zero]; exact Cnt.zero⟩ ?_
 clear fr aC hM; rintro n aC w3 ⟨j, nj, rfl, fr, M4, hj, hc⟩
 revert aC
 refine zsq <| zsq ?_
 have hcb := hc.le
 have htk := stsN_take_le l j
 obtain ⟨B7, hB7⟩ : ∃ B : Bool, B = decide ((j : Int) < ((l.length : Nat) : Int)) := ⟨_, rfl⟩
 cases B7
 have c7 : ¬ ((j : Int) < ((l.length : Nat) : Int)) := of_decide_eq_false hB7.symm
 have hcb := hc.le
 have htk := stsN_take_le l j
 refine zkp [(0, (pT c0 0)), (1, (vS A l.length c)), (4, (nV j))] ?_
 intro aC fr
 refine zdt 13 (N := 75) (env0 := [(0, (pT c0 0)), (1, (vS A l.length c)), (4, (nV j))]) (specAt [.det (nV j), .det (vS A l.length c), .det (vI ((l.length : Nat) : Int)), .det (.bool false), .det (.bool false), dU, dU, dU, dU, dU, dU, dU, dU]) fr (la (la (la (la (la (la (la (la (la (la (la (la (la lz dP) dP) dP) (dC (decide ((j : Int) < ((l.length : Nat) : Int))) hB7)) dP) dK) dK) dK) dK) dK) dK) dK) dK) ?_
 intro aC w12 vs hK hv fr
 revert aC; refine zkp [(0, (pT c0 0)), (1, (vS A l.length c)), (4, (nV j)), (10, (.bool false))] ?_
 have M13 := M4.then_ hK
 clear hK hv fr aC M4; clear vs
 refine zpn 2 <| zfe <| zcF <| zex 0 <| zbh <| zo0 ?_
 exact ⟨rfl, nj, cnt_sts hc (by omega), M13.tk 1⟩
 have c7 : (j : Int) < ((l.length : Nat) : Int) := of_decide_eq_true hB7.symm
 have hcb := hc.le
 have htk := stsN_take_le l j
 refine zkp [(0, (pT c0 0)), (1, (vS A l.length c)), (4, (nV j))] ?_
 intro aC fr
 refine zdt 13 (N := 75) (env0 := [(0, (pT c0 0)), (1, (vS A l.length c)), (4, (nV j))]) (specAt [.det (nV j), .det (vS A l.length c), .det (vI ((l.length : Nat) : Int)), .det (.bool true), .det (.bool true), .det (pT c0 0), .det (pT c0 0), .det (pT c0 0), .det (vI nj), .det (pT c0 0), .det (pT c0 0), .det (pT c0 1), .det (vI most)]) fr (la (la (la (la (la (la (la (la (la (la (la (la (la lz dP) dP) dP) (dC (decide ((j : Int) < ((l.length : Nat) : Int))) hB7)) dP) dP) dP) dP) (dL ⟨c0, 0, none⟩ (vI nj) fun w_ hK => (blk_cell ((M4.then_ hK).get 0 rfl) rfl))) dP) dP) dP) (dL ⟨c0, 1, none⟩ (vI most) fun w_ hK => (blk_cell ((M4.then_ hK).get 0 rfl) rfl))) ?_
 intro aC w18 vs hK hv fr
 revert aC; refine zkp [(0, (pT c0 0)), (1, (vS A l.length c)), (4, (nV j)), (10, (.bool true)), (14, (vI nj)), (18, (vI most))] ?_
 have M19 := M4.then_ hK
 clear hK hv fr aC M4; clear vs
 refine zpn 2 <| zfe <| zcD ((nj : Int) ≤ most) (fun c20 => ?_) (fun c20 => ?_)
 refine zsk <| zsq <| zbk 1 <| zsr ?_
 obtain ⟨x, hx⟩ := get_of (l := l) (i := j) (by omega)
 have hxm := List.mem_of_getElem? hx
 have hxI := stsI_mem hI hxm
 have htk2 := stsN_take hx
 have htk3 := stsN_take_le l (j + 1)
 rw [stN_eq] at htk2
 have h1_ := hxI.own.exprs
 unfold LenOk at h1_
 refine zpn 3 <| zld ⟨c0, 0, none⟩ (vI nj) (blk_cell (M19.get 0 rfl) rfl) <| zar (nj + 1) <| zpn 2 <| zsb (ho := (by simp)) M19 0 0 (vI (nj + 1)) rfl fun w21 M22 => ?_
 replace M22 := M22.nf
 refine zfe <| zsq <| zsp <| zbk 2 ?_
 intro aC fr
 refine zlp (fun n_ a_ w_ => ∃ (k : Nat) (nk : Int), n_ = x.exprs.length - k ∧ Fr a_ 75 [(0, (pT c0 0)), (1, (vS A l.length c)), (4, (nV j)), (5, (nV k))] ∧ Mem (cntB c0 n most).fp w w_ [.blk c0 86 [(vI nk), (vI most)]] ∧ (k ≤ x.exprs.length) ∧ (Cnt most (nj + 1) (exsN (x.exprs.take k)) nk)) (n := _) ⟨0, (nj + 1), rfl, fr.kp [0, 1, 4, 5], M22, Nat.zero_le _, by rw [List.take_zero]; exact Cnt.zero⟩ ?_
 clear fr aC M22; rintro n aC w25 ⟨k, nk, rfl, fr, M26, hk, hce⟩
 revert aC
 refine zsq <| zsq ?_
 have hceb := hce.le
 have htke := exsN_take_le x.exprs k
 obtain ⟨ad29, rfl⟩ := rds_some (M26.ro (hT.sub hs.1)) (cs := x.cells) (i := j) (gm hx)
 have hceb := hce.le
 have htke := exsN_take_le x.exprs k
 obtain ⟨B30, hB30⟩ : ∃ B : Bool, B = decide ((k : Int) < ((x.exprs.length : Nat) : Int)) := ⟨_, rfl⟩
 cases B30
 have c30 : ¬ ((k : Int) < ((x.exprs.length : Nat) : Int)) := of_decide_eq_false hB30.symm
 have hceb := hce.le
 have htke := exsN_take_le x.exprs k
 refine zkp [(0, (pT c0 0)), (1, (vS (some ad29) l.length c)), (4, (nV j)), (5, (nV k))] ?_
 intro aC fr
 refine zdt 17 (N := 75) (env0 := [(0, (pT c0 0)), (1, (vS (some ad29) l.length c)), (4, (nV j)), (5, (nV k))]) (specAt [.det (nV k), .det (vS (some ad29) l.length c), .det (nV j), .det (.pointer (some ((ad29 : Addr).add (((j : Int)).toNat * 5)))), .det (.pointer (some (((ad29 : Addr).add (((j : Int)).toNat * 5)).add 2))), .det (vS x.eA x.exprs.length x.ec), .det (vI ((x.exprs.length : Nat) : Int)), .det (.bool false), .det (.bool false), dU, dU, dU, dU, dU, dU, dU, dU]) fr (la (la (la (la (la (la (la (la (la (la (la (la (la (la (la (la (la lz dP) dP) dP) (dI ad29 l.length 5 (j : Int))) dP) (dL (((ad29 : Addr).add (((j : Int)).toNat * 5)).add 2) (vS x.eA x.exprs.length x.ec) fun w_ hK => (rds_get ((M26.then_ hK).ro (hT.sub hs.1)) rfl (i := j) (cs := x.cells) (gm hx) 2 _ rfl))) dP) (dC (decide ((k : Int) < ((x.exprs.length : Nat) : Int))) hB30)) dP) dK) dK) dK) dK) dK) dK) dK) dK) ?_
 intro aC w35 vs hK hv fr
 revert aC; refine zkp [(0, (pT c0 0)), (1, (vS (some ad29) l.length c)), (4, (nV j)), (5, (nV k)), (38, (.bool false))] ?_
 have M36 := M26.then_ hK
 clear hK hv fr aC M26; clear vs
 refine zpn 2 <| zfe <| zcF <| zex 2 <| zbh <| zsr ?_
 have hcE := (cnt_exs hce (by omega)).le
 refine zpn 3 <| zix ad29 l.length 5 (j : Int) <| zpn 1 ?_
 refine zld (((ad29 : Addr).add (((j : Int)).toNat * 5)).add 3) (vS x.bA x.body.length x.bc) (rds_get (M36.ro (hT.sub hs.1)) rfl (i := j) (cs := x.cells) (gm hx) 3 _ rfl) ?_
 refine zcl ((ih x hxm).1 x.bA x.bc c0 nk most T w35 (by omega) (by omega) (M36.get 0 rfl) (hT.but M36 0 rfl) (hs.2 x hxm).body hxI.body hxI.own.body) ?_
 rintro _ w38 ⟨rfl, n37, hcb_, M39x⟩
 have M39 := M36.md 0 rfl M39x
 have hcb_b := hcb_.le
 refine zfe <| zrg <| zpn 3 <| zix ad29 l.length 5 (j : Int) <| zpn 1 ?_
 refine zld (((ad29 : Addr).add (((j : Int)).toNat * 5)).add 4) (vS x.lA x.els.length x.lc) (rds_get (M39.ro (hT.sub hs.1)) rfl (i := j) (cs := x.cells) (gm hx) 4 _ rfl) ?_
 refine zcl ((ih x hxm).2 x.lA x.lc c0 n37 most T w38 (by omega) (by omega) (M39.get 0 rfl) (hT.but M39 0 rfl) (hs.2 x hxm).els hxI.els hxI.own.els) ?_
 rintro _ w41 ⟨rfl, n40, hcl_, M42x⟩
 have M42 := M39.md 0 rfl M42x
 have hcl_b := hcl_.le
 refine zfe <| zrg <| zpn 1 <| zar ((j : Int) + 1) <| zkp [(0, (pT c0 0)), (1, (vS (some ad29) l.length c)), (22, (vI ((j : Int) + 1)))] <| zpn 1 <| zfe ?_
 intro aC fr
 exact ⟨l.length - (j + 1), by omega, j + 1, n40, rfl, fr.kp [0, 1, 4], M42, by omega, ((((hc.trans Cnt.one).trans (cnt_exs hce (by omega))).trans hcb_).trans hcl_).cast (by rw [stsN_take hx, stN_eq]; omega)⟩
 have c30 : (k : Int) < ((x.exprs.length : Nat) : Int) := of_decide_eq_true hB30.symm
 have hceb := hce.le
 have htke := exsN_take_le x.exprs k
 refine zkp [(0, (pT c0 0)), (1, (vS (some ad29) l.length c)), (4, (nV j)), (5, (nV k))] ?_
 intro aC fr
 refine zdt 17 (N := 75) (env0 := [(0, (pT c0 0)), (1, (vS (some ad29) l.length c)), (4, (nV j)), (5, (nV k))]) (specAt [.det (nV k), .det (vS (some ad29) l.length c), .det (nV j), .det (.pointer (some ((ad29 : Addr).add (((j : Int)).toNat * 5)))), .det (.pointer (some (((ad29 : Addr).add (((j : Int)).toNat * 5)).add 2))), .det (vS x.eA x.exprs.length x.ec), .det (vI ((x.exprs.length : Nat) : Int)), .det (.bool true), .det (.bool true), .det (pT c0 0), .det (pT c0 0), .det (pT c0 0), .det (vI nk), .det (pT c0 0), .det (pT c0 0), .det (pT c0 1), .det (vI most)]) fr (la (la (la (la (la (la (la (la (la (la (la (la (la (la (la (la (la lz dP) dP) dP) (dI ad29 l.length 5 (j : Int))) dP) (dL (((ad29 : Addr).add (((j : Int)).toNat * 5)).add 2) (vS x.eA x.exprs.length x.ec) fun w_ hK => (rds_get ((M26.then_ hK).ro (hT.sub hs.1)) rfl (i := j) (cs := x.cells) (gm hx) 2 _ rfl))) dP) (dC (decide ((k : Int) < ((x.exprs.length : Nat) : Int))) hB30)) dP) dP) dP) dP) (dL ⟨c0, 0, none⟩ (vI nk) fun w_ hK => (blk_cell ((M26.then_ hK).get 0 rfl) rfl))) dP) dP) dP) (dL ⟨c0, 1, none⟩ (vI most) fun w_ hK => (blk_cell ((M26.then_ hK).get 0 rfl) rfl))) ?_
 intro aC w49 vs hK hv fr
 revert aC; refine zkp [(0, (pT c0 0)), (1, (vS (some ad29) l.length c)), (4, (nV j)), (5, (nV k)), (38, (.bool true)), (42, (vI nk)), (46, (vI most))] ?_
 have M50 := M26.then_ hK
 clear hK hv fr aC M26; clear vs
 refine zpn 2 <| zfe <| zcD ((nk : Int) ≤ most) (fun c51 => ?_) (fun c51 => ?_)
 refine zsk <| zsq <| zbk 3 <| zrg ?_
 obtain ⟨y, hy⟩ := get_of (l := x.exprs) (i := k) (by omega)
 have hym := List.mem_of_getElem? hy
 have htk4 := exsN_take hy
 have htk5 := exsN_take_le x.exprs (k + 1)
 refine zpn 3 <| zix ad29 l.length 5 (j : Int) <| zpn 1 ?_
 refine zld (((ad29 : Addr).add (((j : Int)).toNat * 5)).add 2) (vS x.eA x.exprs.length x.ec) (rds_get (M50.ro (hT.sub hs.1)) rfl (i := j) (cs := x.cells) (gm hx) 2 _ rfl) ?_
 refine zpn 1 ?_
 obtain ⟨ad52, had53⟩ := rds_some (M50.ro (hT.sub (hs.2 x hxm).exprs.1)) (cs := y.cells) (i := k) (gm hy)
 intro aC fr
 refine From_ixA (some 58) x.eA ad52 x.exprs.length 4 (k : Int) fr (by kernel_rfl) had53 (by omega) (by omega) ?_
 intro aC fr
 revert aC
 refine zls ((ad52 : Addr).add (((k : Int)).toNat * 4)) (EC y) (rds_cells (i := k) (M50.ro (hT.sub (hs.2 x hxm).exprs.1)) had53 (gm hy)) ?_
 refine zcl (tcx_all y c0 nk most T w49 (by omega) (by omega) (M50.get 0 rfl) (hT.but M50 0 rfl) ((hs.2 x hxm).exprs.2 y hym) (exsI_mem hxI.exprs hym)) ?_
 rintro _ w59 ⟨rfl, n58, hcn, M60x⟩
 have M60 := M50.md 0 rfl M60x
 refine zfe <| zrg <| zpn 1 <| zar ((k : Int) + 1) <| zpn 1 <| zfe ?_
 intro aC fr
 exact ⟨x.exprs.length - (k + 1), by omega, k + 1, n58, rfl, fr.kp [0, 1, 4, 5], M60, by omega, (hce.trans hcn).cast (by rw [exsN_take hy]; omega)⟩
 refine zex 2 <| zbh <| zsr ?_
 have hcE := (cnt_exs hce (by omega)).le
 refine zpn 3 <| zix ad29 l.length 5 (j : Int) <| zpn 1 ?_
 refine zld (((ad29 : Addr).add (((j : Int)).toNat * 5)).add 3) (vS x.bA x.body.length x.bc) (rds_get (M50.ro (hT.sub hs.1)) rfl (i := j) (cs := x.cells) (gm hx) 3 _ rfl) ?_
 refine zcl ((ih x hxm).1 x.bA x.bc c0 nk most T w49 (by omega) (by omega) (M50.get 0 rfl) (hT.but M50 0 rfl) (hs.2 x hxm).body hxI.body hxI.own.body) ?_
 rintro _ w64 ⟨rfl, n63, hcb_, M65x⟩
 have M65 := M50.md 0 rfl M65x
 have hcb_b := hcb_.le
 refine zfe <| zrg <| zpn 3 <| zix ad29 l.length 5 (j : Int) <| zpn 1 ?_
 refine zld (((ad29 : Addr).add (((j : Int)).toNat * 5)).add 4) (vS x.lA x.els.length x.lc) (rds_get (M65.ro (hT.sub hs.1)) rfl (i := j) (cs := x.cells) (gm hx) 4 _ rfl) ?_
 refine zcl ((ih x hxm).2 x.lA x.lc c0 n63 most T w64 (by omega) (by omega) (M65.get 0 rfl) (hT.but M65 0 rfl) (hs.2 x hxm).els hxI.els hxI.own.els) ?_
 rintro _ w67 ⟨rfl, n66, hcl_, M68x⟩
 have M68 := M65.md 0 rfl M68x
 have hcl_b := hcl_.le
 refine zfe <| zrg <| zpn 1 <| zar ((j : Int) + 1) <| zkp [(0, (pT c0 0)), (1, (vS (some ad29) l.length c)), (22, (vI ((j : Int) + 1)))] <| zpn 1 <| zfe ?_
 intro aC fr
 exact ⟨l.length - (j + 1), by omega, j + 1, n66, rfl, fr.kp [0, 1, 4], M68, by omega, ((((hc.trans Cnt.one).trans (cnt_exs hce (by omega))).trans hcb_).trans hcl_).cast (by rw [stsN_take hx, stN_eq]; omega)⟩
 refine zex 0 <| zbh <| zo0 ?_
 exact ⟨rfl, nj, cnt_sts hc (by omega), M19.tk 1⟩
theorem tcs_step (l : List MSt) (ih : ∀ x, x ∈ l → CsOk Try.prog x.body ∧ CsOk Try.prog x.els) : CsOk Try.prog l := fun A c c0 n most T w h0 h1 hR hT hs hI hll => tcs_c l ih A c c0 n most T w h0 h1 hR hT hs hI hll
theorem tcs_x (x : MSt) : CsOk Try.prog x.body ∧ CsOk Try.prog x.els := MSt.ind (p := fun x => CsOk Try.prog x.body ∧ CsOk Try.prog x.els) (fun e hb hl => ⟨tcs_step e.body hb, tcs_step e.els hl⟩) x
theorem tcs_all (l : List MSt) : CsOk Try.prog l := tcs_step l (fun x _ => tcs_x x)
end Go.Proofs.Ytdcgcjibgihbbaa
namespace Go.Proofs.Ytdcgcjibgihbbaa
open Go.Mor
theorem tsize_c (f : TFn) (T : List Res) (w : World) (hT : RO noS w (.all T)) (hs : SubXs T f.A f.body) (hI : f.In) (hN : stsN f.body ≤ 1000000000) :
    Calls Try.prog 21 #[(.agg (FC f).toArray)] w (Ret fun v w' => v = .int .i64 (stsN f.body : Int) ∧ Mem noS w w' []) := by
 refine zen 14 [(.agg (FC f).toArray)] Try.func21 ?_
 have hM := Mem.init w
 refine zsr <| zbx hM 45 (.agg (FC f).toArray) (FC f) fun b1 w2 hb1 M3 => ?_
 replace M3 := M3.nf
 clear hM
 refine zpn 1 <| zfe <| zsr <| zpn 1 <| zbx M3 86 (.agg #[(vI 0), (vI 4611686018427387903)]) [(vI 0), (vI 4611686018427387903)] fun b4 w5 hb4 M6 => ?_
 replace M6 := M6.nf
 refine zpn 1 <| zfe <| zsr <| zpn 2 <| zld ⟨b1, 4, none⟩ (vS f.A f.body.length f.c) (blk_cell (M6.get 0 rfl) rfl) <| zcl (tcs_all f.body f.A f.c b4 0 4611686018427387903 T w5 (by omega) (by omega) (M6.get 1 rfl) (hT.but M6 1 rfl) hs hI.body hI.len) ?_
 rintro _ w8 ⟨rfl, n7, hcn, M9x⟩
 have M9 := M6.md 1 rfl M9x
 refine zfe <| zsr <| zpn 3 <| zld ⟨b4, 0, none⟩ (vI n7) (blk_cell (M9.get 1 rfl) rfl) <| zpn 1 <| zfe <| zre <| zo1 (vI n7) ?_
 have he_ := hcn.eq (by omega)
 have he2_ : n7 = (stsN f.body : Int) := by omega
 have M10 := M9.od [] 0
 exact ⟨by rw [he2_], M10⟩
set_option maxHeartbeats 1000000 in
theorem tlarge_c (m : TMod) (w : World) (hR : RO noS w (.all m.parts)) (hI : m.In) :
    Calls Try.prog 27 #[(.agg (MC m).toArray)] w (Ret fun v w' => v = .bool (decide (largeQ m)) ∧ Mem noS w w' []) := by
 have hnf := hI.nf
 have hnd := hI.nd
 refine zen 43 [(.agg (MC m).toArray)] Try.func27 ?_
 have hM := Mem.init w
 refine zsr <| zbx hM 25 (.agg (MC m).toArray) (MC m) fun b1 w2 hb1 M3 => ?_
 replace M3 := M3.nf
 clear hM
 refine zpn 1 <| zfe <| zsr <| zpn 1 <| zbx M3 86 (.agg #[(vI 0), (vI 20000)]) [(vI 0), (vI 20000)] fun b4 w5 hb4 M6 => ?_
 replace M6 := M6.nf
 refine zpn 1 <| zfe <| zsq <| zsr <| zpn 1 <| zld ⟨b1, 1, none⟩ (vS m.fA m.fns.length m.fc) (blk_cell (M6.get 0 rfl) rfl) <| zpn 2 <| zfe <| zbk 0 ?_
 intro aC fr
 refine zlp (fun n_ a_ w_ => ∃ (j : Nat) (nj : Int), n_ = m.fns.length - j ∧ Fr a_ 43 [(1, (pT b1 0)), (3, (pT b4 0)), (12, (vS m.fA m.fns.length m.fc)), (13, (vI ((m.fns.length : Nat) : Int))), (14, (nV j))] ∧ Mem noS w w_ [.blk b1 25 (MC m), .blk b4 86 [(vI nj), (vI 20000)]] ∧ (j ≤ m.fns.length) ∧ (Cnt 20000 0 (fnsN (m.fns.take j)) nj)) (n := _) ⟨0, 0, rfl, fr.kp [1, 3, 12, 13, 14], M6, Nat.zero_le _, Cnt.zero⟩ ?_
 clear fr aC M6; rintro n aC w9 ⟨j, nj, rfl, fr, M10, hj, hc⟩
 revert aC
 refine zsp <| zsq <| zcD (((j : Int) : Int) < ((m.fns.length : Nat) : Int)) (fun c13 => ?_) (fun c13 => ?_)
 refine zsk <| zsq <| zbk 1 <| zsr ?_
 obtain ⟨f, hf⟩ := get_of (l := m.fns) (i := j) (by omega)
 have hfm := List.mem_of_getElem? hf
 have hfI := hI.fns f hfm
 have hcb := hc.le
 have ht1 := fnsN_take hf
 have ht2 := fnsN_le m.fns (j + 1)
 have hp := hI.parts
 obtain ⟨ad14, had15⟩ := rds_some (M10.ro hR.m_fns) (cs := f.cells) (i := j) (gm hf)
 intro aC fr
 refine From_ixA (some 16) m.fA ad14 m.fns.length 5 (j : Int) fr (by kernel_rfl) had15 (by omega) (by omega) ?_
 intro aC fr
 revert aC
 refine zls ((ad14 : Addr).add (((j : Int)).toNat * 5)) (FC f) (rds_cells (i := j) (M10.ro hR.m_fns) had15 (gm hf)) ?_
 refine zal M10 45 [(.string ⟨#[]⟩), (.bool false), (vI 0), (vI 0), (vS none 0 0)] fun b20 w21 hb20 M22 => ?_
 replace M22 := M22.nf
 refine zss M22 2 (FC f) rfl fun w23 M24 => ?_
 replace M24 := M24.nf
 refine zfe <| zrg <| zpn 2 <| zld ⟨b20, 4, none⟩ (vS f.A f.body.length f.c) (blk_cell (M24.get 2 rfl) rfl) <| zcl (tcs_all f.body f.A f.c b4 nj 20000 (m.fns.flatMap TFn.parts) w23 (by omega) (by omega) (M24.get 1 rfl) (hR.m_tree.but M24 1 rfl) (sub_fn hfm) hfI.body hfI.len) ?_
 rintro _ w26 ⟨rfl, n25, hcn, M27x⟩
 have M27 := M24.md 1 rfl M27x
 refine zfe <| zrg <| zar ((j : Int) + 1) <| zpn 1 <| zfe ?_
 intro aC fr
 exact ⟨m.fns.length - (j + 1), by omega, j + 1, n25, rfl, fr.kp [1, 3, 12, 13, 14], (M27.tk 2), by omega, (hc.trans hcn).cast (by rw [fnsN_take hf]; omega)⟩
 refine zex 0 <| zbh <| zsp <| zsq <| zsr <| zpn 1 <| zld ⟨b1, 2, none⟩ (vS m.dA m.dats.length m.dc) (blk_cell (M10.get 0 rfl) rfl) <| zpn 2 <| zfe <| zbk 2 ?_
 obtain rfl : j = m.fns.length := by omega
 rw [List.take_length] at hc
 intro aC fr
 refine zlp (fun n_ a_ w_ => ∃ (j : Nat), n_ = m.dats.length - j ∧ Fr a_ 43 [(3, (pT b4 0)), (6, (vI (datN (m.dats.take j) : Int))), (24, (vS m.dA m.dats.length m.dc)), (25, (vI ((m.dats.length : Nat) : Int))), (26, (nV j))] ∧ Mem noS w w_ [.blk b1 25 (MC m), .blk b4 86 [(vI nj), (vI 20000)]] ∧ (j ≤ m.dats.length) ∧ ((datN (m.dats.take j) : Int) ≤ 16384)) (n := _) ⟨0, rfl, fr.kp [3, 6, 24, 25, 26], M10, Nat.zero_le _, by simp [datN]⟩ ?_
 clear fr aC M10; rintro n aC w32 ⟨j, rfl, fr, M33, hj, hw⟩
 revert aC
 refine zsp <| zsq <| zcD (((j : Int) : Int) < ((m.dats.length : Nat) : Int)) (fun c36 => ?_) (fun c36 => ?_)
 refine zsk <| zsq <| zbk 3 <| zsr ?_
 obtain ⟨d, hd⟩ := get_of (l := m.dats) (i := j) (by omega)
 have hdI := hI.dats d (List.mem_of_getElem? hd)
 have hdw := hdI.2.1
 unfold LenOk at hdw
 have ht1 := datN_take hd
 have ht2 := datN_le m.dats (j + 1)
 obtain ⟨ad37, had38⟩ := rds_some (M33.ro hR.m_dats) (cs := d.cells) (i := j) (gm hd)
 intro aC fr
 refine From_ixA (some 28) m.dA ad37 m.dats.length 4 (j : Int) fr (by kernel_rfl) had38 (by omega) (by omega) ?_
 intro aC fr
 revert aC
 refine zls ((ad37 : Addr).add (((j : Int)).toNat * 4)) (DC d) (rds_cells (i := j) (M33.ro hR.m_dats) had38 (gm hd)) ?_
 refine zal M33 59 [(.string ⟨#[]⟩), (.bool false), (vS none 0 0), (vS none 0 0)] fun b43 w44 hb43 M45 => ?_
 replace M45 := M45.nf
 refine zss M45 2 (DC d) rfl fun w46 M47 => ?_
 replace M47 := M47.nf
 refine zfe <| zsr <| zpn 2 <| zld ⟨b43, 2, none⟩ (vS d.wA d.words.length d.wc) (blk_cell (M47.get 2 rfl) rfl) <| zpn 1 <| zar ((datN (m.dats.take j) : Int) + ((d.words.length : Nat) : Int)) <| zpn 1 <| zfe <| zsp <| zcD ((((datN (m.dats.take j) : Int) + ((d.words.length : Nat) : Int)) : Int) > 16384) (fun c48 => ?_) (fun c48 => ?_)
 refine zsp <| zre <| zbr <| zbr <| zo1 (.bool true) ?_
 have M49 := M47.od [] 0
 exact ⟨congrArg Value.bool (decide_eq_true (.inr (by omega))).symm, M49⟩
 refine zsk <| zrg <| zar ((j : Int) + 1) <| zkp [(3, (pT b4 0)), (6, (vI ((datN (m.dats.take j) : Int) + ((d.words.length : Nat) : Int)))), (24, (vS m.dA m.dats.length m.dc)), (25, (vI ((m.dats.length : Nat) : Int))), (37, (vI ((j : Int) + 1)))] <| zpn 1 <| zfe ?_
 intro aC fr
 have e_ : (datN (m.dats.take j) : Int) + (d.words.length : Int) = (datN (m.dats.take (j + 1)) : Int) := by rw [datN_take hd]; omega
 exact ⟨m.dats.length - (j + 1), by omega, j + 1, rfl, (by rw [← e_]; exact fr.kp [3, 6, 24, 25, 26]), (M47.tk 2), by omega, by omega⟩
 refine zex 2 <| zbh <| zsr <| zpn 3 <| zld ⟨b4, 0, none⟩ (vI nj) (blk_cell (M33.get 1 rfl) rfl) <| zpn 2 <| zfe <| zre <| zo1 (.bool (decide ((nj : Int) > 20000))) ?_
 obtain rfl : j = m.dats.length := by omega
 rw [List.take_length] at hw
 have M52 := M33.od [] 0
 exact ⟨congrArg Value.bool (decide_eq_decide.2 ⟨fun h_ => .inl (by have := hc.gt.1 h_; omega), fun h_ => hc.gt.2 (by rcases h_ with h_ | h_ <;> omega)⟩), M52⟩
set_option maxHeartbeats 1000000 in
theorem tvalid_c (m : TMod) (w : World) (hR : RO noS w (.all m.parts)) (hI : m.In) :
    Calls Try.prog 12 #[(.agg (MC m).toArray)] w (Ret fun v w' => v = .int .i64 (validT m) ∧ Mem noS w w' []) := by
 have hnf := hI.nf
 have hnd := hI.nd
 refine zen 58 [(.agg (MC m).toArray)] Try.func12 ?_
 have hM := Mem.init w
 refine zsr <| zbx hM 25 (.agg (MC m).toArray) (MC m) fun b1 w2 hb1 M3 => ?_
 replace M3 := M3.nf
 clear hM
 refine zpn 1 <| zfe <| zsq <| zsr <| zls ⟨b1, 0, none⟩ (MC m) (blk_cells (M3.get 0 rfl)) <| zcl (tlarge_c m w2 (hR.at_ M3) hI) ?_
 rintro _ w4 ⟨rfl, M5x⟩
 have M5 := M3.cl M5x
 refine zfe <| zcD (largeQ m) (fun c6 => ?_) (fun c6 => ?_)
 refine zsp <| zre <| zo1 (vI 12) ?_
 have M7 := M5.od [] 0
 exact ⟨by rw [validT_12 c6], M7⟩
 refine zsk <| zsr ?_
 have hnl : ¬ largeQ m := c6
 refine zmm M5 fun b8 w9 hb8 M10 => ?_
 replace M10 := M10.nf
 have M11 : Mem noS w w9 [.blk b1 25 (MC m), .map b8 (inK .string (vK []))] := M10.cast rfl
 refine zpn 1 <| zfe <| zsq <| zsr <| zpn 1 <| zld ⟨b1, 1, none⟩ (vS m.fA m.fns.length m.fc) (blk_cell (M11.get 0 rfl) rfl) <| zpn 2 <| zfe <| zbk 0 ?_
 have M12 : Mem noS w w9 [.blk b1 25 (MC m), .map b8 (inK .string (vK (cntM ((m.fns.take 0).map (·.nm)))))] := M11.cast rfl
 intro aC fr
 refine zlp (fun n_ a_ w_ => ∃ (j : Nat), n_ = m.fns.length - j ∧ Fr a_ 58 [(1, (pT b1 0)), (3, (.map (some b8))), (12, (vS m.fA m.fns.length m.fc)), (13, (vI ((m.fns.length : Nat) : Int))), (14, (nV j))] ∧ Mem noS w w_ [.blk b1 25 (MC m), .map b8 (inK .string (vK (cntM ((m.fns.take j).map (·.nm)))))] ∧ (j ≤ m.fns.length) ∧ (fnsTo m.fns j)) (n := _) ⟨0, rfl, fr.kp [1, 3, 12, 13, 14], M12, Nat.zero_le _, fnsTo_zero _⟩ ?_
 clear fr aC M12; rintro n aC w15 ⟨j, rfl, fr, M16, hj, hr⟩
 revert aC
 refine zsp <| zsq <| zcD (((j : Int) : Int) < ((m.fns.length : Nat) : Int)) (fun c19 => ?_) (fun c19 => ?_)
 refine zsk <| zsq <| zbk 1 <| zsr ?_
 obtain ⟨f, hf⟩ := get_of (l := m.fns) (i := j) (by omega)
 have hfm := List.mem_of_getElem? hf
 have hfI := hI.fns f hfm
 have hnm := hfI.nm
 have hks : ((m.fns.take (j + 1)).map (·.nm)) = ((m.fns.take j).map (·.nm)) ++ [f.nm] := by rw [List.take_add_one, hf]; simp
 have hct := cnt_twice (ks := ((m.fns.take j).map (·.nm))) (k := f.nm)
 rw [← hks] at hct
 have hcl := cnt_le ((m.fns.take j).map (·.nm)) f.nm
 have hkl_ : ((m.fns.take j).map (·.nm)).length ≤ m.fns.length := by simp; omega
 obtain ⟨ad20, had21⟩ := rds_some (M16.ro hR.m_fns) (cs := f.cells) (i := j) (gm hf)
 intro aC fr
 refine From_ixA (some 16) m.fA ad20 m.fns.length 5 (j : Int) fr (by kernel_rfl) had21 (by omega) (by omega) ?_
 intro aC fr
 revert aC
 refine zls ((ad20 : Addr).add (((j : Int)).toNat * 5)) (FC f) (rds_cells (i := j) (M16.ro hR.m_fns) had21 (gm hf)) ?_
 refine zal M16 45 [(.string ⟨#[]⟩), (.bool false), (vI 0), (vI 0), (vS none 0 0)] fun b26 w27 hb26 M28 => ?_
 replace M28 := M28.nf
 refine zss M28 2 (FC f) rfl fun w29 M30 => ?_
 replace M30 := M30.nf
 refine zfe <| zsr <| zpn 2 <| zld ⟨b26, 0, none⟩ (.string f.nm) (blk_cell (M30.get 2 rfl) rfl) <| zlv (ht := Try.underlying60) (strLaw Try.underlying9) f.nm (vI 0) (M30.get 1 rfl) false (v := (vI ((lkp (cntM ((m.fns.take j).map (·.nm))) f.nm).getD 0))) (by rw [lkV_get]) <| zar (((lkp (cntM ((m.fns.take j).map (·.nm))) f.nm).getD 0) + 1) <| zmu (strLaw Try.underlying9) M30 1 f.nm (vI (((lkp (cntM ((m.fns.take j).map (·.nm))) f.nm).getD 0) + 1)) (l := (vK (cntM ((m.fns.take j).map (·.nm))))) rfl Try.underlying60 fun w31 M32 => ?_
 replace M32 := M32.nf
 have M33 : Mem noS w w31 [.blk b1 25 (MC m), .map b8 (inK .string (vK (cntM ((m.fns.take (j + 1)).map (·.nm))))), .blk b26 45 (FC f)] := M32.cast (by rw [vK_cnt hks])
 refine zfe <| zsr <| zpn 2 <| zld ⟨b26, 0, none⟩ (.string f.nm) (blk_cell (M33.get 2 rfl) rfl) <| zkp [(1, (pT b1 0)), (3, (.map (some b8))), (5, (pT b26 0)), (12, (vS m.fA m.fns.length m.fc)), (13, (vI ((m.fns.length : Nat) : Int))), (14, (nV j)), (23, (.map (some b8))), (25, (.string f.nm))] <| zlv (ht := Try.underlying60) (strLaw Try.underlying9) f.nm (vI 0) (M33.get 1 rfl) false (v := (vI ((lkp (cntM ((m.fns.take (j + 1)).map (·.nm))) f.nm).getD 0))) (by rw [lkV_get]) <| zpn 2 ?_
 obtain ⟨B34, hB34⟩ : ∃ B : Bool, B = decide ((((lkp (cntM ((m.fns.take (j + 1)).map (·.nm))) f.nm).getD 0) : Int) > 1) := ⟨_, rfl⟩
 refine zkp [(1, (pT b1 0)), (3, (.map (some b8))), (5, (pT b26 0)), (12, (vS m.fA m.fns.length m.fc)), (13, (vI ((m.fns.length : Nat) : Int))), (14, (nV j)), (28, (.bool (decide ((((lkp (cntM ((m.fns.take (j + 1)).map (·.nm))) f.nm).getD 0) : Int) > 1))))] ?_
 rw [← hB34]
 have iB34 : B34 = true ↔ ((((lkp (cntM ((m.fns.take (j + 1)).map (·.nm))) f.nm).getD 0) : Int) > 1) := by rw [hB34]; simp only [decide_eq_true_eq]
 clear hB34
 cases B34
 have c34 : ¬ ((((lkp (cntM ((m.fns.take (j + 1)).map (·.nm))) f.nm).getD 0) : Int) > 1) := (fun h => Bool.noConfusion (iB34.2 h) : ¬ ((((lkp (cntM ((m.fns.take (j + 1)).map (·.nm))) f.nm).getD 0) : Int) > 1))
 refine zls ⟨b26, 0, none⟩ (FC f) (blk_cells (M33.get 2 rfl)) <| zcl (tfunction_c f (m.fns.flatMap TFn.parts) w31 (hR.m_tree.at_ M33) (sub_fn hfm) hfI) ?_
 rintro _ w35 ⟨rfl, M36x⟩
 have M36 := M33.cl M36x
 refine zpn 2 <| zfe <| zcP (!(fnV f)) (¬ ((fnV f) = true)) (by simp only [notT]) (fun c37 => ?_) (fun c37 => ?_)
 replace c37 : (fnV f) = false := Bool.eq_false_iff.2 c37
 refine zsp <| zre <| zbr <| zbr <| zo1 (vI 4) ?_
 have hb_ : ¬ fnsTo m.fns m.fns.length := fns_no hf (by omega) (by first | exact (fun h_ => h_.2 (hct.1 (by assumption))) | exact (fun h_ => absurd h_.1 (by assumption)) | exact (fun h_ => absurd h_.1 (by simp_all)))
 have M38 := M36.od [] 0
 exact ⟨by rw [validT_4 hnl (fun h_ => hb_ h_.1)], M38⟩
 replace c37 : (fnV f) = true := Classical.not_not.1 c37
 refine zsk <| zrg <| zar ((j : Int) + 1) <| zpn 1 <| zfe ?_
 intro aC fr
 exact ⟨m.fns.length - (j + 1), by omega, j + 1, rfl, fr.kp [1, 3, 12, 13, 14], (M36.tk 2), by omega, fnsTo_succ hr hf c37 (fun h_ => c34 (hct.2 h_))⟩
 have c34 : ((((lkp (cntM ((m.fns.take (j + 1)).map (·.nm))) f.nm).getD 0) : Int) > 1) := iB34.1 rfl
 refine zpn 4 <| zfe <| zcT <| zsp <| zre <| zbr <| zbr <| zo1 (vI 4) ?_
 have hb_ : ¬ fnsTo m.fns m.fns.length := fns_no hf (by omega) (by first | exact (fun h_ => h_.2 (hct.1 (by assumption))) | exact (fun h_ => absurd h_.1 (by assumption)) | exact (fun h_ => absurd h_.1 (by simp_all)))
 have M41 := M33.od [] 0
 exact ⟨by rw [validT_4 hnl (fun h_ => hb_ h_.1)], M41⟩
 refine zex 0 <| zbh <| zsr <| zpn 1 <| zcm_clear M16 1 60 (.tmp 34) 0 rfl Try.underlying60 fun w42 M43 => ?_
 replace M43 := M43.nf
 have M44 : Mem noS w w42 [.blk b1 25 (MC m), .map b8 (inK .string (vK []))] := M43.cast rfl
 refine zfe <| zsq <| zsr <| zpn 1 <| zld ⟨b1, 2, none⟩ (vS m.dA m.dats.length m.dc) (blk_cell (M44.get 0 rfl) rfl) <| zpn 2 <| zfe <| zbk 2 ?_
 obtain rfl : j = m.fns.length := by omega
 have hfT := hr
 clear hr hj
 have M45 : Mem noS w w42 [.blk b1 25 (MC m), .map b8 (inK .string (vK (cntM ((m.dats.take 0).map (·.nm)))))] := M44.cast rfl
 intro aC fr
 refine zlp (fun n_ a_ w_ => ∃ (j : Nat), n_ = m.dats.length - j ∧ Fr a_ 58 [(3, (.map (some b8))), (36, (vS m.dA m.dats.length m.dc)), (37, (vI ((m.dats.length : Nat) : Int))), (38, (nV j))] ∧ Mem noS w w_ [.blk b1 25 (MC m), .map b8 (inK .string (vK (cntM ((m.dats.take j).map (·.nm)))))] ∧ (j ≤ m.dats.length) ∧ (datsTo m.dats j)) (n := _) ⟨0, rfl, fr.kp [3, 36, 37, 38], M45, Nat.zero_le _, datsTo_zero _⟩ ?_
 clear fr aC M45; rintro n aC w48 ⟨j, rfl, fr, M49, hj, hr⟩
 revert aC
 refine zsp <| zsq <| zcD (((j : Int) : Int) < ((m.dats.length : Nat) : Int)) (fun c52 => ?_) (fun c52 => ?_)
 refine zsk <| zsq <| zbk 3 <| zsr ?_
 obtain ⟨d, hd⟩ := get_of (l := m.dats) (i := j) (by omega)
 have hdm := List.mem_of_getElem? hd
 have hdI := hI.dats d hdm
 have hks : ((m.dats.take (j + 1)).map (·.nm)) = ((m.dats.take j).map (·.nm)) ++ [d.nm] := by rw [List.take_add_one, hd]; simp
 have hct := cnt_twice (ks := ((m.dats.take j).map (·.nm))) (k := d.nm)
 rw [← hks] at hct
 have hcl := cnt_le ((m.dats.take j).map (·.nm)) d.nm
 have hkl_ : ((m.dats.take j).map (·.nm)).length ≤ m.dats.length := by simp; omega
 obtain ⟨ad53, had54⟩ := rds_some (M49.ro hR.m_dats) (cs := d.cells) (i := j) (gm hd)
 intro aC fr
 refine From_ixA (some 40) m.dA ad53 m.dats.length 4 (j : Int) fr (by kernel_rfl) had54 (by omega) (by omega) ?_
 intro aC fr
 revert aC
 refine zls ((ad53 : Addr).add (((j : Int)).toNat * 4)) (DC d) (rds_cells (i := j) (M49.ro hR.m_dats) had54 (gm hd)) ?_
 refine zal M49 59 [(.string ⟨#[]⟩), (.bool false), (vS none 0 0), (vS none 0 0)] fun b59 w60 hb59 M61 => ?_
 replace M61 := M61.nf
 refine zss M61 2 (DC d) rfl fun w62 M63 => ?_
 replace M63 := M63.nf
 refine zfe <| zsr <| zpn 2 <| zld ⟨b59, 0, none⟩ (.string d.nm) (blk_cell (M63.get 2 rfl) rfl) <| zlv (ht := Try.underlying60) (strLaw Try.underlying9) d.nm (vI 0) (M63.get 1 rfl) false (v := (vI ((lkp (cntM ((m.dats.take j).map (·.nm))) d.nm).getD 0))) (by rw [lkV_get]) <| zar (((lkp (cntM ((m.dats.take j).map (·.nm))) d.nm).getD 0) + 1) <| zmu (strLaw Try.underlying9) M63 1 d.nm (vI (((lkp (cntM ((m.dats.take j).map (·.nm))) d.nm).getD 0) + 1)) (l := (vK (cntM ((m.dats.take j).map (·.nm))))) rfl Try.underlying60 fun w64 M65 => ?_
 replace M65 := M65.nf
 have M66 : Mem noS w w64 [.blk b1 25 (MC m), .map b8 (inK .string (vK (cntM ((m.dats.take (j + 1)).map (·.nm))))), .blk b59 59 (DC d)] := M65.cast (by rw [vK_cnt hks])
 refine zfe <| zsr <| zpn 2 <| zld ⟨b59, 0, none⟩ (.string d.nm) (blk_cell (M66.get 2 rfl) rfl) <| zkp [(3, (.map (some b8))), (7, (pT b59 0)), (36, (vS m.dA m.dats.length m.dc)), (37, (vI ((m.dats.length : Nat) : Int))), (38, (nV j)), (47, (.map (some b8))), (49, (.string d.nm))] <| zlv (ht := Try.underlying60) (strLaw Try.underlying9) d.nm (vI 0) (M66.get 1 rfl) false (v := (vI ((lkp (cntM ((m.dats.take (j + 1)).map (·.nm))) d.nm).getD 0))) (by rw [lkV_get]) <| zpn 2 ?_
 obtain ⟨B67, hB67⟩ : ∃ B : Bool, B = decide ((((lkp (cntM ((m.dats.take (j + 1)).map (·.nm))) d.nm).getD 0) : Int) > 1) := ⟨_, rfl⟩
 refine zkp [(3, (.map (some b8))), (7, (pT b59 0)), (36, (vS m.dA m.dats.length m.dc)), (37, (vI ((m.dats.length : Nat) : Int))), (38, (nV j)), (52, (.bool (decide ((((lkp (cntM ((m.dats.take (j + 1)).map (·.nm))) d.nm).getD 0) : Int) > 1))))] ?_
 rw [← hB67]
 have iB67 : B67 = true ↔ ((((lkp (cntM ((m.dats.take (j + 1)).map (·.nm))) d.nm).getD 0) : Int) > 1) := by rw [hB67]; simp only [decide_eq_true_eq]
 clear hB67
 cases B67
 have c67 : ¬ ((((lkp (cntM ((m.dats.take (j + 1)).map (·.nm))) d.nm).getD 0) : Int) > 1) := (fun h => Bool.noConfusion (iB67.2 h) : ¬ ((((lkp (cntM ((m.dats.take (j + 1)).map (·.nm))) d.nm).getD 0) : Int) > 1))
 refine zls ⟨b59, 0, none⟩ (DC d) (blk_cells (M66.get 2 rfl)) <| zcl (twords_c d w64 ((hR.m_refs hdm).at_ M66) hdI) ?_
 rintro _ w68 ⟨rfl, M69x⟩
 have M69 := M66.cl M69x
 refine zpn 2 <| zfe <| zcP (!(decide (datQ d))) (¬ (datQ d)) (by simp only [notT, decide_eq_true_eq]) (fun c70 => ?_) (fun c70 => ?_)
 refine zsp <| zre <| zbr <| zbr <| zo1 (vI 4) ?_
 have hb_ : ¬ datsTo m.dats m.dats.length := dats_no hd (by omega) (by first | exact (fun h_ => h_.2 (hct.1 (by assumption))) | exact (fun h_ => absurd h_.1 (by assumption)) | exact (fun h_ => absurd h_.1 (by simp_all)))
 have M71 := M69.od [] 0
 exact ⟨by rw [validT_4 hnl (fun h_ => hb_ h_.2)], M71⟩
 refine zsk <| zrg <| zar ((j : Int) + 1) <| zpn 1 <| zfe ?_
 intro aC fr
 exact ⟨m.dats.length - (j + 1), by omega, j + 1, rfl, fr.kp [3, 36, 37, 38], (M69.tk 2), by omega, datsTo_succ hr hd (Classical.not_not.1 c70) (fun h_ => c67 (hct.2 h_))⟩
 have c67 : ((((lkp (cntM ((m.dats.take (j + 1)).map (·.nm))) d.nm).getD 0) : Int) > 1) := iB67.1 rfl
 refine zpn 4 <| zfe <| zcT <| zsp <| zre <| zbr <| zbr <| zo1 (vI 4) ?_
 have hb_ : ¬ datsTo m.dats m.dats.length := dats_no hd (by omega) (by first | exact (fun h_ => h_.2 (hct.1 (by assumption))) | exact (fun h_ => absurd h_.1 (by assumption)) | exact (fun h_ => absurd h_.1 (by simp_all)))
 have M74 := M66.od [] 0
 exact ⟨by rw [validT_4 hnl (fun h_ => hb_ h_.2)], M74⟩
 refine zex 2 <| zbh <| zsp <| zre <| zo1 (vI 0) ?_
 obtain rfl : j = m.dats.length := by omega
 have M75 := M49.od [] 0
 exact ⟨by rw [validT_0 hnl hfT hr], M75⟩
end Go.Proofs.Ytdcgcjibgihbbaa
namespace Go.Proofs.Ytdcgcjibgihbbaa
open Go.Mor
theorem tplain1_c (k : MEx) (hk : PlOk Try.prog k) (T : List Res) (w : World) (hT : RO noS w (.all T)) (hs : SubE T k) (hI : exI k) :
    Calls Try.prog 62 #[(.agg (EC k).toArray)] w (Ret fun v w' => v = .bool (!(plV k)) ∧ Mem noS w w' []) := by
 refine zen 6 [(.agg (EC k).toArray)] Try.func62 ?_
 have hM := Mem.init w
 refine zsr <| zbx hM 53 (.agg (EC k).toArray) (EC k) fun b1 w2 hb1 M3 => ?_
 replace M3 := M3.nf
 clear hM
 refine zpn 1 <| zfe <| zsr <| zls ⟨b1, 0, none⟩ (EC k) (blk_cells (M3.get 0 rfl)) <| zcl (hk T w2 (hT.at_ M3) hs hI) ?_
 rintro _ w4 ⟨rfl, M5x⟩
 have M5 := M3.cl M5x
 refine zpn 2 <| zfe <| zre <| zo1 (.bool (!(plV k))) ?_
 have M6 := M5.od [] 0
 exact ⟨rfl, M6⟩
theorem tix_c (e : MEx) (ih : ∀ k, k ∈ e.kids → PlOk Try.prog k) (T : List Res) (w : World) (hT : RO noS w (.all T)) (hs : SubE T e) (hI : exI e) :
    Calls Try.prog 74 #[(vS e.A e.kids.length e.c), (.func (.func 62) #[] #[])] w (Ret fun v w' => ∃ r, v = .int .i64 r ∧ (r ≥ 0 ↔ plsV e.kids = false) ∧ Mem noS w w' []) := by
 have hkl := hI.own.kids
 unfold LenOk at hkl
 refine zen 19 [(vS e.A e.kids.length e.c), (.func (.func 62) #[] #[])] Try.func74 ?_
 have hM := Mem.init w
 refine zsp <| zsq <| zsp <| zbk 0 ?_
 intro aC fr
 refine zlp (fun n_ a_ w_ => ∃ (j : Nat), n_ = e.kids.length - j ∧ Fr a_ 19 [(0, (vS e.A e.kids.length e.c)), (1, (.func (.func 62) #[] #[])), (7, (vI ((e.kids.length : Nat) : Int))), (8, (nV j))] ∧ Mem noS w w_ [] ∧ (j ≤ e.kids.length) ∧ (plsV e.kids = plsV (e.kids.drop j))) (n := _) ⟨0, rfl, fr.kp [0, 1, 7, 8], hM, Nat.zero_le _, (by rw [List.drop_zero])⟩ ?_
 clear fr aC hM; rintro n aC w3 ⟨j, rfl, fr, M4, hj, hr⟩
 revert aC
 refine zsp <| zsq <| zcD (((j : Int) : Int) < ((e.kids.length : Nat) : Int)) (fun c7 => ?_) (fun c7 => ?_)
 refine zsk <| zsq <| zbk 1 <| zsr ?_
 obtain ⟨k, hk⟩ := get_of (l := e.kids) (i := j) (by omega)
 have hkm := List.mem_of_getElem? hk
 refine zpn 2 <| zfe <| zsr <| zpn 3 ?_
 obtain ⟨ad8, had9⟩ := rds_some (M4.ro (hT.sub hs.kids.1)) (cs := k.cells) (i := j) (gm hk)
 intro aC fr
 refine From_ixA (some 14) e.A ad8 e.kids.length 4 (j : Int) fr (by kernel_rfl) had9 (by omega) (by omega) ?_
 intro aC fr
 revert aC
 refine zls ((ad8 : Addr).add (((j : Int)).toNat * 4)) (EC k) (rds_cells (i := j) (M4.ro (hT.sub hs.kids.1)) had9 (gm hk)) ?_
 refine zcl (tplain1_c k (ih k hkm) T w3 (hT.at_ M4) (hs.kids.2 k hkm) (exsI_mem hI.kids hkm)) ?_
 rintro _ w14 ⟨rfl, M15x⟩
 have M15 := M4.cl M15x
 refine zfe <| zcP (!(plV k)) ((!(plV k)) = true) Iff.rfl (fun c16 => ?_) (fun c16 => ?_)
 have cf_ : plV k = false := by simpa using c16
 refine zsp <| zre <| zbr <| zbr <| zo1 (nV j) ?_
 have hF_ : plsV e.kids = false := hr.trans (by rw [plsV_at hk, cf_, Bool.false_and])
 exact ⟨(j : Int), rfl, ⟨fun _ => hF_, fun _ => by omega⟩, M15⟩
 replace c16 : (!(plV k)) = false := Bool.eq_false_iff.2 c16
 have ck_ : plV k = true := by simpa using c16
 refine zsk <| zrg <| zar ((j : Int) + 1) <| zpn 1 <| zfe ?_
 intro aC fr
 exact ⟨e.kids.length - (j + 1), by omega, j + 1, rfl, fr.kp [0, 1, 7, 8], M15, by omega, hr.trans (by rw [plsV_at hk, ck_, Bool.true_and])⟩
 refine zex 0 <| zbh <| zsp <| zre <| zo1 (vI (-1)) ?_
 have hY_ : plsV e.kids = true := hr.trans (by rw [List.drop_eq_nil_of_le (by omega), plsV])
 exact ⟨(-1), rfl, ⟨fun h_ => absurd h_ (by decide), fun h_ => by rw [hY_] at h_; cases h_⟩, M4⟩
theorem tcf_c (e : MEx) (ih : ∀ k, k ∈ e.kids → PlOk Try.prog k) (T : List Res) (w : World) (hT : RO noS w (.all T)) (hs : SubE T e) (hI : exI e) :
    Calls Try.prog 61 #[(vS e.A e.kids.length e.c), (.func (.func 62) #[] #[])] w (Ret fun v w' => v = .bool (!(plsV e.kids)) ∧ Mem noS w w' []) := by
 refine zen 9 [(vS e.A e.kids.length e.c), (.func (.func 62) #[] #[])] Try.func61 ?_
 have hM := Mem.init w
 refine zsp <| zsr <| zpn 2 <| zcl (tix_c e ih T w (hT.at_ hM) hs hI) ?_
 rintro _ w1 ⟨ri, rfl, hri, M2x⟩
 have M2 := hM.cl M2x
 clear M2x hM
 refine zpn 2 <| zfe <| zre <| zo1 (.bool (decide ((ri : Int) ≥ 0))) ?_
 exact ⟨congrArg Value.bool (by rw [Bool.eq_iff_iff, decide_eq_true_eq, hri, Bool.not_eq_true']), M2⟩
theorem tplain_c (e : MEx) (ih : ∀ k, k ∈ e.kids → PlOk Try.prog k) (T : List Res) (w : World) (hT : RO noS w (.all T)) (hs : SubE T e) (hI : exI e) :
    Calls Try.prog 42 #[(.agg (EC e).toArray)] w (Ret fun v w' => v = .bool (plV e) ∧ Mem noS w w' []) := by
 refine zen 15 [(.agg (EC e).toArray)] Try.func42 ?_
 have hM := Mem.init w
 refine zsr <| zbx hM 53 (.agg (EC e).toArray) (EC e) fun b1 w2 hb1 M3 => ?_
 replace M3 := M3.nf
 clear hM
 refine zpn 1 <| zfe <| zsq <| zsr <| zpn 1 <| zld ⟨b1, 0, none⟩ (vI e.op) (blk_cell (M3.get 0 rfl) rfl) <| zfe <| zbk 0 <| zsq <| zsp ?_
 obtain ⟨B4, hB4⟩ : ∃ B : Bool, B = ((e.op : Int) == 6) := ⟨_, rfl⟩
 refine zkp [(1, (pT b1 0)), (4, (vI e.op)), (5, (.bool ((e.op : Int) == 6)))] ?_
 rw [← hB4]
 have iB4 : B4 = true ↔ ((e.op : Int) = 6) := by rw [hB4]; simp only [beq_iff_eq]
 clear hB4
 cases B4
 have c4 : ¬ ((e.op : Int) = 6) := (fun h => Bool.noConfusion (iB4.2 h) : ¬ ((e.op : Int) = 6))
 refine zcF <| zsp ?_
 obtain ⟨B5, hB5⟩ : ∃ B : Bool, B = ((e.op : Int) == 7) := ⟨_, rfl⟩
 refine zkp [(1, (pT b1 0)), (4, (vI e.op)), (5, (.bool ((e.op : Int) == 7)))] ?_
 rw [← hB5]
 have iB5 : B5 = true ↔ ((e.op : Int) = 7) := by rw [hB5]; simp only [beq_iff_eq]
 clear hB5
 cases B5
 have c5 : ¬ ((e.op : Int) = 7) := (fun h => Bool.noConfusion (iB5.2 h) : ¬ ((e.op : Int) = 7))
 refine zcF <| zsp ?_
 obtain ⟨B6, hB6⟩ : ∃ B : Bool, B = ((e.op : Int) == 13) := ⟨_, rfl⟩
 refine zkp [(1, (pT b1 0)), (4, (vI e.op)), (5, (.bool ((e.op : Int) == 13)))] ?_
 rw [← hB6]
 have iB6 : B6 = true ↔ ((e.op : Int) = 13) := by rw [hB6]; simp only [beq_iff_eq]
 clear hB6
 cases B6
 have c6 : ¬ ((e.op : Int) = 13) := (fun h => Bool.noConfusion (iB6.2 h) : ¬ ((e.op : Int) = 13))
 refine zcF <| zsp ?_
 obtain ⟨B7, hB7⟩ : ∃ B : Bool, B = ((e.op : Int) == 10) := ⟨_, rfl⟩
 refine zkp [(1, (pT b1 0)), (4, (vI e.op)), (5, (.bool ((e.op : Int) == 10)))] ?_
 rw [← hB7]
 have iB7 : B7 = true ↔ ((e.op : Int) = 10) := by rw [hB7]; simp only [beq_iff_eq]
 clear hB7
 cases B7
 have c7 : ¬ ((e.op : Int) = 10) := (fun h => Bool.noConfusion (iB7.2 h) : ¬ ((e.op : Int) = 10))
 refine zcF <| zrp <| zcQ e.op 11 (fun c8 => ?_) (fun c8 => ?_)
 refine zsp <| zre <| zbr <| zo1 (.bool false) ?_
 have M9 := M3.od [] 0
 exact ⟨congrArg Value.bool (by rw [plV_eq, decide_eq_true (by omega), Bool.not_true, Bool.false_and] : plV e = false).symm, M9⟩
 refine zsk <| zsr <| zpn 1 <| zld ⟨b1, 3, none⟩ (vS e.A e.kids.length e.c) (blk_cell (M3.get 0 rfl) rfl) <| zcl (tcf_c e ih T w2 (hT.at_ M3) hs hI) ?_
 rintro _ w10 ⟨rfl, M11x⟩
 have M11 := M3.cl M11x
 refine zpn 2 <| zfe <| zre <| zo1 (.bool (!(!(plsV e.kids)))) ?_
 have M12 := M11.od [] 0
 exact ⟨congrArg Value.bool (by rw [plV_eq, decide_eq_false (by omega)]; simp), M12⟩
 have c7 : ((e.op : Int) = 10) := iB7.1 rfl
 refine zcT <| zsk <| zcT <| zsp <| zre <| zbr <| zo1 (.bool false) ?_
 have M13 := M3.od [] 0
 exact ⟨congrArg Value.bool (by rw [plV_eq, decide_eq_true (by omega), Bool.not_true, Bool.false_and] : plV e = false).symm, M13⟩
 have c6 : ((e.op : Int) = 13) := iB6.1 rfl
 refine zcT <| zsk <| zcT <| zsp <| zre <| zbr <| zo1 (.bool false) ?_
 have M14 := M3.od [] 0
 exact ⟨congrArg Value.bool (by rw [plV_eq, decide_eq_true (by omega), Bool.not_true, Bool.false_and] : plV e = false).symm, M14⟩
 have c5 : ((e.op : Int) = 7) := iB5.1 rfl
 refine zcT <| zsk <| zcT <| zsp <| zre <| zbr <| zo1 (.bool false) ?_
 have M15 := M3.od [] 0
 exact ⟨congrArg Value.bool (by rw [plV_eq, decide_eq_true (by omega), Bool.not_true, Bool.false_and] : plV e = false).symm, M15⟩
 have c4 : ((e.op : Int) = 6) := iB4.1 rfl
 refine zcT <| zsk <| zcT <| zsp <| zre <| zbr <| zo1 (.bool false) ?_
 have M16 := M3.od [] 0
 exact ⟨congrArg Value.bool (by rw [plV_eq, decide_eq_true (by omega), Bool.not_true, Bool.false_and] : plV e = false).symm, M16⟩
theorem tplain_all (e : MEx) : PlOk Try.prog e := MEx.ind (fun e ih T w hT hs hI => tplain_c e ih T w hT hs hI) e
theorem tclone_c (e : MEx) (T : List Res) (w : World) (hT : RO noS w (.all T)) (hs : SubE T e) (hI : exI e) (hn : exN e ≤ 1000000) :
    Calls Try.prog 63 #[(vS e.A e.kids.length e.c)] w (Ret fun v w' => ∃ A' c', v = .slice A' e.kids.length c' ∧ Mem noS w w' [.row 53 4 A' e.kids.length c' (e.kids.flatMap MEx.cells)]) := by
 have hkl := exsN_len e.kids
 have hen := exN_eq e
 refine zen 8 [(vS e.A e.kids.length e.c)] Try.func63 ?_
 have hM := Mem.init w
 refine zsp <| zsq <| zsr <| zpn 1 <| zen_ 46 e.A e.kids.length e.c Try.underlying46 <| zfe <| zcP e.A.isNone (e.A.isNone = true) Iff.rfl (fun c1 => ?_) (fun c1 => ?_)
 refine zsp <| zre <| zo1 (vS none 0 0) ?_
 have hk0 : e.kids = [] := by cases hk_ : e.kids with | nil => rfl | cons k r => obtain ⟨ad_, had_⟩ := rds_some (hM.ro (hT.sub hs.kids.1)) (cs := k.cells) (i := 0) (by rw [hk_]; rfl); simp_all
 exact ⟨none, 0, by rw [hk0]; rfl, (hM.cl (Mem.nilrow _ 53 4)).cast (by rw [hk0]; rfl)⟩
 replace c1 : e.A.isNone = false := Bool.eq_false_iff.2 c1
 refine zsk <| zsr ?_
 intro aC fr
 refine From_build0 (by kernel_rfl : coreAt _ 0 = some (some 5, (.buildSlice 46 0 #[]), 46, none)) fr (by kernel_rfl) (by kernel_rfl) (k' := 1) rfl (e := 53) (size := 4) (by kernel_rfl) (by kernel_rfl) hM ?_
 intro b2 w3 hb2 _ M4 _ aC ea fr; clear ea
 replace M4 := M4.nf
 clear hM
 revert aC
 refine zpn 1 ?_
 intro aC fr
 refine zAN 7 (.tmp 5) (.tmp 6) 46 46 fr (e := 53) (size := 4) (bytes := 56) (z := (.agg #[(vI 0), (vI 0), (.string ⟨#[]⟩), (vS none 0 0)])) (A := (sM b2)) (B := e.A) (n := 0) (cap := 0) (m := e.kids.length) (cap' := e.c) (xs := []) (news := (e.kids.flatMap MEx.cells)) M4 0 rfl (rds_rd (f := MEx.cells) (k := 4) (fun _ => rfl) (M4.ro (hT.sub hs.kids.1))) (by rw [flat_len (f := MEx.cells) (k := 4) (fun x_ => rfl)]) (flat_one mex_one) (by omega) (by simp only [maxLen]; omega) e.kids.length (e.kids.flatMap MEx.cells) (by omega) (List.nil_append _) ?_
 intro A9 c10 w11 M12 _ aC ea fr; clear ea
 replace M12 := M12.nf
 revert aC
 refine zpn 1 <| zfe <| zre <| zo1 (vS A9 e.kids.length c10) ?_
 exact ⟨A9, c10, rfl, M12⟩
theorem tcopied_c (e : MEx) (ih : ∀ k, k ∈ e.kids → CpOk Try.prog k) (T : List Res) (w : World) (hT : RO noS w (.all T)) (hs : SubE T e) (hI : exI e) (hn : exN e ≤ 1000000) :
    Calls Try.prog 43 #[(.agg (EC e).toArray)] w (Ret fun v w' => ∃ e', exCan e' = exCan e ∧ v = .agg e'.cells.toArray ∧ Mem noS w w' (exOwn e')) := by
 have hkl := exsN_len e.kids
 have hen := exN_eq e
 refine zen 26 [(.agg (EC e).toArray)] Try.func43 ?_
 have hM := Mem.init w
 refine zsr <| zbx hM 53 (.agg (EC e).toArray) (EC e) fun b1 w2 hb1 M3 => ?_
 replace M3 := M3.nf
 clear hM
 refine zal M3 53 [(vI 0), (vI 0), (.string ⟨#[]⟩), (vS none 0 0)] fun b4 w5 hb4 M6 => ?_
 replace M6 := M6.nf
 refine zfe <| zsr <| zpn 1 <| zld ⟨b1, 3, none⟩ (vS e.A e.kids.length e.c) (blk_cell (M6.get 0 rfl) rfl) <| zcl (tclone_c e T w5 (hT.at_ M6) hs hI hn) ?_
 rintro _ w9 ⟨A7, c8, rfl, M10x⟩
 have M10 := M6.cl M10x
 refine zpn 1 <| zsb (ho := (by simp)) M10 0 3 (vS A7 e.kids.length c8) rfl fun w11 M12 => ?_
 replace M12 := M12.nf
 refine zfe <| zsq <| zsr <| zpn 1 <| zld ⟨b1, 3, none⟩ (vS A7 e.kids.length c8) (blk_cell (M12.get 0 rfl) rfl) <| zpn 2 <| zfe <| zbk 0 ?_
 have M13 : Mem noS w w11 [.blk b1 53 [(vI e.op), (vI e.n), (.string e.nm), (vS A7 e.kids.length c8)], .blk b4 53 [(vI 0), (vI 0), (.string ⟨#[]⟩), (vS none 0 0)], .row 53 4 A7 e.kids.length c8 (e.kids.flatMap MEx.cells), .pk (exsOwn (e.kids.take 0))] := M12.pk1e.cast (by rw [List.take_zero, exsOwn]; rfl)
 intro aC fr
 refine zlp (fun n_ a_ w_ => ∃ (j : Nat) (ks : List MEx), n_ = e.kids.length - j ∧ Fr a_ 26 [(1, (pT b1 0)), (2, (pT b4 0)), (10, (vI ((e.kids.length : Nat) : Int))), (11, (nV j))] ∧ Mem noS w w_ [.blk b1 53 [(vI e.op), (vI e.n), (.string e.nm), (vS A7 e.kids.length c8)], .blk b4 53 [(vI 0), (vI 0), (.string ⟨#[]⟩), (vS none 0 0)], .row 53 4 A7 e.kids.length c8 (ks.flatMap MEx.cells), .pk (exsOwn (ks.take j))] ∧ (j ≤ e.kids.length) ∧ (ks.length = e.kids.length) ∧ (ks.map exCan = e.kids.map exCan) ∧ (ks.drop j = e.kids.drop j)) (n := _) ⟨0, e.kids, rfl, fr.kp [1, 2, 10, 11], M13, Nat.zero_le _, rfl, rfl, rfl⟩ ?_
 clear fr aC M13; rintro n aC w16 ⟨j, ks, rfl, fr, M17, hj, hks, hkc, hkd⟩
 revert aC
 refine zsp <| zsq <| zcD (((j : Int) : Int) < ((e.kids.length : Nat) : Int)) (fun c20 => ?_) (fun c20 => ?_)
 refine zsk <| zsq <| zbk 1 <| zsp ?_
 obtain ⟨k, hk⟩ := get_of (l := e.kids) (i := j) (by omega)
 have hkm := List.mem_of_getElem? hk
 have hkj : ks[j]? = some k := get_drop hkd hk
 obtain ⟨g21, rfl⟩ := row_some (M17.get 2 rfl) (by omega)
 refine zkp [(1, (pT b1 0)), (2, (pT b4 0)), (3, (nV j)), (10, (vI ((e.kids.length : Nat) : Int))), (11, (nV j))] ?_
 intro aC fr
 refine zdtJ (N := 26) (env0 := [(1, (pT b1 0)), (2, (pT b4 0)), (3, (nV j)), (10, (vI ((e.kids.length : Nat) : Int))), (11, (nV j))]) (wr := w16) 9 (specAt [.det (pT b1 3), .det (vS (sM g21) e.kids.length c8), .det (nV j), .det (pT b1 3), .det (vS (sM g21) e.kids.length c8), .det (nV j), .det (.pointer (some ((⟨g21, 0, none⟩ : Addr).add (((j : Int)).toNat * 4)))), .det (.agg (EC k).toArray), Spec.free]) (fun ls vs w_ => match ls 8 with | true => (∃ (e22 : MEx), vs 8 = (.agg (EC e22).toArray) ∧ (exCan e22 = exCan k) ∧ Mem noS w w_ [.blk b1 53 [(vI e.op), (vI e.n), (.string e.nm), (vS (sM g21) e.kids.length c8)], .blk b4 53 [(vI 0), (vI 0), (.string ⟨#[]⟩), (vS none 0 0)], .row 53 4 (sM g21) e.kids.length c8 (ks.flatMap MEx.cells), .pk (exsOwn (ks.take j)), .pk (exOwn e22)]) | false => (Mem noS w w_ [.blk b1 53 [(vI e.op), (vI e.n), (.string e.nm), (vS (sM g21) e.kids.length c8)], .blk b4 53 [(vI 0), (vI 0), (.string ⟨#[]⟩), (vS none 0 0)], .row 53 4 (sM g21) e.kids.length c8 (ks.flatMap MEx.cells), .pk (exsOwn (ks.take j))])) fr (plain_ok (.det (.det (.det (.det (.det (.det (.det (.det (.free .nil)))))))))) (M17.then_ (Mem.drew _)) (la (la (la (la (la (la (la (la (la lz (dPJ fun _ _ _ _ h => h)) (dLJ ⟨b1, 3, none⟩ (vS (sM g21) e.kids.length c8) (fun _ _ _ _ h => h) ?_)) (dPJ fun _ _ _ _ h => h)) (dPJ fun _ _ _ _ h => h)) (dLJ ⟨b1, 3, none⟩ (vS (sM g21) e.kids.length c8) (fun _ _ _ _ h => h) ?_)) (dPJ fun _ _ _ _ h => h)) (dIJ ⟨g21, 0, none⟩ e.kids.length 4 (j : Int) fun _ _ _ _ h => h)) ?_) ?_) ?_
 intro w_ ls vs hJ hi_ hc_ hp
 have hM_ := hJ
 cases fu : ls 8
 simp only [fu] at hM_
 exact (blk_cell (hM_.get 0 rfl) rfl)
 simp only [fu] at hM_
 obtain ⟨_, _, _, hM_⟩ := hM_
 exact (blk_cell (hM_.get 0 rfl) rfl)
 intro w_ ls vs hJ hi_ hc_ hp
 have f8 : ls 8 = false := notyet hc_ hi_ (n := 11) (by kernel_rfl)
 have hM_ := hJ
 simp only [f8] at hM_
 exact (blk_cell (hM_.get 0 rfl) rfl)
 intro aa_ w_ ls vs rest_ hJ hi_ hc_ hp hF
 refine okG (g0 := none) ?_
 replace hF : Fr aa_ 26 [(20, (.pointer (some ((⟨g21, 0, none⟩ : Addr).add (((j : Int)).toNat * 4)))))] := hF.kp [20]
 have f8 : ls 8 = false := notyet hc_ hi_ (n := 11) (by kernel_rfl)
 have hM_ := hJ
 simp only [f8] at hM_
 refine From_loadS (by kernel_rfl : coreAt _ 0 = some (some 21, (.load 53 (.tmp 20)), 53, none)) hF (by kernel_rfl) (by kernel_rfl) (k' := 1) rfl (ad := ((⟨g21, 0, none⟩ : Addr).add (((j : Int)).toNat * 4))) (vs := (EC k)) (by kernel_rfl) (by kernel_rfl) (rds_cells (i := j) (rows_rds (f := MEx.cells) (size := 4) (l := ks) (fun _ => rfl) (by decide) (hM_.get 2 rfl)) rfl (gm hkj)) ?_
 intro a2 ea _
 refine From_end (by kernel_rfl) ?_; exact op_doneJ (d := some 21) (by kernel_rfl) ea rfl hJ
 intro aa_ w_ ls vs rest_ hJ hi_ hc_ hp hF
 refine okG (g0 := none) ?_
 replace hF : Fr aa_ 26 [(21, (.agg (EC k).toArray))] := hF.kp [21]
 have f8 : ls 8 = false := hi_
 have hM_ := hJ
 simp only [f8] at hM_
 refine From_call (by kernel_rfl : coreAt _ 0 = some (some 22, (.call { callee := (.value (.func 43)), args := #[(.tmp 21)], argTypes := #[53] }), 53, none)) hF (by kernel_rfl) (by kernel_rfl) (k' := 1) rfl (f := 43) (vs := [(.agg (EC k).toArray)]) (cap := []) (by kernel_rfl) (by kernel_rfl) (by kernel_rfl) ((ih k hkm T _ (hT.at_ hM_) (hs.kids.2 k hkm) (exsI_mem hI.kids hkm) (by have := exsN_mem hkm; omega))) ?_
 rintro _ w2 ⟨e22p, hc23, rfl, hm2⟩ a2 ea _
 replace hm2 := hm2.pk1
 have hm3 := hM_.call hm2
 refine From_end (by kernel_rfl) ?_; refine op_doneJ (d := some 22) (by kernel_rfl) ea trivial ?_
 show ∃ (e22 : MEx), _
 exact ⟨e22p, rfl, hc23, hm3⟩
 intro aC w28 ls vs hall M29 hv fr
 simp only [show ls 8 = true from hall 8 (by decide)] at M29
 revert aC; refine zkp [(1, (pT b1 0)), (2, (pT b4 0)), (10, (vI ((e.kids.length : Nat) : Int))), (11, (nV j)), (15, (vS (sM g21) e.kids.length c8)), (16, (nV j)), (22, vs 8)] ?_
 obtain ⟨e22, e8_, hc23, M29⟩ := M29
 try rw [e8_]
 clear e8_
 clear hall hv fr aC M17; clear vs ls
 refine zix ⟨g21, 0, none⟩ e.kids.length 4 (j : Int) ?_
 intro aC fr
 refine From_storeS_row (by kernel_rfl : coreAt _ 10 = some (none, (.store 53 (.tmp 23) (.tmp 22)), 0, none)) fr (by kernel_rfl) (by kernel_rfl) (k' := 11) rfl (ad := (⟨g21, 0, none⟩ : Addr)) (j := (((j : Int)).toNat * 4)) (e := 53) (size := 4) (n := e.kids.length) (cap := c8) (vs := (EC e22)) (xs := (ks.flatMap MEx.cells)) (ad' := ((⟨g21, 0, none⟩ : Addr).add (((j : Int)).toNat * 4))) (by kernel_rfl) rfl (by kernel_rfl) (by kernel_rfl) (by simp only [List.mem_cons, List.not_mem_nil, or_false]; intro v hv; rcases hv with rfl | rfl | rfl | rfl <;> rfl) M29 2 rfl (by simp only [List.length_cons, List.length_nil]; omega) ?_
 intro w30 M31 _ aC ea fr; clear ea
 replace M31 := M31.nf
 have M36 : Mem noS w w30 [.blk b1 53 [(vI e.op), (vI e.n), (.string e.nm), (vS (sM g21) e.kids.length c8)], .blk b4 53 [(vI 0), (vI 0), (.string ⟨#[]⟩), (vS none 0 0)], .row 53 4 (sM g21) e.kids.length c8 ((ks.set j e22).flatMap MEx.cells), .pk (exsOwn (ks.take j)), .pk (exOwn e22)] := M31.cast (congrArg (fun z_ => ([.blk b1 53 [(vI e.op), (vI e.n), (.string e.nm), (vS (sM g21) e.kids.length c8)], .blk b4 53 [(vI 0), (vI 0), (.string ⟨#[]⟩), (vS none 0 0)], .row 53 4 (sM g21) e.kids.length c8 z_, .pk (exsOwn (ks.take j)), .pk (exOwn e22)] : List Res)) (setAt_flat (f := MEx.cells) (k := 4) (fun _ => rfl) e22 ks j (by omega)))
 revert aC
 refine zfe <| zrg <| zar ((j : Int) + 1) <| zpn 1 <| zfe ?_
 intro aC fr
 exact ⟨e.kids.length - (j + 1), by omega, j + 1, (ks.set j e22), rfl, fr.kp [1, 2, 10, 11], (M36.pkE (L := [.blk b1 53 [(vI e.op), (vI e.n), (.string e.nm), (vS (sM g21) e.kids.length c8)], .blk b4 53 [(vI 0), (vI 0), (.string ⟨#[]⟩), (vS none 0 0)], .row 53 4 (sM g21) e.kids.length c8 ((ks.set j e22).flatMap MEx.cells)])).cast (by rw [← exsOwn_set (by omega)]; rfl), by omega, by rw [List.length_set]; exact hks, cans_set hkc hk hc23, drop_set hkd⟩
 refine zex 0 <| zbh <| zsr <| zls ⟨b1, 0, none⟩ [(vI e.op), (vI e.n), (.string e.nm), (vS A7 e.kids.length c8)] (blk_cells (M17.get 0 rfl)) <| zss M17 1 [(vI e.op), (vI e.n), (.string e.nm), (vS A7 e.kids.length c8)] rfl fun w39 M40 => ?_
 replace M40 := M40.nf
 refine zfe <| zre ?_
 intro aC fr
 refine outC (ad := ⟨b4, 0, none⟩) (vs := [(vI e.op), (vI e.n), (.string e.nm), (vS A7 e.kids.length c8)]) fr rfl (by kernel_rfl) (by kernel_rfl) (blk_cells (M40.get 1 rfl)) ?_
 refine ⟨_, rfl, ?_⟩
 have M43 := M40.od [3, 3] 2
 have ht_ : ks.take j = ks := List.take_of_length_le (by omega)
 rw [ht_] at M43
 refine ⟨⟨e.op, e.n, e.nm, A7, c8, ks⟩, ?_, ?_, ?_⟩
 · rw [exCan_eq (e := e), exCan, exsCan_map, exsCan_map, hkc]
 · show _ = Value.agg #[_, _, _, Value.slice _ ks.length _]; rw [hks]
 · rw [exOwn_eq]; show Mem noS w _ (.row _ _ _ ks.length _ _ :: _); rw [hks]; exact (M43.perm (List.Perm.swap _ _ [])).unpack.perm (List.perm_append_comm (l₂ := [_]))
theorem tcopied_all (e : MEx) : CpOk Try.prog e := MEx.ind (fun e ih T w hT hs hI hn => tcopied_c e ih T w hT hs hI hn) e
end Go.Proofs.Ytdcgcjibgihbbaa
namespace Go.Proofs.Ytdcgcjibgihbbaa
open Go.Mor
set_option maxHeartbeats 1000000 in
theorem tsmall_c (m : TMod) (w : World) (hR : RO noS w (.all m.parts)) (hI : m.In) :
    Calls Try.prog 18 #[(.agg (MC m).toArray)] w (Ret fun v w' => ∃ (fs2 : List TFn) (A : Option Addr) (c : Nat), fs2.map fnCan = (smallT m).map fnCan ∧ v = .slice A fs2.length c ∧ Mem noS w w' [.row 45 5 A fs2.length c (fs2.flatMap TFn.cells), .pk (fs2.flatMap fnOwn)]) := by
 have hnf := hI.nf
 have hnd := hI.nd
 refine zen 71 [(.agg (MC m).toArray)] Try.func18 ?_
 have hM := Mem.init w
 refine zsr <| zbx hM 25 (.agg (MC m).toArray) (MC m) fun b1 w2 hb1 M3 => ?_
 replace M3 := M3.nf
 clear hM
 refine zpn 1 <| zfe <| zsq <| zsr <| zls ⟨b1, 0, none⟩ (MC m) (blk_cells (M3.get 0 rfl)) <| zcl (tvalid_c m w2 (hR.at_ M3) hI) ?_
 rintro _ w4 ⟨rfl, M5x⟩
 have M5 := M3.cl M5x
 refine zpn 1 <| zfe <| zcP (((validT m) : Int) != 0) (((validT m) : Int) ≠ 0) (by simp only [bne_iff_ne]) (fun c6 => ?_) (fun c6 => ?_)
 refine zsr ?_
 have hv0 : ¬ validT m = 0 := c6
 refine zpn 1 <| zfe <| zre <| zo1 (vS none 0 0) ?_
 have M7 := M5.od [] 0
 exact ⟨[], none, 0, by unfold smallT; rw [if_neg hv0], rfl, (M7.cl (Mem.nilrow _ 45 5)).pk1e.cast (by simp)⟩
 refine zsk <| zsr ?_
 have hv0 : validT m = 0 := by have h_ := c6; omega
 obtain ⟨hnl, hfT, hdT⟩ := validT_ok hv0
 refine zpn 1 <| zfe <| zsq <| zsr <| zpn 1 <| zld ⟨b1, 1, none⟩ (vS m.fA m.fns.length m.fc) (blk_cell (M5.get 0 rfl) rfl) <| zpn 2 <| zfe <| zbk 0 ?_
 have M8 : Mem noS w w4 [.blk b1 25 (MC m), .row 45 5 none 0 0 (([] : List TFn).flatMap TFn.cells), .pk (([] : List TFn).flatMap fnOwn)] := (M5.cl (Mem.nilrow _ 45 5)).pk1e.cast (by simp)
 intro aC fr
 refine zlp (fun n_ a_ w_ => ∃ (j : Nat) (oA : Option Addr) (oc : Nat) (fs2 : List TFn), n_ = m.fns.length - j ∧ Fr a_ 71 [(3, (vS oA fs2.length oc)), (10, (vS m.fA m.fns.length m.fc)), (11, (vI ((m.fns.length : Nat) : Int))), (12, (nV j))] ∧ Mem noS w w_ [.blk b1 25 (MC m), .row 45 5 oA fs2.length oc (fs2.flatMap TFn.cells), .pk (fs2.flatMap fnOwn)] ∧ (j ≤ m.fns.length) ∧ (fs2.map fnCan = (smL m.fns j).map fnCan) ∧ (fs2.length ≤ 1000000)) (n := _) ⟨0, none, 0, [], rfl, fr.kp [3, 10, 11, 12], M8, Nat.zero_le _, rfl, by decide⟩ ?_
 clear fr aC M8; rintro n aC w11 ⟨j, oA, oc, fs2, rfl, fr, M12, hj, hfs, hfl2⟩
 revert aC
 refine zsp <| zsq <| zcD (((j : Int) : Int) < ((m.fns.length : Nat) : Int)) (fun c15 => ?_) (fun c15 => ?_)
 refine zsk <| zsq <| zbk 1 <| zsr ?_
 obtain ⟨f, hf⟩ := get_of (l := m.fns) (i := j) (by omega)
 have hfm := List.mem_of_getElem? hf
 have hfI := hI.fns f hfm
 have hfl3 : fs2.length ≤ j := by have h_ := congrArg List.length hfs; rw [List.length_map, List.length_map] at h_; have := smL_len (l := m.fns) (j := j); omega
 have hfV := (hfT j f (by omega) hf).1
 have hsf := sub_fn hfm
 have hTm := hR.m_tree
 have hfN := stsN_le_fns hfm
 have hpp := hI.parts
 have hnf := hI.nf
 obtain ⟨ad16, had17⟩ := rds_some (M12.ro hR.m_fns) (cs := f.cells) (i := j) (by rw [List.getElem?_map, hf]; rfl)
 intro aC fr
 refine From_ixA (some 14) m.fA ad16 m.fns.length 5 (j : Int) fr (by kernel_rfl) had17 (by omega) (by omega) ?_
 intro aC fr
 revert aC
 refine zls ((ad16 : Addr).add (((j : Int)).toNat * 5)) (FC f) (rds_cells (i := j) (M12.ro hR.m_fns) had17 (by rw [List.getElem?_map, hf]; rfl)) ?_
 refine zal M12 45 [(.string ⟨#[]⟩), (.bool false), (vI 0), (vI 0), (vS none 0 0)] fun b22 w23 hb22 M24 => ?_
 replace M24 := M24.nf
 refine zss M24 3 (FC f) rfl fun w25 M26 => ?_
 replace M26 := M26.nf
 refine zfe <| zsq <| zsr <| zpn 1 <| zld ⟨b22, 4, none⟩ (vS f.A f.body.length f.c) (blk_cell (M26.get 3 rfl) rfl) <| zpn 3 ?_
 obtain ⟨B27, hB27⟩ : ∃ B : Bool, B = ((((f.body.length : Nat) : Int) : Int) != 1) := ⟨_, rfl⟩
 refine zkp [(3, (vS oA fs2.length oc)), (5, (pT b22 0)), (10, (vS m.fA m.fns.length m.fc)), (11, (vI ((m.fns.length : Nat) : Int))), (12, (nV j)), (20, (.bool ((((f.body.length : Nat) : Int) : Int) != 1)))] ?_
 rw [← hB27]
 have iB27 : B27 = true ↔ ((((f.body.length : Nat) : Int) : Int) ≠ 1) := by rw [hB27]; simp only [bne_iff_ne]
 clear hB27
 intro aC fr
 refine zpk 1 6 [21] fr (news := [(21, (cond (!B27) (pT b22 4) undef))]) (by cases B27 <;> kernel_rfl) ?_
 intro aC fr
 cases B27
 have c27 : ¬ ((((f.body.length : Nat) : Int) : Int) ≠ 1) := (fun h => Bool.noConfusion (iB27.2 h) : ¬ ((((f.body.length : Nat) : Int) : Int) ≠ 1))
 have hbl : f.body.length = 1 := by have h_ := c27; omega
 obtain ⟨x, hb⟩ : ∃ x, f.body = [x] := List.length_eq_one_iff.1 hbl
 have hxm : x ∈ f.body := by rw [hb]; exact List.mem_cons_self ..
 have hsx := hsf.2 x hxm
 have hxI := stsI_mem hfI.body hxm
 revert aC
 refine zld ⟨b22, 4, none⟩ (vS f.A f.body.length f.c) (blk_cell (M26.get 3 rfl) rfl) ?_
 obtain ⟨ad32, had33⟩ := rds_some (M26.ro (hTm.sub hsf.1)) (cs := x.cells) (i := 0) (by rw [List.getElem?_map, hb]; rfl)
 intro aC fr
 refine From_ixA (some 23) f.A ad32 f.body.length 5 0 fr (by kernel_rfl) had33 (by omega) (by omega) ?_
 intro aC fr
 revert aC
 refine zpn 1 ?_
 refine zld ((ad32 : Addr).add ((0 : Int).toNat * 5)) (vI x.op) (rds_cells (i := 0) (M26.ro (hTm.sub hsf.1)) had33 (by rw [List.getElem?_map, hb]; rfl) 0 _ rfl) ?_
 refine zpn 3 ?_
 obtain ⟨B38, hB38⟩ : ∃ B : Bool, B = ((x.op : Int) != 9) := ⟨_, rfl⟩
 refine zkp [(3, (vS oA fs2.length oc)), (5, (pT b22 0)), (10, (vS m.fA m.fns.length m.fc)), (11, (vI ((m.fns.length : Nat) : Int))), (12, (nV j)), (28, (.bool ((x.op : Int) != 9)))] ?_
 rw [← hB38]
 have iB38 : B38 = true ↔ ((x.op : Int) ≠ 9) := by rw [hB38]; simp only [bne_iff_ne]
 clear hB38
 intro aC fr
 refine zpk 1 14 [29] fr (news := [(29, (cond (!B38) (pT b22 4) undef))]) (by cases B38 <;> kernel_rfl) ?_
 intro aC fr
 cases B38
 have c38 : ¬ ((x.op : Int) ≠ 9) := (fun h => Bool.noConfusion (iB38.2 h) : ¬ ((x.op : Int) ≠ 9))
 have h9 : x.op = 9 := by have h_ := c38; omega
 revert aC
 refine zld ⟨b22, 4, none⟩ (vS f.A f.body.length f.c) (blk_cell (M26.get 3 rfl) rfl) ?_
 obtain ⟨ad43, had44⟩ := rds_some (M26.ro (hTm.sub hsf.1)) (cs := x.cells) (i := 0) (by rw [List.getElem?_map, hb]; rfl)
 intro aC fr
 refine From_ixA (some 31) f.A ad43 f.body.length 5 0 fr (by kernel_rfl) had44 (by omega) (by omega) ?_
 intro aC fr
 revert aC
 refine zpn 1 ?_
 refine zld (((ad43 : Addr).add ((0 : Int).toNat * 5)).add 2) (vS x.eA x.exprs.length x.ec) (rds_cells (i := 0) (M26.ro (hTm.sub hsf.1)) had44 (by rw [List.getElem?_map, hb]; rfl) 2 _ rfl) ?_
 refine zpn 4 ?_
 obtain ⟨B49, hB49⟩ : ∃ B : Bool, B = ((((x.exprs.length : Nat) : Int) : Int) != 1) := ⟨_, rfl⟩
 refine zkp [(3, (vS oA fs2.length oc)), (5, (pT b22 0)), (10, (vS m.fA m.fns.length m.fc)), (11, (vI ((m.fns.length : Nat) : Int))), (12, (nV j)), (37, (.bool ((((x.exprs.length : Nat) : Int) : Int) != 1)))] ?_
 rw [← hB49]
 have iB49 : B49 = true ↔ ((((x.exprs.length : Nat) : Int) : Int) ≠ 1) := by rw [hB49]; simp only [bne_iff_ne]
 clear hB49
 cases B49
 have c49 : ¬ ((((x.exprs.length : Nat) : Int) : Int) ≠ 1) := (fun h => Bool.noConfusion (iB49.2 h) : ¬ ((((x.exprs.length : Nat) : Int) : Int) ≠ 1))
 have hel : x.exprs.length = 1 := by have h_ := c49; omega
 obtain ⟨e, he⟩ : ∃ e, x.exprs = [e] := List.length_eq_one_iff.1 hel
 have hem : e ∈ x.exprs := by rw [he]; exact List.mem_cons_self ..
 have heI := exsI_mem hxI.exprs hem
 refine zls ⟨b22, 0, none⟩ (FC f) (blk_cells (M26.get 3 rfl)) <| zcl (tsize_c f (m.fns.flatMap TFn.parts) w25 (hTm.at_ M26) hsf hfI (by omega)) ?_
 rintro _ w50 ⟨rfl, M51x⟩
 have M51 := M26.cl M51x
 refine zpn 3 ?_
 obtain ⟨B52, hB52⟩ : ∃ B : Bool, B = decide (((stsN f.body : Int) : Int) > 12) := ⟨_, rfl⟩
 refine zkp [(3, (vS oA fs2.length oc)), (5, (pT b22 0)), (10, (vS m.fA m.fns.length m.fc)), (11, (vI ((m.fns.length : Nat) : Int))), (12, (nV j)), (42, (.bool (decide (((stsN f.body : Int) : Int) > 12))))] ?_
 rw [← hB52]
 have iB52 : B52 = true ↔ (((stsN f.body : Int) : Int) > 12) := by rw [hB52]; simp only [decide_eq_true_eq]
 clear hB52
 intro aC fr
 refine zpk 1 28 [43] fr (news := [(43, (cond (!B52) (pT b22 4) undef))]) (by cases B52 <;> kernel_rfl) ?_
 intro aC fr
 cases B52
 have c52 : ¬ (((stsN f.body : Int) : Int) > 12) := (fun h => Bool.noConfusion (iB52.2 h) : ¬ (((stsN f.body : Int) : Int) > 12))
 have h12 : stsN f.body ≤ 12 := by have h_ := c52; omega
 revert aC
 refine zld ⟨b22, 4, none⟩ (vS f.A f.body.length f.c) (blk_cell (M51.get 3 rfl) rfl) ?_
 obtain ⟨ad57, had58⟩ := rds_some (M51.ro (hTm.sub hsf.1)) (cs := x.cells) (i := 0) (by rw [List.getElem?_map, hb]; rfl)
 intro aC fr
 refine From_ixA (some 45) f.A ad57 f.body.length 5 0 fr (by kernel_rfl) had58 (by omega) (by omega) ?_
 intro aC fr
 revert aC
 refine zpn 1 ?_
 refine zld (((ad57 : Addr).add ((0 : Int).toNat * 5)).add 2) (vS x.eA x.exprs.length x.ec) (rds_cells (i := 0) (M51.ro (hTm.sub hsf.1)) had58 (by rw [List.getElem?_map, hb]; rfl) 2 _ rfl) ?_
 obtain ⟨ad63, had64⟩ := rds_some (M51.ro (hTm.sub hsx.exprs.1)) (cs := e.cells) (i := 0) (by rw [List.getElem?_map, he]; rfl)
 intro aC fr
 refine From_ixA (some 48) x.eA ad63 x.exprs.length 4 0 fr (by kernel_rfl) had64 (by omega) (by omega) ?_
 intro aC fr
 revert aC
 refine zls ((ad63 : Addr).add ((0 : Int).toNat * 4)) (EC e) (rds_cells (i := 0) (M51.ro (hTm.sub hsx.exprs.1)) had64 (by rw [List.getElem?_map, he]; rfl)) ?_
 refine zcl (tplain_all e (m.fns.flatMap TFn.parts) w50 (hTm.at_ M51) (hsx.exprs.2 e hem) heI) ?_
 rintro _ w69 ⟨rfl, M70x⟩
 have M70 := M51.cl M70x
 refine zpn 2 <| zfe <| zcP (!(plV e)) (¬ ((plV e) = true)) (by simp only [notT]) (fun c71 => ?_) (fun c71 => ?_)
 replace c71 : (plV e) = false := Bool.eq_false_iff.2 c71
 refine zex 1 <| zbh <| zrg <| zar ((j : Int) + 1) <| zpn 1 <| zfe ?_
 intro aC fr
 exact ⟨m.fns.length - (j + 1), by omega, j + 1, oA, oc, fs2, rfl, fr.kp [3, 10, 11, 12], (M70.tk 3), by omega, by rw [smL_no hf (smQ_5 hb he (by have h_ := c71; simp_all))]; exact hfs, hfl2⟩
 replace c71 : (plV e) = true := Classical.not_not.1 c71
 have hpl : plV e = true := by have h_ := c71; simp_all
 refine zsk <| zsr ?_
 have hxV : stV f.lo 0 0 x = true := by unfold fnV at hfV; rw [Bool.and_eq_true] at hfV; exact stsV_mem hfV.2 x hxm
 have hxq : sfQ f.lo 0 x.op x.n x.exprs.length x.body.length x.els.length := by rw [stV_eq, Bool.and_eq_true, decide_eq_true_eq] at hxV; exact hxV.1.2
 obtain ⟨_, hxb, hxl, hxn⟩ := (sfQ_9 h9).1 hxq
 have heN : exN e ≤ 1000000 := by have h1_ := exsN_mem hem; have h2_ := stN_eq x; have h3_ := stsN_mem hxm; omega
 refine zpn 1 <| zld ⟨b22, 4, none⟩ (vS f.A f.body.length f.c) (blk_cell (M70.get 3 rfl) rfl) ?_
 obtain ⟨ad74, had75⟩ := rds_some (M70.ro (hTm.sub hsf.1)) (cs := x.cells) (i := 0) (by rw [List.getElem?_map, hb]; rfl)
 intro aC fr
 refine From_ixA (some 55) f.A ad74 f.body.length 5 0 fr (by kernel_rfl) had75 (by omega) (by omega) ?_
 intro aC fr
 revert aC
 refine zkp [(3, (vS oA fs2.length oc)), (5, (pT b22 0)), (10, (vS m.fA m.fns.length m.fc)), (11, (vI ((m.fns.length : Nat) : Int))), (12, (nV j)), (55, (.pointer (some ((ad74 : Addr).add ((0 : Int).toNat * 5)))))] <| zpn 1 ?_
 refine zld (((ad74 : Addr).add ((0 : Int).toNat * 5)).add 2) (vS x.eA x.exprs.length x.ec) (rds_cells (i := 0) (M70.ro (hTm.sub hsf.1)) had75 (by rw [List.getElem?_map, hb]; rfl) 2 _ rfl) ?_
 obtain ⟨ad80, had81⟩ := rds_some (M70.ro (hTm.sub hsx.exprs.1)) (cs := e.cells) (i := 0) (by rw [List.getElem?_map, he]; rfl)
 intro aC fr
 refine From_ixA (some 58) x.eA ad80 x.exprs.length 4 0 fr (by kernel_rfl) had81 (by omega) (by omega) ?_
 intro aC fr
 revert aC
 refine zls ((ad80 : Addr).add ((0 : Int).toNat * 4)) (EC e) (rds_cells (i := 0) (M70.ro (hTm.sub hsx.exprs.1)) had81 (by rw [List.getElem?_map, he]; rfl)) ?_
 refine zcl (tcopied_all e (m.fns.flatMap TFn.parts) w69 (hTm.at_ M70) (hsx.exprs.2 e hem) heI heN) ?_
 rintro _ w88 ⟨e86, hc87, rfl, M89x⟩
 have M89 := M70.cl M89x.pk1
 intro aC fr
 refine zBs 61 46 1 #[(0, (.tmp 60))] 46 fr (e := 53) (size := 4) (zs := [(vI 0), (vI 0), (.string ⟨#[]⟩), (vS none 0 0)]) (vs := [(0, (.agg (EC e86).toArray))]) (cs := (EC e86)) M89 ?_
 intro b90 w91 hb90 _ M92 _ aC ea fr; clear ea
 replace M92 := M92.nf
 revert aC
 refine zpn 1 ?_
 intro aC fr
 refine zBs 63 43 1 #[(0, (.tmp 62))] 43 fr (e := 48) (size := 5) (zs := [(vI 0), (vI 0), (vS none 0 0), (vS none 0 0), (vS none 0 0)]) (vs := [(0, (.agg #[(vI 9), (vI 0), (vS (sM b90) 1 1), (vS none 0 0), (vS none 0 0)]))]) (cs := [(vI 9), (vI 0), (vS (sM b90) 1 1), (vS none 0 0), (vS none 0 0)]) M92 ?_
 intro b97 w98 hb97 _ M99 _ aC ea fr; clear ea
 replace M99 := M99.nf
 revert aC
 refine zpn 1 <| zsb (ho := (by simp)) M99 3 4 (vS (sM b97) 1 1) rfl fun w104 M105 => ?_
 replace M105 := M105.nf
 refine zfe <| zrg ?_
 have hfs3 : (fs2 ++ [(fnS f e86 (sM b90) 1 (sM b97) 1)]).map fnCan = (smL m.fns (j + 1)).map fnCan := by rw [smL_yes hf (smQ_y hb h9 he h12 hpl), List.map_append, List.map_append, hfs]; exact congrArg (fun z_ => _ ++ [z_]) (fnS_can hb h9 he hxn (List.eq_nil_of_length_eq_zero hxb) (List.eq_nil_of_length_eq_zero hxl) hc87)
 have M106 := M105.od [6, 6, 6, 5, 5, 6, 6] 7
 have M107 : Mem noS w w104 [.blk b1 25 (MC m), .blk b22 45 [(.string f.nm), (.bool f.wk), (vI f.pa), (vI f.lo), (vS (sM b97) 1 1)], .row 45 5 oA fs2.length oc (fs2.flatMap TFn.cells), .pk (fs2.flatMap fnOwn ++ fnOwn (fnS f e86 (sM b90) 1 (sM b97) 1))] := M106.fnE (L := [.blk b1 25 (MC m), .blk b22 45 [(.string f.nm), (.bool f.wk), (vI f.pa), (vI f.lo), (vS (sM b97) 1 1)], .row 45 5 oA fs2.length oc (fs2.flatMap TFn.cells)])
 refine zpn 1 <| zls ⟨b22, 0, none⟩ [(.string f.nm), (.bool f.wk), (vI f.pa), (vI f.lo), (vS (sM b97) 1 1)] (blk_cells (M107.get 1 rfl)) <| zkp [(10, (vS m.fA m.fns.length m.fc)), (11, (vI ((m.fns.length : Nat) : Int))), (12, (nV j)), (65, (vS oA fs2.length oc)), (66, (.agg #[(.string f.nm), (.bool f.wk), (vI f.pa), (vI f.lo), (vS (sM b97) 1 1)]))] ?_
 intro aC fr
 refine zBs 67 22 1 #[(0, (.tmp 66))] 22 fr (e := 45) (size := 5) (zs := [(.string ⟨#[]⟩), (.bool false), (vI 0), (vI 0), (vS none 0 0)]) (vs := [(0, (.agg #[(.string f.nm), (.bool f.wk), (vI f.pa), (vI f.lo), (vS (sM b97) 1 1)]))]) (cs := [(.string f.nm), (.bool f.wk), (vI f.pa), (vI f.lo), (vS (sM b97) 1 1)]) M107 ?_
 intro b108 w109 hb108 _ M110 _ aC ea fr; clear ea
 replace M110 := M110.nf
 refine zAN 68 (.tmp 65) (.tmp 67) 22 22 fr (e := 45) (size := 5) (bytes := 64) (z := (.agg #[(.string ⟨#[]⟩), (.bool false), (vI 0), (vI 0), (vS none 0 0)])) (A := oA) (B := (sM b108)) (n := fs2.length) (cap := oc) (m := 1) (cap' := 1) (xs := (fs2.flatMap TFn.cells)) (news := [(.string f.nm), (.bool f.wk), (vI f.pa), (vI f.lo), (vS (sM b97) 1 1)]) M110 2 rfl (row_rd (M110.get 4 rfl)) rfl (by simp [Value.oneCell']) (by omega) (by simp only [maxLen]; omega) ((fs2 ++ [(fnS f e86 (sM b90) 1 (sM b97) 1)]).length) ((fs2 ++ [(fnS f e86 (sM b90) 1 (sM b97) 1)]).flatMap TFn.cells) (by simp) (by rw [List.flatMap_append]; rfl) ?_
 intro A115 c116 w117 M118 _ aC ea fr; clear ea
 replace M118 := M118.nf
 have M121 := M118.od [3, 3, 3, 3] 4
 revert aC
 refine zpn 1 <| zfe <| zrg ?_
 have M122 := M121.od [3, 3, 2] 3
 have M123 : Mem noS w w117 [.blk b1 25 (MC m), .row 45 5 A115 ((fs2 ++ [(fnS f e86 (sM b90) 1 (sM b97) 1)]).length) c116 ((fs2 ++ [(fnS f e86 (sM b90) 1 (sM b97) 1)]).flatMap TFn.cells), .pk ((fs2 ++ [(fnS f e86 (sM b90) 1 (sM b97) 1)]).flatMap fnOwn)] := M122.cast (by rw [List.flatMap_append]; simp)
 refine zar ((j : Int) + 1) <| zpn 1 <| zfe ?_
 intro aC fr
 exact ⟨m.fns.length - (j + 1), by omega, j + 1, A115, c116, (fs2 ++ [(fnS f e86 (sM b90) 1 (sM b97) 1)]), rfl, fr.kp [3, 10, 11, 12], M123, by omega, hfs3, by rw [List.length_append]; simp only [List.length_cons, List.length_nil]; omega⟩
 have c52 : (((stsN f.body : Int) : Int) > 12) := iB52.1 rfl
 revert aC
 refine zpn 9 <| zfe <| zcT <| zex 1 <| zbh <| zrg <| zar ((j : Int) + 1) <| zpn 1 <| zfe ?_
 intro aC fr
 exact ⟨m.fns.length - (j + 1), by omega, j + 1, oA, oc, fs2, rfl, fr.kp [3, 10, 11, 12], (M51.tk 3), by omega, by rw [smL_no hf (smQ_4 (by have h_ := c52; omega))]; exact hfs, hfl2⟩
 have c49 : ((((x.exprs.length : Nat) : Int) : Int) ≠ 1) := iB49.1 rfl
 refine zpn 15 <| zfe <| zcT <| zex 1 <| zbh <| zrg <| zar ((j : Int) + 1) <| zpn 1 <| zfe ?_
 intro aC fr
 exact ⟨m.fns.length - (j + 1), by omega, j + 1, oA, oc, fs2, rfl, fr.kp [3, 10, 11, 12], (M26.tk 3), by omega, by rw [smL_no hf (smQ_3 hb (by have h_ := c49; omega))]; exact hfs, hfl2⟩
 have c38 : ((x.op : Int) ≠ 9) := iB38.1 rfl
 revert aC
 refine zpn 23 <| zfe <| zcT <| zex 1 <| zbh <| zrg <| zar ((j : Int) + 1) <| zpn 1 <| zfe ?_
 intro aC fr
 exact ⟨m.fns.length - (j + 1), by omega, j + 1, oA, oc, fs2, rfl, fr.kp [3, 10, 11, 12], (M26.tk 3), by omega, by rw [smL_no hf (smQ_2 hb (by have h_ := c38; omega))]; exact hfs, hfl2⟩
 have c27 : ((((f.body.length : Nat) : Int) : Int) ≠ 1) := iB27.1 rfl
 revert aC
 refine zpn 31 <| zfe <| zcT <| zex 1 <| zbh <| zrg <| zar ((j : Int) + 1) <| zpn 1 <| zfe ?_
 intro aC fr
 exact ⟨m.fns.length - (j + 1), by omega, j + 1, oA, oc, fs2, rfl, fr.kp [3, 10, 11, 12], (M26.tk 3), by omega, by rw [smL_no hf (smQ_1 (by have h_ := c27; omega))]; exact hfs, hfl2⟩
 refine zex 0 <| zbh <| zsp <| zre <| zo1 (vS oA fs2.length oc) ?_
 have M134 := M12.od [2, 2] 2
 exact ⟨fs2, oA, oc, by unfold smallT; rw [if_pos hv0, hfs]; congr 2; omega, rfl, M134⟩
end Go.Proofs.Ytdcgcjibgihbbaa
