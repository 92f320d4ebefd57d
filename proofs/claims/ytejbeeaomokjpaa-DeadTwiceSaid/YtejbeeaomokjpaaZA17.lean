/-
  Texts of the proof, part 17.
-/
import Derived.Test.YtejbeeaomokjpaaZA16
set_option maxRecDepth 10000
namespace Go.Proofs.Ytejbeeaomokjpaa
open Go.Mor
theorem rshape_c (i : FIns) (w : World) (hi : i.Ok) :
    Calls Try.prog 39 #[(iG i)] w (Ret fun v w' => v = .bool (decide (shapeQ i)) ∧ Mem noS w w' []) := by
 have hnl : i.name.size ≤ 281474976710656 := hi.name
 have hal : i.args.length ≤ 281474976710656 := hi.len
 refine zen 143 [(iG i)] Try.func39 ?_
 have hM := Mem.init w
 refine zsr <| zbx hM 39 (iG i) (iV i) fun b1 w2 hb1 M3 => ?_
 replace M3 := M3.nf
 clear hM
 refine zpn 1 <| zfe <| zsp <| zsr <| zpn 1 <| zld ⟨b1, 2, none⟩ (.int .i64 i.n) (blk_cell (M3.get 0 rfl) rfl) <| zpn 3 <| zfe <| zsq ?_
 intro aC fr
 refine W_cut (fun a_ w_ => ∃ (lo : Int) (mo : Int) (bn : Bool) (bm : Bool), Fr a_ 143 [(1, (pT b1 0)), (3, (.int .i64 lo)), (4, (.int .i64 mo)), (5, (.bool bn)), (6, (.bool bm))] ∧ Mem noS w w_ [.blk b1 39 (iV i)] ∧ (shapeQ i ↔ caseQ i lo mo bn bm)) ?_ ?_
 clear fr aC M3; rintro aC w6 ⟨lo, mo, bn, bm, fr, M7, hsh⟩
 revert aC
 refine zsq <| zsr <| zpn 1 <| zld ⟨b1, 0, none⟩ (.int .i64 i.op) (blk_cell (M7.get 0 rfl) rfl) <| zcl (rmakes_c i.op w6) ?_
 rintro _ w10 ⟨rfl, M11x⟩
 have M11 := M7.cl M11x
 refine zpn 2 ?_
 obtain ⟨B12, hB12⟩ : ∃ B : Bool, B = (!(decide (makesQ i.op))) := ⟨_, rfl⟩
 refine zkp [(1, (pT b1 0)), (3, (.int .i64 lo)), (4, (.int .i64 mo)), (5, (.bool bn)), (6, (.bool bm)), (107, (.bool (!(decide (makesQ i.op)))))] ?_
 rw [← hB12]
 have iB12 : B12 = true ↔ (¬ (makesQ i.op)) := by rw [hB12]; simp only [notT, decide_eq_true_eq]
 clear hB12
 intro aC fr
 refine zpk 1 6 [108] fr (news := [(108, (cond B12 (pT b1 1) undef))]) (by cases B12 <;> kernel_rfl) ?_
 intro aC fr
 refine From_either (B := B12) (d := (some 109)) (.int .i64 i.dst) fr (by cases B12 <;> kernel_rfl) (fun hB hh => ?_) ?_
 cases B12 <;> first | (exact absurd hB (by decide)) | skip
 have c12 : (¬ (makesQ i.op)) := iB12.1 rfl
 exact From_ld (some 109) ⟨b1, 1, none⟩ fr (by kernel_rfl) (.int .i64 i.dst) (blk_cell (M11.get 0 rfl) rfl) hh
 intro aC fr
 refine zpk 2 9 [111] fr (news := [(111, (.bool (B12 && ((i.dst : Int) != (-1)))))]) (by cases B12 <;> kernel_rfl) ?_
 intro aC fr
 revert aC
 refine zfe <| zcP (B12 && ((i.dst : Int) != (-1))) ((¬ (makesQ i.op)) ∧ ((i.dst : Int) ≠ (-1))) (by simp only [Bool.and_eq_true, bne_iff_ne, iB12]) (fun c21 => ?_) (fun c21 => ?_)
 refine zsp <| zre <| zo1 (.bool false) ?_
 have hR : false = true ↔ False := by simp
 have M22 := M11.od [] 0
 exact ⟨bool_dec hR (⟨False.elim, fun h => rshape_no c21 h⟩), M22⟩
 refine zsk <| zsr ?_
 intro aC fr
 refine zpk 4 4 [112, 113, 114, 115] fr (news := [(112, (.bool bn)), (113, (.bool bn)), (114, (cond bn (.bool bm) undef)), (115, (cond bn (pT b1 3) undef))]) (by cases bn <;> kernel_rfl) ?_
 intro aC fr
 refine From_either (B := bn) (d := (some 116)) (.string i.name) fr (by cases bn <;> kernel_rfl) (fun hB hh => ?_) ?_
 cases bn <;> first | (exact absurd hB (by decide)) | skip
 exact From_ld (some 116) ⟨b1, 3, none⟩ fr (by kernel_rfl) (.string i.name) (blk_cell (M11.get 0 rfl) rfl) hh
 intro aC fr
 refine zpk 4 9 [119, 120] fr (news := [(119, (.bool (bn && (bm == (!((i.name : ByteArray).toList == (⟨#[]⟩ : ByteArray).toList)))))), (120, (.bool (bn && (bm == (!((i.name : ByteArray).toList == (⟨#[]⟩ : ByteArray).toList))))))]) (by cases bn <;> kernel_rfl) ?_
 intro aC fr
 obtain ⟨B31, hB31⟩ : ∃ B : Bool, B = (bn && (bm == (!((i.name : ByteArray).toList == (⟨#[]⟩ : ByteArray).toList)))) := ⟨_, rfl⟩
 revert aC
 refine zkp [(1, (pT b1 0)), (3, (.int .i64 lo)), (4, (.int .i64 mo)), (6, (.bool bm)), (120, (.bool (bn && (bm == (!((i.name : ByteArray).toList == (⟨#[]⟩ : ByteArray).toList))))))] ?_
 rw [← hB31]
 have iB31 : B31 = true ↔ ((bn = true) ∧ (bm = (!((i.name : ByteArray).toList == (⟨#[]⟩ : ByteArray).toList)))) := by rw [hB31]; simp only [Bool.and_eq_true, beq_iff_eq, notT, seq_nil]
 clear hB31
 intro aC fr
 refine zpk 3 12 [123] fr (news := [(123, (cond B31 (.bool (!bm)) undef))]) (by cases B31 <;> kernel_rfl) ?_
 intro aC fr
 obtain ⟨B36, hB36⟩ : ∃ B : Bool, B = (!bm) := ⟨_, rfl⟩
 revert aC
 refine zkp [(1, (pT b1 0)), (3, (.int .i64 lo)), (4, (.int .i64 mo)), (120, (.bool B31)), (123, (cond B31 (.bool (!bm)) undef))] ?_
 rw [← hB36]
 have iB36 : B36 = true ↔ (¬ (bm = true)) := by rw [hB36]; simp only [notT]
 clear hB36
 intro aC fr
 refine zpk 1 13 [124] fr (news := [(124, (cond (B31 && !B36) (pT b1 3) undef))]) (by cases B31 <;> cases B36 <;> kernel_rfl) ?_
 intro aC fr
 refine From_either (B := (B31 && !B36)) (d := (some 125)) (.string i.name) fr (by cases B31 <;> cases B36 <;> kernel_rfl) (fun hB hh => ?_) ?_
 cases B31 <;> cases B36 <;> first | (exact absurd hB (by decide)) | skip
 have c31 : ((bn = true) ∧ (bm = (!((i.name : ByteArray).toList == (⟨#[]⟩ : ByteArray).toList)))) := iB31.1 rfl
 have c36 : ¬ (¬ (bm = true)) := (fun h => Bool.noConfusion (iB36.2 h) : ¬ (¬ (bm = true)))
 exact From_ld (some 125) ⟨b1, 3, none⟩ fr (by kernel_rfl) (.string i.name) (blk_cell (M11.get 0 rfl) rfl) hh
 intro aC fr
 refine From_eitherC (B := (B31 && !B36)) (d := (some 126)) (.bool (decide (nameQ i.name))) fr (by cases B31 <;> cases B36 <;> kernel_rfl) (fun hB hh => ?_) ?_
 cases B31 <;> cases B36 <;> first | (exact absurd hB (by decide)) | skip
 have c31 : ((bn = true) ∧ (bm = (!((i.name : ByteArray).toList == (⟨#[]⟩ : ByteArray).toList)))) := iB31.1 rfl
 have c36 : ¬ (¬ (bm = true)) := (fun h => Bool.noConfusion (iB36.2 h) : ¬ (¬ (bm = true)))
 refine From_cl (some 126) 37 [(.string i.name)] fr (by kernel_rfl) (rname_c i.name w10) ?_
 rintro _ w2 ⟨rfl, hm2⟩ a2 hF2; exact hh a2 w2 hm2 hF2
 intro aC w43 M44x fr
 have M44 := M11.cl M44x
 refine zpk 3 18 [128, 129] fr (news := [(128, (.bool (B31 && (B36 || decide (nameQ i.name))))), (129, (.bool (B31 && (B36 || decide (nameQ i.name)))))]) (by cases B31 <;> cases B36 <;> kernel_rfl) ?_
 intro aC fr
 obtain ⟨B49, hB49⟩ : ∃ B : Bool, B = (B31 && (B36 || decide (nameQ i.name))) := ⟨_, rfl⟩
 revert aC
 refine zkp [(1, (pT b1 0)), (3, (.int .i64 lo)), (4, (.int .i64 mo)), (129, (.bool (B31 && (B36 || decide (nameQ i.name)))))] ?_
 rw [← hB49]
 have iB49 : B49 = true ↔ (((bn = true) ∧ (bm = (!((i.name : ByteArray).toList == (⟨#[]⟩ : ByteArray).toList)))) ∧ ((¬ (bm = true)) ∨ (nameQ i.name))) := by rw [hB49]; simp only [Bool.and_eq_true, Bool.or_eq_true, decide_eq_true_eq, iB31, iB36]
 clear hB49
 intro aC fr
 refine zpk 1 19 [130] fr (news := [(130, (cond B49 (pT b1 4) undef))]) (by cases B49 <;> kernel_rfl) ?_
 intro aC fr
 refine From_either (B := B49) (d := (some 131)) (.slice i.A i.args.length i.c) fr (by cases B49 <;> kernel_rfl) (fun hB hh => ?_) ?_
 cases B49 <;> first | (exact absurd hB (by decide)) | skip
 have c49 : (((bn = true) ∧ (bm = (!((i.name : ByteArray).toList == (⟨#[]⟩ : ByteArray).toList)))) ∧ ((¬ (bm = true)) ∨ (nameQ i.name))) := iB49.1 rfl
 exact From_ld (some 131) ⟨b1, 4, none⟩ fr (by kernel_rfl) (.slice i.A i.args.length i.c) (blk_cell (M44.get 0 rfl) rfl) hh
 intro aC fr
 refine zpk 5 25 [135, 136] fr (news := [(135, (.bool (B49 && decide ((((i.args.length : Nat) : Int) : Int) ≥ lo)))), (136, (.bool (B49 && decide ((((i.args.length : Nat) : Int) : Int) ≥ lo))))]) (by cases B49 <;> kernel_rfl) ?_
 intro aC fr
 obtain ⟨B58, hB58⟩ : ∃ B : Bool, B = (B49 && decide ((((i.args.length : Nat) : Int) : Int) ≥ lo)) := ⟨_, rfl⟩
 revert aC
 refine zkp [(1, (pT b1 0)), (4, (.int .i64 mo)), (136, (.bool (B49 && decide ((((i.args.length : Nat) : Int) : Int) ≥ lo))))] ?_
 rw [← hB58]
 have iB58 : B58 = true ↔ ((((bn = true) ∧ (bm = (!((i.name : ByteArray).toList == (⟨#[]⟩ : ByteArray).toList)))) ∧ ((¬ (bm = true)) ∨ (nameQ i.name))) ∧ ((((i.args.length : Nat) : Int) : Int) ≥ lo)) := by rw [hB58]; simp only [Bool.and_eq_true, decide_eq_true_eq, iB49]
 clear hB58
 intro aC fr
 refine zpk 1 26 [137] fr (news := [(137, (cond B58 (pT b1 4) undef))]) (by cases B58 <;> kernel_rfl) ?_
 intro aC fr
 refine From_either (B := B58) (d := (some 138)) (.slice i.A i.args.length i.c) fr (by cases B58 <;> kernel_rfl) (fun hB hh => ?_) ?_
 cases B58 <;> first | (exact absurd hB (by decide)) | skip
 have c58 : ((((bn = true) ∧ (bm = (!((i.name : ByteArray).toList == (⟨#[]⟩ : ByteArray).toList)))) ∧ ((¬ (bm = true)) ∨ (nameQ i.name))) ∧ ((((i.args.length : Nat) : Int) : Int) ≥ lo)) := iB58.1 rfl
 exact From_ld (some 138) ⟨b1, 4, none⟩ fr (by kernel_rfl) (.slice i.A i.args.length i.c) (blk_cell (M44.get 0 rfl) rfl) hh
 intro aC fr
 refine zpk 5 32 [2, 142] fr (news := [(2, (.bool (B58 && decide ((((i.args.length : Nat) : Int) : Int) ≤ mo)))), (142, (.bool (B58 && decide ((((i.args.length : Nat) : Int) : Int) ≤ mo))))]) (by cases B58 <;> kernel_rfl) ?_
 intro aC fr
 revert aC
 refine zfe <| zre <| zo1 (.bool (B58 && decide ((((i.args.length : Nat) : Int) : Int) ≤ mo))) ?_
 have hR : (B58 && decide ((((i.args.length : Nat) : Int) : Int) ≤ mo)) = true ↔ (((((bn = true) ∧ (bm = (!((i.name : ByteArray).toList == (⟨#[]⟩ : ByteArray).toList)))) ∧ ((¬ (bm = true)) ∨ (nameQ i.name))) ∧ ((((i.args.length : Nat) : Int) : Int) ≥ lo)) ∧ ((((i.args.length : Nat) : Int) : Int) ≤ mo)) := by simp only [Bool.and_eq_true, decide_eq_true_eq, iB58]
 have M67 := M44.od [] 0
 exact ⟨bool_dec hR (rshape_fin (seq_nil _) hsh c21), M67⟩
 revert aC
 refine zbk 0 <| zsr <| zpn 1 <| zld ⟨b1, 0, none⟩ (.int .i64 i.op) (blk_cell (M3.get 0 rfl) rfl) <| zpn 2 <| zfe <| zcP ((i.op : Int) == 1) ((i.op : Int) = 1) (by simp only [beq_iff_eq]) (fun c68 => ?_) (fun c68 => ?_)
 refine zrp ?_
 intro aC fr
 exact ⟨0, 0, true, false, fr.kp [1, 3, 4, 5, 6], M3, by rw [shape_1 (by omega), caseF litT]; unfold makesQ; simp only [true_and]; constructor <;> intro h <;> first | omega | exact h.elim⟩
 refine zsr <| zpn 1 <| zld ⟨b1, 0, none⟩ (.int .i64 i.op) (blk_cell (M3.get 0 rfl) rfl) <| zpn 2 <| zfe <| zcP ((i.op : Int) == 2) ((i.op : Int) = 2) (by simp only [beq_iff_eq]) (fun c71 => ?_) (fun c71 => ?_)
 obtain ⟨B72, hB72⟩ : ∃ B : Bool, B = decide (i.n ≥ 0) := ⟨_, rfl⟩
 cases B72
 have c72 : ¬ (i.n ≥ 0) := of_decide_eq_false hB72.symm
 refine zkp [(1, (pT b1 0)), (3, (.int .i64 0)), (4, (.int .i64 0)), (5, (.bool ((i.n : Int) == 0))), (6, (.bool false))] ?_
 intro aC fr
 refine zdr (N := 143) (env0 := [(1, (pT b1 0)), (3, (.int .i64 0)), (4, (.int .i64 0)), (5, (.bool ((i.n : Int) == 0))), (6, (.bool false))]) (specAt [.det (pT b1 2), .det (.int .i64 i.n), .det (.bool false), .det (.bool false), dU, dU, dU, .det (.bool false), .det (.int .i64 1), .det (.int .i64 1), .det (.bool false)]) fr (la (la (la (la (la (la (la (la (la (la (la lz dP) (dL ⟨b1, 2, none⟩ (.int .i64 i.n) fun w_ hK => (blk_cell ((M3.then_ hK).get 0 rfl) rfl))) (dC (decide (i.n ≥ 0)) hB72)) dP) dK) dK) dK) dP) dP) dP) dP) ?_
 intro aC w77 vs hK hv fr
 revert aC; refine zkp [(1, (pT b1 0)), (3, (.int .i64 1)), (4, (.int .i64 1)), (5, (.bool false)), (6, (.bool false))] ?_
 have M78 := M3.then_ hK
 clear hK hv fr aC M3; clear vs
 intro aC fr
 exact ⟨1, 1, false, false, fr.kp [1, 3, 4, 5, 6], M78, by rw [shape_2 (by omega), caseF litF]; unfold makesQ; simp only [false_and, and_false]; constructor <;> intro h <;> first | omega | exact h.elim⟩
 have c72 : i.n ≥ 0 := of_decide_eq_true hB72.symm
 obtain ⟨B81, hB81⟩ : ∃ B : Bool, B = decide (i.n ≤ 2147483647) := ⟨_, rfl⟩
 refine zkp [(1, (pT b1 0)), (3, (.int .i64 0)), (4, (.int .i64 0)), (5, (.bool ((i.n : Int) == 0))), (6, (.bool false))] ?_
 intro aC fr
 refine zdr (N := 143) (env0 := [(1, (pT b1 0)), (3, (.int .i64 0)), (4, (.int .i64 0)), (5, (.bool ((i.n : Int) == 0))), (6, (.bool false))]) (specAt [.det (pT b1 2), .det (.int .i64 i.n), .det (.bool true), .det (.bool true), .det (pT b1 2), .det (.int .i64 i.n), .det (.bool B81), .det (.bool B81), .det (.int .i64 1), .det (.int .i64 1), .det (.bool B81)]) fr (la (la (la (la (la (la (la (la (la (la (la lz dP) (dL ⟨b1, 2, none⟩ (.int .i64 i.n) fun w_ hK => (blk_cell ((M3.then_ hK).get 0 rfl) rfl))) (dC (decide (i.n ≥ 0)) hB72)) dP) dP) (dL ⟨b1, 2, none⟩ (.int .i64 i.n) fun w_ hK => (blk_cell ((M3.then_ hK).get 0 rfl) rfl))) (dC (decide (i.n ≤ 2147483647)) hB81)) dP) dP) dP) dP) ?_
 intro aC w86 vs hK hv fr
 revert aC; refine zkp [(1, (pT b1 0)), (3, (.int .i64 1)), (4, (.int .i64 1)), (5, (.bool B81)), (6, (.bool false))] ?_
 have M87 := M3.then_ hK
 clear hK hv fr aC M3; clear vs
 have iB81 : B81 = true ↔ ((i.n : Int) ≤ 2147483647) := by rw [hB81]; simp only [decide_eq_true_eq]
 clear hB81
 intro aC fr
 exact ⟨1, 1, B81, false, fr.kp [1, 3, 4, 5, 6], M87, by rw [shape_2 (by omega), caseF (show B81 = true ↔ ((i.n : Int) ≤ 2147483647) by simp only [iB81])]; unfold makesQ; constructor <;> intro h <;> first | omega | exact h.elim⟩
 refine zsr <| zpn 1 <| zld ⟨b1, 0, none⟩ (.int .i64 i.op) (blk_cell (M3.get 0 rfl) rfl) <| zkp [(1, (pT b1 0)), (3, (.int .i64 0)), (4, (.int .i64 0)), (5, (.bool ((i.n : Int) == 0))), (6, (.bool false)), (28, (.int .i64 i.op))] <| zpn 2 <| zfe <| zcP ((i.op : Int) == 3) ((i.op : Int) = 3) (by simp only [beq_iff_eq]) (fun c90 => ?_) (fun c90 => ?_)
 obtain ⟨B91, hB91⟩ : ∃ B : Bool, B = decide (i.n ≥ 0) := ⟨_, rfl⟩
 cases B91
 have c91 : ¬ (i.n ≥ 0) := of_decide_eq_false hB91.symm
 refine zkp [(1, (pT b1 0)), (3, (.int .i64 0)), (4, (.int .i64 0)), (5, (.bool ((i.n : Int) == 0))), (6, (.bool false))] ?_
 intro aC fr
 refine zdr (N := 143) (env0 := [(1, (pT b1 0)), (3, (.int .i64 0)), (4, (.int .i64 0)), (5, (.bool ((i.n : Int) == 0))), (6, (.bool false))]) (specAt [.det (pT b1 2), .det (.int .i64 i.n), .det (.bool false), .det (.bool false), dU, dU, dU, .det (.bool false), .det (.int .i64 2), .det (.int .i64 2), .det (.bool false)]) fr (la (la (la (la (la (la (la (la (la (la (la lz dP) (dL ⟨b1, 2, none⟩ (.int .i64 i.n) fun w_ hK => (blk_cell ((M3.then_ hK).get 0 rfl) rfl))) (dC (decide (i.n ≥ 0)) hB91)) dP) dK) dK) dK) dP) dP) dP) dP) ?_
 intro aC w96 vs hK hv fr
 revert aC; refine zkp [(1, (pT b1 0)), (3, (.int .i64 2)), (4, (.int .i64 2)), (5, (.bool false)), (6, (.bool false))] ?_
 have M97 := M3.then_ hK
 clear hK hv fr aC M3; clear vs
 intro aC fr
 exact ⟨2, 2, false, false, fr.kp [1, 3, 4, 5, 6], M97, by rw [shape_3 (by omega), caseF litF]; unfold makesQ; simp only [false_and, and_false]; constructor <;> intro h <;> first | omega | exact h.elim⟩
 have c91 : i.n ≥ 0 := of_decide_eq_true hB91.symm
 obtain ⟨B100, hB100⟩ : ∃ B : Bool, B = decide (i.n ≤ 2147483647) := ⟨_, rfl⟩
 refine zkp [(1, (pT b1 0)), (3, (.int .i64 0)), (4, (.int .i64 0)), (5, (.bool ((i.n : Int) == 0))), (6, (.bool false))] ?_
 intro aC fr
 refine zdr (N := 143) (env0 := [(1, (pT b1 0)), (3, (.int .i64 0)), (4, (.int .i64 0)), (5, (.bool ((i.n : Int) == 0))), (6, (.bool false))]) (specAt [.det (pT b1 2), .det (.int .i64 i.n), .det (.bool true), .det (.bool true), .det (pT b1 2), .det (.int .i64 i.n), .det (.bool B100), .det (.bool B100), .det (.int .i64 2), .det (.int .i64 2), .det (.bool B100)]) fr (la (la (la (la (la (la (la (la (la (la (la lz dP) (dL ⟨b1, 2, none⟩ (.int .i64 i.n) fun w_ hK => (blk_cell ((M3.then_ hK).get 0 rfl) rfl))) (dC (decide (i.n ≥ 0)) hB91)) dP) dP) (dL ⟨b1, 2, none⟩ (.int .i64 i.n) fun w_ hK => (blk_cell ((M3.then_ hK).get 0 rfl) rfl))) (dC (decide (i.n ≤ 2147483647)) hB100)) dP) dP) dP) dP) ?_
 intro aC w105 vs hK hv fr
 revert aC; refine zkp [(1, (pT b1 0)), (3, (.int .i64 2)), (4, (.int .i64 2)), (5, (.bool B100)), (6, (.bool false))] ?_
 have M106 := M3.then_ hK
 clear hK hv fr aC M3; clear vs
 have iB100 : B100 = true ↔ ((i.n : Int) ≤ 2147483647) := by rw [hB100]; simp only [decide_eq_true_eq]
 clear hB100
 intro aC fr
 exact ⟨2, 2, B100, false, fr.kp [1, 3, 4, 5, 6], M106, by rw [shape_3 (by omega), caseF (show B100 = true ↔ ((i.n : Int) ≤ 2147483647) by simp only [iB100])]; unfold makesQ; constructor <;> intro h <;> first | omega | exact h.elim⟩
 refine zsr <| zpn 1 <| zld ⟨b1, 0, none⟩ (.int .i64 i.op) (blk_cell (M3.get 0 rfl) rfl) <| zpn 2 <| zfe <| zcP ((i.op : Int) == 4) ((i.op : Int) = 4) (by simp only [beq_iff_eq]) (fun c109 => ?_) (fun c109 => ?_)
 refine zrp ?_
 intro aC fr
 exact ⟨0, 16, ((i.n : Int) == 0), true, fr.kp [1, 3, 4, 5, 6], M3, by rw [shape_4 (by omega), caseT (show ((i.n : Int) == 0) = true ↔ ((i.n : Int) = 0) by simp only [beq_iff_eq])]; unfold makesQ nameQ; constructor <;> intro h <;> omega⟩
 refine zsr <| zpn 1 <| zld ⟨b1, 0, none⟩ (.int .i64 i.op) (blk_cell (M3.get 0 rfl) rfl) <| zpn 2 <| zfe <| zcP ((i.op : Int) == 5) ((i.op : Int) = 5) (by simp only [beq_iff_eq]) (fun c112 => ?_) (fun c112 => ?_)
 refine zrp ?_
 intro aC fr
 exact ⟨1, 17, ((i.n : Int) == 0), false, fr.kp [1, 3, 4, 5, 6], M3, by rw [shape_5 (by omega), caseF (show ((i.n : Int) == 0) = true ↔ ((i.n : Int) = 0) by simp only [beq_iff_eq])]; unfold makesQ; constructor <;> intro h <;> first | omega | exact h.elim⟩
 refine zsr <| zpn 1 <| zld ⟨b1, 0, none⟩ (.int .i64 i.op) (blk_cell (M3.get 0 rfl) rfl) <| zpn 2 ?_
 obtain ⟨B115, hB115⟩ : ∃ B : Bool, B = ((i.op : Int) == 6) := ⟨_, rfl⟩
 refine zkp [(1, (pT b1 0)), (3, (.int .i64 0)), (4, (.int .i64 0)), (5, (.bool ((i.n : Int) == 0))), (6, (.bool false)), (50, (.bool ((i.op : Int) == 6)))] ?_
 rw [← hB115]
 have iB115 : B115 = true ↔ ((i.op : Int) = 6) := by rw [hB115]; simp only [beq_iff_eq]
 clear hB115
 intro aC fr
 refine zpk 1 5 [51] fr (news := [(51, (cond (!B115) (pT b1 0) undef))]) (by cases B115 <;> kernel_rfl) ?_
 intro aC fr
 refine From_either (B := (!B115)) (d := (some 52)) (.int .i64 i.op) fr (by cases B115 <;> kernel_rfl) (fun hB hh => ?_) ?_
 cases B115 <;> first | (exact absurd hB (by decide)) | skip
 have c115 : ¬ ((i.op : Int) = 6) := (fun h => Bool.noConfusion (iB115.2 h) : ¬ ((i.op : Int) = 6))
 exact From_ld (some 52) ⟨b1, 0, none⟩ fr (by kernel_rfl) (.int .i64 i.op) (blk_cell (M3.get 0 rfl) rfl) hh
 intro aC fr
 refine zpk 3 9 [46, 54] fr (news := [(46, (.bool (B115 || ((i.op : Int) == 7)))), (54, (.bool (B115 || ((i.op : Int) == 7))))]) (by cases B115 <;> kernel_rfl) ?_
 intro aC fr
 revert aC
 refine zfe <| zcP (B115 || ((i.op : Int) == 7)) (((i.op : Int) = 6) ∨ ((i.op : Int) = 7)) (by simp only [Bool.or_eq_true, beq_iff_eq, iB115]) (fun c124 => ?_) (fun c124 => ?_)
 refine zrp ?_
 intro aC fr
 exact ⟨0, 0, ((i.n : Int) == 0), true, fr.kp [1, 3, 4, 5, 6], M3, by rcases c124 with c0 | c0; (rw [shape_6 c0, caseT (show ((i.n : Int) == 0) = true ↔ ((i.n : Int) = 0) by simp only [beq_iff_eq])]; unfold makesQ nameQ; constructor <;> intro h <;> omega); (rw [shape_7 c0, caseT (show ((i.n : Int) == 0) = true ↔ ((i.n : Int) = 0) by simp only [beq_iff_eq])]; unfold makesQ nameQ; constructor <;> intro h <;> omega)⟩
 refine zsr <| zpn 1 <| zld ⟨b1, 0, none⟩ (.int .i64 i.op) (blk_cell (M3.get 0 rfl) rfl) <| zpn 2 ?_
 obtain ⟨B127, hB127⟩ : ∃ B : Bool, B = ((i.op : Int) == 8) := ⟨_, rfl⟩
 refine zkp [(1, (pT b1 0)), (3, (.int .i64 0)), (4, (.int .i64 0)), (5, (.bool ((i.n : Int) == 0))), (6, (.bool false)), (59, (.bool ((i.op : Int) == 8)))] ?_
 rw [← hB127]
 have iB127 : B127 = true ↔ ((i.op : Int) = 8) := by rw [hB127]; simp only [beq_iff_eq]
 clear hB127
 intro aC fr
 refine zpk 1 5 [60] fr (news := [(60, (cond (!B127) (pT b1 0) undef))]) (by cases B127 <;> kernel_rfl) ?_
 intro aC fr
 refine From_either (B := (!B127)) (d := (some 61)) (.int .i64 i.op) fr (by cases B127 <;> kernel_rfl) (fun hB hh => ?_) ?_
 cases B127 <;> first | (exact absurd hB (by decide)) | skip
 have c127 : ¬ ((i.op : Int) = 8) := (fun h => Bool.noConfusion (iB127.2 h) : ¬ ((i.op : Int) = 8))
 exact From_ld (some 61) ⟨b1, 0, none⟩ fr (by kernel_rfl) (.int .i64 i.op) (blk_cell (M3.get 0 rfl) rfl) hh
 intro aC fr
 refine zpk 3 9 [63, 64] fr (news := [(63, (.bool (B127 || ((i.op : Int) == 10)))), (64, (.bool (B127 || ((i.op : Int) == 10))))]) (by cases B127 <;> kernel_rfl) ?_
 intro aC fr
 obtain ⟨B136, hB136⟩ : ∃ B : Bool, B = (B127 || ((i.op : Int) == 10)) := ⟨_, rfl⟩
 revert aC
 refine zkp [(1, (pT b1 0)), (3, (.int .i64 0)), (4, (.int .i64 0)), (5, (.bool ((i.n : Int) == 0))), (6, (.bool false)), (64, (.bool (B127 || ((i.op : Int) == 10))))] ?_
 rw [← hB136]
 have iB136 : B136 = true ↔ (((i.op : Int) = 8) ∨ ((i.op : Int) = 10)) := by rw [hB136]; simp only [Bool.or_eq_true, beq_iff_eq, iB127]
 clear hB136
 intro aC fr
 refine zpk 1 10 [65] fr (news := [(65, (cond (!B136) (pT b1 0) undef))]) (by cases B136 <;> kernel_rfl) ?_
 intro aC fr
 refine From_either (B := (!B136)) (d := (some 66)) (.int .i64 i.op) fr (by cases B136 <;> kernel_rfl) (fun hB hh => ?_) ?_
 cases B136 <;> first | (exact absurd hB (by decide)) | skip
 have c136 : ¬ (((i.op : Int) = 8) ∨ ((i.op : Int) = 10)) := (fun h => Bool.noConfusion (iB136.2 h) : ¬ (((i.op : Int) = 8) ∨ ((i.op : Int) = 10)))
 exact From_ld (some 66) ⟨b1, 0, none⟩ fr (by kernel_rfl) (.int .i64 i.op) (blk_cell (M3.get 0 rfl) rfl) hh
 intro aC fr
 refine zpk 3 14 [55, 68] fr (news := [(55, (.bool (B136 || ((i.op : Int) == 12)))), (68, (.bool (B136 || ((i.op : Int) == 12))))]) (by cases B136 <;> kernel_rfl) ?_
 intro aC fr
 revert aC
 refine zfe <| zcP (B136 || ((i.op : Int) == 12)) ((((i.op : Int) = 8) ∨ ((i.op : Int) = 10)) ∨ ((i.op : Int) = 12)) (by simp only [Bool.or_eq_true, beq_iff_eq, iB136]) (fun c145 => ?_) (fun c145 => ?_)
 refine zrp ?_
 intro aC fr
 exact ⟨1, 1, ((i.n : Int) == 0), false, fr.kp [1, 3, 4, 5, 6], M3, by rcases c145 with (c0 | c0) | c0; (rw [shape_8 c0, caseF (show ((i.n : Int) == 0) = true ↔ ((i.n : Int) = 0) by simp only [beq_iff_eq])]; unfold makesQ; constructor <;> intro h <;> first | omega | exact h.elim); (rw [shape_10 c0, caseF (show ((i.n : Int) == 0) = true ↔ ((i.n : Int) = 0) by simp only [beq_iff_eq])]; unfold makesQ; constructor <;> intro h <;> first | omega | exact h.elim); (rw [shape_12 c0, caseF (show ((i.n : Int) == 0) = true ↔ ((i.n : Int) = 0) by simp only [beq_iff_eq])]; unfold makesQ; constructor <;> intro h <;> first | omega | exact h.elim)⟩
 refine zsr <| zpn 1 <| zld ⟨b1, 0, none⟩ (.int .i64 i.op) (blk_cell (M3.get 0 rfl) rfl) <| zpn 2 <| zfe <| zcP ((i.op : Int) == 9) ((i.op : Int) = 9) (by simp only [beq_iff_eq]) (fun c148 => ?_) (fun c148 => ?_)
 refine zsk ?_
 intro aC fr
 exact ⟨0, 0, ((i.n : Int) == 0), false, fr.kp [1, 3, 4, 5, 6], M3, by rw [shape_9 (by omega), caseF (show ((i.n : Int) == 0) = true ↔ ((i.n : Int) = 0) by simp only [beq_iff_eq])]; unfold makesQ; constructor <;> intro h <;> first | omega | exact h.elim⟩
 refine zsr <| zpn 1 <| zld ⟨b1, 0, none⟩ (.int .i64 i.op) (blk_cell (M3.get 0 rfl) rfl) <| zpn 2 <| zfe <| zcP ((i.op : Int) == 11) ((i.op : Int) = 11) (by simp only [beq_iff_eq]) (fun c151 => ?_) (fun c151 => ?_)
 obtain ⟨B152, hB152⟩ : ∃ B : Bool, B = decide (i.n ≥ 1) := ⟨_, rfl⟩
 cases B152
 have c152 : ¬ (i.n ≥ 1) := of_decide_eq_false hB152.symm
 refine zkp [(1, (pT b1 0)), (5, (.bool ((i.n : Int) == 0))), (6, (.bool false))] ?_
 intro aC fr
 refine zdr (N := 143) (env0 := [(1, (pT b1 0)), (5, (.bool ((i.n : Int) == 0))), (6, (.bool false))]) (specAt [.det (pT b1 2), .det (.int .i64 i.n), .det (.bool false), .det (.bool false), dU, dU, dU, .det (.bool false), .det (.int .i64 1), .det (.int .i64 1), .det (.bool false)]) fr (la (la (la (la (la (la (la (la (la (la (la lz dP) (dL ⟨b1, 2, none⟩ (.int .i64 i.n) fun w_ hK => (blk_cell ((M3.then_ hK).get 0 rfl) rfl))) (dC (decide (i.n ≥ 1)) hB152)) dP) dK) dK) dK) dP) dP) dP) dP) ?_
 intro aC w157 vs hK hv fr
 revert aC; refine zkp [(1, (pT b1 0)), (3, (.int .i64 1)), (4, (.int .i64 1)), (5, (.bool false)), (6, (.bool false))] ?_
 have M158 := M3.then_ hK
 clear hK hv fr aC M3; clear vs
 intro aC fr
 exact ⟨1, 1, false, false, fr.kp [1, 3, 4, 5, 6], M158, by rw [shape_11 (by omega), caseF litF]; unfold makesQ; simp only [false_and, and_false]; constructor <;> intro h <;> first | omega | exact h.elim⟩
 have c152 : i.n ≥ 1 := of_decide_eq_true hB152.symm
 obtain ⟨B161, hB161⟩ : ∃ B : Bool, B = decide (i.n ≤ 999) := ⟨_, rfl⟩
 refine zkp [(1, (pT b1 0)), (5, (.bool ((i.n : Int) == 0))), (6, (.bool false))] ?_
 intro aC fr
 refine zdr (N := 143) (env0 := [(1, (pT b1 0)), (5, (.bool ((i.n : Int) == 0))), (6, (.bool false))]) (specAt [.det (pT b1 2), .det (.int .i64 i.n), .det (.bool true), .det (.bool true), .det (pT b1 2), .det (.int .i64 i.n), .det (.bool B161), .det (.bool B161), .det (.int .i64 1), .det (.int .i64 1), .det (.bool B161)]) fr (la (la (la (la (la (la (la (la (la (la (la lz dP) (dL ⟨b1, 2, none⟩ (.int .i64 i.n) fun w_ hK => (blk_cell ((M3.then_ hK).get 0 rfl) rfl))) (dC (decide (i.n ≥ 1)) hB152)) dP) dP) (dL ⟨b1, 2, none⟩ (.int .i64 i.n) fun w_ hK => (blk_cell ((M3.then_ hK).get 0 rfl) rfl))) (dC (decide (i.n ≤ 999)) hB161)) dP) dP) dP) dP) ?_
 intro aC w166 vs hK hv fr
 revert aC; refine zkp [(1, (pT b1 0)), (3, (.int .i64 1)), (4, (.int .i64 1)), (5, (.bool B161)), (6, (.bool false))] ?_
 have M167 := M3.then_ hK
 clear hK hv fr aC M3; clear vs
 have iB161 : B161 = true ↔ ((i.n : Int) ≤ 999) := by rw [hB161]; simp only [decide_eq_true_eq]
 clear hB161
 intro aC fr
 exact ⟨1, 1, B161, false, fr.kp [1, 3, 4, 5, 6], M167, by rw [shape_11 (by omega), caseF (show B161 = true ↔ ((i.n : Int) ≤ 999) by simp only [iB161])]; unfold makesQ; constructor <;> intro h <;> first | omega | exact h.elim⟩
 refine zsr <| zpn 1 <| zld ⟨b1, 0, none⟩ (.int .i64 i.op) (blk_cell (M3.get 0 rfl) rfl) <| zpn 2 ?_
 obtain ⟨B170, hB170⟩ : ∃ B : Bool, B = decide ((i.op : Int) ≥ 17) := ⟨_, rfl⟩
 refine zkp [(1, (pT b1 0)), (5, (.bool ((i.n : Int) == 0))), (6, (.bool false)), (89, (.bool (decide ((i.op : Int) ≥ 17))))] ?_
 rw [← hB170]
 have iB170 : B170 = true ↔ ((i.op : Int) ≥ 17) := by rw [hB170]; simp only [decide_eq_true_eq]
 clear hB170
 intro aC fr
 refine zpk 1 5 [90] fr (news := [(90, (cond B170 (pT b1 0) undef))]) (by cases B170 <;> kernel_rfl) ?_
 intro aC fr
 refine From_either (B := B170) (d := (some 91)) (.int .i64 i.op) fr (by cases B170 <;> kernel_rfl) (fun hB hh => ?_) ?_
 cases B170 <;> first | (exact absurd hB (by decide)) | skip
 have c170 : ((i.op : Int) ≥ 17) := iB170.1 rfl
 exact From_ld (some 91) ⟨b1, 0, none⟩ fr (by kernel_rfl) (.int .i64 i.op) (blk_cell (M3.get 0 rfl) rfl) hh
 intro aC fr
 refine zpk 3 9 [85, 93] fr (news := [(85, (.bool (B170 && decide ((i.op : Int) ≤ 32)))), (93, (.bool (B170 && decide ((i.op : Int) ≤ 32))))]) (by cases B170 <;> kernel_rfl) ?_
 intro aC fr
 revert aC
 refine zfe <| zcP (B170 && decide ((i.op : Int) ≤ 32)) (((i.op : Int) ≥ 17) ∧ ((i.op : Int) ≤ 32)) (by simp only [Bool.and_eq_true, decide_eq_true_eq, iB170]) (fun c179 => ?_) (fun c179 => ?_)
 refine zrp ?_
 intro aC fr
 exact ⟨2, 2, ((i.n : Int) == 0), false, fr.kp [1, 3, 4, 5, 6], M3, by rw [shape_big (by omega), caseF (show ((i.n : Int) == 0) = true ↔ ((i.n : Int) = 0) by simp only [beq_iff_eq])]; unfold makesQ; constructor <;> intro h <;> first | omega | exact h.elim⟩
 refine zsr <| zpn 1 <| zld ⟨b1, 0, none⟩ (.int .i64 i.op) (blk_cell (M3.get 0 rfl) rfl) <| zpn 2 ?_
 obtain ⟨B182, hB182⟩ : ∃ B : Bool, B = decide ((i.op : Int) ≥ 41) := ⟨_, rfl⟩
 refine zkp [(1, (pT b1 0)), (5, (.bool ((i.n : Int) == 0))), (6, (.bool false)), (98, (.bool (decide ((i.op : Int) ≥ 41))))] ?_
 rw [← hB182]
 have iB182 : B182 = true ↔ ((i.op : Int) ≥ 41) := by rw [hB182]; simp only [decide_eq_true_eq]
 clear hB182
 intro aC fr
 refine zpk 1 5 [99] fr (news := [(99, (cond B182 (pT b1 0) undef))]) (by cases B182 <;> kernel_rfl) ?_
 intro aC fr
 refine From_either (B := B182) (d := (some 100)) (.int .i64 i.op) fr (by cases B182 <;> kernel_rfl) (fun hB hh => ?_) ?_
 cases B182 <;> first | (exact absurd hB (by decide)) | skip
 have c182 : ((i.op : Int) ≥ 41) := iB182.1 rfl
 exact From_ld (some 100) ⟨b1, 0, none⟩ fr (by kernel_rfl) (.int .i64 i.op) (blk_cell (M3.get 0 rfl) rfl) hh
 intro aC fr
 refine zpk 3 9 [94, 102] fr (news := [(94, (.bool (B182 && decide ((i.op : Int) ≤ 43)))), (102, (.bool (B182 && decide ((i.op : Int) ≤ 43))))]) (by cases B182 <;> kernel_rfl) ?_
 intro aC fr
 revert aC
 refine zfe <| zcP (B182 && decide ((i.op : Int) ≤ 43)) (((i.op : Int) ≥ 41) ∧ ((i.op : Int) ≤ 43)) (by simp only [Bool.and_eq_true, decide_eq_true_eq, iB182]) (fun c191 => ?_) (fun c191 => ?_)
 refine zrp ?_
 intro aC fr
 exact ⟨1, 1, ((i.n : Int) == 0), false, fr.kp [1, 3, 4, 5, 6], M3, by rw [shape_big (by omega), caseF (show ((i.n : Int) == 0) = true ↔ ((i.n : Int) = 0) by simp only [beq_iff_eq])]; unfold makesQ; constructor <;> intro h <;> first | omega | exact h.elim⟩
 refine zsp <| zre <| zbr <| zo1 (.bool false) ?_
 have hR : false = true ↔ False := by simp
 have M194 := M3.od [] 0
 exact ⟨bool_dec hR (⟨False.elim, fun h => by unfold shapeQ at h; omega⟩), M194⟩
end Go.Proofs.Ytejbeeaomokjpaa
namespace Go.Proofs.Ytejbeeaomokjpaa
open Go.Mor
theorem rvalid_c (nm : ByteArray) (wk : Bool) (pa va : Int) (A : Option Addr) (c : Nat) (fs : List FBlk) (w : World) (hN : fs.length ≤ 1000) (hok : FOk fs) (hA : RO noS w (.fn A fs)) :
    Calls Try.prog 15 #[(fA nm wk pa va A c fs)] w (Ret fun v w' => v = .int .i64 (validN nm pa va fs) ∧ Mem noS w w' []) := by
 have hbl := bsOf_len fs
 have hm : (bsOf fs).length ≤ 1000000 := by omega
 have hB := hA.bs
 refine zen 135 [(fA nm wk pa va A c fs)] Try.func15 ?_
 have hM := Mem.init w
 refine zsr <| zbx hM 24 (fA nm wk pa va A c fs) (fV nm wk pa va A c fs) fun b1 w2 hb1 M3 => ?_
 replace M3 := M3.nf
 clear hM
 refine zpn 1 <| zfe <| zsq <| zsr <| zls ⟨b1, 0, none⟩ (fV nm wk pa va A c fs) (blk_cells (M3.get 0 rfl)) <| zcl (vs := #[(fA nm wk pa va A c fs)]) (rsize_c _ _ _ _ A c fs w2 hN hok (hA.at_ M3)) ?_
 rintro _ w4 ⟨rfl, M5x⟩
 have M5 := M3.cl M5x
 refine zpn 2 ?_
 obtain ⟨B6, hB6⟩ : ∃ B : Bool, B = decide ((((sizeF fs : Nat) : Int) : Int) > 20000) := ⟨_, rfl⟩
 refine zkp [(1, (pT b1 0)), (14, (.bool (decide ((((sizeF fs : Nat) : Int) : Int) > 20000))))] ?_
 rw [← hB6]
 have iB6 : B6 = true ↔ ((((sizeF fs : Nat) : Int) : Int) > 20000) := by rw [hB6]; simp only [decide_eq_true_eq]
 clear hB6
 intro aC fr
 refine zpk 1 5 [15] fr (news := [(15, (cond (!B6) (pT b1 3) undef))]) (by cases B6 <;> kernel_rfl) ?_
 intro aC fr
 refine From_either (B := (!B6)) (d := (some 16)) (.int .i64 va) fr (by cases B6 <;> kernel_rfl) (fun hB hh => ?_) ?_
 cases B6 <;> first | (exact absurd hB (by decide)) | skip
 have c6 : ¬ ((((sizeF fs : Nat) : Int) : Int) > 20000) := (fun h => Bool.noConfusion (iB6.2 h) : ¬ ((((sizeF fs : Nat) : Int) : Int) > 20000))
 exact From_ld (some 16) ⟨b1, 3, none⟩ fr (by kernel_rfl) (.int .i64 va) (blk_cell (M5.get 0 rfl) rfl) hh
 intro aC fr
 refine zpk 2 8 [18] fr (news := [(18, (.bool (B6 || decide ((va : Int) > 20000))))]) (by cases B6 <;> kernel_rfl) ?_
 intro aC fr
 revert aC
 refine zfe <| zcP (B6 || decide ((va : Int) > 20000)) (((((sizeF fs : Nat) : Int) : Int) > 20000) ∨ ((va : Int) > 20000)) (by simp only [Bool.or_eq_true, decide_eq_true_eq, iB6]) (fun c15 => ?_) (fun c15 => ?_)
 have hbig : ((sizeF fs : Int) > 20000 ∨ va > 20000) := by omega
 refine zsp <| zre <| zo1 (.int .i64 12) ?_
 have M16 := M5.od [] 0
 exact ⟨congrArg _ (valid_12 hbig), M16⟩
 have hbig : ¬ ((sizeF fs : Int) > 20000 ∨ va > 20000) := by omega
 refine zsk <| zsq <| zsr <| zpn 1 <| zld ⟨b1, 0, none⟩ (.string nm) (blk_cell (M5.get 0 rfl) rfl) <| zcl (rname_c nm w4) ?_
 rintro _ w17 ⟨rfl, M18x⟩
 have M18 := M5.cl M18x
 refine zpn 2 ?_
 obtain ⟨B19, hB19⟩ : ∃ B : Bool, B = (!(decide (nameQ nm))) := ⟨_, rfl⟩
 refine zkp [(1, (pT b1 0)), (23, (.bool (!(decide (nameQ nm)))))] ?_
 rw [← hB19]
 have iB19 : B19 = true ↔ (¬ (nameQ nm)) := by rw [hB19]; simp only [notT, decide_eq_true_eq]
 clear hB19
 intro aC fr
 refine zpk 1 6 [24] fr (news := [(24, (cond (!B19) (pT b1 2) undef))]) (by cases B19 <;> kernel_rfl) ?_
 intro aC fr
 refine From_either (B := (!B19)) (d := (some 25)) (.int .i64 pa) fr (by cases B19 <;> kernel_rfl) (fun hB hh => ?_) ?_
 cases B19 <;> first | (exact absurd hB (by decide)) | skip
 have c19 : ¬ (¬ (nameQ nm)) := (fun h => Bool.noConfusion (iB19.2 h) : ¬ (¬ (nameQ nm)))
 exact From_ld (some 25) ⟨b1, 2, none⟩ fr (by kernel_rfl) (.int .i64 pa) (blk_cell (M18.get 0 rfl) rfl) hh
 intro aC fr
 refine zpk 3 10 [27, 28] fr (news := [(27, (.bool (B19 || decide ((pa : Int) < 0)))), (28, (.bool (B19 || decide ((pa : Int) < 0))))]) (by cases B19 <;> kernel_rfl) ?_
 intro aC fr
 obtain ⟨B28, hB28⟩ : ∃ B : Bool, B = (B19 || decide ((pa : Int) < 0)) := ⟨_, rfl⟩
 revert aC
 refine zkp [(1, (pT b1 0)), (28, (.bool (B19 || decide ((pa : Int) < 0))))] ?_
 rw [← hB28]
 have iB28 : B28 = true ↔ ((¬ (nameQ nm)) ∨ ((pa : Int) < 0)) := by rw [hB28]; simp only [Bool.or_eq_true, decide_eq_true_eq, iB19]
 clear hB28
 intro aC fr
 refine zpk 1 11 [29] fr (news := [(29, (cond (!B28) (pT b1 2) undef))]) (by cases B28 <;> kernel_rfl) ?_
 intro aC fr
 refine From_either (B := (!B28)) (d := (some 30)) (.int .i64 pa) fr (by cases B28 <;> kernel_rfl) (fun hB hh => ?_) ?_
 cases B28 <;> first | (exact absurd hB (by decide)) | skip
 have c28 : ¬ ((¬ (nameQ nm)) ∨ ((pa : Int) < 0)) := (fun h => Bool.noConfusion (iB28.2 h) : ¬ ((¬ (nameQ nm)) ∨ ((pa : Int) < 0)))
 exact From_ld (some 30) ⟨b1, 2, none⟩ fr (by kernel_rfl) (.int .i64 pa) (blk_cell (M18.get 0 rfl) rfl) hh
 intro aC fr
 refine zpk 3 15 [32, 33] fr (news := [(32, (.bool (B28 || decide ((pa : Int) > 16)))), (33, (.bool (B28 || decide ((pa : Int) > 16))))]) (by cases B28 <;> kernel_rfl) ?_
 intro aC fr
 obtain ⟨B37, hB37⟩ : ∃ B : Bool, B = (B28 || decide ((pa : Int) > 16)) := ⟨_, rfl⟩
 revert aC
 refine zkp [(1, (pT b1 0)), (33, (.bool (B28 || decide ((pa : Int) > 16))))] ?_
 rw [← hB37]
 have iB37 : B37 = true ↔ (((¬ (nameQ nm)) ∨ ((pa : Int) < 0)) ∨ ((pa : Int) > 16)) := by rw [hB37]; simp only [Bool.or_eq_true, decide_eq_true_eq, iB28]
 clear hB37
 intro aC fr
 refine zpk 1 16 [34] fr (news := [(34, (cond (!B37) (pT b1 2) undef))]) (by cases B37 <;> kernel_rfl) ?_
 intro aC fr
 refine From_either (B := (!B37)) (d := (some 35)) (.int .i64 pa) fr (by cases B37 <;> kernel_rfl) (fun hB hh => ?_) ?_
 cases B37 <;> first | (exact absurd hB (by decide)) | skip
 have c37 : ¬ (((¬ (nameQ nm)) ∨ ((pa : Int) < 0)) ∨ ((pa : Int) > 16)) := (fun h => Bool.noConfusion (iB37.2 h) : ¬ (((¬ (nameQ nm)) ∨ ((pa : Int) < 0)) ∨ ((pa : Int) > 16)))
 exact From_ld (some 35) ⟨b1, 2, none⟩ fr (by kernel_rfl) (.int .i64 pa) (blk_cell (M18.get 0 rfl) rfl) hh
 intro aC fr
 refine zpk 1 18 [36] fr (news := [(36, (cond (!B37) (pT b1 3) undef))]) (by cases B37 <;> kernel_rfl) ?_
 intro aC fr
 refine From_either (B := (!B37)) (d := (some 37)) (.int .i64 va) fr (by cases B37 <;> kernel_rfl) (fun hB hh => ?_) ?_
 cases B37 <;> first | (exact absurd hB (by decide)) | skip
 have c37 : ¬ (((¬ (nameQ nm)) ∨ ((pa : Int) < 0)) ∨ ((pa : Int) > 16)) := (fun h => Bool.noConfusion (iB37.2 h) : ¬ (((¬ (nameQ nm)) ∨ ((pa : Int) < 0)) ∨ ((pa : Int) > 16)))
 exact From_ld (some 37) ⟨b1, 3, none⟩ fr (by kernel_rfl) (.int .i64 va) (blk_cell (M18.get 0 rfl) rfl) hh
 intro aC fr
 refine zpk 3 22 [39, 40] fr (news := [(39, (.bool (B37 || decide ((pa : Int) > va)))), (40, (.bool (B37 || decide ((pa : Int) > va))))]) (by cases B37 <;> kernel_rfl) ?_
 intro aC fr
 obtain ⟨B50, hB50⟩ : ∃ B : Bool, B = (B37 || decide ((pa : Int) > va)) := ⟨_, rfl⟩
 revert aC
 refine zkp [(1, (pT b1 0)), (40, (.bool (B37 || decide ((pa : Int) > va))))] ?_
 rw [← hB50]
 have iB50 : B50 = true ↔ ((((¬ (nameQ nm)) ∨ ((pa : Int) < 0)) ∨ ((pa : Int) > 16)) ∨ ((pa : Int) > va)) := by rw [hB50]; simp only [Bool.or_eq_true, decide_eq_true_eq, iB37]
 clear hB50
 intro aC fr
 refine zpk 1 23 [41] fr (news := [(41, (cond (!B50) (pT b1 4) undef))]) (by cases B50 <;> kernel_rfl) ?_
 intro aC fr
 refine From_either (B := (!B50)) (d := (some 42)) (.slice A ((bsOf fs).length) c) fr (by cases B50 <;> kernel_rfl) (fun hB hh => ?_) ?_
 cases B50 <;> first | (exact absurd hB (by decide)) | skip
 have c50 : ¬ ((((¬ (nameQ nm)) ∨ ((pa : Int) < 0)) ∨ ((pa : Int) > 16)) ∨ ((pa : Int) > va)) := (fun h => Bool.noConfusion (iB50.2 h) : ¬ ((((¬ (nameQ nm)) ∨ ((pa : Int) < 0)) ∨ ((pa : Int) > 16)) ∨ ((pa : Int) > va)))
 exact From_ld (some 42) ⟨b1, 4, none⟩ fr (by kernel_rfl) (.slice A ((bsOf fs).length) c) (blk_cell (M18.get 0 rfl) rfl) hh
 intro aC fr
 refine zpk 4 28 [45, 46] fr (news := [(45, (.bool (B50 || (((((bsOf fs).length : Nat) : Int) : Int) == 0)))), (46, (.bool (B50 || (((((bsOf fs).length : Nat) : Int) : Int) == 0))))]) (by cases B50 <;> kernel_rfl) ?_
 intro aC fr
 obtain ⟨B59, hB59⟩ : ∃ B : Bool, B = (B50 || (((((bsOf fs).length : Nat) : Int) : Int) == 0)) := ⟨_, rfl⟩
 revert aC
 refine zkp [(1, (pT b1 0)), (46, (.bool (B50 || (((((bsOf fs).length : Nat) : Int) : Int) == 0))))] ?_
 rw [← hB59]
 have iB59 : B59 = true ↔ (((((¬ (nameQ nm)) ∨ ((pa : Int) < 0)) ∨ ((pa : Int) > 16)) ∨ ((pa : Int) > va)) ∨ (((((bsOf fs).length : Nat) : Int) : Int) = 0)) := by rw [hB59]; simp only [Bool.or_eq_true, beq_iff_eq, iB50]
 clear hB59
 intro aC fr
 refine zpk 1 29 [47] fr (news := [(47, (cond (!B59) (pT b1 4) undef))]) (by cases B59 <;> kernel_rfl) ?_
 intro aC fr
 refine From_either (B := (!B59)) (d := (some 48)) (.slice A ((bsOf fs).length) c) fr (by cases B59 <;> kernel_rfl) (fun hB hh => ?_) ?_
 cases B59 <;> first | (exact absurd hB (by decide)) | skip
 have c59 : ¬ (((((¬ (nameQ nm)) ∨ ((pa : Int) < 0)) ∨ ((pa : Int) > 16)) ∨ ((pa : Int) > va)) ∨ (((((bsOf fs).length : Nat) : Int) : Int) = 0)) := (fun h => Bool.noConfusion (iB59.2 h) : ¬ (((((¬ (nameQ nm)) ∨ ((pa : Int) < 0)) ∨ ((pa : Int) > 16)) ∨ ((pa : Int) > va)) ∨ (((((bsOf fs).length : Nat) : Int) : Int) = 0)))
 exact From_ld (some 48) ⟨b1, 4, none⟩ fr (by kernel_rfl) (.slice A ((bsOf fs).length) c) (blk_cell (M18.get 0 rfl) rfl) hh
 intro aC fr
 cases B59
 have c59 : ¬ (((((¬ (nameQ nm)) ∨ ((pa : Int) < 0)) ∨ ((pa : Int) > 16)) ∨ ((pa : Int) > va)) ∨ (((((bsOf fs).length : Nat) : Int) : Int) = 0)) := (fun h => Bool.noConfusion (iB59.2 h) : ¬ (((((¬ (nameQ nm)) ∨ ((pa : Int) < 0)) ∨ ((pa : Int) > 16)) ∨ ((pa : Int) > va)) ∨ (((((bsOf fs).length : Nat) : Int) : Int) = 0)))
 obtain ⟨x0, hx0⟩ := get_of (l := fs) (i := 0) (by omega)
 have hl0 : x0.phis.length ≤ 281474976710656 := (hok.get hx0).lp
 obtain ⟨ad66, rfl⟩ := blocks_some (M18.ro hB) (bsOf_get hx0)
 revert aC
 refine zix ad66 ((bsOf fs).length) 6 0 <| zpn 1 <| zld ((ad66 : Addr).add ((0 : Int).toNat * 6)) (.slice x0.pA x0.phis.length x0.pc) (fblk_get (M18.ro hB) rfl hx0 0 _ rfl) <| zpn 3 <| zfe <| zcD ((((x0.phis.length : Nat) : Int) : Int) > 0) (fun c67 => ?_) (fun c67 => ?_)
 refine zsp <| zre <| zo1 (.int .i64 4) ?_
 have M68 := M18.od [] 0
 exact ⟨congrArg _ (valid_4 hbig (fun h => by have h1 := h.name; have h2 := h.par; have h3 := h.pos; have h4 := h.phis x0 hx0; unfold nameQ at *; omega)), M68⟩
 have hfrm : nameQ nm ∧ 0 ≤ pa ∧ pa ≤ 16 ∧ pa ≤ va ∧ 0 < fs.length ∧ x0.phis.length = 0 := by unfold nameQ at *; omega
 obtain ⟨n, hva⟩ : ∃ n : Nat, va = (n : Int) := ⟨va.toNat, by omega⟩
 refine zsk <| zsq <| zsp <| zbk 0 ?_
 intro aC fr
 refine zlp (fun n_ a_ w_ => ∃ (m : Nat), n_ = fs.length - m ∧ Fr a_ 135 [(1, (pT b1 0)), (3, (nV m))] ∧ Mem noS w w_ [.blk b1 24 (fV nm wk pa va (some ad66) c fs)] ∧ (m ≤ fs.length) ∧ (∀ (i : Nat) (x : FBlk), i < m → fs[i]? = some x → endsQ ((bsOf fs).length : Int) x) ∧ (ShapesTo fs m)) (n := _) ⟨0, rfl, fr.kp [1, 3], M18, by omega, fun _ _ h => absurd h (Nat.not_lt_zero _), fun _ _ h => absurd h (Nat.not_lt_zero _)⟩ ?_
 clear fr aC M18; rintro n aC w71 ⟨m, rfl, fr, M72, hm1, hen, hsh⟩
 revert aC
 refine zsq <| zsr <| zpn 2 <| zld ⟨b1, 4, none⟩ (.slice (some ad66) ((bsOf fs).length) c) (blk_cell (M72.get 0 rfl) rfl) <| zpn 2 <| zfe <| zcD (((m : Int) : Int) < (((bsOf fs).length : Nat) : Int)) (fun c75 => ?_) (fun c75 => ?_)
 refine zsk <| zsq <| zbk 1 <| zsq <| zsq ?_
 obtain ⟨x, hx⟩ := get_of (l := fs) (i := m) (by omega)
 have hl1 : x.phis.length ≤ 281474976710656 := (hok.get hx).lp
 have hl2 : x.insts.length ≤ 281474976710656 := (hok.get hx).li
 obtain ⟨Ben, hBen⟩ : ∃ B : Bool, B = decide (endsQ ((bsOf fs).length : Int) x) := ⟨_, rfl⟩
 refine zkp [(1, (pT b1 0)), (3, (nV m))] ?_
 intro aC fr
 refine zdr (N := 135) (env0 := [(1, (pT b1 0)), (3, (nV m))]) (specAt [.det (fA nm wk pa va (some ad66) c fs), .det (pT b1 4), .det (.slice (some ad66) ((bsOf fs).length) c), .det (nV m), .det (.pointer (some ((ad66 : Addr).add (((m : Int)).toNat * 6)))), .det (xA x), .det (.bool Ben), .det (.bool (!Ben))]) fr (la (la (la (la (la (la (la (la lz (dS ⟨b1, 0, none⟩ (fV nm wk pa va (some ad66) c fs) fun w_ hK => (blk_cells ((M72.then_ hK).get 0 rfl)))) dP) (dL ⟨b1, 4, none⟩ (.slice (some ad66) ((bsOf fs).length) c) fun w_ hK => (blk_cell ((M72.then_ hK).get 0 rfl) rfl))) dP) (dI ad66 ((bsOf fs).length) 6 (m : Int))) (dS ((ad66 : Addr).add (((m : Int)).toNat * 6)) (xV x) fun w_ hK => (fblk_get ((M72.then_ hK).ro hB) rfl hx))) (dD (fun w_ hK => rends_c (.string nm) (.bool wk) (.int .i64 pa) (.int .i64 va) (some ad66) (bsOf fs).length c x w_) (congrArg Value.bool hBen.symm))) dP) ?_
 intro aC w80 vs hK hv fr
 revert aC; refine zkp [(1, (pT b1 0)), (3, (nV m)), (69, (.bool (!Ben)))] ?_
 have M81 := M72.then_ hK
 clear hK hv fr aC M72; clear vs
 cases Ben
 have cen : (decide (endsQ ((bsOf fs).length : Int) x)) = false := hBen.symm
 refine zcT <| zsp <| zre <| zbr <| zbr <| zo1 (.int .i64 4) ?_
 have M82 := M81.od [] 0
 exact ⟨congrArg _ (valid_4 hbig (fun h => of_decide_eq_false cen (by rw [hbl]; exact h.ends x (List.mem_of_getElem? hx)))), M82⟩
 have cen : (decide (endsQ ((bsOf fs).length : Int) x)) = true := hBen.symm
 have heq := of_decide_eq_true cen
 refine zcF <| zsk <| zsp <| zbk 2 ?_
 intro aC fr
 refine zlp (fun n_ a_ w_ => ∃ (j : Nat), n_ = x.insts.length - j ∧ Fr a_ 135 [(1, (pT b1 0)), (3, (nV m)), (4, (nV j))] ∧ Mem noS w w_ [.blk b1 24 (fV nm wk pa va (some ad66) c fs)] ∧ (j ≤ x.insts.length) ∧ (ShapesIn x j)) (n := _) ⟨0, rfl, fr.kp [1, 3, 4], M81, by omega, fun _ _ h => absurd h (Nat.not_lt_zero _)⟩ ?_
 clear fr aC M81; rintro n aC w85 ⟨j, rfl, fr, M86, hj, hsi⟩
 revert aC
 refine zsq <| zsr <| zpn 2 <| zld ⟨b1, 4, none⟩ (.slice (some ad66) ((bsOf fs).length) c) (blk_cell (M86.get 0 rfl) rfl) <| zpn 1 <| zix ad66 ((bsOf fs).length) 6 (m : Int) <| zpn 1 <| zld (((ad66 : Addr).add (((m : Int)).toNat * 6)).add 1) (.slice x.iA x.insts.length x.ic) (fblk_get (M86.ro hB) rfl hx 1 _ rfl) <| zpn 2 <| zfe <| zcD (((j : Int) : Int) < ((x.insts.length : Nat) : Int)) (fun c89 => ?_) (fun c89 => ?_)
 refine zsk <| zsq <| zbk 3 <| zsr ?_
 obtain ⟨p, hp3⟩ := get_of (l := x.insts) (i := j) (by omega)
 have hpo : p.Ok := (hok.get hx).insts p (List.mem_of_getElem? hp3)
 refine zpn 1 <| zld ⟨b1, 4, none⟩ (.slice (some ad66) ((bsOf fs).length) c) (blk_cell (M86.get 0 rfl) rfl) <| zpn 1 <| zix ad66 ((bsOf fs).length) 6 (m : Int) <| zpn 1 <| zld (((ad66 : Addr).add (((m : Int)).toNat * 6)).add 1) (.slice x.iA x.insts.length x.ic) (fblk_get (M86.ro hB) rfl hx 1 _ rfl) <| zkp [(1, (pT b1 0)), (3, (nV m)), (4, (nV j)), (86, (.slice x.iA x.insts.length x.ic))] <| zpn 1 ?_
 obtain ⟨ad90, had91⟩ := rds_some (M86.ro (hA.insts hx)) (cs := p.cells) (i := j) (by simp [hp3])
 intro aC fr
 refine From_ixA (some 88) x.iA ad90 x.insts.length 5 (j : Int) fr (by kernel_rfl) had91 (by omega) (by omega) ?_
 intro aC fr
 revert aC
 refine zls ((ad90 : Addr).add (((j : Int)).toNat * 5)) (iV p) (ins_get (M86.ro (hA.insts hx)) had91 hp3) <| zcl (rshape_c p w85 hpo) ?_
 rintro _ w96 ⟨rfl, M97x⟩
 have M97 := M86.cl M97x
 refine zpn 1 <| zfe <| zcP (!(decide (shapeQ p))) (¬ (shapeQ p)) (by simp only [notT, decide_eq_true_eq]) (fun c98 => ?_) (fun c98 => ?_)
 refine zsp <| zre <| zbr <| zbr <| zbr <| zbr <| zo1 (.int .i64 4) ?_
 have M99 := M97.od [] 0
 exact ⟨congrArg _ (valid_4 hbig (fun h => c98 (h.vals.1 x (List.mem_of_getElem? hx) p (List.mem_of_getElem? hp3)))), M99⟩
 have hsq := Classical.not_not.1 c98
 refine zsk <| zrg <| zpn 1 <| zar ((j : Int) + 1) <| zpn 1 <| zfe ?_
 intro aC fr
 exact ⟨x.insts.length - (j + 1), by omega, j + 1, rfl, fr.kp [1, 3, 4], M97, by omega, hsi.next hp3 hsq⟩
 refine zex 2 <| zbh <| zrg <| zpn 1 <| zar ((m : Int) + 1) <| zpn 1 <| zfe ?_
 have hje : j = x.insts.length := by omega
 rw [hje] at hsi
 intro aC fr
 exact ⟨fs.length - (m + 1), by omega, m + 1, rfl, fr.kp [1, 3], M86, by omega, ends_next hen hx heq, hsh.next hx hsi⟩
 refine zex 0 <| zbh <| zsr <| zls ⟨b1, 0, none⟩ (fV nm wk pa va (some ad66) c fs) (blk_cells (M72.get 0 rfl)) <| zcl (rmade_c n nm wk pa va (some ad66) c fs w71 hN hok hva (by omega) (by omega) (hA.at_ M72)) ?_
 rintro _ w104 ⟨Bv, Am, nM, cM, gm, l, rfl, hBv, htab, M105x⟩
 have M105 := M72.cl M105x
 refine zpn 5 <| zfe <| zsr <| zls ⟨b1, 0, none⟩ (fV nm wk pa va (some ad66) c fs) (blk_cells (M105.get 0 rfl)) <| zcl (vs := #[(fA nm wk pa va (some ad66) c fs), (.int .i64 (-1))]) (walk_c _ _ _ _ (some ad66) c (bsOf fs) (-1) w104 hm (hB.at_ M105)) ?_
 rintro _ w108 ⟨A106, c107, rfl, M109x⟩
 have M109 := M105.cl M109x
 refine zpn 1 <| zfe <| zsq <| zsr ?_
 have hwl := walkL_len (bsOf fs) (-1)
 obtain ⟨gw, rfl⟩ := row_some (M109.get 2 rfl) (by omega)
 refine zpn 1 <| zfe <| zbk 4 ?_
 intro aC fr
 refine zlp (fun n_ a_ w_ => ∃ (k : Nat) (Bk : Bool), n_ = fs.length - k ∧ Fr a_ 135 [(1, (pT b1 0)), (5, (.slice Am nM cM)), (6, (.bool Bk)), (7, (.slice (sM gw) ((bsOf fs).length) c107)), (8, (nV k))] ∧ Mem noS w w_ [.blk b1 24 (fV nm wk pa va (some ad66) c fs), .row 94 2 (sM gm) n n (mdc l), .row 4 1 (sM gw) ((bsOf fs).length) c107 (bools (walkL (bsOf fs) (-1)))] ∧ (k ≤ fs.length) ∧ (Bk = true ↔ Bv = true ∧ ∀ i : Nat, i < k → walkB (bsOf fs) (-1) (i : Int) = true)) (n := _) ⟨0, Bv, rfl, fr.kp [1, 5, 6, 7, 8], M109, by omega, ⟨fun h => ⟨h, fun _ h => absurd h (Nat.not_lt_zero _)⟩, fun h => h.1⟩⟩ ?_
 clear fr aC M109; rintro n aC w112 ⟨k, Bk, rfl, fr, M113, hk, hbk⟩
 revert aC
 refine zsq <| zsp <| zcD (((k : Int) : Int) < (((bsOf fs).length : Nat) : Int)) (fun c116 => ?_) (fun c116 => ?_)
 refine zsk <| zsq <| zbk 5 <| zrg <| zpn 2 ?_
 obtain ⟨B117, hB117⟩ : ∃ B : Bool, B = Bk := ⟨_, rfl⟩
 refine zkp [(1, (pT b1 0)), (5, (.slice Am nM cM)), (7, (.slice (sM gw) ((bsOf fs).length) c107)), (8, (nV k)), (106, (.bool Bk))] ?_
 rw [← hB117]
 have iB117 : B117 = true ↔ (Bk = true) := by rw [hB117]
 clear hB117
 intro aC fr
 refine zpk 2 4 [107, 108] fr (news := [(107, (cond B117 (.slice (sM gw) ((bsOf fs).length) c107) undef)), (108, (cond B117 (nV k) undef))]) (by cases B117 <;> kernel_rfl) ?_
 intro aC fr
 refine From_either (B := B117) (d := (some 109)) (.pointer (some ((⟨gw, 0, none⟩ : Addr).add (((k : Int)).toNat * 1)))) fr (by cases B117 <;> kernel_rfl) (fun hB hh => ?_) ?_
 cases B117 <;> first | (exact absurd hB (by decide)) | skip
 have c117 : (Bk = true) := iB117.1 rfl
 exact From_ix (some 109) ⟨gw, 0, none⟩ ((bsOf fs).length) 1 (k : Int) fr (by kernel_rfl) (by omega) (by omega) hh
 intro aC fr
 refine From_either (B := B117) (d := (some 110)) (.bool (walkB (bsOf fs) (-1) (k : Int))) fr (by cases B117 <;> kernel_rfl) (fun hB hh => ?_) ?_
 cases B117 <;> first | (exact absurd hB (by decide)) | skip
 have c117 : (Bk = true) := iB117.1 rfl
 exact From_ld (some 110) ((⟨gw, 0, none⟩ : Addr).add (((k : Int)).toNat * 1)) fr (by kernel_rfl) (.bool (walkB (bsOf fs) (-1) (k : Int))) (by rw [← walkL_get (bs := bsOf fs) (bar := -1) (by omega)]; exact rd_get1 (row_rd (M113.get 2 rfl)) rfl (bools_get (by omega))) hh
 intro aC fr
 refine zpk 2 8 [6, 111] fr (news := [(6, (.bool (B117 && (walkB (bsOf fs) (-1) (k : Int))))), (111, (.bool (B117 && (walkB (bsOf fs) (-1) (k : Int)))))]) (by cases B117 <;> kernel_rfl) ?_
 intro aC fr
 revert aC
 refine zfe <| zrg <| zpn 1 <| zar ((k : Int) + 1) <| zpn 1 <| zfe ?_
 intro aC fr
 exact ⟨fs.length - (k + 1), by omega, k + 1, (B117 && (walkB (bsOf fs) (-1) (k : Int))), rfl, fr.kp [1, 5, 6, 7, 8], M113, by omega, walk_step hbk iB117⟩
 refine zex 4 <| zbh <| zsq <| zsr <| zpn 3 ?_
 obtain ⟨B130, hB130⟩ : ∃ B : Bool, B = (!Bk) := ⟨_, rfl⟩
 refine zkp [(1, (pT b1 0)), (5, (.slice Am nM cM)), (114, (.bool (!Bk)))] ?_
 rw [← hB130]
 have iB130 : B130 = true ↔ (¬ (Bk = true)) := by rw [hB130]; simp only [notT]
 clear hB130
 cases B130
 have c130 : Bk = true := Classical.not_not.1 ((fun h => Bool.noConfusion (iB130.2 h) : ¬ (¬ (Bk = true))))
 have hbt : Bk = true := by cases Bk <;> first | rfl | (exact absurd rfl c130) | (exact absurd c130 (by decide))
 refine zls ⟨b1, 0, none⟩ (fV nm wk pa va (some ad66) c fs) (blk_cells (M113.get 0 rfl)) <| zcl (vs := #[(fA nm wk pa va (some ad66) c fs), (.int .i64 0)]) (rsources_c _ _ _ _ (some ad66) c (bsOf fs) 0 w112 hm (hB.at_ M113)) ?_
 rintro _ w133 ⟨A131, c132, rfl, M134x⟩
 have M134 := M113.cl M134x
 refine zpn 3 <| zfe <| zcD (((((srcs (bsOf fs) 0).length : Nat) : Int) : Int) > 0) (fun c135 => ?_) (fun c135 => ?_)
 refine zsp <| zre <| zo1 (.int .i64 4) ?_
 have M136 := M134.od [] 0
 exact ⟨congrArg _ (valid_4 hbig (fun h => by have := h.src; omega)), M136⟩
 refine zsk <| zsr ?_
 obtain ⟨hbv, hwk⟩ := hbk.1 hbt
 obtain ⟨e1, e2, e3, htb⟩ := htab hbv
 subst e1
 have e4 := e2.symm
 subst e4
 have e5 := e3.symm
 subst e5
 have hall : (orderL (bsOf fs)).length = fs.length := by rw [← bsOf_len fs]; exact all_walk.2 (fun i hi => hwk i (by omega))
 have hvq : VQ pa va fs := ⟨((show m = fs.length by omega) ▸ hsh : ShapesTo fs fs.length).all, hBv.1 hbv⟩
 have hpos : 0 < fs.length := by omega
 have hag := agree_ref hpos hall
 have hsrc0 : (srcs (bsOf fs) 0).length = 0 := by omega
 refine zls ⟨b1, 0, none⟩ (fV nm wk pa va (some ad66) c fs) (blk_cells (M134.get 0 rfl)) <| zcl (vs := #[(fA nm wk pa va (some ad66) c fs)]) (over_c _ _ _ _ (some ad66) c (bsOf fs) w133 hm (hB.at_ M134)) ?_
 rintro _ w140 ⟨A137, c138, rows139, rfl, hfrows139, M141x⟩
 have M141 := M134.cl M141x
 refine zpn 1 <| zfe <| zsq <| zsp <| zbk 6 ?_
 intro aC fr
 refine zlp (fun n_ a_ w_ => ∃ (k2 : Nat), n_ = fs.length - k2 ∧ Fr a_ 135 [(1, (pT b1 0)), (5, (.slice (sM gm) n n)), (9, (.slice A137 ((bsOf fs).length) c138)), (10, (nV k2))] ∧ Mem noS w w_ [.blk b1 24 (fV nm wk pa va (some ad66) c fs), .row 94 2 (sM gm) n n (mdc l), .row 4 1 (sM gw) ((bsOf fs).length) c107 (bools (walkL (bsOf fs) (-1))), .row 3 1 A131 ((srcs (bsOf fs) 0).length) c132 (ints (srcs (bsOf fs) 0)), .fam 4 rows139, .row 46 1 A137 ((bsOf fs).length) c138 (slv rows139)] ∧ (k2 ≤ fs.length) ∧ (∀ j, j < k2 → readsQ (overD (bsOf fs)) (fun _ => 20000) finR pa va fs j)) (n := _) ⟨0, rfl, fr.kp [1, 5, 9, 10], M141, by omega, fun _ h => absurd h (Nat.not_lt_zero _)⟩ ?_
 clear fr aC M141; rintro n aC w144 ⟨k2, rfl, fr, M145, hk2, hrd⟩
 revert aC
 refine zsq <| zsr <| zpn 2 <| zld ⟨b1, 4, none⟩ (.slice (some ad66) ((bsOf fs).length) c) (blk_cell (M145.get 0 rfl) rfl) <| zpn 2 <| zfe <| zcD (((k2 : Int) : Int) < (((bsOf fs).length : Nat) : Int)) (fun c148 => ?_) (fun c148 => ?_)
 refine zsk <| zsq <| zbk 7 <| zsr <| zls ⟨b1, 0, none⟩ (fV nm wk pa va (some ad66) c fs) (blk_cells (M145.get 0 rfl)) <| zpn 3 <| zcl (rreads_c nm wk gm n c138 k2 A137 pa va (some ad66) c fs l rows139 w144 hN (by omega) hok (hA.at_ M145) (M145.own_ro 1 rfl) (M145.own_ro 4 rfl) (M145.own_ro 5 rfl) hfrows139 hva htb (fun d hd => (hvq.2.1 d hd).1)) ?_
 rintro _ w149 ⟨rfl, M150x⟩
 have M150 := M145.cl M150x
 refine zpn 1 <| zfe <| zcP (!(decide (readsQ (overD (bsOf fs)) (fun _ => 20000) finR pa va fs k2))) (¬ (readsQ (overD (bsOf fs)) (fun _ => 20000) finR pa va fs k2)) (by simp only [notT, decide_eq_true_eq]) (fun c151 => ?_) (fun c151 => ?_)
 refine zsp <| zre <| zbr <| zbr <| zo1 (.int .i64 4) ?_
 have M152 := M150.od [] 0
 exact ⟨congrArg _ (valid_4 hbig (fun h => c151 (hag.symm.readsQ (fun x hx hR => hR) (h.reads k2 (by omega))))), M152⟩
 have hrq := Classical.not_not.1 c151
 refine zsk <| zrg <| zpn 1 <| zar ((k2 : Int) + 1) <| zpn 1 <| zfe ?_
 intro aC fr
 exact ⟨fs.length - (k2 + 1), by omega, k2 + 1, rfl, fr.kp [1, 5, 9, 10], M150, by omega, lt_succ_cases hrd hrq⟩
 refine zex 6 <| zbh <| zsp <| zre <| zo1 (.int .i64 0) ?_
 have M155 := M145.od [] 0
 exact ⟨congrArg _ (valid_0 hbig ⟨hfrm.1, ⟨hfrm.2.1, hfrm.2.2.1, hfrm.2.2.2.1⟩, hpos, fun x hx => by rw [hx0] at hx; injection hx with hx; subst hx; exact hfrm.2.2.2.2.2, hsrc0, hall, fun x hx => by obtain ⟨i, hi⟩ := List.mem_iff_getElem?.1 hx; have := hen i x (by have := (List.getElem?_eq_some_iff.1 hi).1; omega) hi; rwa [hbl] at this, hvq, fun j hj => hag.readsQ (fun x hx hR => hR) (hrd j (by omega))⟩), M155⟩
 have c130 : Bk = false := Bool.eq_false_iff.2 (iB130.1 rfl)
 refine zpn 5 <| zfe <| zcT <| zsp <| zre <| zo1 (.int .i64 4) ?_
 have M156 := M113.od [] 0
 exact ⟨congrArg _ (valid_4 hbig (fun h => absurd (hbk.2 ⟨hBv.2 h.vals.2, fun i hi => all_walk.1 (by rw [bsOf_len]; exact h.all) i (by omega)⟩) (fun e => by rw [e] at c130; exact absurd c130 (by decide)))), M156⟩
 have c59 : (((((¬ (nameQ nm)) ∨ ((pa : Int) < 0)) ∨ ((pa : Int) > 16)) ∨ ((pa : Int) > va)) ∨ (((((bsOf fs).length : Nat) : Int) : Int) = 0)) := iB59.1 rfl
 revert aC
 refine zpn 6 <| zfe <| zcT <| zsp <| zre <| zo1 (.int .i64 4) ?_
 have M157 := M18.od [] 0
 exact ⟨congrArg _ (valid_4 hbig (fun h => by have h1 := h.name; have h2 := h.par; have h3 := h.pos; unfold nameQ at *; omega)), M157⟩
end Go.Proofs.Ytejbeeaomokjpaa
namespace Go.Proofs.Ytejbeeaomokjpaa
open Go.Mor
theorem num3_c (e : Int) (w : World) :
    Calls Try.prog 23 #[(.int .i64 e)] w (Ret fun v w' => v = .int .i64 e ∧ Mem noS w w' []) := by
 refine zen 4 [(.int .i64 e)] Try.func23 ?_
 have hM := Mem.init w
 refine zsp <| zsp <| zre <| zo1 (.int .i64 e) ?_
 exact ⟨rfl, hM⟩
theorem great3_c (nm : ByteArray) (wk : Bool) (pa va : Int) (A : Option Addr) (c : Nat) (fs : List FBlk) (w : World) (hok : FOk fs) (hA : RO noS w (.fn A fs)) :
    Calls Try.prog 20 #[(fA nm wk pa va A c fs)] w (Ret fun v w' => v = .bool (decide (great3Q va fs)) ∧ Mem noS w w' []) := by
 have hbl := bsOf_len fs
 have hB := hA.bs
 refine zen 10 [(fA nm wk pa va A c fs)] Try.func20 ?_
 have hM := Mem.init w
 refine zsr <| zbx hM 24 (fA nm wk pa va A c fs) (fV nm wk pa va A c fs) fun b1 w2 hb1 M3 => ?_
 replace M3 := M3.nf
 clear hM
 refine zpn 1 <| zfe <| zsr <| zls ⟨b1, 0, none⟩ (fV nm wk pa va A c fs) (blk_cells (M3.get 0 rfl)) <| zcl (great19_c nm wk pa va A c fs w2 hok (hA.at_ M3)) ?_
 rintro _ w4 ⟨rfl, M5x⟩
 have M5 := M3.cl M5x
 refine zpn 1 ?_
 obtain ⟨B6, hB6⟩ : ∃ B : Bool, B = decide (greatQ va fs) := ⟨_, rfl⟩
 refine zkp [(1, (pT b1 0)), (5, (.bool (decide (greatQ va fs))))] ?_
 rw [← hB6]
 have iB6 : B6 = true ↔ (greatQ va fs) := by rw [hB6]; simp only [decide_eq_true_eq]
 clear hB6
 cases B6
 have c6 : ¬ (greatQ va fs) := (fun h => Bool.noConfusion (iB6.2 h) : ¬ (greatQ va fs))
 refine zls ⟨b1, 0, none⟩ (fV nm wk pa va A c fs) (blk_cells (M5.get 0 rfl)) <| zcl (vs := #[(fA nm wk pa va A c fs)]) (rsize_c _ _ _ _ A c fs w4 (Nat.le_trans (greatQ_len (by assumption)) (by decide)) hok (hA.at_ M5)) ?_
 rintro _ w7 ⟨rfl, M8x⟩
 have M8 := M5.cl M8x
 refine zpn 3 <| zfe <| zre <| zo1 (.bool (decide ((((sizeF fs : Nat) : Int) : Int) > 1500))) ?_
 have hR : decide ((((sizeF fs : Nat) : Int) : Int) > 1500) = true ↔ ((((sizeF fs : Nat) : Int) : Int) > 1500) := by simp only [decide_eq_true_eq]
 have M9 := M8.od [] 0
 exact ⟨bool_dec hR (by first | (have h1 : greatQ va fs := ‹_›; exact ⟨fun _ => .inl h1, fun _ => trivial⟩) | (have h1 : ¬ greatQ va fs := ‹_›; unfold great3Q; simp only [h1, false_or]; omega)), M9⟩
 have c6 : (greatQ va fs) := iB6.1 rfl
 refine zpn 5 <| zfe <| zre <| zo1 (.bool true) ?_
 have hR : true = true ↔ True := by simp
 have M10 := M5.od [] 0
 exact ⟨bool_dec hR (by first | (have h1 : greatQ va fs := ‹_›; exact ⟨fun _ => .inl h1, fun _ => trivial⟩) | (have h1 : ¬ greatQ va fs := ‹_›; unfold great3Q; simp only [h1, false_or]; omega)), M10⟩
theorem dead_ok (nm : ByteArray) (wk : Bool) (pa va : Int) (A : Option Addr) (c : Nat) (fs : List FBlk) (w : World) (hN : fs.length ≤ 1000) (hok : FOk fs) (hA : RO noS w (.fn A fs)) (hv : validN nm pa va fs = 0) : Calls Try.prog 22 #[fA nm wk pa va A c fs] w (Ret fun v w' => ∃ B cB fd, v = .tuple #[fA nm wk pa va B cB fd, .int .i64 0] ∧ AlikeF fd (deadF fs) ∧ Mem noS w w' (ownF B cB fd)) :=
  (dead_c nm wk pa va A c fs w hN hok hA).mono fun _ _ ⟨v, he, h⟩ => ⟨v, he, h.elim (fun h => absurd hv h.1) (fun h => h.2)⟩
theorem awake3_c (w : World) :
    Calls Try.prog 21 #[] w (Ret fun v w' => v = .bool true ∧ Mem noS w w' []) := by
 refine zen 25 [] Try.func21 ?_
 have hM := Mem.init w
 refine zsp <| zsr <| zpn 1 ?_
 intro aC fr
 refine zBs 5 34 1 #[(0, (.tmp 4))] 34 fr (e := 39) (size := 5) (zs := [(.int .i64 0), (.int .i64 0), (.int .i64 0), (.string ⟨#[]⟩), (.slice none 0 0)]) (vs := [(0, (.agg #[(.int .i64 1), (.int .i64 0), (.int .i64 7), (.string ⟨#[]⟩), (.slice none 0 0)]))]) (cs := [(.int .i64 1), (.int .i64 0), (.int .i64 7), (.string ⟨#[]⟩), (.slice none 0 0)]) hM ?_
 intro b1 w2 hb1 _ M3 _ aC ea fr; clear ea
 replace M3 := M3.nf
 clear hM
 revert aC
 refine zpn 1 ?_
 intro aC fr
 refine zBs 7 22 1 #[(0, (.tmp 6))] 22 fr (e := 36) (size := 6) (zs := [(.slice none 0 0), (.slice none 0 0), (.int .i64 0), (.int .i64 0), (.int .i64 0), (.int .i64 0)]) (vs := [(0, (.agg #[(.slice none 0 0), (.slice (sM b1) 1 1), (.int .i64 2), (.int .i64 (-1)), (.int .i64 0), (.int .i64 0)]))]) (cs := [(.slice none 0 0), (.slice (sM b1) 1 1), (.int .i64 2), (.int .i64 (-1)), (.int .i64 0), (.int .i64 0)]) M3 ?_
 intro b8 w9 hb8 _ M10 _ aC ea fr; clear ea
 replace M10 := M10.nf
 revert aC
 refine zpn 1 <| zcl (dead_ok dxN false 0 1 (sM b8) 1 [dxB (sM b1)] w9 (by simp) dx_ok (one_ro (x := dxB (sM b1)) rfl (M10.get 1 rfl) (M10.get 0 rfl) (by intro i hi; simp only [dxB, List.mem_cons, List.not_mem_nil, or_false] at hi; subst hi; exact rd_nil_)) dx_valid) ?_
 rintro _ w18 ⟨B15, cB16, fd17, rfl, hfd17, M19x⟩
 have M19 := M10.cl M19x
 refine zpn 3 <| zal M19 24 [(.string ⟨#[]⟩), (.bool false), (.int .i64 0), (.int .i64 0), (.slice none 0 0)] fun b20 w21 hb20 M22 => ?_
 replace M22 := M22.nf
 refine zss M22 4 [(.string dxN), (.bool false), (.int .i64 0), (.int .i64 1), (.slice B15 ((bsOf fd17).length) cB16)] rfl fun w23 M24 => ?_
 replace M24 := M24.nf
 refine zpn 1 <| zfe <| zsr ?_
 have hvd : validN dxN 0 1 fd17 = 0 := (valid_alike hfd17).trans (dead_valid dx_valid)
 have hsd : sizeF fd17 = 1 := (size_alike hfd17).trans dx_dead
 have hod : FOk fd17 := FOk.alike hfd17.symm (dead_fok dx_ok)
 have hld : fd17.length ≤ 1000 := by rw [hfd17.len, dead_len]; simp
 refine zpn 1 <| zcl (num3_c (0 : Int) w23) ?_
 rintro _ w25 ⟨rfl, M26x⟩
 have M26 := M24.cl M26x
 refine zkp [(1, (pT b20 0)), (13, (nV 0))] <| zcm ((0 : Int) == 0) fun B27 hB27 => ?_
 obtain rfl : B27 = true := by
   have hkn : (((0 : Int) : Int) = 0) := by rfl
   first | exact hB27.trans (decide_eq_true hkn) | exact hB27.trans (decide_eq_false hkn) | exact hB27.trans (beq_iff_eq.2 hkn) | exact hB27.trans (bne_iff_ne.2 hkn) | exact hB27.trans (Bool.eq_false_iff.2 (fun e => hkn (beq_iff_eq.1 e))) | exact hB27.trans (Bool.eq_false_iff.2 (fun e => hkn (bne_iff_ne.1 e)))
 clear hB27
 refine zpn 1 <| zls ⟨b20, 0, none⟩ [(.string dxN), (.bool false), (.int .i64 0), (.int .i64 1), (.slice B15 ((bsOf fd17).length) cB16)] (blk_cells (M26.get 4 rfl)) <| zcl ((by have h9 := rvalid_c dxN false 0 1 B15 cB16 fd17 w25 hld hod (RO.of (own_reads (M26.get 2 rfl) (M26.get 3 rfl))); rw [hvd] at h9; exact h9)) ?_
 rintro _ w28 ⟨rfl, M29x⟩
 have M29 := M26.cl M29x
 refine zcm ((0 : Int) == 0) fun B30 hB30 => ?_
 obtain rfl : B30 = true := by
   have hkn : (((0 : Int) : Int) = 0) := by rfl
   first | exact hB30.trans (decide_eq_true hkn) | exact hB30.trans (decide_eq_false hkn) | exact hB30.trans (beq_iff_eq.2 hkn) | exact hB30.trans (bne_iff_ne.2 hkn) | exact hB30.trans (Bool.eq_false_iff.2 (fun e => hkn (beq_iff_eq.1 e))) | exact hB30.trans (Bool.eq_false_iff.2 (fun e => hkn (bne_iff_ne.1 e)))
 clear hB30
 refine zpn 2 <| zls ⟨b20, 0, none⟩ [(.string dxN), (.bool false), (.int .i64 0), (.int .i64 1), (.slice B15 ((bsOf fd17).length) cB16)] (blk_cells (M29.get 4 rfl)) <| zcl ((by have h9 := rsize_c dxN false 0 1 B15 cB16 fd17 w28 hld hod (RO.of (own_reads (M29.get 2 rfl) (M29.get 3 rfl))); rw [hsd] at h9; exact h9)) ?_
 rintro _ w31 ⟨rfl, M32x⟩
 have M32 := M29.cl M32x
 refine zcm (((1 : Nat) : Int) == 1) fun B33 hB33 => ?_
 obtain rfl : B33 = true := by
   have hkn : ((((1 : Nat) : Int) : Int) = 1) := by rfl
   first | exact hB33.trans (decide_eq_true hkn) | exact hB33.trans (decide_eq_false hkn) | exact hB33.trans (beq_iff_eq.2 hkn) | exact hB33.trans (bne_iff_ne.2 hkn) | exact hB33.trans (Bool.eq_false_iff.2 (fun e => hkn (beq_iff_eq.1 e))) | exact hB33.trans (Bool.eq_false_iff.2 (fun e => hkn (bne_iff_ne.1 e)))
 clear hB33
 refine zpn 2 <| zfe <| zre <| zo1 (.bool true) ?_
 have M34 := M32.od [] 0
 exact ⟨rfl, M34⟩
end Go.Proofs.Ytejbeeaomokjpaa
namespace Go.Proofs.Ytejbeeaomokjpaa
open Go.Mor
theorem deadTwice_c (nm : ByteArray) (wk : Bool) (pa va : Int) (A : Option Addr) (c : Nat) (fs : List FBlk) (w : World) (hok : FOk fs) (hA : RO noS w (.fn A fs)) :
    Calls Try.prog 5 #[(fA nm wk pa va A c fs)] w (Ret fun v w' => v = .bool true ∧ Mem noS w w' []) := by
 have hbl := bsOf_len fs
 have hB := hA.bs
 refine zen 43 [(fA nm wk pa va A c fs)] Try.func5 ?_
 have hM := Mem.init w
 refine zsr <| zbx hM 24 (fA nm wk pa va A c fs) (fV nm wk pa va A c fs) fun b1 w2 hb1 M3 => ?_
 replace M3 := M3.nf
 clear hM
 refine zpn 1 <| zfe <| zsq <| zsr <| zls ⟨b1, 0, none⟩ (fV nm wk pa va A c fs) (blk_cells (M3.get 0 rfl)) <| zcl (great3_c nm wk pa va A c fs w2 hok (hA.at_ M3)) ?_
 rintro _ w4 ⟨rfl, M5x⟩
 have M5 := M3.cl M5x
 refine zpn 1 ?_
 obtain ⟨B6, hB6⟩ : ∃ B : Bool, B = decide (great3Q va fs) := ⟨_, rfl⟩
 refine zkp [(1, (pT b1 0)), (9, (.bool (decide (great3Q va fs))))] ?_
 rw [← hB6]
 have iB6 : B6 = true ↔ (great3Q va fs) := by rw [hB6]; simp only [decide_eq_true_eq]
 clear hB6
 cases B6
 have c6 : ¬ (great3Q va fs) := (fun h => Bool.noConfusion (iB6.2 h) : ¬ (great3Q va fs))
 obtain ⟨hN6, hs8⟩ := great3_no c6
 refine zls ⟨b1, 0, none⟩ (fV nm wk pa va A c fs) (blk_cells (M5.get 0 rfl)) <| zcl (rvalid_c nm wk pa va A c fs w4 (by omega) hok (hA.at_ M5)) ?_
 rintro _ w7 ⟨rfl, M8x⟩
 have M8 := M5.cl M8x
 refine zpn 2 <| zfe <| zcP (((validN nm pa va fs) : Int) != 0) (((validN nm pa va fs) : Int) ≠ 0) (by simp only [bne_iff_ne]) (fun c9 => ?_) (fun c9 => ?_)
 refine zsr <| zcl (awake3_c w7) ?_
 rintro _ w10 ⟨rfl, M11x⟩
 have M11 := M8.cl M11x
 refine zpn 1 <| zfe <| zre <| zo1 (.bool true) ?_
 have M12 := M11.od [] 0
 exact ⟨rfl, M12⟩
 have hv0 : validN nm pa va fs = 0 := by omega
 refine zsk <| zsr <| zls ⟨b1, 0, none⟩ (fV nm wk pa va A c fs) (blk_cells (M8.get 0 rfl)) <| zcl (dead_ok nm wk pa va A c fs w7 (by omega) hok (hA.at_ M8) hv0) ?_
 rintro _ w16 ⟨B13, cB14, fd15, rfl, hfd15, M17x⟩
 have M17 := M8.cl M17x
 refine zpn 3 <| zal M17 24 [(.string ⟨#[]⟩), (.bool false), (.int .i64 0), (.int .i64 0), (.slice none 0 0)] fun b18 w19 hb18 M20 => ?_
 replace M20 := M20.nf
 refine zss M20 3 [(.string nm), (.bool wk), (.int .i64 pa), (.int .i64 va), (.slice B13 ((bsOf fd15).length) cB14)] rfl fun w21 M22 => ?_
 replace M22 := M22.nf
 refine zpn 1 <| zfe <| zsr ?_
 have hv1 : validN nm pa va fd15 = 0 := (valid_alike hfd15).trans (dead_valid hv0)
 have hok1 : FOk fd15 := FOk.alike hfd15.symm (dead_fok hok)
 have hl1 : fd15.length ≤ 1000 := by rw [hfd15.len, dead_len]; omega
 refine zls ⟨b18, 0, none⟩ [(.string nm), (.bool wk), (.int .i64 pa), (.int .i64 va), (.slice B13 ((bsOf fd15).length) cB14)] (blk_cells (M22.get 3 rfl)) <| zcl (dead_ok nm wk pa va B13 cB14 fd15 w21 hl1 hok1 (RO.of (own_reads (M22.get 1 rfl) (M22.get 2 rfl))) hv1) ?_
 rintro _ w26 ⟨B23, cB24, fd25, rfl, hfd25, M27x⟩
 have M27 := M22.cl M27x
 refine zpn 3 <| zal M27 24 [(.string ⟨#[]⟩), (.bool false), (.int .i64 0), (.int .i64 0), (.slice none 0 0)] fun b28 w29 hb28 M30 => ?_
 replace M30 := M30.nf
 refine zkp [(3, (pT b18 0)), (4, (nV 0)), (5, (pT b28 0)), (23, (.agg #[(.string nm), (.bool wk), (.int .i64 pa), (.int .i64 va), (.slice B23 ((bsOf fd25).length) cB24)])), (24, (nV 0))] <| zss M30 6 [(.string nm), (.bool wk), (.int .i64 pa), (.int .i64 va), (.slice B23 ((bsOf fd25).length) cB24)] rfl fun w31 M32 => ?_
 replace M32 := M32.nf
 refine zpn 1 <| zfe <| zsq ?_
 have hv2 : validN nm pa va fd25 = 0 := (valid_alike hfd25).trans (dead_valid hv1)
 have hok2 : FOk fd25 := FOk.alike hfd25.symm (dead_fok hok1)
 have hl2 : fd25.length ≤ 1000 := by rw [hfd25.len, dead_len]; omega
 have hsz : sizeF fd15 = sizeF fd25 := by rw [size_alike hfd15, size_alike hfd25, size_alike (dead_alike hfd15), dead_twice]
 obtain ⟨B33, hB33⟩ : ∃ B : Bool, B = ((0 : Int) == 0) := ⟨_, rfl⟩
 obtain rfl : B33 = true := by
   have hkn : (((0 : Int) : Int) = 0) := by rfl
   first | exact hB33.trans (decide_eq_true hkn) | exact hB33.trans (decide_eq_false hkn) | exact hB33.trans (beq_iff_eq.2 hkn) | exact hB33.trans (bne_iff_ne.2 hkn) | exact hB33.trans (Bool.eq_false_iff.2 (fun e => hkn (beq_iff_eq.1 e))) | exact hB33.trans (Bool.eq_false_iff.2 (fun e => hkn (bne_iff_ne.1 e)))
 obtain ⟨B34, hB34⟩ : ∃ B : Bool, B = ((0 : Int) == 0) := ⟨_, rfl⟩
 obtain rfl : B34 = true := by
   have hkn : (((0 : Int) : Int) = 0) := by rfl
   first | exact hB34.trans (decide_eq_true hkn) | exact hB34.trans (decide_eq_false hkn) | exact hB34.trans (beq_iff_eq.2 hkn) | exact hB34.trans (bne_iff_ne.2 hkn) | exact hB34.trans (Bool.eq_false_iff.2 (fun e => hkn (beq_iff_eq.1 e))) | exact hB34.trans (Bool.eq_false_iff.2 (fun e => hkn (bne_iff_ne.1 e)))
 refine zkp [(3, (pT b18 0)), (4, (nV 0)), (5, (pT b28 0)), (6, (nV 0))] ?_
 intro aC fr
 refine zdt 12 (N := 43) (env0 := [(3, (pT b18 0)), (4, (nV 0)), (5, (pT b28 0)), (6, (nV 0))]) (specAt [.det (nV 0), .det (nV 0), .det (.bool true), .det (.bool true), .det (nV 0), .det (nV 0), .det (.bool true), .det (.bool true), .det (.bool true), .det (.agg #[(.string nm), (.bool wk), (.int .i64 pa), (.int .i64 va), (.slice B13 ((bsOf fd15).length) cB14)]), .det (.int .i64 ((sizeF fd15 : Nat) : Int)), .det (.agg #[(.string nm), (.bool wk), (.int .i64 pa), (.int .i64 va), (.slice B23 ((bsOf fd25).length) cB24)])]) fr (la (la (la (la (la (la (la (la (la (la (la (la lz dP) (dD (fun w_ hK => num3_c (0 : Int) w_) rfl)) (dC ((0 : Int) == 0) hB33)) dP) dP) (dD (fun w_ hK => num3_c (0 : Int) w_) rfl)) (dC ((0 : Int) == 0) hB34)) dP) dP) (dS ⟨b18, 0, none⟩ [(.string nm), (.bool wk), (.int .i64 pa), (.int .i64 va), (.slice B13 ((bsOf fd15).length) cB14)] fun w_ hK => (blk_cells ((M32.then_ hK).get 3 rfl)))) (dD (fun w_ hK => rsize_c nm wk pa va B13 cB14 fd15 w_ hl1 hok1 (RO.of (own_reads ((M32.then_ hK).get 1 rfl) ((M32.then_ hK).get 2 rfl)))) rfl)) (dS ⟨b28, 0, none⟩ [(.string nm), (.bool wk), (.int .i64 pa), (.int .i64 va), (.slice B23 ((bsOf fd25).length) cB24)] fun w_ hK => (blk_cells ((M32.then_ hK).get 6 rfl)))) ?_
 intro aC w39 vs hK hv fr
 revert aC; refine zkp [(33, (.bool true)), (35, (.int .i64 ((sizeF fd15 : Nat) : Int))), (36, (.agg #[(.string nm), (.bool wk), (.int .i64 pa), (.int .i64 va), (.slice B23 ((bsOf fd25).length) cB24)]))] ?_
 have M40 := M32.then_ hK
 clear hK hv fr aC M32; clear vs
 refine zcl (rsize_c nm wk pa va B23 cB24 fd25 w39 hl2 hok2 (RO.of (own_reads (M40.get 4 rfl) (M40.get 5 rfl)))) ?_
 rintro _ w41 ⟨rfl, M42x⟩
 have M42 := M40.cl M42x
 refine zcm (((sizeF fd15 : Nat) : Int) == ((sizeF fd25 : Nat) : Int)) fun B43 hB43 => ?_
 obtain rfl : B43 = true := by
   have hkn : ((((sizeF fd15 : Nat) : Int) : Int) = ((sizeF fd25 : Nat) : Int)) := by exact congrArg Int.ofNat hsz
   first | exact hB43.trans (decide_eq_true hkn) | exact hB43.trans (decide_eq_false hkn) | exact hB43.trans (beq_iff_eq.2 hkn) | exact hB43.trans (bne_iff_ne.2 hkn) | exact hB43.trans (Bool.eq_false_iff.2 (fun e => hkn (beq_iff_eq.1 e))) | exact hB43.trans (Bool.eq_false_iff.2 (fun e => hkn (bne_iff_ne.1 e)))
 clear hB43
 refine zpn 2 <| zcl (awake3_c w41) ?_
 rintro _ w44 ⟨rfl, M45x⟩
 have M45 := M42.cl M45x
 refine zpn 2 <| zfe <| zre <| zo1 (.bool true) ?_
 have M46 := M45.od [] 0
 exact ⟨rfl, M46⟩
 have c6 : (great3Q va fs) := iB6.1 rfl
 refine zpn 4 <| zfe <| zcT <| zsr <| zcl (awake3_c w4) ?_
 rintro _ w47 ⟨rfl, M48x⟩
 have M48 := M5.cl M48x
 refine zpn 1 <| zfe <| zre <| zo1 (.bool true) ?_
 have M49 := M48.od [] 0
 exact ⟨rfl, M49⟩
end Go.Proofs.Ytejbeeaomokjpaa
