/-
  Texts of the proof, part 10.
-/
import Derived.Test.YtlfbloadopeamaaDoorZD9
namespace Go.Proofs.YtlfbloadopeamaaDoor
open Go.Mor
set_option maxRecDepth 10000 in
theorem endsin_c (a N : Int) (q : Nat) (w : World) (hq : RO noS w (.blk q 3 [.int .i64 N])) :
    Calls Tryd.prog 68 #[(.int .i64 a), (pT q 0)] w (Ret fun v w' => v = .bool (decide (0 ≤ a ∧ a < N)) ∧ Mem noS w w' []) := by
 refine zen 11 [(.int .i64 a), (pT q 0)] Tryd.func68 ?_
 have hM := Mem.init w
 refine zsp <| zsr <| zpn 3 ?_
 obtain ⟨B1, hB1⟩ : ∃ B : Bool, B = decide ((a : Int) ≥ 0) := ⟨_, rfl⟩
 refine zkp [(0, (.int .i64 a)), (1, (pT q 0)), (6, (.bool (decide ((a : Int) ≥ 0))))] ?_
 rw [← hB1]
 have iB1 : B1 = true ↔ ((a : Int) ≥ 0) := by rw [hB1]; simp only [decide_eq_true_eq]
 clear hB1
 intro aC fr
 refine zpk 1 4 [7] fr (news := [(7, (cond B1 (.int .i64 a) undef))]) (by cases B1 <;> kernel_rfl) ?_
 intro aC fr
 refine From_either (B := B1) (d := (some 8)) (.int .i64 N) fr (by cases B1 <;> kernel_rfl) (fun hB hh => ?_) ?_
 cases B1 <;> first | (exact absurd hB (by decide)) | skip
 have c1 : ((a : Int) ≥ 0) := iB1.1 rfl
 exact From_ld (some 8) ⟨q, 0, none⟩ fr (by kernel_rfl) (.int .i64 N) (blk_cell (hM.ro hq) rfl) hh
 intro aC fr
 refine zpk 3 8 [3, 10] fr (news := [(3, (.bool (B1 && decide ((a : Int) < N)))), (10, (.bool (B1 && decide ((a : Int) < N))))]) (by cases B1 <;> kernel_rfl) ?_
 intro aC fr
 revert aC
 refine zfe <| zre <| zo1 (.bool (B1 && decide ((a : Int) < N))) ?_
 have hR : (B1 && decide ((a : Int) < N)) = true ↔ (((a : Int) ≥ 0) ∧ ((a : Int) < N)) := by simp only [Bool.and_eq_true, decide_eq_true_eq, iB1]
 exact ⟨bool_dec hR (by omega), hM⟩
set_option maxRecDepth 10000 in
theorem ends_c (q N : Nat) (nm wk pa va so tp md : Value) (A : Option Addr) (c : Nat) (x : FBlk) (w : World) (hq : RO noS w (.blk q 77 [nm, wk, pa, va, (.slice A N c), so, tp, md])) :
    Calls Tryd.prog 46 #[(pT q 0), (xA x)] w (Ret fun v w' => v = .bool (decide (endsS N x)) ∧ Mem noS w w' []) := by
 refine zen 81 [(pT q 0), (xA x)] Tryd.func46 ?_
 have hM := Mem.init w
 refine zsr <| zbx hM 44 (xA x) (xV x) fun b1 w2 hb1 hM3 => ?_
 replace hM3 := hM3.nf
 clear hM
 refine zpn 1 <| zfe <| zsr <| zpn 4 <| zld ⟨q, 4, none⟩ (.slice A N c) (blk_cell (hM3.ro hq) rfl) <| zpn 1 <| zal hM3 3 [(.int .i64 0)] fun b4 w5 hb4 hM6 => ?_
 replace hM6 := hM6.nf
 refine zsb hM6 1 0 (.int .i64 ((N : Nat) : Int)) rfl fun w7 hM8 => ?_
 replace hM8 := hM8.nf
 refine zfe <| zsp <| zsq <| zsr <| zpn 1 <| zld ⟨b1, 2, none⟩ (.int .i64 x.e) (blk_cell (hM8.get 0 rfl) rfl) <| zfe <| zbk 0 <| zsp <| zcP ((x.e : Int) == 0) ((x.e : Int) = 0) (by simp only [beq_iff_eq]) (fun c9 => ?_) (fun c9 => ?_)
 refine zsr <| zpn 2 <| zld ⟨b1, 4, none⟩ (.int .i64 x.a) (blk_cell (hM8.get 0 rfl) rfl) <| zkp [(3, (pT b1 0)), (18, (.func (.func 68) #[] #[(pT b4 0)])), (20, (.int .i64 x.a))] <| zcl (endsin_c x.a ((N : Nat) : Int) b4 w7 (hM8.own_ro 1 rfl)) ?_
 rintro _ w10 ⟨rfl, hM11x⟩
 have hM11 := hM8.cl hM11x
 refine zpn 1 ?_
 obtain ⟨B12, hB12⟩ : ∃ B : Bool, B = decide (0 ≤ x.a ∧ x.a < ((N : Nat) : Int)) := ⟨_, rfl⟩
 refine zkp [(3, (pT b1 0)), (22, (.bool (decide (0 ≤ x.a ∧ x.a < ((N : Nat) : Int)))))] ?_
 rw [← hB12]
 have iB12 : B12 = true ↔ (0 ≤ x.a ∧ x.a < ((N : Nat) : Int)) := by rw [hB12]; simp only [decide_eq_true_eq]
 clear hB12
 intro aC fr
 refine zpk 1 6 [23] fr (news := [(23, (cond B12 (pT b1 3) undef))]) (by cases B12 <;> kernel_rfl) ?_
 intro aC fr
 refine From_either (B := B12) (d := (some 24)) (.int .i64 x.v) fr (by cases B12 <;> kernel_rfl) (fun hB hh => ?_) ?_
 cases B12 <;> first | (exact absurd hB (by decide)) | skip
 have c12 : (0 ≤ x.a ∧ x.a < ((N : Nat) : Int)) := iB12.1 rfl
 exact From_ld (some 24) ⟨b1, 3, none⟩ fr (by kernel_rfl) (.int .i64 x.v) (blk_cell (hM11.get 0 rfl) rfl) hh
 intro aC fr
 refine zpk 3 10 [26, 27] fr (news := [(26, (.bool (B12 && ((x.v : Int) == 0)))), (27, (.bool (B12 && ((x.v : Int) == 0))))]) (by cases B12 <;> kernel_rfl) ?_
 intro aC fr
 obtain ⟨B21, hB21⟩ : ∃ B : Bool, B = (B12 && ((x.v : Int) == 0)) := ⟨_, rfl⟩
 revert aC
 refine zkp [(3, (pT b1 0)), (27, (.bool (B12 && ((x.v : Int) == 0))))] ?_
 rw [← hB21]
 have iB21 : B21 = true ↔ ((0 ≤ x.a ∧ x.a < ((N : Nat) : Int)) ∧ ((x.v : Int) = 0)) := by rw [hB21]; simp only [Bool.and_eq_true, beq_iff_eq, iB12]
 clear hB21
 intro aC fr
 refine zpk 1 11 [28] fr (news := [(28, (cond B21 (pT b1 5) undef))]) (by cases B21 <;> kernel_rfl) ?_
 intro aC fr
 refine From_either (B := B21) (d := (some 29)) (.int .i64 x.b) fr (by cases B21 <;> kernel_rfl) (fun hB hh => ?_) ?_
 cases B21 <;> first | (exact absurd hB (by decide)) | skip
 have c21 : ((0 ≤ x.a ∧ x.a < ((N : Nat) : Int)) ∧ ((x.v : Int) = 0)) := iB21.1 rfl
 exact From_ld (some 29) ⟨b1, 5, none⟩ fr (by kernel_rfl) (.int .i64 x.b) (blk_cell (hM11.get 0 rfl) rfl) hh
 intro aC fr
 refine zpk 3 15 [4, 31] fr (news := [(4, (.bool (B21 && ((x.b : Int) == 0)))), (31, (.bool (B21 && ((x.b : Int) == 0))))]) (by cases B21 <;> kernel_rfl) ?_
 intro aC fr
 revert aC
 refine zfe <| zre <| zbr <| zo1 (.bool (B21 && ((x.b : Int) == 0))) ?_
 have hR : (B21 && ((x.b : Int) == 0)) = true ↔ (((0 ≤ x.a ∧ x.a < ((N : Nat) : Int)) ∧ ((x.v : Int) = 0)) ∧ ((x.b : Int) = 0)) := by simp only [Bool.and_eq_true, beq_iff_eq, iB21]
 have hM30 := hM11.od [] 0
 exact ⟨bool_dec hR (by simp only [endsS, endsQ, codeQ] at *; omega), hM30⟩
 refine zsp <| zcP ((x.e : Int) == 1) ((x.e : Int) = 1) (by simp only [beq_iff_eq]) (fun c31 => ?_) (fun c31 => ?_)
 refine zsr <| zpn 2 <| zld ⟨b1, 4, none⟩ (.int .i64 x.a) (blk_cell (hM8.get 0 rfl) rfl) <| zkp [(3, (pT b1 0)), (6, (.func (.func 68) #[] #[(pT b4 0)])), (34, (.func (.func 68) #[] #[(pT b4 0)])), (36, (.int .i64 x.a))] <| zcl (endsin_c x.a ((N : Nat) : Int) b4 w7 (hM8.own_ro 1 rfl)) ?_
 rintro _ w32 ⟨rfl, hM33x⟩
 have hM33 := hM8.cl hM33x
 refine zpn 1 ?_
 obtain ⟨B34, hB34⟩ : ∃ B : Bool, B = decide (0 ≤ x.a ∧ x.a < ((N : Nat) : Int)) := ⟨_, rfl⟩
 refine zkp [(3, (pT b1 0)), (6, (.func (.func 68) #[] #[(pT b4 0)])), (38, (.bool (decide (0 ≤ x.a ∧ x.a < ((N : Nat) : Int)))))] ?_
 rw [← hB34]
 have iB34 : B34 = true ↔ (0 ≤ x.a ∧ x.a < ((N : Nat) : Int)) := by rw [hB34]; simp only [decide_eq_true_eq]
 clear hB34
 intro aC fr
 refine zpk 2 7 [39, 40] fr (news := [(39, (cond B34 (.func (.func 68) #[] #[(pT b4 0)]) undef)), (40, (cond B34 (pT b1 5) undef))]) (by cases B34 <;> kernel_rfl) ?_
 intro aC fr
 refine From_either (B := B34) (d := (some 41)) (.int .i64 x.b) fr (by cases B34 <;> kernel_rfl) (fun hB hh => ?_) ?_
 cases B34 <;> first | (exact absurd hB (by decide)) | skip
 have c34 : (0 ≤ x.a ∧ x.a < ((N : Nat) : Int)) := iB34.1 rfl
 exact From_ld (some 41) ⟨b1, 5, none⟩ fr (by kernel_rfl) (.int .i64 x.b) (blk_cell (hM33.get 0 rfl) rfl) hh
 intro aC fr
 refine From_eitherC (B := B34) (d := (some 42)) (.bool (decide (0 ≤ x.b ∧ x.b < ((N : Nat) : Int)))) fr (by cases B34 <;> kernel_rfl) (fun hB hh => ?_) ?_
 cases B34 <;> first | (exact absurd hB (by decide)) | skip
 have c34 : (0 ≤ x.a ∧ x.a < ((N : Nat) : Int)) := iB34.1 rfl
 refine From_cl (some 42) 68 [(.int .i64 x.b), (pT b4 0)] fr (by kernel_rfl) (endsin_c x.b ((N : Nat) : Int) b4 w32 (hM33.own_ro 1 rfl)) ?_
 rintro _ w2 ⟨rfl, hm2⟩ a2 hF2; exact hh a2 w2 hm2 hF2
 intro aC w41 hM42x fr
 have hM42 := hM33.cl hM42x
 refine zpk 2 11 [43, 44] fr (news := [(43, (.bool (B34 && decide (0 ≤ x.b ∧ x.b < ((N : Nat) : Int))))), (44, (.bool (B34 && decide (0 ≤ x.b ∧ x.b < ((N : Nat) : Int)))))]) (by cases B34 <;> kernel_rfl) ?_
 intro aC fr
 obtain ⟨B47, hB47⟩ : ∃ B : Bool, B = (B34 && decide (0 ≤ x.b ∧ x.b < ((N : Nat) : Int))) := ⟨_, rfl⟩
 revert aC
 refine zkp [(3, (pT b1 0)), (44, (.bool (B34 && decide (0 ≤ x.b ∧ x.b < ((N : Nat) : Int)))))] ?_
 rw [← hB47]
 have iB47 : B47 = true ↔ ((0 ≤ x.a ∧ x.a < ((N : Nat) : Int)) ∧ (0 ≤ x.b ∧ x.b < ((N : Nat) : Int))) := by rw [hB47]; simp only [Bool.and_eq_true, decide_eq_true_eq, iB34]
 clear hB47
 intro aC fr
 refine zpk 1 12 [45] fr (news := [(45, (cond B47 (pT b1 4) undef))]) (by cases B47 <;> kernel_rfl) ?_
 intro aC fr
 refine From_either (B := B47) (d := (some 46)) (.int .i64 x.a) fr (by cases B47 <;> kernel_rfl) (fun hB hh => ?_) ?_
 cases B47 <;> first | (exact absurd hB (by decide)) | skip
 have c47 : ((0 ≤ x.a ∧ x.a < ((N : Nat) : Int)) ∧ (0 ≤ x.b ∧ x.b < ((N : Nat) : Int))) := iB47.1 rfl
 exact From_ld (some 46) ⟨b1, 4, none⟩ fr (by kernel_rfl) (.int .i64 x.a) (blk_cell (hM42.get 0 rfl) rfl) hh
 intro aC fr
 refine zpk 1 14 [47] fr (news := [(47, (cond B47 (pT b1 5) undef))]) (by cases B47 <;> kernel_rfl) ?_
 intro aC fr
 refine From_either (B := B47) (d := (some 48)) (.int .i64 x.b) fr (by cases B47 <;> kernel_rfl) (fun hB hh => ?_) ?_
 cases B47 <;> first | (exact absurd hB (by decide)) | skip
 have c47 : ((0 ≤ x.a ∧ x.a < ((N : Nat) : Int)) ∧ (0 ≤ x.b ∧ x.b < ((N : Nat) : Int))) := iB47.1 rfl
 exact From_ld (some 48) ⟨b1, 5, none⟩ fr (by kernel_rfl) (.int .i64 x.b) (blk_cell (hM42.get 0 rfl) rfl) hh
 intro aC fr
 refine zpk 3 18 [4, 50] fr (news := [(4, (.bool (B47 && ((x.a : Int) != x.b)))), (50, (.bool (B47 && ((x.a : Int) != x.b))))]) (by cases B47 <;> kernel_rfl) ?_
 intro aC fr
 revert aC
 refine zfe <| zre <| zbr <| zo1 (.bool (B47 && ((x.a : Int) != x.b))) ?_
 have hR : (B47 && ((x.a : Int) != x.b)) = true ↔ (((0 ≤ x.a ∧ x.a < ((N : Nat) : Int)) ∧ (0 ≤ x.b ∧ x.b < ((N : Nat) : Int))) ∧ ((x.a : Int) ≠ x.b)) := by simp only [Bool.and_eq_true, bne_iff_ne, iB47]
 have hM60 := hM42.od [] 0
 exact ⟨bool_dec hR (by simp only [endsS, endsQ, codeQ] at *; omega), hM60⟩
 refine zsp <| zcP ((x.e : Int) == 2) ((x.e : Int) = 2) (by simp only [beq_iff_eq]) (fun c61 => ?_) (fun c61 => ?_)
 refine zsr <| zpn 1 <| zld ⟨b1, 3, none⟩ (.int .i64 x.v) (blk_cell (hM8.get 0 rfl) rfl) <| zkp [(3, (pT b1 0)), (54, (.int .i64 x.v))] <| zpn 2 ?_
 obtain ⟨B62, hB62⟩ : ∃ B : Bool, B = decide ((x.v : Int) ≥ (-1)) := ⟨_, rfl⟩
 refine zkp [(3, (pT b1 0)), (56, (.bool (decide ((x.v : Int) ≥ (-1)))))] ?_
 rw [← hB62]
 have iB62 : B62 = true ↔ ((x.v : Int) ≥ (-1)) := by rw [hB62]; simp only [decide_eq_true_eq]
 clear hB62
 intro aC fr
 refine zpk 1 5 [57] fr (news := [(57, (cond B62 (pT b1 4) undef))]) (by cases B62 <;> kernel_rfl) ?_
 intro aC fr
 refine From_either (B := B62) (d := (some 58)) (.int .i64 x.a) fr (by cases B62 <;> kernel_rfl) (fun hB hh => ?_) ?_
 cases B62 <;> first | (exact absurd hB (by decide)) | skip
 have c62 : ((x.v : Int) ≥ (-1)) := iB62.1 rfl
 exact From_ld (some 58) ⟨b1, 4, none⟩ fr (by kernel_rfl) (.int .i64 x.a) (blk_cell (hM8.get 0 rfl) rfl) hh
 intro aC fr
 refine zpk 3 9 [60, 61] fr (news := [(60, (.bool (B62 && ((x.a : Int) == 0)))), (61, (.bool (B62 && ((x.a : Int) == 0))))]) (by cases B62 <;> kernel_rfl) ?_
 intro aC fr
 obtain ⟨B71, hB71⟩ : ∃ B : Bool, B = (B62 && ((x.a : Int) == 0)) := ⟨_, rfl⟩
 revert aC
 refine zkp [(3, (pT b1 0)), (61, (.bool (B62 && ((x.a : Int) == 0))))] ?_
 rw [← hB71]
 have iB71 : B71 = true ↔ (((x.v : Int) ≥ (-1)) ∧ ((x.a : Int) = 0)) := by rw [hB71]; simp only [Bool.and_eq_true, beq_iff_eq, iB62]
 clear hB71
 intro aC fr
 refine zpk 1 10 [62] fr (news := [(62, (cond B71 (pT b1 5) undef))]) (by cases B71 <;> kernel_rfl) ?_
 intro aC fr
 refine From_either (B := B71) (d := (some 63)) (.int .i64 x.b) fr (by cases B71 <;> kernel_rfl) (fun hB hh => ?_) ?_
 cases B71 <;> first | (exact absurd hB (by decide)) | skip
 have c71 : (((x.v : Int) ≥ (-1)) ∧ ((x.a : Int) = 0)) := iB71.1 rfl
 exact From_ld (some 63) ⟨b1, 5, none⟩ fr (by kernel_rfl) (.int .i64 x.b) (blk_cell (hM8.get 0 rfl) rfl) hh
 intro aC fr
 refine zpk 3 14 [4, 65] fr (news := [(4, (.bool (B71 && ((x.b : Int) == 0)))), (65, (.bool (B71 && ((x.b : Int) == 0))))]) (by cases B71 <;> kernel_rfl) ?_
 intro aC fr
 revert aC
 refine zfe <| zre <| zbr <| zo1 (.bool (B71 && ((x.b : Int) == 0))) ?_
 have hR : (B71 && ((x.b : Int) == 0)) = true ↔ ((((x.v : Int) ≥ (-1)) ∧ ((x.a : Int) = 0)) ∧ ((x.b : Int) = 0)) := by simp only [Bool.and_eq_true, beq_iff_eq, iB71]
 have hM80 := hM8.od [] 0
 exact ⟨bool_dec hR (by simp only [endsS, endsQ, codeQ] at *; omega), hM80⟩
 refine zsp <| zcP ((x.e : Int) == 3) ((x.e : Int) = 3) (by simp only [beq_iff_eq]) (fun c81 => ?_) (fun c81 => ?_)
 refine zsr <| zpn 1 <| zld ⟨b1, 4, none⟩ (.int .i64 x.a) (blk_cell (hM8.get 0 rfl) rfl) <| zkp [(3, (pT b1 0)), (69, (.int .i64 x.a))] <| zcl (code_c x.a w7) ?_
 rintro _ w82 ⟨rfl, hM83x⟩
 have hM83 := hM8.cl hM83x
 refine zpn 1 ?_
 obtain ⟨B84, hB84⟩ : ∃ B : Bool, B = decide (codeQ x.a) := ⟨_, rfl⟩
 refine zkp [(3, (pT b1 0)), (71, (.bool (decide (codeQ x.a))))] ?_
 rw [← hB84]
 have iB84 : B84 = true ↔ (codeQ x.a) := by rw [hB84]; simp only [decide_eq_true_eq]
 clear hB84
 intro aC fr
 refine zpk 1 5 [72] fr (news := [(72, (cond B84 (pT b1 3) undef))]) (by cases B84 <;> kernel_rfl) ?_
 intro aC fr
 refine From_either (B := B84) (d := (some 73)) (.int .i64 x.v) fr (by cases B84 <;> kernel_rfl) (fun hB hh => ?_) ?_
 cases B84 <;> first | (exact absurd hB (by decide)) | skip
 have c84 : (codeQ x.a) := iB84.1 rfl
 exact From_ld (some 73) ⟨b1, 3, none⟩ fr (by kernel_rfl) (.int .i64 x.v) (blk_cell (hM83.get 0 rfl) rfl) hh
 intro aC fr
 refine zpk 3 9 [75, 76] fr (news := [(75, (.bool (B84 && ((x.v : Int) == 0)))), (76, (.bool (B84 && ((x.v : Int) == 0))))]) (by cases B84 <;> kernel_rfl) ?_
 intro aC fr
 obtain ⟨B93, hB93⟩ : ∃ B : Bool, B = (B84 && ((x.v : Int) == 0)) := ⟨_, rfl⟩
 revert aC
 refine zkp [(3, (pT b1 0)), (76, (.bool (B84 && ((x.v : Int) == 0))))] ?_
 rw [← hB93]
 have iB93 : B93 = true ↔ ((codeQ x.a) ∧ ((x.v : Int) = 0)) := by rw [hB93]; simp only [Bool.and_eq_true, beq_iff_eq, iB84]
 clear hB93
 intro aC fr
 refine zpk 1 10 [77] fr (news := [(77, (cond B93 (pT b1 5) undef))]) (by cases B93 <;> kernel_rfl) ?_
 intro aC fr
 refine From_either (B := B93) (d := (some 78)) (.int .i64 x.b) fr (by cases B93 <;> kernel_rfl) (fun hB hh => ?_) ?_
 cases B93 <;> first | (exact absurd hB (by decide)) | skip
 have c93 : ((codeQ x.a) ∧ ((x.v : Int) = 0)) := iB93.1 rfl
 exact From_ld (some 78) ⟨b1, 5, none⟩ fr (by kernel_rfl) (.int .i64 x.b) (blk_cell (hM83.get 0 rfl) rfl) hh
 intro aC fr
 refine zpk 3 14 [4, 80] fr (news := [(4, (.bool (B93 && ((x.b : Int) == 0)))), (80, (.bool (B93 && ((x.b : Int) == 0))))]) (by cases B93 <;> kernel_rfl) ?_
 intro aC fr
 revert aC
 refine zfe <| zre <| zbr <| zo1 (.bool (B93 && ((x.b : Int) == 0))) ?_
 have hR : (B93 && ((x.b : Int) == 0)) = true ↔ (((codeQ x.a) ∧ ((x.v : Int) = 0)) ∧ ((x.b : Int) = 0)) := by simp only [Bool.and_eq_true, beq_iff_eq, iB93]
 have hM102 := hM83.od [] 0
 exact ⟨bool_dec hR (by simp only [endsS, endsQ, codeQ] at *; omega), hM102⟩
 refine zsk <| zsp <| zre <| zo1 (.bool false) ?_
 have hR : false = true ↔ False := by simp
 have hM103 := hM8.od [] 0
 exact ⟨bool_dec hR (⟨False.elim, fun h => by simp only [endsS, endsQ] at h; omega⟩), hM103⟩
set_option maxRecDepth 10000 in
theorem rends_c (nm wk pa va : Value) (A : Option Addr) (N c : Nat) (x : FBlk) (w : World) :
    Calls Tryd.prog 25 #[(.agg #[nm, wk, pa, va, (.slice A N c)]), (xA x)] w (Ret fun v w' => v = .bool (decide (endsQ N x)) ∧ Mem noS w w' []) := by
 refine zen 85 [(.agg #[nm, wk, pa, va, (.slice A N c)]), (xA x)] Tryd.func25 ?_
 have hM := Mem.init w
 refine zsr <| zbx hM 24 (.agg #[nm, wk, pa, va, (.slice A N c)]) [nm, wk, pa, va, (.slice A N c)] fun b1 w2 hb1 hM3 => ?_
 replace hM3 := hM3.nf
 clear hM
 refine zbx hM3 44 (xA x) (xV x) fun b4 w5 hb4 hM6 => ?_
 replace hM6 := hM6.nf
 refine zpn 1 <| zfe <| zsr <| zpn 1 <| zld ⟨b1, 4, none⟩ (.slice A N c) (blk_cell (hM6.get 0 rfl) rfl) <| zpn 2 <| zfe <| zsr <| zpn 1 <| zld ⟨b4, 4, none⟩ (.int .i64 x.a) (blk_cell (hM6.get 1 rfl) rfl) ?_
 refine zpn 2 ?_
 obtain ⟨B7, hB7⟩ : ∃ B : Bool, B = decide ((x.a : Int) ≥ 0) := ⟨_, rfl⟩
 refine zkp [(3, (pT b4 0)), (5, (.int .i64 ((N : Nat) : Int))), (13, (.bool (decide ((x.a : Int) ≥ 0))))] ?_
 rw [← hB7]
 have iB7 : B7 = true ↔ ((x.a : Int) ≥ 0) := by rw [hB7]; simp only [decide_eq_true_eq]
 clear hB7
 intro aC fr
 refine zpk 1 5 [14] fr (news := [(14, (cond B7 (pT b4 4) undef))]) (by cases B7 <;> kernel_rfl) ?_
 intro aC fr
 refine From_either (B := B7) (d := (some 15)) (.int .i64 x.a) fr (by cases B7 <;> kernel_rfl) (fun hB hh => ?_) ?_
 cases B7 <;> first | (exact absurd hB (by decide)) | skip
 have c7 : ((x.a : Int) ≥ 0) := iB7.1 rfl
 exact From_ld (some 15) ⟨b4, 4, none⟩ fr (by kernel_rfl) (.int .i64 x.a) (blk_cell (hM6.get 1 rfl) rfl) hh
 intro aC fr
 refine zpk 4 10 [6, 18] fr (news := [(6, (.bool (B7 && decide ((x.a : Int) < ((N : Nat) : Int))))), (18, (.bool (B7 && decide ((x.a : Int) < ((N : Nat) : Int)))))]) (by cases B7 <;> kernel_rfl) ?_
 intro aC fr
 revert aC
 refine zfe <| zsq <| zsr <| zpn 1 <| zld ⟨b4, 2, none⟩ (.int .i64 x.e) (blk_cell (hM6.get 1 rfl) rfl) <| zfe <| zbk 0 <| zsp <| zcP ((x.e : Int) == 0) ((x.e : Int) = 0) (by simp only [beq_iff_eq]) (fun c16 => ?_) (fun c16 => ?_)
 refine zsr <| zpn 2 ?_
 obtain ⟨B17, hB17⟩ : ∃ B : Bool, B = (B7 && decide ((x.a : Int) < ((N : Nat) : Int))) := ⟨_, rfl⟩
 refine zkp [(3, (pT b4 0)), (24, (.bool (B7 && decide ((x.a : Int) < ((N : Nat) : Int)))))] ?_
 rw [← hB17]
 have iB17 : B17 = true ↔ (((x.a : Int) ≥ 0) ∧ ((x.a : Int) < ((N : Nat) : Int))) := by rw [hB17]; simp only [Bool.and_eq_true, decide_eq_true_eq, iB7]
 clear hB17
 intro aC fr
 refine zpk 1 3 [25] fr (news := [(25, (cond B17 (pT b4 3) undef))]) (by cases B17 <;> kernel_rfl) ?_
 intro aC fr
 refine From_either (B := B17) (d := (some 26)) (.int .i64 x.v) fr (by cases B17 <;> kernel_rfl) (fun hB hh => ?_) ?_
 cases B17 <;> first | (exact absurd hB (by decide)) | skip
 have c17 : (((x.a : Int) ≥ 0) ∧ ((x.a : Int) < ((N : Nat) : Int))) := iB17.1 rfl
 exact From_ld (some 26) ⟨b4, 3, none⟩ fr (by kernel_rfl) (.int .i64 x.v) (blk_cell (hM6.get 1 rfl) rfl) hh
 intro aC fr
 refine zpk 3 7 [28, 29] fr (news := [(28, (.bool (B17 && ((x.v : Int) == 0)))), (29, (.bool (B17 && ((x.v : Int) == 0))))]) (by cases B17 <;> kernel_rfl) ?_
 intro aC fr
 obtain ⟨B26, hB26⟩ : ∃ B : Bool, B = (B17 && ((x.v : Int) == 0)) := ⟨_, rfl⟩
 revert aC
 refine zkp [(3, (pT b4 0)), (29, (.bool (B17 && ((x.v : Int) == 0))))] ?_
 rw [← hB26]
 have iB26 : B26 = true ↔ ((((x.a : Int) ≥ 0) ∧ ((x.a : Int) < ((N : Nat) : Int))) ∧ ((x.v : Int) = 0)) := by rw [hB26]; simp only [Bool.and_eq_true, beq_iff_eq, iB17]
 clear hB26
 intro aC fr
 refine zpk 1 8 [30] fr (news := [(30, (cond B26 (pT b4 5) undef))]) (by cases B26 <;> kernel_rfl) ?_
 intro aC fr
 refine From_either (B := B26) (d := (some 31)) (.int .i64 x.b) fr (by cases B26 <;> kernel_rfl) (fun hB hh => ?_) ?_
 cases B26 <;> first | (exact absurd hB (by decide)) | skip
 have c26 : ((((x.a : Int) ≥ 0) ∧ ((x.a : Int) < ((N : Nat) : Int))) ∧ ((x.v : Int) = 0)) := iB26.1 rfl
 exact From_ld (some 31) ⟨b4, 5, none⟩ fr (by kernel_rfl) (.int .i64 x.b) (blk_cell (hM6.get 1 rfl) rfl) hh
 intro aC fr
 refine zpk 3 12 [4, 33] fr (news := [(4, (.bool (B26 && ((x.b : Int) == 0)))), (33, (.bool (B26 && ((x.b : Int) == 0))))]) (by cases B26 <;> kernel_rfl) ?_
 intro aC fr
 revert aC
 refine zfe <| zre <| zbr <| zo1 (.bool (B26 && ((x.b : Int) == 0))) ?_
 have hR : (B26 && ((x.b : Int) == 0)) = true ↔ (((((x.a : Int) ≥ 0) ∧ ((x.a : Int) < ((N : Nat) : Int))) ∧ ((x.v : Int) = 0)) ∧ ((x.b : Int) = 0)) := by simp only [Bool.and_eq_true, beq_iff_eq, iB26]
 have hM35 := hM6.od [] 0
 exact ⟨bool_dec hR (by simp only [endsQ, codeQ] at *; omega), hM35⟩
 refine zsp <| zcP ((x.e : Int) == 1) ((x.e : Int) = 1) (by simp only [beq_iff_eq]) (fun c36 => ?_) (fun c36 => ?_)
 refine zsr <| zpn 2 ?_
 obtain ⟨B37, hB37⟩ : ∃ B : Bool, B = (B7 && decide ((x.a : Int) < ((N : Nat) : Int))) := ⟨_, rfl⟩
 refine zkp [(3, (pT b4 0)), (5, (.int .i64 ((N : Nat) : Int))), (37, (.bool (B7 && decide ((x.a : Int) < ((N : Nat) : Int)))))] ?_
 rw [← hB37]
 have iB37 : B37 = true ↔ (((x.a : Int) ≥ 0) ∧ ((x.a : Int) < ((N : Nat) : Int))) := by rw [hB37]; simp only [Bool.and_eq_true, decide_eq_true_eq, iB7]
 clear hB37
 intro aC fr
 refine zpk 1 3 [38] fr (news := [(38, (cond B37 (pT b4 5) undef))]) (by cases B37 <;> kernel_rfl) ?_
 intro aC fr
 refine From_either (B := B37) (d := (some 39)) (.int .i64 x.b) fr (by cases B37 <;> kernel_rfl) (fun hB hh => ?_) ?_
 cases B37 <;> first | (exact absurd hB (by decide)) | skip
 have c37 : (((x.a : Int) ≥ 0) ∧ ((x.a : Int) < ((N : Nat) : Int))) := iB37.1 rfl
 exact From_ld (some 39) ⟨b4, 5, none⟩ fr (by kernel_rfl) (.int .i64 x.b) (blk_cell (hM6.get 1 rfl) rfl) hh
 intro aC fr
 refine zpk 3 7 [41, 42] fr (news := [(41, (.bool (B37 && decide ((x.b : Int) ≥ 0)))), (42, (.bool (B37 && decide ((x.b : Int) ≥ 0))))]) (by cases B37 <;> kernel_rfl) ?_
 intro aC fr
 obtain ⟨B46, hB46⟩ : ∃ B : Bool, B = (B37 && decide ((x.b : Int) ≥ 0)) := ⟨_, rfl⟩
 revert aC
 refine zkp [(3, (pT b4 0)), (5, (.int .i64 ((N : Nat) : Int))), (42, (.bool (B37 && decide ((x.b : Int) ≥ 0))))] ?_
 rw [← hB46]
 have iB46 : B46 = true ↔ ((((x.a : Int) ≥ 0) ∧ ((x.a : Int) < ((N : Nat) : Int))) ∧ ((x.b : Int) ≥ 0)) := by rw [hB46]; simp only [Bool.and_eq_true, decide_eq_true_eq, iB37]
 clear hB46
 intro aC fr
 refine zpk 1 8 [43] fr (news := [(43, (cond B46 (pT b4 5) undef))]) (by cases B46 <;> kernel_rfl) ?_
 intro aC fr
 refine From_either (B := B46) (d := (some 44)) (.int .i64 x.b) fr (by cases B46 <;> kernel_rfl) (fun hB hh => ?_) ?_
 cases B46 <;> first | (exact absurd hB (by decide)) | skip
 have c46 : ((((x.a : Int) ≥ 0) ∧ ((x.a : Int) < ((N : Nat) : Int))) ∧ ((x.b : Int) ≥ 0)) := iB46.1 rfl
 exact From_ld (some 44) ⟨b4, 5, none⟩ fr (by kernel_rfl) (.int .i64 x.b) (blk_cell (hM6.get 1 rfl) rfl) hh
 intro aC fr
 refine zpk 4 13 [47, 48] fr (news := [(47, (.bool (B46 && decide ((x.b : Int) < ((N : Nat) : Int))))), (48, (.bool (B46 && decide ((x.b : Int) < ((N : Nat) : Int)))))]) (by cases B46 <;> kernel_rfl) ?_
 intro aC fr
 obtain ⟨B55, hB55⟩ : ∃ B : Bool, B = (B46 && decide ((x.b : Int) < ((N : Nat) : Int))) := ⟨_, rfl⟩
 revert aC
 refine zkp [(3, (pT b4 0)), (48, (.bool (B46 && decide ((x.b : Int) < ((N : Nat) : Int)))))] ?_
 rw [← hB55]
 have iB55 : B55 = true ↔ (((((x.a : Int) ≥ 0) ∧ ((x.a : Int) < ((N : Nat) : Int))) ∧ ((x.b : Int) ≥ 0)) ∧ ((x.b : Int) < ((N : Nat) : Int))) := by rw [hB55]; simp only [Bool.and_eq_true, decide_eq_true_eq, iB46]
 clear hB55
 intro aC fr
 refine zpk 1 14 [49] fr (news := [(49, (cond B55 (pT b4 4) undef))]) (by cases B55 <;> kernel_rfl) ?_
 intro aC fr
 refine From_either (B := B55) (d := (some 50)) (.int .i64 x.a) fr (by cases B55 <;> kernel_rfl) (fun hB hh => ?_) ?_
 cases B55 <;> first | (exact absurd hB (by decide)) | skip
 have c55 : (((((x.a : Int) ≥ 0) ∧ ((x.a : Int) < ((N : Nat) : Int))) ∧ ((x.b : Int) ≥ 0)) ∧ ((x.b : Int) < ((N : Nat) : Int))) := iB55.1 rfl
 exact From_ld (some 50) ⟨b4, 4, none⟩ fr (by kernel_rfl) (.int .i64 x.a) (blk_cell (hM6.get 1 rfl) rfl) hh
 intro aC fr
 refine zpk 1 16 [51] fr (news := [(51, (cond B55 (pT b4 5) undef))]) (by cases B55 <;> kernel_rfl) ?_
 intro aC fr
 refine From_either (B := B55) (d := (some 52)) (.int .i64 x.b) fr (by cases B55 <;> kernel_rfl) (fun hB hh => ?_) ?_
 cases B55 <;> first | (exact absurd hB (by decide)) | skip
 have c55 : (((((x.a : Int) ≥ 0) ∧ ((x.a : Int) < ((N : Nat) : Int))) ∧ ((x.b : Int) ≥ 0)) ∧ ((x.b : Int) < ((N : Nat) : Int))) := iB55.1 rfl
 exact From_ld (some 52) ⟨b4, 5, none⟩ fr (by kernel_rfl) (.int .i64 x.b) (blk_cell (hM6.get 1 rfl) rfl) hh
 intro aC fr
 refine zpk 3 20 [4, 54] fr (news := [(4, (.bool (B55 && ((x.a : Int) != x.b)))), (54, (.bool (B55 && ((x.a : Int) != x.b))))]) (by cases B55 <;> kernel_rfl) ?_
 intro aC fr
 revert aC
 refine zfe <| zre <| zbr <| zo1 (.bool (B55 && ((x.a : Int) != x.b))) ?_
 have hR : (B55 && ((x.a : Int) != x.b)) = true ↔ ((((((x.a : Int) ≥ 0) ∧ ((x.a : Int) < ((N : Nat) : Int))) ∧ ((x.b : Int) ≥ 0)) ∧ ((x.b : Int) < ((N : Nat) : Int))) ∧ ((x.a : Int) ≠ x.b)) := by simp only [Bool.and_eq_true, bne_iff_ne, iB55]
 have hM68 := hM6.od [] 0
 exact ⟨bool_dec hR (by simp only [endsQ, codeQ] at *; omega), hM68⟩
 refine zsp <| zcP ((x.e : Int) == 2) ((x.e : Int) = 2) (by simp only [beq_iff_eq]) (fun c69 => ?_) (fun c69 => ?_)
 refine zsr <| zpn 1 <| zld ⟨b4, 4, none⟩ (.int .i64 x.a) (blk_cell (hM6.get 1 rfl) rfl) <| zpn 2 ?_
 obtain ⟨B70, hB70⟩ : ∃ B : Bool, B = ((x.a : Int) == 0) := ⟨_, rfl⟩
 refine zkp [(3, (pT b4 0)), (60, (.bool ((x.a : Int) == 0)))] ?_
 rw [← hB70]
 have iB70 : B70 = true ↔ ((x.a : Int) = 0) := by rw [hB70]; simp only [beq_iff_eq]
 clear hB70
 intro aC fr
 refine zpk 1 5 [61] fr (news := [(61, (cond B70 (pT b4 5) undef))]) (by cases B70 <;> kernel_rfl) ?_
 intro aC fr
 refine From_either (B := B70) (d := (some 62)) (.int .i64 x.b) fr (by cases B70 <;> kernel_rfl) (fun hB hh => ?_) ?_
 cases B70 <;> first | (exact absurd hB (by decide)) | skip
 have c70 : ((x.a : Int) = 0) := iB70.1 rfl
 exact From_ld (some 62) ⟨b4, 5, none⟩ fr (by kernel_rfl) (.int .i64 x.b) (blk_cell (hM6.get 1 rfl) rfl) hh
 intro aC fr
 refine zpk 3 9 [4, 64] fr (news := [(4, (.bool (B70 && ((x.b : Int) == 0)))), (64, (.bool (B70 && ((x.b : Int) == 0))))]) (by cases B70 <;> kernel_rfl) ?_
 intro aC fr
 revert aC
 refine zfe <| zre <| zbr <| zo1 (.bool (B70 && ((x.b : Int) == 0))) ?_
 have hR : (B70 && ((x.b : Int) == 0)) = true ↔ (((x.a : Int) = 0) ∧ ((x.b : Int) = 0)) := by simp only [Bool.and_eq_true, beq_iff_eq, iB70]
 have hM79 := hM6.od [] 0
 exact ⟨bool_dec hR (by simp only [endsQ, codeQ] at *; omega), hM79⟩
 refine zsp <| zcP ((x.e : Int) == 3) ((x.e : Int) = 3) (by simp only [beq_iff_eq]) (fun c80 => ?_) (fun c80 => ?_)
 refine zsr <| zpn 1 <| zld ⟨b4, 4, none⟩ (.int .i64 x.a) (blk_cell (hM6.get 1 rfl) rfl) <| zpn 2 ?_
 obtain ⟨B81, hB81⟩ : ∃ B : Bool, B = decide ((x.a : Int) ≥ 1) := ⟨_, rfl⟩
 refine zkp [(3, (pT b4 0)), (70, (.bool (decide ((x.a : Int) ≥ 1))))] ?_
 rw [← hB81]
 have iB81 : B81 = true ↔ ((x.a : Int) ≥ 1) := by rw [hB81]; simp only [decide_eq_true_eq]
 clear hB81
 intro aC fr
 refine zpk 1 5 [71] fr (news := [(71, (cond B81 (pT b4 4) undef))]) (by cases B81 <;> kernel_rfl) ?_
 intro aC fr
 refine From_either (B := B81) (d := (some 72)) (.int .i64 x.a) fr (by cases B81 <;> kernel_rfl) (fun hB hh => ?_) ?_
 cases B81 <;> first | (exact absurd hB (by decide)) | skip
 have c81 : ((x.a : Int) ≥ 1) := iB81.1 rfl
 exact From_ld (some 72) ⟨b4, 4, none⟩ fr (by kernel_rfl) (.int .i64 x.a) (blk_cell (hM6.get 1 rfl) rfl) hh
 intro aC fr
 refine zpk 3 9 [74, 75] fr (news := [(74, (.bool (B81 && decide ((x.a : Int) ≤ 999)))), (75, (.bool (B81 && decide ((x.a : Int) ≤ 999))))]) (by cases B81 <;> kernel_rfl) ?_
 intro aC fr
 obtain ⟨B90, hB90⟩ : ∃ B : Bool, B = (B81 && decide ((x.a : Int) ≤ 999)) := ⟨_, rfl⟩
 revert aC
 refine zkp [(3, (pT b4 0)), (75, (.bool (B81 && decide ((x.a : Int) ≤ 999))))] ?_
 rw [← hB90]
 have iB90 : B90 = true ↔ (((x.a : Int) ≥ 1) ∧ ((x.a : Int) ≤ 999)) := by rw [hB90]; simp only [Bool.and_eq_true, decide_eq_true_eq, iB81]
 clear hB90
 intro aC fr
 refine zpk 1 10 [76] fr (news := [(76, (cond B90 (pT b4 3) undef))]) (by cases B90 <;> kernel_rfl) ?_
 intro aC fr
 refine From_either (B := B90) (d := (some 77)) (.int .i64 x.v) fr (by cases B90 <;> kernel_rfl) (fun hB hh => ?_) ?_
 cases B90 <;> first | (exact absurd hB (by decide)) | skip
 have c90 : (((x.a : Int) ≥ 1) ∧ ((x.a : Int) ≤ 999)) := iB90.1 rfl
 exact From_ld (some 77) ⟨b4, 3, none⟩ fr (by kernel_rfl) (.int .i64 x.v) (blk_cell (hM6.get 1 rfl) rfl) hh
 intro aC fr
 refine zpk 3 14 [79, 80] fr (news := [(79, (.bool (B90 && ((x.v : Int) == 0)))), (80, (.bool (B90 && ((x.v : Int) == 0))))]) (by cases B90 <;> kernel_rfl) ?_
 intro aC fr
 obtain ⟨B99, hB99⟩ : ∃ B : Bool, B = (B90 && ((x.v : Int) == 0)) := ⟨_, rfl⟩
 revert aC
 refine zkp [(3, (pT b4 0)), (80, (.bool (B90 && ((x.v : Int) == 0))))] ?_
 rw [← hB99]
 have iB99 : B99 = true ↔ ((((x.a : Int) ≥ 1) ∧ ((x.a : Int) ≤ 999)) ∧ ((x.v : Int) = 0)) := by rw [hB99]; simp only [Bool.and_eq_true, beq_iff_eq, iB90]
 clear hB99
 intro aC fr
 refine zpk 1 15 [81] fr (news := [(81, (cond B99 (pT b4 5) undef))]) (by cases B99 <;> kernel_rfl) ?_
 intro aC fr
 refine From_either (B := B99) (d := (some 82)) (.int .i64 x.b) fr (by cases B99 <;> kernel_rfl) (fun hB hh => ?_) ?_
 cases B99 <;> first | (exact absurd hB (by decide)) | skip
 have c99 : ((((x.a : Int) ≥ 1) ∧ ((x.a : Int) ≤ 999)) ∧ ((x.v : Int) = 0)) := iB99.1 rfl
 exact From_ld (some 82) ⟨b4, 5, none⟩ fr (by kernel_rfl) (.int .i64 x.b) (blk_cell (hM6.get 1 rfl) rfl) hh
 intro aC fr
 refine zpk 3 19 [4, 84] fr (news := [(4, (.bool (B99 && ((x.b : Int) == 0)))), (84, (.bool (B99 && ((x.b : Int) == 0))))]) (by cases B99 <;> kernel_rfl) ?_
 intro aC fr
 revert aC
 refine zfe <| zre <| zbr <| zo1 (.bool (B99 && ((x.b : Int) == 0))) ?_
 have hR : (B99 && ((x.b : Int) == 0)) = true ↔ (((((x.a : Int) ≥ 1) ∧ ((x.a : Int) ≤ 999)) ∧ ((x.v : Int) = 0)) ∧ ((x.b : Int) = 0)) := by simp only [Bool.and_eq_true, beq_iff_eq, iB99]
 have hM108 := hM6.od [] 0
 exact ⟨bool_dec hR (by simp only [endsQ, codeQ] at *; omega), hM108⟩
 refine zsk <| zsp <| zre <| zo1 (.bool false) ?_
 have hR : false = true ↔ False := by simp
 have hM109 := hM6.od [] 0
 exact ⟨bool_dec hR (⟨False.elim, fun h => by simp only [endsQ] at h; omega⟩), hM109⟩
end Go.Proofs.YtlfbloadopeamaaDoor
namespace Go.Proofs.YtlfbloadopeamaaDoor
open Go.Mor
set_option maxRecDepth 10000 in
theorem values_c (q n : Nat) (nm wk : Value) (pa va : Int) (so tp md0 : Value) (A : Option Addr) (c : Nat) (fs : List FBlk) (w : World) (hN : fs.length ≤ 1000) (hok : FOk fs) (hva : va = (n : Int)) (hn2 : n ≤ 20000) (hpa : 0 ≤ pa) (hA : RO (Res.blk q 77 [nm, wk, .int .i64 pa, .int .i64 va, (.slice A (bsOf fs).length c), so, tp, md0]).fp w (.fn A fs)) (hq : (Res.blk q 77 [nm, wk, .int .i64 pa, .int .i64 va, (.slice A (bsOf fs).length c), so, tp, md0]).holds w) :
    Calls Tryd.prog 47 #[(pT q 0)] w (Ret fun v w' => ∃ B gm l, v = .bool B ∧ (B = true ↔ VQ pa va fs) ∧ (VQ pa va fs → Tab n (fun _ => (-1, 0)) (fun p => (p.1, p.2 + 1)) (defsF fs) l) ∧ Mem (Res.blk q 77 [nm, wk, .int .i64 pa, .int .i64 va, (.slice A (bsOf fs).length c), so, tp, md0]).fp w w' [.blk q 77 [nm, wk, .int .i64 pa, .int .i64 va, (.slice A (bsOf fs).length c), so, tp, (.slice (sM gm) n n)], .row 103 2 (sM gm) n n (mdc l)]) := by
 have hbl := bsOf_len fs
 have hm : (bsOf fs).length ≤ 1000000 := by omega
 have hB := hA.bs
 have hen := enc_ssa pa n
 refine zen 88 [(pT q 0)] Tryd.func47 ?_
 have hM := Mem.initS hq
 refine zsp <| zsr <| zpn 5 <| zld ⟨q, 3, none⟩ (.int .i64 va) (blk_cell (hM.get 0 rfl) rfl) ?_
 intro aC fr
 refine From_makeS (by kernel_rfl : coreAt _ 6 = some (some 16, (.makeSlice 75 (.tmp 15) (.tmp 15)), 75, none)) fr (by kernel_rfl) (by kernel_rfl) (k' := 7) rfl (e := 103) (bytes := 16) (size := 2) (zs := [(.int .i64 0), (.int .i64 0)]) (n := n) (i := va) (by kernel_rfl) (by kernel_rfl) hva (by kernel_rfl) (by kernel_rfl) rfl (by decide) (by omega) (by simp only [maxLen]; omega) hM ?_
 intro b1 w2 hb1 _ hM3 _ aC ea fr; clear ea
 replace hM3 := hM3.nf
 clear hM
 revert aC
 refine zpn 2 <| zsb (ho := (by simp)) hM3 0 7 (.slice (sM b1) n n) rfl fun w8 hM9 => ?_
 replace hM9 := hM9.nf
 refine zfe <| zsq <| zsr <| zpn 3 <| zld ⟨q, 7, none⟩ (.slice (sM b1) n n) (blk_cell (hM9.get 0 rfl) rfl) <| zpn 2 <| zfe <| zbk 0 ?_
 intro aC fr
 refine zlp (fun n_ a_ w_ => ∃ (k : Nat), n_ = n - k ∧ Fr a_ 88 [(0, (pT q 0)), (23, (.int .i64 ((n : Nat) : Int))), (24, (nV k))] ∧ Mem (Res.blk q 77 [nm, wk, .int .i64 pa, .int .i64 va, (.slice A (bsOf fs).length c), so, tp, md0]).fp w w_ [.blk q 77 [nm, wk, (.int .i64 pa), (.int .i64 va), (.slice A ((bsOf fs).length) c), so, tp, (.slice (sM b1) n n)], .row 103 2 (sM b1) n n (mdc (fillM n k))] ∧ (k ≤ n)) (n := _) ⟨0, rfl, fr.kp [0, 23, 24], (hM9.cast (by rw [fillM_zero, ← mdc_rep])), by omega⟩ ?_
 clear fr aC hM9; rintro n aC w12 ⟨k, rfl, fr, hM13, hk⟩
 revert aC
 refine zsp <| zsq <| zcD (((k : Int) : Int) < ((n : Nat) : Int)) (fun c16 => ?_) (fun c16 => ?_)
 refine zsk <| zsq <| zbk 1 <| zsp <| zrg <| zpn 3 <| zld ⟨q, 7, none⟩ (.slice (sM b1) n n) (blk_cell (hM13.get 0 rfl) rfl) <| zpn 1 <| zix ⟨b1, 0, none⟩ n 2 (k : Int) <| zpn 1 <| zsw hM13 1 ((⟨b1, 0, none⟩ : Addr).add (((k : Int)).toNat * 2)) (((k : Int)).toNat * 2) (.int .i64 (-1)) rfl rfl (by rw [Int.toNat_natCast]; omega) fun w17 hM18 => ?_
 replace hM18 := hM18.nf
 refine zfe <| zrg <| zar ((k : Int) + 1) <| zpn 1 <| zfe ?_
 intro aC fr
 exact ⟨n - (k + 1), by omega, k + 1, rfl, fr.kp [0, 23, 24], (hM18.cast (by rw [Int.toNat_natCast, mdc_set0 _ (fillM_get (by omega)), fillM_next (by omega)])), by omega⟩
 refine zex 0 <| zbh <| zsq <| zsr <| zpn 4 <| zld ⟨q, 4, none⟩ (.slice A ((bsOf fs).length) c) (blk_cell (hM13.get 0 rfl) rfl) <| zpn 2 <| zfe <| zbk 2 ?_
 intro aC fr
 refine zlp (fun n_ a_ w_ => ∃ (m : Nat) (l : List (Int × Int)), n_ = fs.length - m ∧ Fr a_ 88 [(0, (pT q 0)), (39, (.slice A ((bsOf fs).length) c)), (40, (.int .i64 (((bsOf fs).length : Nat) : Int))), (41, (nV m))] ∧ Mem (Res.blk q 77 [nm, wk, .int .i64 pa, .int .i64 va, (.slice A (bsOf fs).length c), so, tp, md0]).fp w w_ [.blk q 77 [nm, wk, (.int .i64 pa), (.int .i64 va), (.slice A ((bsOf fs).length) c), so, tp, (.slice (sM b1) n n)], .row 103 2 (sM b1) n n (mdc l)] ∧ (m ≤ fs.length) ∧ (Tab n (fun _ => (-1, 0)) (fun p => (p.1, p.2 + 1)) (defsTo fs m) l) ∧ (OnceQ pa va (defsTo fs m)) ∧ (ShapesTo fs m)) (n := _) ⟨0, fillM n n, rfl, fr.kp [0, 39, 40, 41], (hM13.cast (by rw [show k = n by omega])), by omega, by rw [defsTo_zero]; exact fillM_end n, by rw [defsTo_zero]; exact OnceQ.nil _ _, fun i x h => absurd h (Nat.not_lt_zero _)⟩ ?_
 clear fr aC hM13; rintro n aC w23 ⟨m, l, rfl, fr, hM24, hm1, htb, hoq, hsh⟩
 revert aC
 refine zsp <| zsq <| zcD (((m : Int) : Int) < (((bsOf fs).length : Nat) : Int)) (fun c27 => ?_) (fun c27 => ?_)
 refine zsk <| zsq <| zbk 3 <| zsr ?_
 obtain ⟨x, hx⟩ := get_of (l := fs) (i := m) (by omega)
 have hl1 : x.phis.length ≤ 281474976710656 := (hok.get hx).lp
 have hl2 : x.insts.length ≤ 281474976710656 := (hok.get hx).li
 refine zpn 1 ?_
 obtain ⟨ad28, rfl⟩ := blocks_some (hM24.ro hB) (bsOf_get hx)
 refine zix ad28 ((bsOf fs).length) 6 (m : Int) <| zls ((ad28 : Addr).add (((m : Int)).toNat * 6)) (xV x) (fblk_get (hM24.ro hB) rfl hx) <| zal hM24 44 [(.slice none 0 0), (.slice none 0 0), (.int .i64 0), (.int .i64 0), (.int .i64 0), (.int .i64 0)] fun b29 w30 hb29 hM31 => ?_
 replace hM31 := hM31.nf
 refine zpn 1 <| zss hM31 2 (xV x) rfl fun w32 hM33 => ?_
 replace hM33 := hM33.nf
 refine zfe <| zsq <| zsr <| zpn 1 <| zld ⟨b29, 0, none⟩ (.slice x.pA x.phis.length x.pc) (blk_cell (hM33.get 2 rfl) rfl) <| zpn 2 <| zfe <| zbk 4 ?_
 intro aC fr
 refine zlp (fun n_ a_ w_ => ∃ (j : Nat) (l2 : List (Int × Int)), n_ = x.phis.length - j ∧ Fr a_ 88 [(0, (pT q 0)), (4, (nV m)), (5, (pT b29 0)), (39, (.slice (some ad28) ((bsOf fs).length) c)), (40, (.int .i64 (((bsOf fs).length : Nat) : Int))), (41, (nV m)), (47, (.slice x.pA x.phis.length x.pc)), (48, (.int .i64 ((x.phis.length : Nat) : Int))), (49, (nV j))] ∧ Mem (Res.blk q 77 [nm, wk, .int .i64 pa, .int .i64 va, (.slice (some ad28) (bsOf fs).length c), so, tp, md0]).fp w w_ [.blk q 77 [nm, wk, (.int .i64 pa), (.int .i64 va), (.slice (some ad28) ((bsOf fs).length) c), so, tp, (.slice (sM b1) n n)], .row 103 2 (sM b1) n n (mdc l2), .blk b29 44 (xV x)] ∧ (j ≤ x.phis.length) ∧ (Tab n (fun _ => (-1, 0)) (fun p => (p.1, p.2 + 1)) (defsTo fs m ++ phiDefs m (x.phis.take j)) l2) ∧ (OnceQ pa va (defsTo fs m ++ phiDefs m (x.phis.take j)))) (n := _) ⟨0, l, rfl, fr.kp [0, 4, 5, 39, 40, 41, 47, 48, 49], hM33, by omega, by simpa [phiDefs] using htb, by simpa [phiDefs] using hoq⟩ ?_
 clear fr aC hM33; rintro n aC w36 ⟨j, l2, rfl, fr, hM37, hj, ht2, ho2⟩
 revert aC
 refine zsp <| zsq <| zcD (((j : Int) : Int) < ((x.phis.length : Nat) : Int)) (fun c40 => ?_) (fun c40 => ?_)
 refine zsk <| zsq <| zbk 5 <| zsr ?_
 obtain ⟨p, hp⟩ := get_of (l := x.phis) (i := j) (by omega)
 obtain ⟨ad41, had42⟩ := rds_some (hM37.ro (hA.phis hx)) (cs := p.cells) (i := j) (by simp [hp])
 intro aC fr
 refine From_ixA (some 51) x.pA ad41 x.phis.length 2 (j : Int) fr (by kernel_rfl) had42 (by omega) (by omega) ?_
 intro aC fr
 revert aC
 refine zls ((ad41 : Addr).add (((j : Int)).toNat * 2)) (pV p) (phi_get (hM37.ro (hA.phis hx)) had42 hp) <| zal hM37 65 [(.int .i64 0), (.slice none 0 0)] fun b47 w48 hb47 hM49 => ?_
 replace hM49 := hM49.nf
 refine zss hM49 3 (pV p) rfl fun w50 hM51 => ?_
 replace hM51 := hM51.nf
 refine zfe <| zsr <| zpn 2 <| zld ⟨b47, 0, none⟩ (.int .i64 p.dst) (blk_cell (hM51.get 3 rfl) rfl) <| zpn 1 <| zcl (vs := #[(pT q 0), (.int .i64 p.dst), (nV m), (.int .i64 0)]) (makes2_c q b1 n nm wk pa va _ so tp l2 p.dst (m : Int) 0 w50 ht2.len.symm hva hpa (hM51.own_but 0 1 rfl rfl (by decide)) (hM51.get 1 rfl)) ?_
 rintro _ w52 ⟨l4, e4, rfl, hM53x⟩
 have hM53 := hM51.md 1 rfl hM53x
 refine zpn 1 <| zfe <| zcP (!(decide (putQ pa va l2 p.dst))) (¬ (putQ pa va l2 p.dst)) (by simp only [notT, decide_eq_true_eq]) (fun c54 => ?_) (fun c54 => ?_)
 have hst := once_step (v := p.dst) (b := (m : Int)) (k := -1) ht2 hen (nonneg_phi fs m j x.phis) hpa (Int.le_refl _) hva ho2
 have hnq : ¬ VQ pa va fs := fun h => (hst.2 c54) (by have := once_phi hx (j + 1) h.2; rwa [phiDefs_succ hp, ← List.append_assoc] at this)
 refine zsp <| zre <| zbr <| zbr <| zbr <| zbr <| zo1 (.bool false) ?_
 have hM55 := hM53.od [1, 1] 2
 exact ⟨false, _, _, rfl, ⟨fun h => Bool.noConfusion h, fun h => absurd h hnq⟩, fun h => absurd h hnq, hM55⟩
 have hst := once_step (v := p.dst) (b := (m : Int)) (k := -1) ht2 hen (nonneg_phi fs m j x.phis) hpa (Int.le_refl _) hva ho2
 have hQp := Classical.not_not.1 c54
 refine zsk <| zrg <| zar ((j : Int) + 1) <| zpn 1 <| zfe ?_
 intro aC fr
 exact ⟨x.phis.length - (j + 1), by omega, j + 1, l4, rfl, fr.kp [0, 4, 5, 39, 40, 41, 47, 48, 49], (hM53.tk 3), by omega, by rw [phiDefs_succ hp, ← List.append_assoc, e4, if_pos hQp]; exact (hst.1 hQp).1, by rw [phiDefs_succ hp, ← List.append_assoc]; exact (hst.1 hQp).2⟩
 refine zex 4 <| zbh <| zsr <| zpn 1 <| zld ⟨b29, 1, none⟩ (.slice x.iA x.insts.length x.ic) (blk_cell (hM37.get 2 rfl) rfl) <| zpn 2 <| zfe <| zbk 6 ?_
 have hjl : j = x.phis.length := by omega
 rw [hjl, List.take_length] at ht2 ho2
 intro aC fr
 refine zlp (fun n_ a_ w_ => ∃ (j3 : Nat) (l3 : List (Int × Int)), n_ = x.insts.length - j3 ∧ Fr a_ 88 [(0, (pT q 0)), (4, (nV m)), (39, (.slice (some ad28) ((bsOf fs).length) c)), (40, (.int .i64 (((bsOf fs).length : Nat) : Int))), (41, (nV m)), (61, (.slice x.iA x.insts.length x.ic)), (62, (.int .i64 ((x.insts.length : Nat) : Int))), (63, (nV j3))] ∧ Mem (Res.blk q 77 [nm, wk, .int .i64 pa, .int .i64 va, (.slice (some ad28) (bsOf fs).length c), so, tp, md0]).fp w w_ [.blk q 77 [nm, wk, (.int .i64 pa), (.int .i64 va), (.slice (some ad28) ((bsOf fs).length) c), so, tp, (.slice (sM b1) n n)], .row 103 2 (sM b1) n n (mdc l3), .blk b29 44 (xV x)] ∧ (j3 ≤ x.insts.length) ∧ (Tab n (fun _ => (-1, 0)) (fun p => (p.1, p.2 + 1)) (defsTo fs m ++ phiDefs m x.phis ++ insDefs m (x.insts.take j3)) l3) ∧ (OnceQ pa va (defsTo fs m ++ phiDefs m x.phis ++ insDefs m (x.insts.take j3))) ∧ (ShapesIn x j3)) (n := _) ⟨0, l2, rfl, fr.kp [0, 4, 39, 40, 41, 61, 62, 63], hM37, by omega, by simpa [insDefs] using ht2, by simpa [insDefs] using ho2, fun i p h => absurd h (Nat.not_lt_zero _)⟩ ?_
 clear fr aC hM37; rintro n aC w60 ⟨j3, l3, rfl, fr, hM61, hj3, ht3, ho3, hs3⟩
 revert aC
 refine zsp <| zsq <| zcD (((j3 : Int) : Int) < ((x.insts.length : Nat) : Int)) (fun c64 => ?_) (fun c64 => ?_)
 refine zsk <| zsq <| zbk 7 <| zsr ?_
 obtain ⟨p, hp3⟩ := get_of (l := x.insts) (i := j3) (by omega)
 have hpo : p.Ok := (hok.get hx).insts p (List.mem_of_getElem? hp3)
 refine zpn 1 ?_
 obtain ⟨ad65, had66⟩ := rds_some (hM61.ro (hA.insts hx)) (cs := p.cells) (i := j3) (by simp [hp3])
 intro aC fr
 refine From_ixA (some 66) x.iA ad65 x.insts.length 5 (j3 : Int) fr (by kernel_rfl) had66 (by omega) (by omega) ?_
 intro aC fr
 revert aC
 refine zls ((ad65 : Addr).add (((j3 : Int)).toNat * 5)) (iV p) (ins_get (hM61.ro (hA.insts hx)) had66 hp3) <| zal hM61 40 [(.int .i64 0), (.int .i64 0), (.int .i64 0), (.string ⟨#[]⟩), (.slice none 0 0)] fun b71 w72 hb71 hM73 => ?_
 replace hM73 := hM73.nf
 refine zpn 1 <| zss hM73 3 (iV p) rfl fun w74 hM75 => ?_
 replace hM75 := hM75.nf
 refine zfe <| zsr <| zls ⟨b71, 0, none⟩ (iV p) (blk_cells (hM75.get 3 rfl)) <| zcl (shape_c p w74 hpo) ?_
 rintro _ w76 ⟨rfl, hM77x⟩
 have hM77 := hM75.cl hM77x
 refine zpn 2 ?_
 obtain ⟨B78, hB78⟩ : ∃ B : Bool, B = (!(decide (shapeQ p))) := ⟨_, rfl⟩
 refine zkp [(0, (pT q 0)), (4, (nV m)), (8, (nV j3)), (9, (pT b71 0)), (39, (.slice (some ad28) ((bsOf fs).length) c)), (40, (.int .i64 (((bsOf fs).length : Nat) : Int))), (41, (nV m)), (61, (.slice x.iA x.insts.length x.ic)), (62, (.int .i64 ((x.insts.length : Nat) : Int))), (63, (nV j3)), (71, (.bool (!(decide (shapeQ p)))))] ?_
 rw [← hB78]
 have iB78 : B78 = true ↔ (¬ (shapeQ p)) := by rw [hB78]; simp only [notT, decide_eq_true_eq]
 clear hB78
 intro aC fr
 refine zpk 1 5 [72] fr (news := [(72, (cond (!B78) (pT b71 0) undef))]) (by cases B78 <;> kernel_rfl) ?_
 intro aC fr
 refine From_either (B := (!B78)) (d := (some 73)) (.int .i64 p.op) fr (by cases B78 <;> kernel_rfl) (fun hB hh => ?_) ?_
 cases B78 <;> first | (exact absurd hB (by decide)) | skip
 have c78 : ¬ (¬ (shapeQ p)) := (fun h => Bool.noConfusion (iB78.2 h) : ¬ (¬ (shapeQ p)))
 exact From_ld (some 73) ⟨b71, 0, none⟩ fr (by kernel_rfl) (.int .i64 p.op) (blk_cell (hM77.get 3 rfl) rfl) hh
 intro aC fr
 refine From_eitherC (B := (!B78)) (d := (some 74)) (.bool (decide (makesQ p.op))) fr (by cases B78 <;> kernel_rfl) (fun hB hh => ?_) ?_
 cases B78 <;> first | (exact absurd hB (by decide)) | skip
 have c78 : ¬ (¬ (shapeQ p)) := (fun h => Bool.noConfusion (iB78.2 h) : ¬ (¬ (shapeQ p)))
 refine From_cl (some 74) 72 [(.int .i64 p.op)] fr (by kernel_rfl) (makes_c p.op w76) ?_
 rintro _ w2 ⟨rfl, hm2⟩ a2 hF2; exact hh a2 w2 hm2 hF2
 intro aC w85 hM86x fr
 have hM86 := hM77.cl hM86x
 refine zpk 1 8 [75] fr (news := [(75, (cond (!B78) (.bool (decide (makesQ p.op))) undef))]) (by cases B78 <;> kernel_rfl) ?_
 intro aC fr
 obtain ⟨B91, hB91⟩ : ∃ B : Bool, B = decide (makesQ p.op) := ⟨_, rfl⟩
 revert aC
 refine zkp [(0, (pT q 0)), (4, (nV m)), (8, (nV j3)), (9, (pT b71 0)), (39, (.slice (some ad28) ((bsOf fs).length) c)), (40, (.int .i64 (((bsOf fs).length : Nat) : Int))), (41, (nV m)), (61, (.slice x.iA x.insts.length x.ic)), (62, (.int .i64 ((x.insts.length : Nat) : Int))), (63, (nV j3)), (71, (.bool B78)), (75, (cond (!B78) (.bool (decide (makesQ p.op))) undef))] ?_
 rw [← hB91]
 have iB91 : B91 = true ↔ (makesQ p.op) := by rw [hB91]; simp only [decide_eq_true_eq]
 clear hB91
 intro aC fr
 refine zpk 2 10 [76, 77] fr (news := [(76, (cond (!B78 && B91) (pT q 0) undef)), (77, (cond (!B78 && B91) (pT b71 1) undef))]) (by cases B78 <;> cases B91 <;> kernel_rfl) ?_
 intro aC fr
 refine From_either (B := (!B78 && B91)) (d := (some 78)) (.int .i64 p.dst) fr (by cases B78 <;> cases B91 <;> kernel_rfl) (fun hB hh => ?_) ?_
 cases B78 <;> cases B91 <;> first | (exact absurd hB (by decide)) | skip
 have c78 : ¬ (¬ (shapeQ p)) := (fun h => Bool.noConfusion (iB78.2 h) : ¬ (¬ (shapeQ p)))
 have c91 : (makesQ p.op) := iB91.1 rfl
 exact From_ld (some 78) ⟨b71, 1, none⟩ fr (by kernel_rfl) (.int .i64 p.dst) (blk_cell (hM86.get 3 rfl) rfl) hh
 intro aC fr
 refine zpk 2 13 [79, 80] fr (news := [(79, (cond (!B78 && B91) (nV m) undef)), (80, (cond (!B78 && B91) (nV j3) undef))]) (by cases B78 <;> cases B91 <;> kernel_rfl) ?_
 intro aC fr
 refine From_either (B := (!B78 && B91)) (d := (some 81)) (.int .i64 ((j3 : Int) + 1)) fr (by cases B78 <;> cases B91 <;> kernel_rfl) (fun hB hh => ?_) ?_
 cases B78 <;> cases B91 <;> first | (exact absurd hB (by decide)) | skip
 have c78 : ¬ (¬ (shapeQ p)) := (fun h => Bool.noConfusion (iB78.2 h) : ¬ (¬ (shapeQ p)))
 have c91 : (makesQ p.op) := iB91.1 rfl
 exact From_ar (some 81) ((j3 : Int) + 1) fr (z0 := (j3 : Int) + 1) (by kernel_rfl) rfl (by omega) (by omega) hh
 intro aC fr
 cases B78
 have c78 : ¬ (¬ (shapeQ p)) := (fun h => Bool.noConfusion (iB78.2 h) : ¬ (¬ (shapeQ p)))
 have hsq : shapeQ p := Classical.not_not.1 c78
 cases B91
 have c91 : ¬ (makesQ p.op) := (fun h => Bool.noConfusion (iB91.2 h) : ¬ (makesQ p.op))
 have hmk : ¬ makesQ p.op := c91
 revert aC
 refine zpn 4 <| zfe <| zcF <| zsk <| zrg <| zar ((j3 : Int) + 1) <| zpn 1 <| zfe ?_
 intro aC fr
 exact ⟨x.insts.length - (j3 + 1), by omega, j3 + 1, l3, rfl, fr.kp [0, 4, 39, 40, 41, 61, 62, 63], (hM86.tk 3), by omega, by rw [insDefs_no hp3 hmk]; exact ht3, by rw [insDefs_no hp3 hmk]; exact ho3, hs3.next hp3 hsq⟩
 have c91 : (makesQ p.op) := iB91.1 rfl
 have hmk : makesQ p.op := c91
 have hst := once_step (v := p.dst) (b := (m : Int)) (k := (j3 : Int)) ht3 hen (nonneg_ins fs m j3 x.phis x.insts) hpa (Int.le_refl _) hva ho3
 revert aC
 refine zcl (vs := #[(pT q 0), (.int .i64 p.dst), (nV m), (.int .i64 ((j3 : Int) + 1))]) (makes2_c q b1 n nm wk pa va _ so tp l3 p.dst (m : Int) ((j3 : Int) + 1) w85 ht3.len.symm hva hpa (hM86.own_but 0 1 rfl rfl (by decide)) (hM86.get 1 rfl)) ?_
 rintro _ w104 ⟨l4, e4, rfl, hM105x⟩
 have hM105 := hM86.md 1 rfl hM105x
 refine zpn 3 <| zfe <| zcP (!(decide (putQ pa va l3 p.dst))) (¬ (putQ pa va l3 p.dst)) (by simp only [notT, decide_eq_true_eq]) (fun c106 => ?_) (fun c106 => ?_)
 have hnq : ¬ VQ pa va fs := fun h => (hst.2 c106) (by have := once_ins hx (j3 + 1) h.2; rwa [insDefs_yes hp3 hmk, ← List.append_assoc] at this)
 refine zsp <| zre <| zbr <| zbr <| zbr <| zbr <| zo1 (.bool false) ?_
 have hM107 := hM105.od [1, 1] 2
 exact ⟨false, _, _, rfl, ⟨fun h => Bool.noConfusion h, fun h => absurd h hnq⟩, fun h => absurd h hnq, hM107⟩
 have hQp := Classical.not_not.1 c106
 refine zsk <| zrg <| zar ((j3 : Int) + 1) <| zpn 1 <| zfe ?_
 intro aC fr
 exact ⟨x.insts.length - (j3 + 1), by omega, j3 + 1, l4, rfl, fr.kp [0, 4, 39, 40, 41, 61, 62, 63], (hM105.tk 3), by omega, by rw [insDefs_yes hp3 hmk, ← List.append_assoc, e4, if_pos hQp]; exact (hst.1 hQp).1, by rw [insDefs_yes hp3 hmk, ← List.append_assoc]; exact (hst.1 hQp).2, hs3.next hp3 hsq⟩
 have c78 : (¬ (shapeQ p)) := iB78.1 rfl
 have hnq : ¬ VQ pa va fs := fun h => c78 (h.1 x (List.mem_of_getElem? hx) p (List.mem_of_getElem? hp3))
 revert aC
 refine zpn 4 <| zfe <| zcT <| zsp <| zre <| zbr <| zbr <| zbr <| zbr <| zo1 (.bool false) ?_
 have hM110 := hM86.od [1, 1] 2
 exact ⟨false, _, _, rfl, ⟨fun h => Bool.noConfusion h, fun h => absurd h hnq⟩, fun h => absurd h hnq, hM110⟩
 refine zex 6 <| zbh <| zrg <| zar ((m : Int) + 1) <| zpn 1 <| zfe ?_
 have hj3e : j3 = x.insts.length := by omega
 rw [hj3e, List.take_length] at ht3 ho3
 rw [hj3e] at hs3
 intro aC fr
 exact ⟨fs.length - (m + 1), by omega, m + 1, l3, rfl, fr.kp [0, 39, 40, 41], (hM61.tk 2), by omega, by rw [defsTo_succ hx, blkDefs, ← List.append_assoc]; exact ht3, by rw [defsTo_succ hx, blkDefs, ← List.append_assoc]; exact ho3, hsh.next hx hs3⟩
 refine zex 2 <| zbh <| zsp <| zre <| zo1 (.bool true) ?_
 have hM113 := hM24.od [1, 1] 2
 obtain rfl : m = fs.length := by omega
 have hv : VQ pa va fs := ⟨hsh.all, hoq⟩
 exact ⟨true, _, _, rfl, ⟨fun _ => hv, fun _ => rfl⟩, fun _ => htb, hM113⟩
end Go.Proofs.YtlfbloadopeamaaDoor
namespace Go.Proofs.YtlfbloadopeamaaDoor
open Go.Mor
set_option maxRecDepth 10000 in
theorem rmade_c (n : Nat) (nm : ByteArray) (wk : Bool) (pa va : Int) (A : Option Addr) (c : Nat) (fs : List FBlk) (w : World) (hN : fs.length ≤ 1000) (hok : FOk fs) (hva : va = (n : Int)) (hn2 : n ≤ 20000) (hpa : 0 ≤ pa) (hA : RO noS w (.fn A fs)) :
    Calls Tryd.prog 27 #[(fA nm wk pa va A c fs)] w (Ret fun v w' => ∃ B A' n' c' gm l, v = .tuple #[.slice A' n' c', .bool B] ∧ (B = true ↔ OnceQ pa va (defsF fs)) ∧ (B = true → A' = some ⟨gm, 0, none⟩ ∧ n' = n ∧ c' = n ∧ Tab n (baseR pa) (fun p => p) (defsF fs) l) ∧ Mem noS w w' [.row 90 2 (sM gm) n n (mdc l)]) := by
 have hbl := bsOf_len fs
 have hm : (bsOf fs).length ≤ 1000000 := by omega
 have hB := hA.bs
 have hen := enc_ref pa n
 refine zen 98 [(fA nm wk pa va A c fs)] Tryd.func27 ?_
 have hM := Mem.init w
 refine zsr <| zbx hM 24 (fA nm wk pa va A c fs) (fV nm wk pa va A c fs) fun b1 w2 hb1 hM3 => ?_
 replace hM3 := hM3.nf
 clear hM
 refine zpn 2 <| zfe <| zsr <| zpn 1 <| zld ⟨b1, 3, none⟩ (.int .i64 va) (blk_cell (hM3.get 0 rfl) rfl) ?_
 intro aC fr
 refine From_makeS (by kernel_rfl : coreAt _ 2 = some (some 12, (.makeSlice 55 (.tmp 11) (.tmp 11)), 55, none)) fr (by kernel_rfl) (by kernel_rfl) (k' := 3) rfl (e := 90) (bytes := 16) (size := 2) (zs := [(.int .i64 0), (.int .i64 0)]) (n := n) (i := va) (by kernel_rfl) (by kernel_rfl) hva (by kernel_rfl) (by kernel_rfl) rfl (by decide) (by omega) (by simp only [maxLen]; omega) hM3 ?_
 intro b4 w5 hb4 _ hM6 _ aC ea fr; clear ea
 replace hM6 := hM6.nf
 revert aC
 refine zpn 1 <| zfe <| zsq <| zsp <| zbk 0 ?_
 intro aC fr
 refine zlp (fun n_ a_ w_ => ∃ (k : Nat), n_ = n - k ∧ Fr a_ 98 [(1, (pT b1 0)), (4, (.slice (sM b4) n n)), (5, (nV k))] ∧ Mem noS w w_ [.blk b1 24 (fV nm wk pa va A c fs), .row 90 2 (sM b4) n n (mdc (fillR pa n k))] ∧ (k ≤ n)) (n := _) ⟨0, rfl, fr.kp [1, 4, 5], (hM6.cast (by rw [fillR_zero, ← mdc_rep])), by omega⟩ ?_
 clear fr aC hM6; rintro n aC w13 ⟨k, rfl, fr, hM14, hk⟩
 revert aC
 refine zsq <| zsp <| zcD (((k : Int) : Int) < ((n : Nat) : Int)) (fun c17 => ?_) (fun c17 => ?_)
 refine zsk <| zsq <| zbk 1 <| zsr <| zpn 2 <| zix ⟨b4, 0, none⟩ n 2 (k : Int) <| zpn 1 <| zsw hM14 1 ((⟨b4, 0, none⟩ : Addr).add (((k : Int)).toNat * 2)) (((k : Int)).toNat * 2) (.int .i64 (-1)) rfl rfl (by rw [Int.toNat_natCast]; omega) fun w18 hM19 => ?_
 replace hM19 := hM19.nf
 refine zfe <| zsr ?_
 have hM20 : Mem noS w w18 [.blk b1 24 (fV nm wk pa va A c fs), .row 90 2 (sM b4) n n (mdc ((fillR pa n k).set k (-1, 0)))] := hM19.cast (by rw [Int.toNat_natCast, mdc_set0 _ (fillR_get (by omega))])
 refine zpn 2 <| zld ⟨b1, 2, none⟩ (.int .i64 pa) (blk_cell (hM20.get 0 rfl) rfl) <| zpn 1 <| zfe <| zcD (((k : Int) : Int) < pa) (fun c21 => ?_) (fun c21 => ?_)
 refine zrg <| zpn 3 <| zix ⟨b4, 0, none⟩ n 2 (k : Int) ?_
 intro aC fr
 refine From_storeS_row (by kernel_rfl : coreAt _ 4 = some (none, (.store 90 (.tmp 30) (.tmp 29)), 0, none)) fr (by kernel_rfl) (by kernel_rfl) (k' := 5) rfl (ad := (⟨b4, 0, none⟩ : Addr)) (j := (((k : Int)).toNat * 2)) (e := 90) (size := 2) (n := n) (cap := n) (vs := [(.int .i64 0), (.int .i64 (-2))]) (xs := (mdc ((fillR pa n k).set k (-1, 0)))) (ad' := ((⟨b4, 0, none⟩ : Addr).add (((k : Int)).toNat * 2))) (by kernel_rfl) rfl (by kernel_rfl) (by kernel_rfl) (by simp only [List.mem_cons, List.not_mem_nil, or_false]; intro v hv; rcases hv with rfl | rfl <;> rfl) hM20 1 rfl (by rw [Int.toNat_natCast]; simp only [List.length_cons, List.length_nil]; omega) ?_
 intro w22 hM23 _ aC ea fr; clear ea
 replace hM23 := hM23.nf
 have hM28 : Mem noS w w22 [.blk b1 24 (fV nm wk pa va A c fs), .row 90 2 (sM b4) n n (mdc (((fillR pa n k).set k (-1, 0)).set k (0, -2)))] := hM23.cast (by rw [Int.toNat_natCast, mdc_set _ _ (by rw [List.length_set, fillR_len (by omega)]; omega)])
 revert aC
 refine zfe <| zrg <| zpn 1 <| zar ((k : Int) + 1) <| zkp [(1, (pT b1 0)), (4, (.slice (sM b4) n n)), (18, (.int .i64 ((k : Int) + 1)))] <| zpn 1 <| zfe ?_
 intro aC fr
 exact ⟨n - (k + 1), by omega, k + 1, rfl, fr.kp [1, 4, 5], (hM28.cast (by rw [fillR_yes (by omega) c21])), by omega⟩
 refine zsk <| zrg <| zpn 1 <| zar ((k : Int) + 1) <| zpn 1 <| zfe ?_
 intro aC fr
 exact ⟨n - (k + 1), by omega, k + 1, rfl, fr.kp [1, 4, 5], (hM20.cast (by rw [fillR_no (by omega) c21])), by omega⟩
 refine zex 0 <| zbh <| zsq <| zsp <| zbk 2 ?_
 intro aC fr
 refine zlp (fun n_ a_ w_ => ∃ (m : Nat) (l : List (Int × Int)), n_ = fs.length - m ∧ Fr a_ 98 [(1, (pT b1 0)), (4, (.slice (sM b4) n n)), (6, (nV m))] ∧ Mem noS w w_ [.blk b1 24 (fV nm wk pa va A c fs), .row 90 2 (sM b4) n n (mdc l)] ∧ (m ≤ fs.length) ∧ (Tab n (baseR pa) (fun p => p) (defsTo fs m) l) ∧ (OnceQ pa (n : Int) (defsTo fs m))) (n := _) ⟨0, fillR pa n n, rfl, fr.kp [1, 4, 6], (hM14.cast (by rw [show k = n by omega])), by omega, by rw [defsTo_zero]; exact fillR_end pa n, by rw [defsTo_zero]; exact OnceQ.nil _ _⟩ ?_
 clear fr aC hM14; rintro n aC w35 ⟨m, l, rfl, fr, hM36, hm1, htb, hoq⟩
 revert aC
 refine zsq <| zsr <| zpn 2 <| zld ⟨b1, 4, none⟩ (.slice A ((bsOf fs).length) c) (blk_cell (hM36.get 0 rfl) rfl) <| zpn 2 <| zfe <| zcD (((m : Int) : Int) < (((bsOf fs).length : Nat) : Int)) (fun c39 => ?_) (fun c39 => ?_)
 refine zsk <| zsq <| zbk 3 <| zsq <| zsr ?_
 obtain ⟨x, hx⟩ := get_of (l := fs) (i := m) (by omega)
 have hl1 : x.phis.length ≤ 281474976710656 := (hok.get hx).lp
 have hl2 : x.insts.length ≤ 281474976710656 := (hok.get hx).li
 refine zpn 1 <| zfe <| zbk 4 ?_
 intro aC fr
 refine zlp (fun n_ a_ w_ => ∃ (j : Nat) (l2 : List (Int × Int)), n_ = x.phis.length - j ∧ Fr a_ 98 [(1, (pT b1 0)), (4, (.slice (sM b4) n n)), (6, (nV m)), (7, (nV j))] ∧ Mem noS w w_ [.blk b1 24 (fV nm wk pa va A c fs), .row 90 2 (sM b4) n n (mdc l2)] ∧ (j ≤ x.phis.length) ∧ (Tab n (baseR pa) (fun p => p) (defsTo fs m ++ phiDefs m (x.phis.take j)) l2) ∧ (OnceQ pa (n : Int) (defsTo fs m ++ phiDefs m (x.phis.take j)))) (n := _) ⟨0, l, rfl, fr.kp [1, 4, 6, 7], hM36, by omega, by simpa [phiDefs] using htb, by simpa [phiDefs] using hoq⟩ ?_
 clear fr aC hM36; rintro n aC w42 ⟨j, l2, rfl, fr, hM43, hj, ht2, ho2⟩
 revert aC
 refine zsq <| zsr <| zpn 2 <| zld ⟨b1, 4, none⟩ (.slice A ((bsOf fs).length) c) (blk_cell (hM43.get 0 rfl) rfl) <| zpn 1 ?_
 obtain ⟨ad46, rfl⟩ := blocks_some (hM43.ro hB) (bsOf_get hx)
 refine zix ad46 ((bsOf fs).length) 6 (m : Int) <| zpn 1 <| zld ((ad46 : Addr).add (((m : Int)).toNat * 6)) (.slice x.pA x.phis.length x.pc) (fblk_get (hM43.ro hB) rfl hx 0 _ rfl) <| zpn 2 <| zfe <| zcD (((j : Int) : Int) < ((x.phis.length : Nat) : Int)) (fun c47 => ?_) (fun c47 => ?_)
 refine zsk <| zsq <| zbk 5 <| zsr ?_
 obtain ⟨p, hp⟩ := get_of (l := x.phis) (i := j) (by omega)
 refine zpn 2 <| zld ⟨b1, 4, none⟩ (.slice (some ad46) ((bsOf fs).length) c) (blk_cell (hM43.get 0 rfl) rfl) <| zpn 1 <| zix ad46 ((bsOf fs).length) 6 (m : Int) <| zpn 1 <| zld ((ad46 : Addr).add (((m : Int)).toNat * 6)) (.slice x.pA x.phis.length x.pc) (fblk_get (hM43.ro hB) rfl hx 0 _ rfl) <| zkp [(1, (pT b1 0)), (4, (.slice (sM b4) n n)), (6, (nV m)), (7, (nV j)), (49, (.slice (sM b4) n n)), (55, (.slice x.pA x.phis.length x.pc))] <| zpn 1 ?_
 obtain ⟨ad48, had49⟩ := rds_some (hM43.ro (hA.phis hx)) (cs := p.cells) (i := j) (by simp [hp])
 intro aC fr
 refine From_ixA (some 57) x.pA ad48 x.phis.length 2 (j : Int) fr (by kernel_rfl) had49 (by omega) (by omega) ?_
 intro aC fr
 revert aC
 refine zpn 1 <| zld ((ad48 : Addr).add (((j : Int)).toNat * 2)) (.int .i64 p.dst) (phi_get (hM43.ro (hA.phis hx)) had49 hp 0 _ rfl) <| zpn 2 <| zcl (rput_c b4 n l2 p.dst (m : Int) (-1) w42 ht2.len.symm (hM43.get 1 rfl)) ?_
 rintro _ w54 ⟨l4, e4, rfl, hM55x⟩
 have hM55 := hM43.md 1 rfl hM55x
 refine zpn 1 <| zfe <| zcP (!(decide (putQ 0 n l2 p.dst))) (¬ (putQ 0 n l2 p.dst)) (by simp only [notT, decide_eq_true_eq]) (fun c56 => ?_) (fun c56 => ?_)
 have hst := once_step (v := p.dst) (b := (m : Int)) (k := -1) ht2 hen (nonneg_phi fs m j x.phis) (Int.le_refl _) hpa rfl ho2
 have hnq : ¬ OnceQ pa va (defsF fs) := fun h => (hst.2 c56) (by have := once_phi hx (j + 1) h; rwa [phiDefs_succ hp, ← List.append_assoc, hva] at this)
 refine zsp <| zre <| zbr <| zbr <| zbr <| zbr <| zo2 (.slice none 0 0) (.bool false) ?_
 have hM57 := hM55.od [1] 1
 exact ⟨false, _, _, _, _, _, rfl, ⟨fun h => Bool.noConfusion h, fun h => absurd h hnq⟩, fun h => Bool.noConfusion h, hM57⟩
 have hst := once_step (v := p.dst) (b := (m : Int)) (k := -1) ht2 hen (nonneg_phi fs m j x.phis) (Int.le_refl _) hpa rfl ho2
 have hQp := Classical.not_not.1 c56
 refine zsk <| zrg <| zpn 1 <| zar ((j : Int) + 1) <| zpn 1 <| zfe ?_
 intro aC fr
 exact ⟨x.phis.length - (j + 1), by omega, j + 1, l4, rfl, fr.kp [1, 4, 6, 7], hM55, by omega, by rw [phiDefs_succ hp, ← List.append_assoc, e4, if_pos hQp]; exact (hst.1 hQp).1, by rw [phiDefs_succ hp, ← List.append_assoc]; exact (hst.1 hQp).2⟩
 refine zex 4 <| zbh <| zsp <| zbk 6 ?_
 have hjl : j = x.phis.length := by omega
 rw [hjl, List.take_length] at ht2 ho2
 intro aC fr
 refine zlp (fun n_ a_ w_ => ∃ (j3 : Nat) (l3 : List (Int × Int)), n_ = x.insts.length - j3 ∧ Fr a_ 98 [(1, (pT b1 0)), (4, (.slice (sM b4) n n)), (6, (nV m)), (8, (nV j3))] ∧ Mem noS w w_ [.blk b1 24 (fV nm wk pa va (some ad46) c fs), .row 90 2 (sM b4) n n (mdc l3)] ∧ (j3 ≤ x.insts.length) ∧ (Tab n (baseR pa) (fun p => p) (defsTo fs m ++ phiDefs m x.phis ++ insDefs m (x.insts.take j3)) l3) ∧ (OnceQ pa (n : Int) (defsTo fs m ++ phiDefs m x.phis ++ insDefs m (x.insts.take j3)))) (n := _) ⟨0, l2, rfl, fr.kp [1, 4, 6, 8], hM43, by omega, by simpa [insDefs] using ht2, by simpa [insDefs] using ho2⟩ ?_
 clear fr aC hM43; rintro n aC w62 ⟨j3, l3, rfl, fr, hM63, hj3, ht3, ho3⟩
 revert aC
 refine zsq <| zsr <| zpn 2 <| zld ⟨b1, 4, none⟩ (.slice (some ad46) ((bsOf fs).length) c) (blk_cell (hM63.get 0 rfl) rfl) <| zpn 1 <| zix ad46 ((bsOf fs).length) 6 (m : Int) <| zpn 1 <| zld (((ad46 : Addr).add (((m : Int)).toNat * 6)).add 1) (.slice x.iA x.insts.length x.ic) (fblk_get (hM63.ro hB) rfl hx 1 _ rfl) <| zpn 2 <| zfe <| zcD (((j3 : Int) : Int) < ((x.insts.length : Nat) : Int)) (fun c66 => ?_) (fun c66 => ?_)
 refine zsk <| zsq <| zbk 7 <| zsr ?_
 obtain ⟨p, hp3⟩ := get_of (l := x.insts) (i := j3) (by omega)
 refine zpn 1 <| zld ⟨b1, 4, none⟩ (.slice (some ad46) ((bsOf fs).length) c) (blk_cell (hM63.get 0 rfl) rfl) <| zpn 1 <| zix ad46 ((bsOf fs).length) 6 (m : Int) <| zpn 1 <| zld (((ad46 : Addr).add (((m : Int)).toNat * 6)).add 1) (.slice x.iA x.insts.length x.ic) (fblk_get (hM63.ro hB) rfl hx 1 _ rfl) <| zkp [(1, (pT b1 0)), (4, (.slice (sM b4) n n)), (6, (nV m)), (8, (nV j3)), (80, (.slice x.iA x.insts.length x.ic))] <| zpn 1 ?_
 obtain ⟨ad67, had68⟩ := rds_some (hM63.ro (hA.insts hx)) (cs := p.cells) (i := j3) (by simp [hp3])
 intro aC fr
 refine From_ixA (some 82) x.iA ad67 x.insts.length 5 (j3 : Int) fr (by kernel_rfl) had68 (by omega) (by omega) ?_
 intro aC fr
 revert aC
 refine zls ((ad67 : Addr).add (((j3 : Int)).toNat * 5)) (iV p) (ins_get (hM63.ro (hA.insts hx)) had68 hp3) <| zal hM63 40 [(.int .i64 0), (.int .i64 0), (.int .i64 0), (.string ⟨#[]⟩), (.slice none 0 0)] fun b73 w74 hb73 hM75 => ?_
 replace hM75 := hM75.nf
 refine zss hM75 2 (iV p) rfl fun w76 hM77 => ?_
 replace hM77 := hM77.nf
 refine zfe <| zsr <| zpn 1 <| zld ⟨b73, 0, none⟩ (.int .i64 p.op) (blk_cell (hM77.get 2 rfl) rfl) <| zcl (rmakes_c p.op w76) ?_
 rintro _ w78 ⟨rfl, hM79x⟩
 have hM79 := hM77.cl hM79x
 refine zpn 1 ?_
 obtain ⟨B80, hB80⟩ : ∃ B : Bool, B = decide (makesQ p.op) := ⟨_, rfl⟩
 refine zkp [(1, (pT b1 0)), (4, (.slice (sM b4) n n)), (6, (nV m)), (8, (nV j3)), (9, (pT b73 0)), (87, (.bool (decide (makesQ p.op))))] ?_
 rw [← hB80]
 have iB80 : B80 = true ↔ (makesQ p.op) := by rw [hB80]; simp only [decide_eq_true_eq]
 clear hB80
 intro aC fr
 refine zpk 2 6 [88, 89] fr (news := [(88, (cond B80 (.slice (sM b4) n n) undef)), (89, (cond B80 (pT b73 1) undef))]) (by cases B80 <;> kernel_rfl) ?_
 intro aC fr
 refine From_either (B := B80) (d := (some 90)) (.int .i64 p.dst) fr (by cases B80 <;> kernel_rfl) (fun hB hh => ?_) ?_
 cases B80 <;> first | (exact absurd hB (by decide)) | skip
 have c80 : (makesQ p.op) := iB80.1 rfl
 exact From_ld (some 90) ⟨b73, 1, none⟩ fr (by kernel_rfl) (.int .i64 p.dst) (blk_cell (hM79.get 2 rfl) rfl) hh
 intro aC fr
 refine zpk 3 10 [93] fr (news := [(93, (cond B80 (.agg #[(nV m), (nV j3)]) undef))]) (by cases B80 <;> kernel_rfl) ?_
 intro aC fr
 cases B80
 have c80 : ¬ (makesQ p.op) := (fun h => Bool.noConfusion (iB80.2 h) : ¬ (makesQ p.op))
 have hmk : ¬ makesQ p.op := c80
 revert aC
 refine zpn 3 <| zfe <| zcF <| zsk <| zrg <| zpn 1 <| zar ((j3 : Int) + 1) <| zpn 1 <| zfe ?_
 intro aC fr
 exact ⟨x.insts.length - (j3 + 1), by omega, j3 + 1, l3, rfl, fr.kp [1, 4, 6, 8], (hM79.tk 2), by omega, by rw [insDefs_no hp3 hmk]; exact ht3, by rw [insDefs_no hp3 hmk]; exact ho3⟩
 have c80 : (makesQ p.op) := iB80.1 rfl
 have hmk : makesQ p.op := c80
 have hst := once_step (v := p.dst) (b := (m : Int)) (k := (j3 : Int)) ht3 hen (nonneg_ins fs m j3 x.phis x.insts) (Int.le_refl _) hpa rfl ho3
 revert aC
 refine zcl (rput_c b4 n l3 p.dst (m : Int) (j3 : Int) w78 ht3.len.symm (hM79.get 1 rfl)) ?_
 rintro _ w91 ⟨l4, e4, rfl, hM92x⟩
 have hM92 := hM79.md 1 rfl hM92x
 refine zpn 2 <| zfe <| zcP (!(decide (putQ 0 n l3 p.dst))) (¬ (putQ 0 n l3 p.dst)) (by simp only [notT, decide_eq_true_eq]) (fun c93 => ?_) (fun c93 => ?_)
 have hnq : ¬ OnceQ pa va (defsF fs) := fun h => (hst.2 c93) (by have := once_ins hx (j3 + 1) h; rwa [insDefs_yes hp3 hmk, ← List.append_assoc, hva] at this)
 refine zsp <| zre <| zbr <| zbr <| zbr <| zbr <| zo2 (.slice none 0 0) (.bool false) ?_
 have hM94 := hM92.od [1] 1
 exact ⟨false, _, _, _, _, _, rfl, ⟨fun h => Bool.noConfusion h, fun h => absurd h hnq⟩, fun h => Bool.noConfusion h, hM94⟩
 have hQp := Classical.not_not.1 c93
 refine zsk <| zrg <| zpn 1 <| zar ((j3 : Int) + 1) <| zpn 1 <| zfe ?_
 intro aC fr
 exact ⟨x.insts.length - (j3 + 1), by omega, j3 + 1, l4, rfl, fr.kp [1, 4, 6, 8], (hM92.tk 2), by omega, by rw [insDefs_yes hp3 hmk, ← List.append_assoc, e4, if_pos hQp]; exact (hst.1 hQp).1, by rw [insDefs_yes hp3 hmk, ← List.append_assoc]; exact (hst.1 hQp).2⟩
 refine zex 6 <| zbh <| zrg <| zpn 1 <| zar ((m : Int) + 1) <| zpn 1 <| zfe ?_
 have hj3e : j3 = x.insts.length := by omega
 rw [hj3e, List.take_length] at ht3 ho3
 intro aC fr
 exact ⟨fs.length - (m + 1), by omega, m + 1, l3, rfl, fr.kp [1, 4, 6], hM63, by omega, by rw [defsTo_succ hx, blkDefs, ← List.append_assoc]; exact ht3, by rw [defsTo_succ hx, blkDefs, ← List.append_assoc]; exact ho3⟩
 refine zex 2 <| zbh <| zsp <| zre <| zo2 (.slice (sM b4) n n) (.bool true) ?_
 have hM99 := hM36.od [1] 1
 obtain rfl : m = fs.length := by omega
 exact ⟨true, _, _, _, _, l, rfl, ⟨fun _ => by rw [hva]; exact hoq, fun _ => rfl⟩, fun _ => ⟨rfl, rfl, rfl, htb⟩, hM99⟩
end Go.Proofs.YtlfbloadopeamaaDoor
namespace Go.Proofs.YtlfbloadopeamaaDoor
open Go.Mor
set_option maxRecDepth 10000 in
theorem valid_c (nm : ByteArray) (wk : Bool) (pa va : Int) (A : Option Addr) (c : Nat) (fs : List FBlk) (w : World) (hN : fs.length ≤ 1000) (hok : FOk fs) (hA : RO noS w (.fn A fs)) :
    Calls Tryd.prog 21 #[(fA nm wk pa va A c fs)] w (Ret fun v w' => v = .int .i64 (validN nm pa va fs) ∧ Mem noS w w' []) := by
 have hbl := bsOf_len fs
 have hm : (bsOf fs).length ≤ 1000000 := by omega
 have hB := hA.bs
 refine zen 106 [(fA nm wk pa va A c fs)] Tryd.func21 ?_
 have hM := Mem.init w
 refine zsr <| zbx hM 24 (fA nm wk pa va A c fs) (fV nm wk pa va A c fs) fun b1 w2 hb1 hM3 => ?_
 replace hM3 := hM3.nf
 clear hM
 refine zpn 1 <| zfe <| zsq <| zsr <| zls ⟨b1, 0, none⟩ (fV nm wk pa va A c fs) (blk_cells (hM3.get 0 rfl)) <| zcl (vs := #[(fA nm wk pa va A c fs)]) (size_c _ _ _ _ A c fs w2 hN hok (hA.at_ hM3)) ?_
 rintro _ w4 ⟨rfl, hM5x⟩
 have hM5 := hM3.cl hM5x
 refine zpn 2 ?_
 obtain ⟨B6, hB6⟩ : ∃ B : Bool, B = decide ((((sizeF fs : Nat) : Int) : Int) > 20000) := ⟨_, rfl⟩
 refine zkp [(1, (pT b1 0)), (10, (.bool (decide ((((sizeF fs : Nat) : Int) : Int) > 20000))))] ?_
 rw [← hB6]
 have iB6 : B6 = true ↔ ((((sizeF fs : Nat) : Int) : Int) > 20000) := by rw [hB6]; simp only [decide_eq_true_eq]
 clear hB6
 intro aC fr
 refine zpk 1 5 [11] fr (news := [(11, (cond (!B6) (pT b1 3) undef))]) (by cases B6 <;> kernel_rfl) ?_
 intro aC fr
 refine From_either (B := (!B6)) (d := (some 12)) (.int .i64 va) fr (by cases B6 <;> kernel_rfl) (fun hB hh => ?_) ?_
 cases B6 <;> first | (exact absurd hB (by decide)) | skip
 have c6 : ¬ ((((sizeF fs : Nat) : Int) : Int) > 20000) := (fun h => Bool.noConfusion (iB6.2 h) : ¬ ((((sizeF fs : Nat) : Int) : Int) > 20000))
 exact From_ld (some 12) ⟨b1, 3, none⟩ fr (by kernel_rfl) (.int .i64 va) (blk_cell (hM5.get 0 rfl) rfl) hh
 intro aC fr
 refine zpk 2 8 [14] fr (news := [(14, (.bool (B6 || decide ((va : Int) > 20000))))]) (by cases B6 <;> kernel_rfl) ?_
 intro aC fr
 revert aC
 refine zfe <| zcP (B6 || decide ((va : Int) > 20000)) (((((sizeF fs : Nat) : Int) : Int) > 20000) ∨ ((va : Int) > 20000)) (by simp only [Bool.or_eq_true, decide_eq_true_eq, iB6]) (fun c15 => ?_) (fun c15 => ?_)
 have hbig : ((sizeF fs : Int) > 20000 ∨ va > 20000) := by omega
 refine zsp <| zre <| zo1 (.int .i64 12) ?_
 have hM16 := hM5.od [] 0
 exact ⟨congrArg _ (valid_12 hbig), hM16⟩
 have hbig : ¬ ((sizeF fs : Int) > 20000 ∨ va > 20000) := by omega
 refine zsk <| zsq <| zkp [(1, (pT b1 0))] ?_
 intro aC fr
 refine zdj (N := 106) (env0 := [(1, (pT b1 0))]) (specAt [.det (fA nm wk pa va A c fs), .det (fA nm wk pa va A c fs), Spec.free, Spec.free, Spec.free, Spec.free]) (fun ls vs w_ => match ls 5 with | true => (∃ (A17 : Option Addr) (c18 : Nat) (rows19 : List RowV) (b20 : Nat), vs 2 = (.slice A17 ((bsOf fs).length) c18) ∧ vs 3 = (.agg #[(.string nm), (.bool wk), (.int .i64 pa), (.int .i64 va), (.slice A ((bsOf fs).length) c), (.slice A17 ((bsOf fs).length) c18), (.pointer none), (.slice none 0 0)]) ∧ vs 4 = (pT b20 0) ∧ vs 5 = (pT b20 0) ∧ (FamOf (Value.int .i64) rows19 (allL (bsOf fs))) ∧ Mem noS w w_ [.blk b1 24 (fV nm wk pa va A c fs), .fam 3 rows19, .row 36 1 A17 ((bsOf fs).length) c18 (slv rows19), .blk b20 77 [(.string nm), (.bool wk), (.int .i64 pa), (.int .i64 va), (.slice A ((bsOf fs).length) c), (.slice A17 ((bsOf fs).length) c18), (.pointer none), (.slice none 0 0)]]) | false => (match ls 4 with | true => (∃ (A17 : Option Addr) (c18 : Nat) (rows19 : List RowV) (b20 : Nat), vs 2 = (.slice A17 ((bsOf fs).length) c18) ∧ vs 3 = (.agg #[(.string nm), (.bool wk), (.int .i64 pa), (.int .i64 va), (.slice A ((bsOf fs).length) c), (.slice A17 ((bsOf fs).length) c18), (.pointer none), (.slice none 0 0)]) ∧ vs 4 = (pT b20 0) ∧ (FamOf (Value.int .i64) rows19 (allL (bsOf fs))) ∧ Mem noS w w_ [.blk b1 24 (fV nm wk pa va A c fs), .fam 3 rows19, .row 36 1 A17 ((bsOf fs).length) c18 (slv rows19), .blk b20 77 [(.string nm), (.bool wk), (.int .i64 pa), (.int .i64 va), (.slice A ((bsOf fs).length) c), (.slice A17 ((bsOf fs).length) c18), (.pointer none), (.slice none 0 0)]]) | false => (match ls 3 with | true => (∃ (A17 : Option Addr) (c18 : Nat) (rows19 : List RowV), vs 2 = (.slice A17 ((bsOf fs).length) c18) ∧ vs 3 = (.agg #[(.string nm), (.bool wk), (.int .i64 pa), (.int .i64 va), (.slice A ((bsOf fs).length) c), (.slice A17 ((bsOf fs).length) c18), (.pointer none), (.slice none 0 0)]) ∧ (FamOf (Value.int .i64) rows19 (allL (bsOf fs))) ∧ Mem noS w w_ [.blk b1 24 (fV nm wk pa va A c fs), .fam 3 rows19, .row 36 1 A17 ((bsOf fs).length) c18 (slv rows19)]) | false => (match ls 2 with | true => (∃ (A17 : Option Addr) (c18 : Nat) (rows19 : List RowV), vs 2 = (.slice A17 ((bsOf fs).length) c18) ∧ (FamOf (Value.int .i64) rows19 (allL (bsOf fs))) ∧ Mem noS w w_ [.blk b1 24 (fV nm wk pa va A c fs), .fam 3 rows19, .row 36 1 A17 ((bsOf fs).length) c18 (slv rows19)]) | false => (Mem noS w w_ [.blk b1 24 (fV nm wk pa va A c fs)]))))) fr (plain_ok (.det (.det (.free (.free (.free (.free .nil))))))) (hM5.then_ (Mem.drew _)) (la (la (la (la (la (la lz ?_) ?_) ?_) ?_) ?_) ?_) ?_
 intro aa_ w_ ls vs rest_ hJ hi_ hc_ hp hF
 refine ⟨true, opok_guard (g0 := none) (by kernel_rfl) (by kernel_rfl), fun _ => ?_, fun h => Bool.noConfusion h⟩
 replace hF : Fr aa_ 106 [(1, (pT b1 0))] := hF.kp [1]
 have f3 : ls 3 = false := notyet hc_ hi_ (n := 6) (by kernel_rfl)
 have f4 : ls 4 = false := notyet hc_ hi_ (n := 6) (by kernel_rfl)
 have f5 : ls 5 = false := notyet hc_ hi_ (n := 6) (by kernel_rfl)
 have hM_ := hJ
 simp only [f3, f4, f5] at hM_
 cases fu : ls 2
 simp only [fu] at hM_
 refine From_loadS (by kernel_rfl : coreAt _ 0 = some (some 15, (.load 24 (.tmp 1)), 24, none)) hF (by kernel_rfl) (by kernel_rfl) (k' := 1) rfl (ad := ⟨b1, 0, none⟩) (vs := (fV nm wk pa va A c fs)) (by kernel_rfl) (by kernel_rfl) (blk_cells (hM_.get 0 rfl)) ?_
 intro a2 ea _
 refine From_end (by kernel_rfl) ?_; exact op_doneJ (d := some 15) (by kernel_rfl) ea rfl hJ
 simp only [fu] at hM_
 obtain ⟨_, _, _, _, _, hM_⟩ := hM_
 refine From_loadS (by kernel_rfl : coreAt _ 0 = some (some 15, (.load 24 (.tmp 1)), 24, none)) hF (by kernel_rfl) (by kernel_rfl) (k' := 1) rfl (ad := ⟨b1, 0, none⟩) (vs := (fV nm wk pa va A c fs)) (by kernel_rfl) (by kernel_rfl) (blk_cells (hM_.get 0 rfl)) ?_
 intro a2 ea _
 refine From_end (by kernel_rfl) ?_; exact op_doneJ (d := some 15) (by kernel_rfl) ea rfl hJ
 intro aa_ w_ ls vs rest_ hJ hi_ hc_ hp hF
 refine ⟨true, opok_guard (g0 := none) (by kernel_rfl) (by kernel_rfl), fun _ => ?_, fun h => Bool.noConfusion h⟩
 replace hF : Fr aa_ 106 [(1, (pT b1 0))] := hF.kp [1]
 have f2 : ls 2 = false := notyet hc_ hi_ (n := 6) (by kernel_rfl)
 have f3 : ls 3 = false := notyet hc_ hi_ (n := 6) (by kernel_rfl)
 have f4 : ls 4 = false := notyet hc_ hi_ (n := 6) (by kernel_rfl)
 have f5 : ls 5 = false := notyet hc_ hi_ (n := 6) (by kernel_rfl)
 have hM_ := hJ
 simp only [f2, f3, f4, f5] at hM_
 refine From_loadS (by kernel_rfl : coreAt _ 0 = some (some 16, (.load 24 (.tmp 1)), 24, none)) hF (by kernel_rfl) (by kernel_rfl) (k' := 1) rfl (ad := ⟨b1, 0, none⟩) (vs := (fV nm wk pa va A c fs)) (by kernel_rfl) (by kernel_rfl) (blk_cells (hM_.get 0 rfl)) ?_
 intro a2 ea _
 refine From_end (by kernel_rfl) ?_; exact op_doneJ (d := some 16) (by kernel_rfl) ea rfl hJ
 intro aa_ w_ ls vs rest_ hJ hi_ hc_ hp hF
 refine ⟨true, opok_guard (g0 := none) (by kernel_rfl) (by kernel_rfl), fun _ => ?_, fun h => Bool.noConfusion h⟩
 replace hF : Fr aa_ 106 [(16, (fA nm wk pa va A c fs))] := hF.kp [16]
 have f2 : ls 2 = false := hi_
 have f3 : ls 3 = false := notyet hc_ hi_ (n := 6) (by kernel_rfl)
 have f4 : ls 4 = false := notyet hc_ hi_ (n := 6) (by kernel_rfl)
 have f5 : ls 5 = false := notyet hc_ hi_ (n := 6) (by kernel_rfl)
 have hM_ := hJ
 simp only [f2, f3, f4, f5] at hM_
 refine From_call (by kernel_rfl : coreAt _ 0 = some (some 17, (.call { callee := (.value (.func 43)), args := #[(.tmp 16)], argTypes := #[24] }), 27, none)) hF (by kernel_rfl) (by kernel_rfl) (k' := 1) rfl (f := 43) (vs := [(fA nm wk pa va A c fs)]) (cap := []) (by kernel_rfl) (by kernel_rfl) (by kernel_rfl) (all_c _ _ _ _ A c (bsOf fs) w_ hm (hB.at_ hM_)) ?_
 rintro _ w2 ⟨A17p, c18p, rows19p, rfl, hfrows19, hm2⟩ a2 ea _
 have hm3 := hM_.call hm2
 refine From_end (by kernel_rfl) ?_; refine op_doneJ (d := some 17) (by kernel_rfl) ea trivial ?_
 show match ls 5 with | true => _ | false => (match ls 4 with | true => _ | false => (match ls 3 with | true => _ | false => (∃ (A17 : Option Addr) (c18 : Nat) (rows19 : List RowV), _)))
 rw [f5, f4, f3]
 exact ⟨A17p, c18p, rows19p, rfl, hfrows19, hm3⟩
 intro aa_ w_ ls vs rest_ hJ hi_ hc_ hp hF
 refine ⟨true, opok_guard (g0 := none) (by kernel_rfl) (by kernel_rfl), fun _ => ?_, fun h => Bool.noConfusion h⟩
 replace hF : Fr aa_ 106 [(15, (fA nm wk pa va A c fs)), (17, vs 2)] := hF.kp [15, 17]
 have f2 : ls 2 = true := donebefore hc_ (fun k hk => (hp k hk).1) (n := 6) (by kernel_rfl)
 have f3 : ls 3 = false := hi_
 have f4 : ls 4 = false := notyet hc_ hi_ (n := 6) (by kernel_rfl)
 have f5 : ls 5 = false := notyet hc_ hi_ (n := 6) (by kernel_rfl)
 have hM_ := hJ
 simp only [f2, f3, f4, f5] at hM_
 obtain ⟨A17p, c18p, rows19p, e2_, hfrows19, hM_⟩ := hM_
 try rw [e2_] at hF
 have hm2 := hM_
 refine From_pure1 (by kernel_rfl : coreAt _ 0 = some (some 18, (.build 77 #[(0, (.tmp 15)), (1, (.tmp 17))]), 77, none)) hF (by kernel_rfl) (by kernel_rfl) (k' := 1) rfl (v := (.agg #[(.string nm), (.bool wk), (.int .i64 pa), (.int .i64 va), (.slice A ((bsOf fs).length) c), (.slice A17p ((bsOf fs).length) c18p), (.pointer none), (.slice none 0 0)])) (by kernel_rfl) ?_
 intro a2 ea _
 refine From_end (by kernel_rfl) ?_; refine op_doneJ (d := some 18) (by kernel_rfl) ea trivial ?_
 show match ls 5 with | true => _ | false => (match ls 4 with | true => _ | false => (∃ (A17 : Option Addr) (c18 : Nat) (rows19 : List RowV), _))
 rw [f5, f4]
 exact ⟨A17p, c18p, rows19p, e2_, rfl, hfrows19, hm2⟩
 intro aa_ w_ ls vs rest_ hJ hi_ hc_ hp hF
 refine ⟨true, opok_guard (g0 := none) (by kernel_rfl) (by kernel_rfl), fun _ => ?_, fun h => Bool.noConfusion h⟩
 replace hF : Fr aa_ 106 [(18, vs 3)] := hF.kp [18]
 have f2 : ls 2 = true := donebefore hc_ (fun k hk => (hp k hk).1) (n := 6) (by kernel_rfl)
 have f3 : ls 3 = true := donebefore hc_ (fun k hk => (hp k hk).1) (n := 6) (by kernel_rfl)
 have f4 : ls 4 = false := hi_
 have f5 : ls 5 = false := notyet hc_ hi_ (n := 6) (by kernel_rfl)
 have hM_ := hJ
 simp only [f2, f3, f4, f5] at hM_
 obtain ⟨A17p, c18p, rows19p, e2_, e3_, hfrows19, hM_⟩ := hM_
 try rw [e2_] at hF
 try rw [e3_] at hF
 refine From_box (by kernel_rfl : coreAt _ 0 = some (some 19, (.box 77 (.tmp 18)), 73, none)) hF (by kernel_rfl) (by kernel_rfl) (k' := 1) rfl (v := (.agg #[(.string nm), (.bool wk), (.int .i64 pa), (.int .i64 va), (.slice A ((bsOf fs).length) c), (.slice A17p ((bsOf fs).length) c18p), (.pointer none), (.slice none 0 0)])) (cs := [(.string nm), (.bool wk), (.int .i64 pa), (.int .i64 va), (.slice A ((bsOf fs).length) c), (.slice A17p ((bsOf fs).length) c18p), (.pointer none), (.slice none 0 0)]) (by kernel_rfl) rfl hM_ ?_
 intro b20p w2 _ _ hm2 _ a2 ea _
 refine From_end (by kernel_rfl) ?_; refine op_doneJ (d := some 19) (by kernel_rfl) ea trivial ?_
 show match ls 5 with | true => _ | false => (∃ (A17 : Option Addr) (c18 : Nat) (rows19 : List RowV) (b20 : Nat), _)
 rw [f5]
 exact ⟨A17p, c18p, rows19p, b20p, e2_, e3_, rfl, hfrows19, hm2⟩
 intro aa_ w_ ls vs rest_ hJ hi_ hc_ hp hF
 refine ⟨true, opok_guard (g0 := none) (by kernel_rfl) (by kernel_rfl), fun _ => ?_, fun h => Bool.noConfusion h⟩
 replace hF : Fr aa_ 106 [(19, vs 4)] := hF.kp [19]
 have f2 : ls 2 = true := donebefore hc_ (fun k hk => (hp k hk).1) (n := 6) (by kernel_rfl)
 have f3 : ls 3 = true := donebefore hc_ (fun k hk => (hp k hk).1) (n := 6) (by kernel_rfl)
 have f4 : ls 4 = true := donebefore hc_ (fun k hk => (hp k hk).1) (n := 6) (by kernel_rfl)
 have f5 : ls 5 = false := hi_
 have hM_ := hJ
 simp only [f2, f3, f4, f5] at hM_
 obtain ⟨A17p, c18p, rows19p, b20p, e2_, e3_, e4_, hfrows19, hM_⟩ := hM_
 try rw [e2_] at hF
 try rw [e3_] at hF
 try rw [e4_] at hF
 have hm2 := hM_
 refine From_pure1 (by kernel_rfl : coreAt _ 0 = some (some 3, (.assign (.tmp 19)), 73, none)) hF (by kernel_rfl) (by kernel_rfl) (k' := 1) rfl (v := (pT b20p 0)) (by kernel_rfl) ?_
 intro a2 ea _
 refine From_end (by kernel_rfl) ?_; refine op_doneJ (d := some 3) (by kernel_rfl) ea trivial ?_
 show ∃ (A17 : Option Addr) (c18 : Nat) (rows19 : List RowV) (b20 : Nat), _
 exact ⟨A17p, c18p, rows19p, b20p, e2_, e3_, e4_, rfl, hfrows19, hm2⟩
 intro aC w25 ls vs hall hM26 hv fr
 simp only [show ls 5 = true from hall 5 (by decide)] at hM26
 revert aC; refine zkp [(1, (pT b1 0)), (3, vs 5)] ?_
 obtain ⟨A17, c18, rows19, b20, e2_, e3_, e4_, e5_, hfrows19, hM26⟩ := hM26
 try rw [e2_]
 try rw [e3_]
 try rw [e4_]
 try rw [e5_]
 clear e2_ e3_ e4_ e5_
 clear hall hv fr aC hM5; clear vs ls
 refine zsq <| zsq ?_
 obtain ⟨A0, c0, hr0⟩ : ∃ A0 c0, 0 < (bsOf fs).length → rows19[0]? = some ⟨A0, (srcs (bsOf fs) 0).length, c0, ints (srcs (bsOf fs) 0)⟩ := by
   by_cases h : 0 < (bsOf fs).length
   · obtain ⟨A0, c0, h2⟩ := hfrows19.get (allL_get (t := 0) h); exact ⟨A0, c0, fun _ => h2⟩
   · exact ⟨none, 0, fun h2 => absurd h2 h⟩
 have hsl0 := srcsTo_len (bsOf fs) 0 (bsOf fs).length
 have hol := orderL_len (bsOf fs)
 obtain ⟨Bnm, hBnm⟩ : ∃ B : Bool, B = decide (nameQ nm) := ⟨_, rfl⟩
 cases Bnm
 have cnm : (decide (nameQ nm)) = false := hBnm.symm
 refine zkp [(1, (pT b1 0)), (3, (pT b20 0))] ?_
 intro aC fr
 refine zdr (N := 106) (env0 := [(1, (pT b1 0)), (3, (pT b20 0))]) (specAt [.det (pT b1 0), .det (.string nm), .det (.bool false), .det (.bool true), .det (.bool true), dU, dU, dU, .det (.bool true), .det (.bool true), dU, dU, dU, .det (.bool true), .det (.bool true), dU, dU, dU, dU, dU, .det (.bool true), .det (.bool true), dU, dU, dU, dU, .det (.bool true), .det (.bool true), dU, dU, dU, dU, dU, dU, dU, dU, .det (.bool true), .det (.bool true), dU, dU, dU, dU, dU, dU, dU, .det (.bool true), .det (.bool true), dU, dU, dU, dU, dU, dU, dU, .det (.bool true)]) fr (la (la (la (la (la (la (la (la (la (la (la (la (la (la (la (la (la (la (la (la (la (la (la (la (la (la (la (la (la (la (la (la (la (la (la (la (la (la (la (la (la (la (la (la (la (la (la (la (la (la (la (la (la (la (la lz dP) (dL ⟨b1, 0, none⟩ (.string nm) fun w_ hK => (blk_cell ((hM26.then_ hK).get 0 rfl) rfl))) (dD (fun w_ hK => name_c nm w_) (congrArg Value.bool hBnm.symm))) dP) dP) dK) dK) dK) dP) dP) dK) dK) dK) dP) dP) dK) dK) dK) dK) dK) dP) dP) dK) dK) dK) dK) dP) dP) dK) dK) dK) dK) dK) dK) dK) dK) dP) dP) dK) dK) dK) dK) dK) dK) dK) dP) dP) dK) dK) dK) dK) dK) dK) dK) dP) ?_
 intro aC w31 vs hK hv fr
 revert aC; refine zkp [(1, (pT b1 0)), (3, (pT b20 0)), (74, (.bool true))] ?_
 have hM32 := hM26.then_ hK
 clear hK hv fr aC hM26; clear vs
 refine zcT <| zsp <| zre <| zo1 (.int .i64 4) ?_
 have hM33 := hM32.od [] 0
 exact ⟨congrArg _ (valid_4 hbig (fun h => absurd h.name (of_decide_eq_false cnm))), hM33⟩
 have cnm : (decide (nameQ nm)) = true := hBnm.symm
 obtain ⟨Bp0, hBp0⟩ : ∃ B : Bool, B = decide (pa < 0) := ⟨_, rfl⟩
 cases Bp0
 have cp0 : ¬ (pa < 0) := of_decide_eq_false hBp0.symm
 obtain ⟨Bp16, hBp16⟩ : ∃ B : Bool, B = decide (pa > 16) := ⟨_, rfl⟩
 cases Bp16
 have cp16 : ¬ (pa > 16) := of_decide_eq_false hBp16.symm
 obtain ⟨Bpv, hBpv⟩ : ∃ B : Bool, B = decide (pa > va) := ⟨_, rfl⟩
 cases Bpv
 have cpv : ¬ (pa > va) := of_decide_eq_false hBpv.symm
 obtain ⟨Bl0, hBl0⟩ : ∃ B : Bool, B = ((((bsOf fs).length : Nat) : Int) == 0) := ⟨_, rfl⟩
 cases Bl0
 have cl0 : ¬ ((((bsOf fs).length : Nat) : Int) = 0) := zne hBl0
 obtain ⟨g34, rfl⟩ := row_some (hM26.get 2 rfl) (by omega)
 obtain ⟨Bsr, hBsr⟩ : ∃ B : Bool, B = decide ((((srcs (bsOf fs) 0).length : Nat) : Int) > 0) := ⟨_, rfl⟩
 cases Bsr
 have csr : ¬ ((((srcs (bsOf fs) 0).length : Nat) : Int) > 0) := of_decide_eq_false hBsr.symm
 obtain ⟨x0, hx0⟩ := get_of (l := fs) (i := 0) (by omega)
 have hl0 : x0.phis.length ≤ 281474976710656 := (hok.get hx0).lp
 obtain ⟨ad35, rfl⟩ := blocks_some (hM26.ro hB) (bsOf_get hx0)
 obtain ⟨Bph, hBph⟩ : ∃ B : Bool, B = decide (((x0.phis.length : Nat) : Int) > 0) := ⟨_, rfl⟩
 cases Bph
 have cph : ¬ (((x0.phis.length : Nat) : Int) > 0) := of_decide_eq_false hBph.symm
 obtain ⟨Bor, hBor⟩ : ∃ B : Bool, B = ((((orderL (bsOf fs)).length : Nat) : Int) != (((bsOf fs).length : Nat) : Int)) := ⟨_, rfl⟩
 refine zkp [(1, (pT b1 0)), (3, (pT b20 0))] ?_
 intro aC fr
 refine zdr (N := 106) (env0 := [(1, (pT b1 0)), (3, (pT b20 0))]) (specAt [.det (pT b1 0), .det (.string nm), .det (.bool true), .det (.bool false), .det (.bool false), .det (pT b1 2), .det (.int .i64 pa), .det (.bool false), .det (.bool false), .det (.bool false), .det (pT b1 2), .det (.int .i64 pa), .det (.bool false), .det (.bool false), .det (.bool false), .det (pT b1 2), .det (.int .i64 pa), .det (pT b1 3), .det (.int .i64 va), .det (.bool false), .det (.bool false), .det (.bool false), .det (pT b1 4), .det (.slice (some ad35) ((bsOf fs).length) c), .det (.int .i64 (((bsOf fs).length : Nat) : Int)), .det (.bool false), .det (.bool false), .det (.bool false), .det (pT b20 0), .det (pT b20 0), .det (pT b20 5), .det (.slice (sM g34) ((bsOf fs).length) c18), .det (.pointer (some ((⟨g34, 0, none⟩ : Addr).add ((0 : Int).toNat * 1)))), .det (.slice A0 ((srcs (bsOf fs) 0).length) c0), .det (.int .i64 (((srcs (bsOf fs) 0).length : Nat) : Int)), .det (.bool false), .det (.bool false), .det (.bool false), .det (pT b1 4), .det (.slice (some ad35) ((bsOf fs).length) c), .det (.pointer (some ((ad35 : Addr).add ((0 : Int).toNat * 6)))), .det (.pointer (some ((ad35 : Addr).add ((0 : Int).toNat * 6)))), .det (.slice x0.pA x0.phis.length x0.pc), .det (.int .i64 ((x0.phis.length : Nat) : Int)), .det (.bool false), .det (.bool false), .det (.bool false), .det (fA nm wk pa va (some ad35) c fs), .sl (orderL (bsOf fs)).length (ints (orderL (bsOf fs))), .det (.int .i64 (((orderL (bsOf fs)).length : Nat) : Int)), .det (pT b1 4), .det (.slice (some ad35) ((bsOf fs).length) c), .det (.int .i64 (((bsOf fs).length : Nat) : Int)), .det (.bool Bor), .det (.bool Bor)]) fr (la (la (la (la (la (la (la (la (la (la (la (la (la (la (la (la (la (la (la (la (la (la (la (la (la (la (la (la (la (la (la (la (la (la (la (la (la (la (la (la (la (la (la (la (la (la (la (la (la (la (la (la (la (la (la lz dP) (dL ⟨b1, 0, none⟩ (.string nm) fun w_ hK => (blk_cell ((hM26.then_ hK).get 0 rfl) rfl))) (dD (fun w_ hK => name_c nm w_) (congrArg Value.bool hBnm.symm))) dP) dP) dP) (dL ⟨b1, 2, none⟩ (.int .i64 pa) fun w_ hK => (blk_cell ((hM26.then_ hK).get 0 rfl) rfl))) (dC (decide (pa < 0)) hBp0)) dP) dP) dP) (dL ⟨b1, 2, none⟩ (.int .i64 pa) fun w_ hK => (blk_cell ((hM26.then_ hK).get 0 rfl) rfl))) (dC (decide (pa > 16)) hBp16)) dP) dP) dP) (dL ⟨b1, 2, none⟩ (.int .i64 pa) fun w_ hK => (blk_cell ((hM26.then_ hK).get 0 rfl) rfl))) dP) (dL ⟨b1, 3, none⟩ (.int .i64 va) fun w_ hK => (blk_cell ((hM26.then_ hK).get 0 rfl) rfl))) (dC (decide (pa > va)) hBpv)) dP) dP) dP) (dL ⟨b1, 4, none⟩ (.slice (some ad35) ((bsOf fs).length) c) fun w_ hK => (blk_cell ((hM26.then_ hK).get 0 rfl) rfl))) dP) (dC ((((bsOf fs).length : Nat) : Int) == 0) hBl0)) dP) dP) dP) dP) dP) (dL ⟨b20, 5, none⟩ (.slice (sM g34) ((bsOf fs).length) c18) fun w_ hK => (blk_cell ((hM26.then_ hK).get 3 rfl) rfl))) (dI ⟨g34, 0, none⟩ ((bsOf fs).length) 1 0)) (dL ((⟨g34, 0, none⟩ : Addr).add ((0 : Int).toNat * 1)) (.slice A0 ((srcs (bsOf fs) 0).length) c0) fun w_ hK => (rd_get1 (row_rd ((hM26.then_ hK).get 2 rfl)) rfl (slv_get (hr0 (by omega)))))) dP) (dC (decide ((((srcs (bsOf fs) 0).length : Nat) : Int) > 0)) hBsr)) dP) dP) dP) (dL ⟨b1, 4, none⟩ (.slice (some ad35) ((bsOf fs).length) c) fun w_ hK => (blk_cell ((hM26.then_ hK).get 0 rfl) rfl))) (dI ad35 ((bsOf fs).length) 6 0)) dP) (dL ((ad35 : Addr).add ((0 : Int).toNat * 6)) (.slice x0.pA x0.phis.length x0.pc) fun w_ hK => (fblk_get ((hM26.then_ hK).ro hB) rfl hx0 0 _ rfl))) dP) (dC (decide (((x0.phis.length : Nat) : Int) > 0)) hBph)) dP) dP) (dS ⟨b1, 0, none⟩ (fV nm wk pa va (some ad35) c fs) fun w_ hK => (blk_cells ((hM26.then_ hK).get 0 rfl)))) ?_) ?_) dP) (dL ⟨b1, 4, none⟩ (.slice (some ad35) ((bsOf fs).length) c) fun w_ hK => (blk_cell ((hM26.then_ hK).get 0 rfl) rfl))) dP) (dC ((((orderL (bsOf fs)).length : Nat) : Int) != (((bsOf fs).length : Nat) : Int)) hBor)) dP) ?_
 intro aa_ w_ vs rest_ hK hp hF
 refine ⟨true, opok_guard (g0 := some (46, false)) (by kernel_rfl) (by kernel_rfl), fun _ => ?_, fun h => Bool.noConfusion h⟩
 replace hF : Fr aa_ 106 [(66, (.bool false)), (67, (fA nm wk pa va (some ad35) c fs))] := hF.kp [66, 67]
 refine From_call (by kernel_rfl : coreAt _ 0 = some (some 68, (.call { callee := (.value (.func 45)), args := #[(.tmp 67)], argTypes := #[24] }), 36, none)) hF (by kernel_rfl) (by kernel_rfl) (k' := 1) rfl (f := 45) (vs := [(fA nm wk pa va (some ad35) c fs)]) (cap := []) (by kernel_rfl) (by kernel_rfl) (by kernel_rfl) (order_c _ _ _ _ (some ad35) c (bsOf fs) w_ hm (hB.at_ (hM26.then_ hK))) ?_
 rintro _ w2 ⟨A36, c37, rfl, hm_⟩ a2 ea _
 refine From_end (by kernel_rfl) ?_; exact op_done (d := some 68) (by kernel_rfl) ea hm_.kp ⟨_, _, rfl, row_rd (hm_.get 0 rfl)⟩
 intro aa_ w_ vs rest_ hK hp hF
 refine ⟨true, opok_guard (g0 := some (46, false)) (by kernel_rfl) (by kernel_rfl), fun _ => ?_, fun h => Bool.noConfusion h⟩
 replace hF : Fr aa_ 106 [(66, (.bool false)), (68, vs 48)] := hF.kp [66, 68]
 obtain ⟨A36, c37, e48, r48⟩ := hp 48 (mem_preds (by kernel_rfl))
 rw [e48] at hF
 refine From_pure1 (by kernel_rfl : coreAt _ 0 = some (some 69, (.call { callee := (.builtin .len), args := #[(.tmp 68)], argTypes := #[36] }), 3, none)) hF (by kernel_rfl) (by kernel_rfl) (k' := 1) rfl (v := (.int .i64 (((orderL (bsOf fs)).length : Nat) : Int))) (by kernel_rfl) ?_
 intro a2 ea _
 refine From_end (by kernel_rfl) ?_; exact op_done (d := some 69) (by kernel_rfl) ea (Kp.refl _) rfl
 intro aC w42 vs hK hv fr
 revert aC; refine zkp [(1, (pT b1 0)), (3, (pT b20 0)), (74, (.bool Bor))] ?_
 have hM43 := hM26.then_ hK
 clear hK hv fr aC hM26; clear vs
 have iBor : Bor = true ↔ (((((orderL (bsOf fs)).length : Nat) : Int) : Int) ≠ (((bsOf fs).length : Nat) : Int)) := by rw [hBor]; simp only [bne_iff_ne]
 clear hBor
 refine zcP Bor (((((orderL (bsOf fs)).length : Nat) : Int) : Int) ≠ (((bsOf fs).length : Nat) : Int)) iBor (fun c44 => ?_) (fun c44 => ?_)
 refine zsp <| zre <| zo1 (.int .i64 4) ?_
 have hM45 := hM43.od [] 0
 exact ⟨congrArg _ (valid_4 hbig (fun h => by have := h.all; omega)), hM45⟩
 refine zsk <| zsq <| zsr ?_
 have hnmQ : nameQ nm := of_decide_eq_true cnm
 have hpos : 0 < fs.length := by omega
 have hparQ : 0 ≤ pa ∧ pa ≤ 16 ∧ pa ≤ va := by omega
 have hsrc0 : (srcs (bsOf fs) 0).length = 0 := by omega
 have hph0 : x0.phis.length = 0 := by omega
 have hord : (orderL (bsOf fs)).length = fs.length := by omega
 obtain ⟨n, hva⟩ : ∃ n : Nat, va = (n : Int) := ⟨va.toNat, by omega⟩
 have hM46 := hM43.od [3, 3, 3, 3] 4
 refine zpn 1 <| zld ⟨b1, 4, none⟩ (.slice (some ad35) ((bsOf fs).length) c) (blk_cell (hM46.get 0 rfl) rfl) <| zpn 2 <| zfe <| zbk 0 ?_
 intro aC fr
 refine zlp (fun n_ a_ w_ => ∃ (m : Nat), n_ = fs.length - m ∧ Fr a_ 106 [(1, (pT b1 0)), (3, (pT b20 0)), (76, (.slice (some ad35) ((bsOf fs).length) c)), (77, (.int .i64 (((bsOf fs).length : Nat) : Int))), (78, (nV m))] ∧ Mem noS w w_ [.blk b1 24 (fV nm wk pa va (some ad35) c fs), .fam 3 rows19, .row 36 1 (sM g34) ((bsOf fs).length) c18 (slv rows19), .blk b20 77 [(.string nm), (.bool wk), (.int .i64 pa), (.int .i64 va), (.slice (some ad35) ((bsOf fs).length) c), (.slice (sM g34) ((bsOf fs).length) c18), (.pointer none), (.slice none 0 0)]] ∧ (m ≤ fs.length) ∧ (∀ (i : Nat) (x : FBlk), i < m → fs[i]? = some x → endsS ((bsOf fs).length : Int) x)) (n := _) ⟨0, rfl, fr.kp [1, 3, 76, 77, 78], hM46, by omega, fun _ _ h => absurd h (Nat.not_lt_zero _)⟩ ?_
 clear fr aC hM46; rintro n aC w49 ⟨m, rfl, fr, hM50, hm1, hen⟩
 revert aC
 refine zsp <| zsq <| zcD (((m : Int) : Int) < (((bsOf fs).length : Nat) : Int)) (fun c53 => ?_) (fun c53 => ?_)
 refine zsk <| zsq <| zbk 1 <| zsr ?_
 obtain ⟨x, hx⟩ := get_of (l := fs) (i := m) (by omega)
 have hl1 : x.phis.length ≤ 281474976710656 := (hok.get hx).lp
 have hl2 : x.insts.length ≤ 281474976710656 := (hok.get hx).li
 refine zix ad35 ((bsOf fs).length) 6 (m : Int) <| zls ((ad35 : Addr).add (((m : Int)).toNat * 6)) (xV x) (fblk_get (hM50.ro hB) rfl hx) <| zal hM50 44 [(.slice none 0 0), (.slice none 0 0), (.int .i64 0), (.int .i64 0), (.int .i64 0), (.int .i64 0)] fun b54 w55 hb54 hM56 => ?_
 replace hM56 := hM56.nf
 refine zss hM56 4 (xV x) rfl fun w57 hM58 => ?_
 replace hM58 := hM58.nf
 refine zfe <| zsr <| zpn 1 <| zls ⟨b54, 0, none⟩ (xV x) (blk_cells (hM58.get 4 rfl)) <| zcl (vs := #[(pT b20 0), (xA x)]) (ends_c b20 (bsOf fs).length _ _ _ _ _ _ _ _ _ x w57 (hM58.own_ro 3 rfl)) ?_
 rintro _ w59 ⟨rfl, hM60x⟩
 have hM60 := hM58.cl hM60x
 refine zpn 1 <| zfe <| zcP (!(decide (endsS ((bsOf fs).length : Int) x))) (¬ (endsS ((bsOf fs).length : Int) x)) (by simp only [notT, decide_eq_true_eq]) (fun c61 => ?_) (fun c61 => ?_)
 refine zsp <| zre <| zbr <| zbr <| zo1 (.int .i64 4) ?_
 have hM62 := hM60.od [] 0
 exact ⟨congrArg _ (valid_4 hbig (fun h => c61 (by rw [hbl]; exact ends_sr h x (List.mem_of_getElem? hx)))), hM62⟩
 have heq := Classical.not_not.1 c61
 refine zsk <| zrg <| zar ((m : Int) + 1) <| zpn 1 <| zfe ?_
 intro aC fr
 exact ⟨fs.length - (m + 1), by omega, m + 1, rfl, fr.kp [1, 3, 76, 77, 78], (hM60.tk 4), by omega, ends_next hen hx heq⟩
 refine zex 0 <| zbh <| zsq <| zsr <| zpn 1 <| zcl (values_c b20 n (.string nm) (.bool wk) pa va (.slice (sM g34) ((bsOf fs).length) c18) (.pointer none) (.slice none 0 0) (some ad35) c fs w49 hN hok hva (by omega) (by omega) (hA.but hM50 3 rfl) (hM50.get 3 rfl)) ?_
 rintro _ w65 ⟨Bv, gm, l, rfl, hBv, htab, hM66x⟩
 have hM66 := hM50.md 3 rfl hM66x
 refine zpn 1 <| zfe <| zcP (!Bv) (¬ (Bv = true)) (by simp only [notT]) (fun c67 => ?_) (fun c67 => ?_)
 replace c67 : Bv = false := Bool.eq_false_iff.2 c67
 refine zsp <| zre <| zo1 (.int .i64 4) ?_
 have hM68 := hM66.od [] 0
 exact ⟨congrArg _ (valid_4 hbig (fun h => Bool.false_ne_true (c67.symm.trans (hBv.2 h.vals)))), hM68⟩
 replace c67 : Bv = true := Classical.not_not.1 c67
 have hvq := hBv.1 c67
 refine zsk <| zsr <| zpn 1 <| zls ⟨b1, 0, none⟩ (fV nm wk pa va (some ad35) c fs) (blk_cells (hM66.get 0 rfl)) <| zcl (vs := #[(fA nm wk pa va (some ad35) c fs)]) (newtree_c _ _ _ _ (some ad35) c (bsOf fs) w65 hm (hB.at_ hM66) (by omega)) ?_
 rintro _ w69 ⟨up, qt, gi, go, nT, insL, outL, f, g, rfl, hfu, hfin, hin, hout, hM70x⟩
 have hM70 := hM66.cl hM70x
 refine zpn 2 <| zsb (ho := (by simp)) hM70 3 6 (pT qt 0) rfl fun w71 hM72 => ?_
 replace hM72 := hM72.nf
 refine zfe <| zsq <| zsr ?_
 have hag := agree_ssa hpos hord hfu hfin (by omega)
 refine zpn 1 <| zld ⟨b1, 4, none⟩ (.slice (some ad35) ((bsOf fs).length) c) (blk_cell (hM72.get 0 rfl) rfl) <| zpn 2 <| zfe <| zbk 2 ?_
 intro aC fr
 refine zlp (fun n_ a_ w_ => ∃ (k : Nat), n_ = fs.length - k ∧ Fr a_ 106 [(3, (pT b20 0)), (97, (.int .i64 (((bsOf fs).length : Nat) : Int))), (98, (nV k))] ∧ Mem noS w w_ [.blk b1 24 (fV nm wk pa va (some ad35) c fs), .fam 3 rows19, .row 36 1 (sM g34) ((bsOf fs).length) c18 (slv rows19), .blk b20 77 [(.string nm), (.bool wk), (.int .i64 pa), (.int .i64 va), (.slice (some ad35) ((bsOf fs).length) c), (.slice (sM g34) ((bsOf fs).length) c18), (pT qt 0), (.slice (sM gm) n n)], .row 103 2 (sM gm) n n (mdc l), .blk qt 108 [(.slice (sM gi) ((bsOf fs).length) ((bsOf fs).length)), (.slice (sM go) ((bsOf fs).length) ((bsOf fs).length))], .row 3 1 (sM gi) ((bsOf fs).length) ((bsOf fs).length) (ints insL), .row 3 1 (sM go) ((bsOf fs).length) ((bsOf fs).length) (ints outL)] ∧ (k ≤ fs.length) ∧ (∀ j, j < k → readsQ (standQ f g) (endS fs) finS pa va fs j)) (n := _) ⟨0, rfl, fr.kp [3, 97, 98], hM72, by omega, fun _ h => absurd h (Nat.not_lt_zero _)⟩ ?_
 clear fr aC hM72; rintro n aC w75 ⟨k, rfl, fr, hM76, hk, hrd⟩
 revert aC
 refine zsp <| zsq <| zcD (((k : Int) : Int) < (((bsOf fs).length : Nat) : Int)) (fun c79 => ?_) (fun c79 => ?_)
 refine zsk <| zsq <| zbk 3 <| zsp <| zsr <| zpn 2 <| zcl (reads_c b20 gm qt gi go g34 n k c18 (.string nm) (.bool wk) pa va ad35 c fs l insL outL f g rows19 w75 hN (by omega) hok (hA.at_ hM76) (hM76.own_ro 3 rfl) (hM76.own_ro 4 rfl) (hM76.own_ro 5 rfl) (hM76.own_ro 6 rfl) (hM76.own_ro 7 rfl) hin hout (hM76.own_ro 1 rfl) (hM76.own_ro 2 rfl) hfrows19 hva (htab hvq)) ?_
 rintro _ w80 ⟨rfl, hM81x⟩
 have hM81 := hM76.cl hM81x
 refine zpn 1 <| zfe <| zcP (!(decide (readsQ (standQ f g) (endS fs) finS pa va fs k))) (¬ (readsQ (standQ f g) (endS fs) finS pa va fs k)) (by simp only [notT, decide_eq_true_eq]) (fun c82 => ?_) (fun c82 => ?_)
 refine zsp <| zre <| zbr <| zbr <| zo1 (.int .i64 4) ?_
 have hM83 := hM81.od [] 0
 exact ⟨congrArg _ (valid_4 hbig (fun h => c82 (hag.symm.readsQ (fun x hx hR => (fin_sr (hen _ x (by have := (List.getElem?_eq_some_iff.1 hx).1; omega) hx)).2 hR) (h.reads k (by omega))))), hM83⟩
 have hrq := Classical.not_not.1 c82
 refine zsk <| zrg <| zar ((k : Int) + 1) <| zpn 1 <| zfe ?_
 intro aC fr
 exact ⟨fs.length - (k + 1), by omega, k + 1, rfl, fr.kp [3, 97, 98], hM81, by omega, lt_succ_cases hrd hrq⟩
 refine zex 2 <| zbh <| zsp <| zre <| zo1 (.int .i64 0) ?_
 have hM86 := hM76.od [] 0
 exact ⟨congrArg _ (valid_0 hbig ⟨hnmQ, hparQ, hpos, fun x hx => by rw [hx0] at hx; injection hx with hx; subst hx; exact hph0, hsrc0, hord, fun x hx => by obtain ⟨i, hi⟩ := List.mem_iff_getElem?.1 hx; have := (hen i x (by have := (List.getElem?_eq_some_iff.1 hi).1; omega) hi).1; rwa [hbl] at this, hvq, fun j hj => hag.readsQ (fun x hx hR => (fin_sr (hen _ x (by have := (List.getElem?_eq_some_iff.1 hx).1; omega) hx)).1 hR) (hrd j (by omega))⟩), hM86⟩
 have cph : ((x0.phis.length : Nat) : Int) > 0 := of_decide_eq_true hBph.symm
 refine zkp [(1, (pT b1 0)), (3, (pT b20 0))] ?_
 intro aC fr
 refine zdr (N := 106) (env0 := [(1, (pT b1 0)), (3, (pT b20 0))]) (specAt [.det (pT b1 0), .det (.string nm), .det (.bool true), .det (.bool false), .det (.bool false), .det (pT b1 2), .det (.int .i64 pa), .det (.bool false), .det (.bool false), .det (.bool false), .det (pT b1 2), .det (.int .i64 pa), .det (.bool false), .det (.bool false), .det (.bool false), .det (pT b1 2), .det (.int .i64 pa), .det (pT b1 3), .det (.int .i64 va), .det (.bool false), .det (.bool false), .det (.bool false), .det (pT b1 4), .det (.slice (some ad35) ((bsOf fs).length) c), .det (.int .i64 (((bsOf fs).length : Nat) : Int)), .det (.bool false), .det (.bool false), .det (.bool false), .det (pT b20 0), .det (pT b20 0), .det (pT b20 5), .det (.slice (sM g34) ((bsOf fs).length) c18), .det (.pointer (some ((⟨g34, 0, none⟩ : Addr).add ((0 : Int).toNat * 1)))), .det (.slice A0 ((srcs (bsOf fs) 0).length) c0), .det (.int .i64 (((srcs (bsOf fs) 0).length : Nat) : Int)), .det (.bool false), .det (.bool false), .det (.bool false), .det (pT b1 4), .det (.slice (some ad35) ((bsOf fs).length) c), .det (.pointer (some ((ad35 : Addr).add ((0 : Int).toNat * 6)))), .det (.pointer (some ((ad35 : Addr).add ((0 : Int).toNat * 6)))), .det (.slice x0.pA x0.phis.length x0.pc), .det (.int .i64 ((x0.phis.length : Nat) : Int)), .det (.bool true), .det (.bool true), .det (.bool true), dU, dU, dU, dU, dU, dU, dU, .det (.bool true)]) fr (la (la (la (la (la (la (la (la (la (la (la (la (la (la (la (la (la (la (la (la (la (la (la (la (la (la (la (la (la (la (la (la (la (la (la (la (la (la (la (la (la (la (la (la (la (la (la (la (la (la (la (la (la (la (la lz dP) (dL ⟨b1, 0, none⟩ (.string nm) fun w_ hK => (blk_cell ((hM26.then_ hK).get 0 rfl) rfl))) (dD (fun w_ hK => name_c nm w_) (congrArg Value.bool hBnm.symm))) dP) dP) dP) (dL ⟨b1, 2, none⟩ (.int .i64 pa) fun w_ hK => (blk_cell ((hM26.then_ hK).get 0 rfl) rfl))) (dC (decide (pa < 0)) hBp0)) dP) dP) dP) (dL ⟨b1, 2, none⟩ (.int .i64 pa) fun w_ hK => (blk_cell ((hM26.then_ hK).get 0 rfl) rfl))) (dC (decide (pa > 16)) hBp16)) dP) dP) dP) (dL ⟨b1, 2, none⟩ (.int .i64 pa) fun w_ hK => (blk_cell ((hM26.then_ hK).get 0 rfl) rfl))) dP) (dL ⟨b1, 3, none⟩ (.int .i64 va) fun w_ hK => (blk_cell ((hM26.then_ hK).get 0 rfl) rfl))) (dC (decide (pa > va)) hBpv)) dP) dP) dP) (dL ⟨b1, 4, none⟩ (.slice (some ad35) ((bsOf fs).length) c) fun w_ hK => (blk_cell ((hM26.then_ hK).get 0 rfl) rfl))) dP) (dC ((((bsOf fs).length : Nat) : Int) == 0) hBl0)) dP) dP) dP) dP) dP) (dL ⟨b20, 5, none⟩ (.slice (sM g34) ((bsOf fs).length) c18) fun w_ hK => (blk_cell ((hM26.then_ hK).get 3 rfl) rfl))) (dI ⟨g34, 0, none⟩ ((bsOf fs).length) 1 0)) (dL ((⟨g34, 0, none⟩ : Addr).add ((0 : Int).toNat * 1)) (.slice A0 ((srcs (bsOf fs) 0).length) c0) fun w_ hK => (rd_get1 (row_rd ((hM26.then_ hK).get 2 rfl)) rfl (slv_get (hr0 (by omega)))))) dP) (dC (decide ((((srcs (bsOf fs) 0).length : Nat) : Int) > 0)) hBsr)) dP) dP) dP) (dL ⟨b1, 4, none⟩ (.slice (some ad35) ((bsOf fs).length) c) fun w_ hK => (blk_cell ((hM26.then_ hK).get 0 rfl) rfl))) (dI ad35 ((bsOf fs).length) 6 0)) dP) (dL ((ad35 : Addr).add ((0 : Int).toNat * 6)) (.slice x0.pA x0.phis.length x0.pc) fun w_ hK => (fblk_get ((hM26.then_ hK).ro hB) rfl hx0 0 _ rfl))) dP) (dC (decide (((x0.phis.length : Nat) : Int) > 0)) hBph)) dP) dP) dK) dK) dK) dK) dK) dK) dK) dP) ?_
 intro aC w91 vs hK hv fr
 revert aC; refine zkp [(1, (pT b1 0)), (3, (pT b20 0)), (74, (.bool true))] ?_
 have hM92 := hM26.then_ hK
 clear hK hv fr aC hM26; clear vs
 refine zcT <| zsp <| zre <| zo1 (.int .i64 4) ?_
 have hM93 := hM92.od [] 0
 exact ⟨congrArg _ (valid_4 hbig (fun h => by have := h.phis x0 hx0; omega)), hM93⟩
 have csr : (((srcs (bsOf fs) 0).length : Nat) : Int) > 0 := of_decide_eq_true hBsr.symm
 refine zkp [(1, (pT b1 0)), (3, (pT b20 0))] ?_
 intro aC fr
 refine zdr (N := 106) (env0 := [(1, (pT b1 0)), (3, (pT b20 0))]) (specAt [.det (pT b1 0), .det (.string nm), .det (.bool true), .det (.bool false), .det (.bool false), .det (pT b1 2), .det (.int .i64 pa), .det (.bool false), .det (.bool false), .det (.bool false), .det (pT b1 2), .det (.int .i64 pa), .det (.bool false), .det (.bool false), .det (.bool false), .det (pT b1 2), .det (.int .i64 pa), .det (pT b1 3), .det (.int .i64 va), .det (.bool false), .det (.bool false), .det (.bool false), .det (pT b1 4), .det (.slice A ((bsOf fs).length) c), .det (.int .i64 (((bsOf fs).length : Nat) : Int)), .det (.bool false), .det (.bool false), .det (.bool false), .det (pT b20 0), .det (pT b20 0), .det (pT b20 5), .det (.slice (sM g34) ((bsOf fs).length) c18), .det (.pointer (some ((⟨g34, 0, none⟩ : Addr).add ((0 : Int).toNat * 1)))), .det (.slice A0 ((srcs (bsOf fs) 0).length) c0), .det (.int .i64 (((srcs (bsOf fs) 0).length : Nat) : Int)), .det (.bool true), .det (.bool true), .det (.bool true), dU, dU, dU, dU, dU, dU, dU, .det (.bool true), .det (.bool true), dU, dU, dU, dU, dU, dU, dU, .det (.bool true)]) fr (la (la (la (la (la (la (la (la (la (la (la (la (la (la (la (la (la (la (la (la (la (la (la (la (la (la (la (la (la (la (la (la (la (la (la (la (la (la (la (la (la (la (la (la (la (la (la (la (la (la (la (la (la (la (la lz dP) (dL ⟨b1, 0, none⟩ (.string nm) fun w_ hK => (blk_cell ((hM26.then_ hK).get 0 rfl) rfl))) (dD (fun w_ hK => name_c nm w_) (congrArg Value.bool hBnm.symm))) dP) dP) dP) (dL ⟨b1, 2, none⟩ (.int .i64 pa) fun w_ hK => (blk_cell ((hM26.then_ hK).get 0 rfl) rfl))) (dC (decide (pa < 0)) hBp0)) dP) dP) dP) (dL ⟨b1, 2, none⟩ (.int .i64 pa) fun w_ hK => (blk_cell ((hM26.then_ hK).get 0 rfl) rfl))) (dC (decide (pa > 16)) hBp16)) dP) dP) dP) (dL ⟨b1, 2, none⟩ (.int .i64 pa) fun w_ hK => (blk_cell ((hM26.then_ hK).get 0 rfl) rfl))) dP) (dL ⟨b1, 3, none⟩ (.int .i64 va) fun w_ hK => (blk_cell ((hM26.then_ hK).get 0 rfl) rfl))) (dC (decide (pa > va)) hBpv)) dP) dP) dP) (dL ⟨b1, 4, none⟩ (.slice A ((bsOf fs).length) c) fun w_ hK => (blk_cell ((hM26.then_ hK).get 0 rfl) rfl))) dP) (dC ((((bsOf fs).length : Nat) : Int) == 0) hBl0)) dP) dP) dP) dP) dP) (dL ⟨b20, 5, none⟩ (.slice (sM g34) ((bsOf fs).length) c18) fun w_ hK => (blk_cell ((hM26.then_ hK).get 3 rfl) rfl))) (dI ⟨g34, 0, none⟩ ((bsOf fs).length) 1 0)) (dL ((⟨g34, 0, none⟩ : Addr).add ((0 : Int).toNat * 1)) (.slice A0 ((srcs (bsOf fs) 0).length) c0) fun w_ hK => (rd_get1 (row_rd ((hM26.then_ hK).get 2 rfl)) rfl (slv_get (hr0 (by omega)))))) dP) (dC (decide ((((srcs (bsOf fs) 0).length : Nat) : Int) > 0)) hBsr)) dP) dP) dK) dK) dK) dK) dK) dK) dK) dP) dP) dK) dK) dK) dK) dK) dK) dK) dP) ?_
 intro aC w98 vs hK hv fr
 revert aC; refine zkp [(1, (pT b1 0)), (3, (pT b20 0)), (74, (.bool true))] ?_
 have hM99 := hM26.then_ hK
 clear hK hv fr aC hM26; clear vs
 refine zcT <| zsp <| zre <| zo1 (.int .i64 4) ?_
 have hM100 := hM99.od [] 0
 exact ⟨congrArg _ (valid_4 hbig (fun h => by have := h.src; omega)), hM100⟩
 have cl0 : (((bsOf fs).length : Nat) : Int) = 0 := beq_iff_eq.1 hBl0.symm
 refine zkp [(1, (pT b1 0)), (3, (pT b20 0))] ?_
 intro aC fr
 refine zdr (N := 106) (env0 := [(1, (pT b1 0)), (3, (pT b20 0))]) (specAt [.det (pT b1 0), .det (.string nm), .det (.bool true), .det (.bool false), .det (.bool false), .det (pT b1 2), .det (.int .i64 pa), .det (.bool false), .det (.bool false), .det (.bool false), .det (pT b1 2), .det (.int .i64 pa), .det (.bool false), .det (.bool false), .det (.bool false), .det (pT b1 2), .det (.int .i64 pa), .det (pT b1 3), .det (.int .i64 va), .det (.bool false), .det (.bool false), .det (.bool false), .det (pT b1 4), .det (.slice A ((bsOf fs).length) c), .det (.int .i64 (((bsOf fs).length : Nat) : Int)), .det (.bool true), .det (.bool true), .det (.bool true), dU, dU, dU, dU, dU, dU, dU, dU, .det (.bool true), .det (.bool true), dU, dU, dU, dU, dU, dU, dU, .det (.bool true), .det (.bool true), dU, dU, dU, dU, dU, dU, dU, .det (.bool true)]) fr (la (la (la (la (la (la (la (la (la (la (la (la (la (la (la (la (la (la (la (la (la (la (la (la (la (la (la (la (la (la (la (la (la (la (la (la (la (la (la (la (la (la (la (la (la (la (la (la (la (la (la (la (la (la (la lz dP) (dL ⟨b1, 0, none⟩ (.string nm) fun w_ hK => (blk_cell ((hM26.then_ hK).get 0 rfl) rfl))) (dD (fun w_ hK => name_c nm w_) (congrArg Value.bool hBnm.symm))) dP) dP) dP) (dL ⟨b1, 2, none⟩ (.int .i64 pa) fun w_ hK => (blk_cell ((hM26.then_ hK).get 0 rfl) rfl))) (dC (decide (pa < 0)) hBp0)) dP) dP) dP) (dL ⟨b1, 2, none⟩ (.int .i64 pa) fun w_ hK => (blk_cell ((hM26.then_ hK).get 0 rfl) rfl))) (dC (decide (pa > 16)) hBp16)) dP) dP) dP) (dL ⟨b1, 2, none⟩ (.int .i64 pa) fun w_ hK => (blk_cell ((hM26.then_ hK).get 0 rfl) rfl))) dP) (dL ⟨b1, 3, none⟩ (.int .i64 va) fun w_ hK => (blk_cell ((hM26.then_ hK).get 0 rfl) rfl))) (dC (decide (pa > va)) hBpv)) dP) dP) dP) (dL ⟨b1, 4, none⟩ (.slice A ((bsOf fs).length) c) fun w_ hK => (blk_cell ((hM26.then_ hK).get 0 rfl) rfl))) dP) (dC ((((bsOf fs).length : Nat) : Int) == 0) hBl0)) dP) dP) dK) dK) dK) dK) dK) dK) dK) dK) dP) dP) dK) dK) dK) dK) dK) dK) dK) dP) dP) dK) dK) dK) dK) dK) dK) dK) dP) ?_
 intro aC w105 vs hK hv fr
 revert aC; refine zkp [(1, (pT b1 0)), (3, (pT b20 0)), (74, (.bool true))] ?_
 have hM106 := hM26.then_ hK
 clear hK hv fr aC hM26; clear vs
 refine zcT <| zsp <| zre <| zo1 (.int .i64 4) ?_
 have hM107 := hM106.od [] 0
 exact ⟨congrArg _ (valid_4 hbig (fun h => by have := h.pos; omega)), hM107⟩
 have cpv : pa > va := of_decide_eq_true hBpv.symm
 refine zkp [(1, (pT b1 0)), (3, (pT b20 0))] ?_
 intro aC fr
 refine zdr (N := 106) (env0 := [(1, (pT b1 0)), (3, (pT b20 0))]) (specAt [.det (pT b1 0), .det (.string nm), .det (.bool true), .det (.bool false), .det (.bool false), .det (pT b1 2), .det (.int .i64 pa), .det (.bool false), .det (.bool false), .det (.bool false), .det (pT b1 2), .det (.int .i64 pa), .det (.bool false), .det (.bool false), .det (.bool false), .det (pT b1 2), .det (.int .i64 pa), .det (pT b1 3), .det (.int .i64 va), .det (.bool true), .det (.bool true), .det (.bool true), dU, dU, dU, dU, .det (.bool true), .det (.bool true), dU, dU, dU, dU, dU, dU, dU, dU, .det (.bool true), .det (.bool true), dU, dU, dU, dU, dU, dU, dU, .det (.bool true), .det (.bool true), dU, dU, dU, dU, dU, dU, dU, .det (.bool true)]) fr (la (la (la (la (la (la (la (la (la (la (la (la (la (la (la (la (la (la (la (la (la (la (la (la (la (la (la (la (la (la (la (la (la (la (la (la (la (la (la (la (la (la (la (la (la (la (la (la (la (la (la (la (la (la (la lz dP) (dL ⟨b1, 0, none⟩ (.string nm) fun w_ hK => (blk_cell ((hM26.then_ hK).get 0 rfl) rfl))) (dD (fun w_ hK => name_c nm w_) (congrArg Value.bool hBnm.symm))) dP) dP) dP) (dL ⟨b1, 2, none⟩ (.int .i64 pa) fun w_ hK => (blk_cell ((hM26.then_ hK).get 0 rfl) rfl))) (dC (decide (pa < 0)) hBp0)) dP) dP) dP) (dL ⟨b1, 2, none⟩ (.int .i64 pa) fun w_ hK => (blk_cell ((hM26.then_ hK).get 0 rfl) rfl))) (dC (decide (pa > 16)) hBp16)) dP) dP) dP) (dL ⟨b1, 2, none⟩ (.int .i64 pa) fun w_ hK => (blk_cell ((hM26.then_ hK).get 0 rfl) rfl))) dP) (dL ⟨b1, 3, none⟩ (.int .i64 va) fun w_ hK => (blk_cell ((hM26.then_ hK).get 0 rfl) rfl))) (dC (decide (pa > va)) hBpv)) dP) dP) dK) dK) dK) dK) dP) dP) dK) dK) dK) dK) dK) dK) dK) dK) dP) dP) dK) dK) dK) dK) dK) dK) dK) dP) dP) dK) dK) dK) dK) dK) dK) dK) dP) ?_
 intro aC w112 vs hK hv fr
 revert aC; refine zkp [(1, (pT b1 0)), (3, (pT b20 0)), (74, (.bool true))] ?_
 have hM113 := hM26.then_ hK
 clear hK hv fr aC hM26; clear vs
 refine zcT <| zsp <| zre <| zo1 (.int .i64 4) ?_
 have hM114 := hM113.od [] 0
 exact ⟨congrArg _ (valid_4 hbig (fun h => by have := h.par; omega)), hM114⟩
 have cp16 : pa > 16 := of_decide_eq_true hBp16.symm
 refine zkp [(1, (pT b1 0)), (3, (pT b20 0))] ?_
 intro aC fr
 refine zdr (N := 106) (env0 := [(1, (pT b1 0)), (3, (pT b20 0))]) (specAt [.det (pT b1 0), .det (.string nm), .det (.bool true), .det (.bool false), .det (.bool false), .det (pT b1 2), .det (.int .i64 pa), .det (.bool false), .det (.bool false), .det (.bool false), .det (pT b1 2), .det (.int .i64 pa), .det (.bool true), .det (.bool true), .det (.bool true), dU, dU, dU, dU, dU, .det (.bool true), .det (.bool true), dU, dU, dU, dU, .det (.bool true), .det (.bool true), dU, dU, dU, dU, dU, dU, dU, dU, .det (.bool true), .det (.bool true), dU, dU, dU, dU, dU, dU, dU, .det (.bool true), .det (.bool true), dU, dU, dU, dU, dU, dU, dU, .det (.bool true)]) fr (la (la (la (la (la (la (la (la (la (la (la (la (la (la (la (la (la (la (la (la (la (la (la (la (la (la (la (la (la (la (la (la (la (la (la (la (la (la (la (la (la (la (la (la (la (la (la (la (la (la (la (la (la (la (la lz dP) (dL ⟨b1, 0, none⟩ (.string nm) fun w_ hK => (blk_cell ((hM26.then_ hK).get 0 rfl) rfl))) (dD (fun w_ hK => name_c nm w_) (congrArg Value.bool hBnm.symm))) dP) dP) dP) (dL ⟨b1, 2, none⟩ (.int .i64 pa) fun w_ hK => (blk_cell ((hM26.then_ hK).get 0 rfl) rfl))) (dC (decide (pa < 0)) hBp0)) dP) dP) dP) (dL ⟨b1, 2, none⟩ (.int .i64 pa) fun w_ hK => (blk_cell ((hM26.then_ hK).get 0 rfl) rfl))) (dC (decide (pa > 16)) hBp16)) dP) dP) dK) dK) dK) dK) dK) dP) dP) dK) dK) dK) dK) dP) dP) dK) dK) dK) dK) dK) dK) dK) dK) dP) dP) dK) dK) dK) dK) dK) dK) dK) dP) dP) dK) dK) dK) dK) dK) dK) dK) dP) ?_
 intro aC w119 vs hK hv fr
 revert aC; refine zkp [(1, (pT b1 0)), (3, (pT b20 0)), (74, (.bool true))] ?_
 have hM120 := hM26.then_ hK
 clear hK hv fr aC hM26; clear vs
 refine zcT <| zsp <| zre <| zo1 (.int .i64 4) ?_
 have hM121 := hM120.od [] 0
 exact ⟨congrArg _ (valid_4 hbig (fun h => by have := h.par; omega)), hM121⟩
 have cp0 : pa < 0 := of_decide_eq_true hBp0.symm
 refine zkp [(1, (pT b1 0)), (3, (pT b20 0))] ?_
 intro aC fr
 refine zdr (N := 106) (env0 := [(1, (pT b1 0)), (3, (pT b20 0))]) (specAt [.det (pT b1 0), .det (.string nm), .det (.bool true), .det (.bool false), .det (.bool false), .det (pT b1 2), .det (.int .i64 pa), .det (.bool true), .det (.bool true), .det (.bool true), dU, dU, dU, .det (.bool true), .det (.bool true), dU, dU, dU, dU, dU, .det (.bool true), .det (.bool true), dU, dU, dU, dU, .det (.bool true), .det (.bool true), dU, dU, dU, dU, dU, dU, dU, dU, .det (.bool true), .det (.bool true), dU, dU, dU, dU, dU, dU, dU, .det (.bool true), .det (.bool true), dU, dU, dU, dU, dU, dU, dU, .det (.bool true)]) fr (la (la (la (la (la (la (la (la (la (la (la (la (la (la (la (la (la (la (la (la (la (la (la (la (la (la (la (la (la (la (la (la (la (la (la (la (la (la (la (la (la (la (la (la (la (la (la (la (la (la (la (la (la (la (la lz dP) (dL ⟨b1, 0, none⟩ (.string nm) fun w_ hK => (blk_cell ((hM26.then_ hK).get 0 rfl) rfl))) (dD (fun w_ hK => name_c nm w_) (congrArg Value.bool hBnm.symm))) dP) dP) dP) (dL ⟨b1, 2, none⟩ (.int .i64 pa) fun w_ hK => (blk_cell ((hM26.then_ hK).get 0 rfl) rfl))) (dC (decide (pa < 0)) hBp0)) dP) dP) dK) dK) dK) dP) dP) dK) dK) dK) dK) dK) dP) dP) dK) dK) dK) dK) dP) dP) dK) dK) dK) dK) dK) dK) dK) dK) dP) dP) dK) dK) dK) dK) dK) dK) dK) dP) dP) dK) dK) dK) dK) dK) dK) dK) dP) ?_
 intro aC w126 vs hK hv fr
 revert aC; refine zkp [(1, (pT b1 0)), (3, (pT b20 0)), (74, (.bool true))] ?_
 have hM127 := hM26.then_ hK
 clear hK hv fr aC hM26; clear vs
 refine zcT <| zsp <| zre <| zo1 (.int .i64 4) ?_
 have hM128 := hM127.od [] 0
 exact ⟨congrArg _ (valid_4 hbig (fun h => by have := h.par; omega)), hM128⟩
end Go.Proofs.YtlfbloadopeamaaDoor
namespace Go.Proofs.YtlfbloadopeamaaDoor
open Go.Mor
set_option maxRecDepth 10000 in
theorem rshape_c (i : FIns) (w : World) (hi : i.Ok) :
    Calls Tryd.prog 26 #[(.agg #[(.int .i64 i.op), (.int .i64 i.dst), (.int .i64 i.n), (.string i.name), (.slice i.A i.args.length i.c)])] w (Ret fun v w' => v = .bool (decide (shapeQ i)) ∧ Mem noS w w' []) := by
 have hnl : i.name.size ≤ 281474976710656 := hi.name
 have hal : i.args.length ≤ 281474976710656 := hi.len
 refine zen 143 [(.agg #[(.int .i64 i.op), (.int .i64 i.dst), (.int .i64 i.n), (.string i.name), (.slice i.A i.args.length i.c)])] Tryd.func26 ?_
 have hM := Mem.init w
 refine zsr <| zbx hM 40 (.agg #[(.int .i64 i.op), (.int .i64 i.dst), (.int .i64 i.n), (.string i.name), (.slice i.A i.args.length i.c)]) (iV i) fun b1 w2 hb1 hM3 => ?_
 replace hM3 := hM3.nf
 clear hM
 refine zpn 1 <| zfe <| zsp <| zsr <| zpn 1 <| zld ⟨b1, 2, none⟩ (.int .i64 i.n) (blk_cell (hM3.get 0 rfl) rfl) <| zpn 3 <| zfe <| zsq ?_
 intro aC fr
 refine W_cut (fun a_ w_ => ∃ (lo : Int) (mo : Int) (bn : Bool) (bm : Bool), Fr a_ 143 [(1, (pT b1 0)), (3, (.int .i64 lo)), (4, (.int .i64 mo)), (5, (.bool bn)), (6, (.bool bm))] ∧ Mem noS w w_ [.blk b1 40 (iV i)] ∧ (shapeQ i ↔ caseQ i lo mo bn bm)) ?_ ?_
 clear fr aC hM3; rintro aC w6 ⟨lo, mo, bn, bm, fr, hM7, hsh⟩
 revert aC
 refine zsq <| zsr <| zpn 1 <| zld ⟨b1, 0, none⟩ (.int .i64 i.op) (blk_cell (hM7.get 0 rfl) rfl) <| zcl (rmakes_c i.op w6) ?_
 rintro _ w10 ⟨rfl, hM11x⟩
 have hM11 := hM7.cl hM11x
 refine zpn 2 ?_
 obtain ⟨B12, hB12⟩ : ∃ B : Bool, B = (!(decide (makesQ i.op))) := ⟨_, rfl⟩
 refine zkp [(1, (pT b1 0)), (3, (.int .i64 lo)), (4, (.int .i64 mo)), (5, (.bool bn)), (6, (.bool bm)), (107, (.bool (!(decide (makesQ i.op)))))] ?_
 rw [← hB12]
 have iB12 : B12 = true ↔ (¬ (makesQ i.op)) := by rw [hB12]; simp only [notT, decide_eq_true_eq]
 clear hB12
 intro aC fr
 refine zpk 1 6 [108] fr (news := [(108, (cond B12 (pT b1 1) undef))]) (by cases B12 <;> kernel_rfl) ?_
 intro aC fr
 refine From_either (B := B12) (d := (some 109)) (.int .i64 i.dst) fr (by cases B12 <;> kernel_rfl) (fun hB hh => ?_) ?_
 cases B12 <;> first | (exact absurd hB (by decide)) | skip
 have c12 : (¬ (makesQ i.op)) := iB12.1 rfl
 exact From_ld (some 109) ⟨b1, 1, none⟩ fr (by kernel_rfl) (.int .i64 i.dst) (blk_cell (hM11.get 0 rfl) rfl) hh
 intro aC fr
 refine zpk 2 9 [111] fr (news := [(111, (.bool (B12 && ((i.dst : Int) != (-1)))))]) (by cases B12 <;> kernel_rfl) ?_
 intro aC fr
 revert aC
 refine zfe <| zcP (B12 && ((i.dst : Int) != (-1))) ((¬ (makesQ i.op)) ∧ ((i.dst : Int) ≠ (-1))) (by simp only [Bool.and_eq_true, bne_iff_ne, iB12]) (fun c21 => ?_) (fun c21 => ?_)
 refine zsp <| zre <| zo1 (.bool false) ?_
 have hR : false = true ↔ False := by simp
 have hM22 := hM11.od [] 0
 exact ⟨bool_dec hR (⟨False.elim, fun h => rshape_no c21 h⟩), hM22⟩
 refine zsk <| zsr ?_
 intro aC fr
 refine zpk 4 4 [112, 113, 114, 115] fr (news := [(112, (.bool bn)), (113, (.bool bn)), (114, (cond bn (.bool bm) undef)), (115, (cond bn (pT b1 3) undef))]) (by cases bn <;> kernel_rfl) ?_
 intro aC fr
 refine From_either (B := bn) (d := (some 116)) (.string i.name) fr (by cases bn <;> kernel_rfl) (fun hB hh => ?_) ?_
 cases bn <;> first | (exact absurd hB (by decide)) | skip
 exact From_ld (some 116) ⟨b1, 3, none⟩ fr (by kernel_rfl) (.string i.name) (blk_cell (hM11.get 0 rfl) rfl) hh
 intro aC fr
 refine zpk 4 9 [119, 120] fr (news := [(119, (.bool (bn && (bm == (!((i.name : ByteArray).toList == (⟨#[]⟩ : ByteArray).toList)))))), (120, (.bool (bn && (bm == (!((i.name : ByteArray).toList == (⟨#[]⟩ : ByteArray).toList))))))]) (by cases bn <;> kernel_rfl) ?_
 intro aC fr
 obtain ⟨B31, hB31⟩ : ∃ B : Bool, B = (bn && (bm == (!((i.name : ByteArray).toList == (⟨#[]⟩ : ByteArray).toList)))) := ⟨_, rfl⟩
 revert aC
 refine zkp [(1, (pT b1 0)), (3, (.int .i64 lo)), (4, (.int .i64 mo)), (6, (.bool bm)), (120, (.bool (bn && (bm == (!((i.name : ByteArray).toList == (⟨#[]⟩ : ByteArray).toList))))))] ?_
 rw [← hB31]
 have iB31 : B31 = true ↔ ((bn = true) ∧ (bm = (!((i.name : ByteArray).toList == (⟨#[]⟩ : ByteArray).toList)))) := by rw [hB31]; simp only [Bool.and_eq_true, beq_iff_eq, notT, seq_nil]
 clear hB31
 intro aC fr
 refine zpk 3 12 [123] fr (news := [(123, (cond B31 (.bool (!bm)) undef))]) (by cases B31 <;> kernel_rfl) ?_
 intro aC fr
 obtain ⟨B36, hB36⟩ : ∃ B : Bool, B = (!bm) := ⟨_, rfl⟩
 revert aC
 refine zkp [(1, (pT b1 0)), (3, (.int .i64 lo)), (4, (.int .i64 mo)), (120, (.bool B31)), (123, (cond B31 (.bool (!bm)) undef))] ?_
 rw [← hB36]
 have iB36 : B36 = true ↔ (¬ (bm = true)) := by rw [hB36]; simp only [notT]
 clear hB36
 intro aC fr
 refine zpk 1 13 [124] fr (news := [(124, (cond (B31 && !B36) (pT b1 3) undef))]) (by cases B31 <;> cases B36 <;> kernel_rfl) ?_
 intro aC fr
 refine From_either (B := (B31 && !B36)) (d := (some 125)) (.string i.name) fr (by cases B31 <;> cases B36 <;> kernel_rfl) (fun hB hh => ?_) ?_
 cases B31 <;> cases B36 <;> first | (exact absurd hB (by decide)) | skip
 have c31 : ((bn = true) ∧ (bm = (!((i.name : ByteArray).toList == (⟨#[]⟩ : ByteArray).toList)))) := iB31.1 rfl
 have c36 : ¬ (¬ (bm = true)) := (fun h => Bool.noConfusion (iB36.2 h) : ¬ (¬ (bm = true)))
 exact From_ld (some 125) ⟨b1, 3, none⟩ fr (by kernel_rfl) (.string i.name) (blk_cell (hM11.get 0 rfl) rfl) hh
 intro aC fr
 refine From_eitherC (B := (B31 && !B36)) (d := (some 126)) (.bool (decide (nameQ i.name))) fr (by cases B31 <;> cases B36 <;> kernel_rfl) (fun hB hh => ?_) ?_
 cases B31 <;> cases B36 <;> first | (exact absurd hB (by decide)) | skip
 have c31 : ((bn = true) ∧ (bm = (!((i.name : ByteArray).toList == (⟨#[]⟩ : ByteArray).toList)))) := iB31.1 rfl
 have c36 : ¬ (¬ (bm = true)) := (fun h => Bool.noConfusion (iB36.2 h) : ¬ (¬ (bm = true)))
 refine From_cl (some 126) 24 [(.string i.name)] fr (by kernel_rfl) (rname_c i.name w10) ?_
 rintro _ w2 ⟨rfl, hm2⟩ a2 hF2; exact hh a2 w2 hm2 hF2
 intro aC w43 hM44x fr
 have hM44 := hM11.cl hM44x
 refine zpk 3 18 [128, 129] fr (news := [(128, (.bool (B31 && (B36 || decide (nameQ i.name))))), (129, (.bool (B31 && (B36 || decide (nameQ i.name)))))]) (by cases B31 <;> cases B36 <;> kernel_rfl) ?_
 intro aC fr
 obtain ⟨B49, hB49⟩ : ∃ B : Bool, B = (B31 && (B36 || decide (nameQ i.name))) := ⟨_, rfl⟩
 revert aC
 refine zkp [(1, (pT b1 0)), (3, (.int .i64 lo)), (4, (.int .i64 mo)), (129, (.bool (B31 && (B36 || decide (nameQ i.name)))))] ?_
 rw [← hB49]
 have iB49 : B49 = true ↔ (((bn = true) ∧ (bm = (!((i.name : ByteArray).toList == (⟨#[]⟩ : ByteArray).toList)))) ∧ ((¬ (bm = true)) ∨ (nameQ i.name))) := by rw [hB49]; simp only [Bool.and_eq_true, Bool.or_eq_true, decide_eq_true_eq, iB31, iB36]
 clear hB49
 intro aC fr
 refine zpk 1 19 [130] fr (news := [(130, (cond B49 (pT b1 4) undef))]) (by cases B49 <;> kernel_rfl) ?_
 intro aC fr
 refine From_either (B := B49) (d := (some 131)) (.slice i.A i.args.length i.c) fr (by cases B49 <;> kernel_rfl) (fun hB hh => ?_) ?_
 cases B49 <;> first | (exact absurd hB (by decide)) | skip
 have c49 : (((bn = true) ∧ (bm = (!((i.name : ByteArray).toList == (⟨#[]⟩ : ByteArray).toList)))) ∧ ((¬ (bm = true)) ∨ (nameQ i.name))) := iB49.1 rfl
 exact From_ld (some 131) ⟨b1, 4, none⟩ fr (by kernel_rfl) (.slice i.A i.args.length i.c) (blk_cell (hM44.get 0 rfl) rfl) hh
 intro aC fr
 refine zpk 5 25 [135, 136] fr (news := [(135, (.bool (B49 && decide ((((i.args.length : Nat) : Int) : Int) ≥ lo)))), (136, (.bool (B49 && decide ((((i.args.length : Nat) : Int) : Int) ≥ lo))))]) (by cases B49 <;> kernel_rfl) ?_
 intro aC fr
 obtain ⟨B58, hB58⟩ : ∃ B : Bool, B = (B49 && decide ((((i.args.length : Nat) : Int) : Int) ≥ lo)) := ⟨_, rfl⟩
 revert aC
 refine zkp [(1, (pT b1 0)), (4, (.int .i64 mo)), (136, (.bool (B49 && decide ((((i.args.length : Nat) : Int) : Int) ≥ lo))))] ?_
 rw [← hB58]
 have iB58 : B58 = true ↔ ((((bn = true) ∧ (bm = (!((i.name : ByteArray).toList == (⟨#[]⟩ : ByteArray).toList)))) ∧ ((¬ (bm = true)) ∨ (nameQ i.name))) ∧ ((((i.args.length : Nat) : Int) : Int) ≥ lo)) := by rw [hB58]; simp only [Bool.and_eq_true, decide_eq_true_eq, iB49]
 clear hB58
 intro aC fr
 refine zpk 1 26 [137] fr (news := [(137, (cond B58 (pT b1 4) undef))]) (by cases B58 <;> kernel_rfl) ?_
 intro aC fr
 refine From_either (B := B58) (d := (some 138)) (.slice i.A i.args.length i.c) fr (by cases B58 <;> kernel_rfl) (fun hB hh => ?_) ?_
 cases B58 <;> first | (exact absurd hB (by decide)) | skip
 have c58 : ((((bn = true) ∧ (bm = (!((i.name : ByteArray).toList == (⟨#[]⟩ : ByteArray).toList)))) ∧ ((¬ (bm = true)) ∨ (nameQ i.name))) ∧ ((((i.args.length : Nat) : Int) : Int) ≥ lo)) := iB58.1 rfl
 exact From_ld (some 138) ⟨b1, 4, none⟩ fr (by kernel_rfl) (.slice i.A i.args.length i.c) (blk_cell (hM44.get 0 rfl) rfl) hh
 intro aC fr
 refine zpk 5 32 [2, 142] fr (news := [(2, (.bool (B58 && decide ((((i.args.length : Nat) : Int) : Int) ≤ mo)))), (142, (.bool (B58 && decide ((((i.args.length : Nat) : Int) : Int) ≤ mo))))]) (by cases B58 <;> kernel_rfl) ?_
 intro aC fr
 revert aC
 refine zfe <| zre <| zo1 (.bool (B58 && decide ((((i.args.length : Nat) : Int) : Int) ≤ mo))) ?_
 have hR : (B58 && decide ((((i.args.length : Nat) : Int) : Int) ≤ mo)) = true ↔ (((((bn = true) ∧ (bm = (!((i.name : ByteArray).toList == (⟨#[]⟩ : ByteArray).toList)))) ∧ ((¬ (bm = true)) ∨ (nameQ i.name))) ∧ ((((i.args.length : Nat) : Int) : Int) ≥ lo)) ∧ ((((i.args.length : Nat) : Int) : Int) ≤ mo)) := by simp only [Bool.and_eq_true, decide_eq_true_eq, iB58]
 have hM67 := hM44.od [] 0
 exact ⟨bool_dec hR (rshape_fin (seq_nil _) hsh c21), hM67⟩
 revert aC
 refine zbk 0 <| zsr <| zpn 1 <| zld ⟨b1, 0, none⟩ (.int .i64 i.op) (blk_cell (hM3.get 0 rfl) rfl) <| zpn 2 <| zfe <| zcP ((i.op : Int) == 1) ((i.op : Int) = 1) (by simp only [beq_iff_eq]) (fun c68 => ?_) (fun c68 => ?_)
 refine zrp ?_
 intro aC fr
 exact ⟨0, 0, true, false, fr.kp [1, 3, 4, 5, 6], hM3, by rw [shape_1 (by omega), caseF litT]; unfold makesQ; simp only [true_and]; constructor <;> intro h <;> first | omega | exact h.elim⟩
 refine zsr <| zpn 1 <| zld ⟨b1, 0, none⟩ (.int .i64 i.op) (blk_cell (hM3.get 0 rfl) rfl) <| zpn 2 <| zfe <| zcP ((i.op : Int) == 2) ((i.op : Int) = 2) (by simp only [beq_iff_eq]) (fun c71 => ?_) (fun c71 => ?_)
 obtain ⟨B72, hB72⟩ : ∃ B : Bool, B = decide (i.n ≥ 0) := ⟨_, rfl⟩
 cases B72
 have c72 : ¬ (i.n ≥ 0) := of_decide_eq_false hB72.symm
 refine zkp [(1, (pT b1 0)), (3, (.int .i64 0)), (4, (.int .i64 0)), (5, (.bool ((i.n : Int) == 0))), (6, (.bool false))] ?_
 intro aC fr
 refine zdr (N := 143) (env0 := [(1, (pT b1 0)), (3, (.int .i64 0)), (4, (.int .i64 0)), (5, (.bool ((i.n : Int) == 0))), (6, (.bool false))]) (specAt [.det (pT b1 2), .det (.int .i64 i.n), .det (.bool false), .det (.bool false), dU, dU, dU, .det (.bool false), .det (.int .i64 1), .det (.int .i64 1), .det (.bool false)]) fr (la (la (la (la (la (la (la (la (la (la (la lz dP) (dL ⟨b1, 2, none⟩ (.int .i64 i.n) fun w_ hK => (blk_cell ((hM3.then_ hK).get 0 rfl) rfl))) (dC (decide (i.n ≥ 0)) hB72)) dP) dK) dK) dK) dP) dP) dP) dP) ?_
 intro aC w77 vs hK hv fr
 revert aC; refine zkp [(1, (pT b1 0)), (3, (.int .i64 1)), (4, (.int .i64 1)), (5, (.bool false)), (6, (.bool false))] ?_
 have hM78 := hM3.then_ hK
 clear hK hv fr aC hM3; clear vs
 intro aC fr
 exact ⟨1, 1, false, false, fr.kp [1, 3, 4, 5, 6], hM78, by rw [shape_2 (by omega), caseF litF]; unfold makesQ; simp only [false_and, and_false]; constructor <;> intro h <;> first | omega | exact h.elim⟩
 have c72 : i.n ≥ 0 := of_decide_eq_true hB72.symm
 obtain ⟨B81, hB81⟩ : ∃ B : Bool, B = decide (i.n ≤ 2147483647) := ⟨_, rfl⟩
 refine zkp [(1, (pT b1 0)), (3, (.int .i64 0)), (4, (.int .i64 0)), (5, (.bool ((i.n : Int) == 0))), (6, (.bool false))] ?_
 intro aC fr
 refine zdr (N := 143) (env0 := [(1, (pT b1 0)), (3, (.int .i64 0)), (4, (.int .i64 0)), (5, (.bool ((i.n : Int) == 0))), (6, (.bool false))]) (specAt [.det (pT b1 2), .det (.int .i64 i.n), .det (.bool true), .det (.bool true), .det (pT b1 2), .det (.int .i64 i.n), .det (.bool B81), .det (.bool B81), .det (.int .i64 1), .det (.int .i64 1), .det (.bool B81)]) fr (la (la (la (la (la (la (la (la (la (la (la lz dP) (dL ⟨b1, 2, none⟩ (.int .i64 i.n) fun w_ hK => (blk_cell ((hM3.then_ hK).get 0 rfl) rfl))) (dC (decide (i.n ≥ 0)) hB72)) dP) dP) (dL ⟨b1, 2, none⟩ (.int .i64 i.n) fun w_ hK => (blk_cell ((hM3.then_ hK).get 0 rfl) rfl))) (dC (decide (i.n ≤ 2147483647)) hB81)) dP) dP) dP) dP) ?_
 intro aC w86 vs hK hv fr
 revert aC; refine zkp [(1, (pT b1 0)), (3, (.int .i64 1)), (4, (.int .i64 1)), (5, (.bool B81)), (6, (.bool false))] ?_
 have hM87 := hM3.then_ hK
 clear hK hv fr aC hM3; clear vs
 have iB81 : B81 = true ↔ ((i.n : Int) ≤ 2147483647) := by rw [hB81]; simp only [decide_eq_true_eq]
 clear hB81
 intro aC fr
 exact ⟨1, 1, B81, false, fr.kp [1, 3, 4, 5, 6], hM87, by rw [shape_2 (by omega), caseF (show B81 = true ↔ ((i.n : Int) ≤ 2147483647) by simp only [iB81])]; unfold makesQ; constructor <;> intro h <;> first | omega | exact h.elim⟩
 refine zsr <| zpn 1 <| zld ⟨b1, 0, none⟩ (.int .i64 i.op) (blk_cell (hM3.get 0 rfl) rfl) <| zkp [(1, (pT b1 0)), (3, (.int .i64 0)), (4, (.int .i64 0)), (5, (.bool ((i.n : Int) == 0))), (6, (.bool false)), (28, (.int .i64 i.op))] <| zpn 2 <| zfe <| zcP ((i.op : Int) == 3) ((i.op : Int) = 3) (by simp only [beq_iff_eq]) (fun c90 => ?_) (fun c90 => ?_)
 obtain ⟨B91, hB91⟩ : ∃ B : Bool, B = decide (i.n ≥ 0) := ⟨_, rfl⟩
 cases B91
 have c91 : ¬ (i.n ≥ 0) := of_decide_eq_false hB91.symm
 refine zkp [(1, (pT b1 0)), (3, (.int .i64 0)), (4, (.int .i64 0)), (5, (.bool ((i.n : Int) == 0))), (6, (.bool false))] ?_
 intro aC fr
 refine zdr (N := 143) (env0 := [(1, (pT b1 0)), (3, (.int .i64 0)), (4, (.int .i64 0)), (5, (.bool ((i.n : Int) == 0))), (6, (.bool false))]) (specAt [.det (pT b1 2), .det (.int .i64 i.n), .det (.bool false), .det (.bool false), dU, dU, dU, .det (.bool false), .det (.int .i64 2), .det (.int .i64 2), .det (.bool false)]) fr (la (la (la (la (la (la (la (la (la (la (la lz dP) (dL ⟨b1, 2, none⟩ (.int .i64 i.n) fun w_ hK => (blk_cell ((hM3.then_ hK).get 0 rfl) rfl))) (dC (decide (i.n ≥ 0)) hB91)) dP) dK) dK) dK) dP) dP) dP) dP) ?_
 intro aC w96 vs hK hv fr
 revert aC; refine zkp [(1, (pT b1 0)), (3, (.int .i64 2)), (4, (.int .i64 2)), (5, (.bool false)), (6, (.bool false))] ?_
 have hM97 := hM3.then_ hK
 clear hK hv fr aC hM3; clear vs
 intro aC fr
 exact ⟨2, 2, false, false, fr.kp [1, 3, 4, 5, 6], hM97, by rw [shape_3 (by omega), caseF litF]; unfold makesQ; simp only [false_and, and_false]; constructor <;> intro h <;> first | omega | exact h.elim⟩
 have c91 : i.n ≥ 0 := of_decide_eq_true hB91.symm
 obtain ⟨B100, hB100⟩ : ∃ B : Bool, B = decide (i.n ≤ 2147483647) := ⟨_, rfl⟩
 refine zkp [(1, (pT b1 0)), (3, (.int .i64 0)), (4, (.int .i64 0)), (5, (.bool ((i.n : Int) == 0))), (6, (.bool false))] ?_
 intro aC fr
 refine zdr (N := 143) (env0 := [(1, (pT b1 0)), (3, (.int .i64 0)), (4, (.int .i64 0)), (5, (.bool ((i.n : Int) == 0))), (6, (.bool false))]) (specAt [.det (pT b1 2), .det (.int .i64 i.n), .det (.bool true), .det (.bool true), .det (pT b1 2), .det (.int .i64 i.n), .det (.bool B100), .det (.bool B100), .det (.int .i64 2), .det (.int .i64 2), .det (.bool B100)]) fr (la (la (la (la (la (la (la (la (la (la (la lz dP) (dL ⟨b1, 2, none⟩ (.int .i64 i.n) fun w_ hK => (blk_cell ((hM3.then_ hK).get 0 rfl) rfl))) (dC (decide (i.n ≥ 0)) hB91)) dP) dP) (dL ⟨b1, 2, none⟩ (.int .i64 i.n) fun w_ hK => (blk_cell ((hM3.then_ hK).get 0 rfl) rfl))) (dC (decide (i.n ≤ 2147483647)) hB100)) dP) dP) dP) dP) ?_
 intro aC w105 vs hK hv fr
 revert aC; refine zkp [(1, (pT b1 0)), (3, (.int .i64 2)), (4, (.int .i64 2)), (5, (.bool B100)), (6, (.bool false))] ?_
 have hM106 := hM3.then_ hK
 clear hK hv fr aC hM3; clear vs
 have iB100 : B100 = true ↔ ((i.n : Int) ≤ 2147483647) := by rw [hB100]; simp only [decide_eq_true_eq]
 clear hB100
 intro aC fr
 exact ⟨2, 2, B100, false, fr.kp [1, 3, 4, 5, 6], hM106, by rw [shape_3 (by omega), caseF (show B100 = true ↔ ((i.n : Int) ≤ 2147483647) by simp only [iB100])]; unfold makesQ; constructor <;> intro h <;> first | omega | exact h.elim⟩
 refine zsr <| zpn 1 <| zld ⟨b1, 0, none⟩ (.int .i64 i.op) (blk_cell (hM3.get 0 rfl) rfl) <| zpn 2 <| zfe <| zcP ((i.op : Int) == 4) ((i.op : Int) = 4) (by simp only [beq_iff_eq]) (fun c109 => ?_) (fun c109 => ?_)
 refine zrp ?_
 intro aC fr
 exact ⟨0, 16, ((i.n : Int) == 0), true, fr.kp [1, 3, 4, 5, 6], hM3, by rw [shape_4 (by omega), caseT (show ((i.n : Int) == 0) = true ↔ ((i.n : Int) = 0) by simp only [beq_iff_eq])]; unfold makesQ nameQ; constructor <;> intro h <;> omega⟩
 refine zsr <| zpn 1 <| zld ⟨b1, 0, none⟩ (.int .i64 i.op) (blk_cell (hM3.get 0 rfl) rfl) <| zpn 2 <| zfe <| zcP ((i.op : Int) == 5) ((i.op : Int) = 5) (by simp only [beq_iff_eq]) (fun c112 => ?_) (fun c112 => ?_)
 refine zrp ?_
 intro aC fr
 exact ⟨1, 17, ((i.n : Int) == 0), false, fr.kp [1, 3, 4, 5, 6], hM3, by rw [shape_5 (by omega), caseF (show ((i.n : Int) == 0) = true ↔ ((i.n : Int) = 0) by simp only [beq_iff_eq])]; unfold makesQ; constructor <;> intro h <;> first | omega | exact h.elim⟩
 refine zsr <| zpn 1 <| zld ⟨b1, 0, none⟩ (.int .i64 i.op) (blk_cell (hM3.get 0 rfl) rfl) <| zpn 2 ?_
 obtain ⟨B115, hB115⟩ : ∃ B : Bool, B = ((i.op : Int) == 6) := ⟨_, rfl⟩
 refine zkp [(1, (pT b1 0)), (3, (.int .i64 0)), (4, (.int .i64 0)), (5, (.bool ((i.n : Int) == 0))), (6, (.bool false)), (50, (.bool ((i.op : Int) == 6)))] ?_
 rw [← hB115]
 have iB115 : B115 = true ↔ ((i.op : Int) = 6) := by rw [hB115]; simp only [beq_iff_eq]
 clear hB115
 intro aC fr
 refine zpk 1 5 [51] fr (news := [(51, (cond (!B115) (pT b1 0) undef))]) (by cases B115 <;> kernel_rfl) ?_
 intro aC fr
 refine From_either (B := (!B115)) (d := (some 52)) (.int .i64 i.op) fr (by cases B115 <;> kernel_rfl) (fun hB hh => ?_) ?_
 cases B115 <;> first | (exact absurd hB (by decide)) | skip
 have c115 : ¬ ((i.op : Int) = 6) := (fun h => Bool.noConfusion (iB115.2 h) : ¬ ((i.op : Int) = 6))
 exact From_ld (some 52) ⟨b1, 0, none⟩ fr (by kernel_rfl) (.int .i64 i.op) (blk_cell (hM3.get 0 rfl) rfl) hh
 intro aC fr
 refine zpk 3 9 [46, 54] fr (news := [(46, (.bool (B115 || ((i.op : Int) == 7)))), (54, (.bool (B115 || ((i.op : Int) == 7))))]) (by cases B115 <;> kernel_rfl) ?_
 intro aC fr
 revert aC
 refine zfe <| zcP (B115 || ((i.op : Int) == 7)) (((i.op : Int) = 6) ∨ ((i.op : Int) = 7)) (by simp only [Bool.or_eq_true, beq_iff_eq, iB115]) (fun c124 => ?_) (fun c124 => ?_)
 refine zrp ?_
 intro aC fr
 exact ⟨0, 0, ((i.n : Int) == 0), true, fr.kp [1, 3, 4, 5, 6], hM3, by rcases c124 with c0 | c0; (rw [shape_6 c0, caseT (show ((i.n : Int) == 0) = true ↔ ((i.n : Int) = 0) by simp only [beq_iff_eq])]; unfold makesQ nameQ; constructor <;> intro h <;> omega); (rw [shape_7 c0, caseT (show ((i.n : Int) == 0) = true ↔ ((i.n : Int) = 0) by simp only [beq_iff_eq])]; unfold makesQ nameQ; constructor <;> intro h <;> omega)⟩
 refine zsr <| zpn 1 <| zld ⟨b1, 0, none⟩ (.int .i64 i.op) (blk_cell (hM3.get 0 rfl) rfl) <| zpn 2 ?_
 obtain ⟨B127, hB127⟩ : ∃ B : Bool, B = ((i.op : Int) == 8) := ⟨_, rfl⟩
 refine zkp [(1, (pT b1 0)), (3, (.int .i64 0)), (4, (.int .i64 0)), (5, (.bool ((i.n : Int) == 0))), (6, (.bool false)), (59, (.bool ((i.op : Int) == 8)))] ?_
 rw [← hB127]
 have iB127 : B127 = true ↔ ((i.op : Int) = 8) := by rw [hB127]; simp only [beq_iff_eq]
 clear hB127
 intro aC fr
 refine zpk 1 5 [60] fr (news := [(60, (cond (!B127) (pT b1 0) undef))]) (by cases B127 <;> kernel_rfl) ?_
 intro aC fr
 refine From_either (B := (!B127)) (d := (some 61)) (.int .i64 i.op) fr (by cases B127 <;> kernel_rfl) (fun hB hh => ?_) ?_
 cases B127 <;> first | (exact absurd hB (by decide)) | skip
 have c127 : ¬ ((i.op : Int) = 8) := (fun h => Bool.noConfusion (iB127.2 h) : ¬ ((i.op : Int) = 8))
 exact From_ld (some 61) ⟨b1, 0, none⟩ fr (by kernel_rfl) (.int .i64 i.op) (blk_cell (hM3.get 0 rfl) rfl) hh
 intro aC fr
 refine zpk 3 9 [63, 64] fr (news := [(63, (.bool (B127 || ((i.op : Int) == 10)))), (64, (.bool (B127 || ((i.op : Int) == 10))))]) (by cases B127 <;> kernel_rfl) ?_
 intro aC fr
 obtain ⟨B136, hB136⟩ : ∃ B : Bool, B = (B127 || ((i.op : Int) == 10)) := ⟨_, rfl⟩
 revert aC
 refine zkp [(1, (pT b1 0)), (3, (.int .i64 0)), (4, (.int .i64 0)), (5, (.bool ((i.n : Int) == 0))), (6, (.bool false)), (64, (.bool (B127 || ((i.op : Int) == 10))))] ?_
 rw [← hB136]
 have iB136 : B136 = true ↔ (((i.op : Int) = 8) ∨ ((i.op : Int) = 10)) := by rw [hB136]; simp only [Bool.or_eq_true, beq_iff_eq, iB127]
 clear hB136
 intro aC fr
 refine zpk 1 10 [65] fr (news := [(65, (cond (!B136) (pT b1 0) undef))]) (by cases B136 <;> kernel_rfl) ?_
 intro aC fr
 refine From_either (B := (!B136)) (d := (some 66)) (.int .i64 i.op) fr (by cases B136 <;> kernel_rfl) (fun hB hh => ?_) ?_
 cases B136 <;> first | (exact absurd hB (by decide)) | skip
 have c136 : ¬ (((i.op : Int) = 8) ∨ ((i.op : Int) = 10)) := (fun h => Bool.noConfusion (iB136.2 h) : ¬ (((i.op : Int) = 8) ∨ ((i.op : Int) = 10)))
 exact From_ld (some 66) ⟨b1, 0, none⟩ fr (by kernel_rfl) (.int .i64 i.op) (blk_cell (hM3.get 0 rfl) rfl) hh
 intro aC fr
 refine zpk 3 14 [55, 68] fr (news := [(55, (.bool (B136 || ((i.op : Int) == 12)))), (68, (.bool (B136 || ((i.op : Int) == 12))))]) (by cases B136 <;> kernel_rfl) ?_
 intro aC fr
 revert aC
 refine zfe <| zcP (B136 || ((i.op : Int) == 12)) ((((i.op : Int) = 8) ∨ ((i.op : Int) = 10)) ∨ ((i.op : Int) = 12)) (by simp only [Bool.or_eq_true, beq_iff_eq, iB136]) (fun c145 => ?_) (fun c145 => ?_)
 refine zrp ?_
 intro aC fr
 exact ⟨1, 1, ((i.n : Int) == 0), false, fr.kp [1, 3, 4, 5, 6], hM3, by rcases c145 with (c0 | c0) | c0; (rw [shape_8 c0, caseF (show ((i.n : Int) == 0) = true ↔ ((i.n : Int) = 0) by simp only [beq_iff_eq])]; unfold makesQ; constructor <;> intro h <;> first | omega | exact h.elim); (rw [shape_10 c0, caseF (show ((i.n : Int) == 0) = true ↔ ((i.n : Int) = 0) by simp only [beq_iff_eq])]; unfold makesQ; constructor <;> intro h <;> first | omega | exact h.elim); (rw [shape_12 c0, caseF (show ((i.n : Int) == 0) = true ↔ ((i.n : Int) = 0) by simp only [beq_iff_eq])]; unfold makesQ; constructor <;> intro h <;> first | omega | exact h.elim)⟩
 refine zsr <| zpn 1 <| zld ⟨b1, 0, none⟩ (.int .i64 i.op) (blk_cell (hM3.get 0 rfl) rfl) <| zpn 2 <| zfe <| zcP ((i.op : Int) == 9) ((i.op : Int) = 9) (by simp only [beq_iff_eq]) (fun c148 => ?_) (fun c148 => ?_)
 refine zsk ?_
 intro aC fr
 exact ⟨0, 0, ((i.n : Int) == 0), false, fr.kp [1, 3, 4, 5, 6], hM3, by rw [shape_9 (by omega), caseF (show ((i.n : Int) == 0) = true ↔ ((i.n : Int) = 0) by simp only [beq_iff_eq])]; unfold makesQ; constructor <;> intro h <;> first | omega | exact h.elim⟩
 refine zsr <| zpn 1 <| zld ⟨b1, 0, none⟩ (.int .i64 i.op) (blk_cell (hM3.get 0 rfl) rfl) <| zpn 2 <| zfe <| zcP ((i.op : Int) == 11) ((i.op : Int) = 11) (by simp only [beq_iff_eq]) (fun c151 => ?_) (fun c151 => ?_)
 obtain ⟨B152, hB152⟩ : ∃ B : Bool, B = decide (i.n ≥ 1) := ⟨_, rfl⟩
 cases B152
 have c152 : ¬ (i.n ≥ 1) := of_decide_eq_false hB152.symm
 refine zkp [(1, (pT b1 0)), (5, (.bool ((i.n : Int) == 0))), (6, (.bool false))] ?_
 intro aC fr
 refine zdr (N := 143) (env0 := [(1, (pT b1 0)), (5, (.bool ((i.n : Int) == 0))), (6, (.bool false))]) (specAt [.det (pT b1 2), .det (.int .i64 i.n), .det (.bool false), .det (.bool false), dU, dU, dU, .det (.bool false), .det (.int .i64 1), .det (.int .i64 1), .det (.bool false)]) fr (la (la (la (la (la (la (la (la (la (la (la lz dP) (dL ⟨b1, 2, none⟩ (.int .i64 i.n) fun w_ hK => (blk_cell ((hM3.then_ hK).get 0 rfl) rfl))) (dC (decide (i.n ≥ 1)) hB152)) dP) dK) dK) dK) dP) dP) dP) dP) ?_
 intro aC w157 vs hK hv fr
 revert aC; refine zkp [(1, (pT b1 0)), (3, (.int .i64 1)), (4, (.int .i64 1)), (5, (.bool false)), (6, (.bool false))] ?_
 have hM158 := hM3.then_ hK
 clear hK hv fr aC hM3; clear vs
 intro aC fr
 exact ⟨1, 1, false, false, fr.kp [1, 3, 4, 5, 6], hM158, by rw [shape_11 (by omega), caseF litF]; unfold makesQ; simp only [false_and, and_false]; constructor <;> intro h <;> first | omega | exact h.elim⟩
 have c152 : i.n ≥ 1 := of_decide_eq_true hB152.symm
 obtain ⟨B161, hB161⟩ : ∃ B : Bool, B = decide (i.n ≤ 999) := ⟨_, rfl⟩
 refine zkp [(1, (pT b1 0)), (5, (.bool ((i.n : Int) == 0))), (6, (.bool false))] ?_
 intro aC fr
 refine zdr (N := 143) (env0 := [(1, (pT b1 0)), (5, (.bool ((i.n : Int) == 0))), (6, (.bool false))]) (specAt [.det (pT b1 2), .det (.int .i64 i.n), .det (.bool true), .det (.bool true), .det (pT b1 2), .det (.int .i64 i.n), .det (.bool B161), .det (.bool B161), .det (.int .i64 1), .det (.int .i64 1), .det (.bool B161)]) fr (la (la (la (la (la (la (la (la (la (la (la lz dP) (dL ⟨b1, 2, none⟩ (.int .i64 i.n) fun w_ hK => (blk_cell ((hM3.then_ hK).get 0 rfl) rfl))) (dC (decide (i.n ≥ 1)) hB152)) dP) dP) (dL ⟨b1, 2, none⟩ (.int .i64 i.n) fun w_ hK => (blk_cell ((hM3.then_ hK).get 0 rfl) rfl))) (dC (decide (i.n ≤ 999)) hB161)) dP) dP) dP) dP) ?_
 intro aC w166 vs hK hv fr
 revert aC; refine zkp [(1, (pT b1 0)), (3, (.int .i64 1)), (4, (.int .i64 1)), (5, (.bool B161)), (6, (.bool false))] ?_
 have hM167 := hM3.then_ hK
 clear hK hv fr aC hM3; clear vs
 have iB161 : B161 = true ↔ ((i.n : Int) ≤ 999) := by rw [hB161]; simp only [decide_eq_true_eq]
 clear hB161
 intro aC fr
 exact ⟨1, 1, B161, false, fr.kp [1, 3, 4, 5, 6], hM167, by rw [shape_11 (by omega), caseF (show B161 = true ↔ ((i.n : Int) ≤ 999) by simp only [iB161])]; unfold makesQ; constructor <;> intro h <;> first | omega | exact h.elim⟩
 refine zsr <| zpn 1 <| zld ⟨b1, 0, none⟩ (.int .i64 i.op) (blk_cell (hM3.get 0 rfl) rfl) <| zpn 2 ?_
 obtain ⟨B170, hB170⟩ : ∃ B : Bool, B = decide ((i.op : Int) ≥ 17) := ⟨_, rfl⟩
 refine zkp [(1, (pT b1 0)), (5, (.bool ((i.n : Int) == 0))), (6, (.bool false)), (89, (.bool (decide ((i.op : Int) ≥ 17))))] ?_
 rw [← hB170]
 have iB170 : B170 = true ↔ ((i.op : Int) ≥ 17) := by rw [hB170]; simp only [decide_eq_true_eq]
 clear hB170
 intro aC fr
 refine zpk 1 5 [90] fr (news := [(90, (cond B170 (pT b1 0) undef))]) (by cases B170 <;> kernel_rfl) ?_
 intro aC fr
 refine From_either (B := B170) (d := (some 91)) (.int .i64 i.op) fr (by cases B170 <;> kernel_rfl) (fun hB hh => ?_) ?_
 cases B170 <;> first | (exact absurd hB (by decide)) | skip
 have c170 : ((i.op : Int) ≥ 17) := iB170.1 rfl
 exact From_ld (some 91) ⟨b1, 0, none⟩ fr (by kernel_rfl) (.int .i64 i.op) (blk_cell (hM3.get 0 rfl) rfl) hh
 intro aC fr
 refine zpk 3 9 [85, 93] fr (news := [(85, (.bool (B170 && decide ((i.op : Int) ≤ 32)))), (93, (.bool (B170 && decide ((i.op : Int) ≤ 32))))]) (by cases B170 <;> kernel_rfl) ?_
 intro aC fr
 revert aC
 refine zfe <| zcP (B170 && decide ((i.op : Int) ≤ 32)) (((i.op : Int) ≥ 17) ∧ ((i.op : Int) ≤ 32)) (by simp only [Bool.and_eq_true, decide_eq_true_eq, iB170]) (fun c179 => ?_) (fun c179 => ?_)
 refine zrp ?_
 intro aC fr
 exact ⟨2, 2, ((i.n : Int) == 0), false, fr.kp [1, 3, 4, 5, 6], hM3, by rw [shape_big (by omega), caseF (show ((i.n : Int) == 0) = true ↔ ((i.n : Int) = 0) by simp only [beq_iff_eq])]; unfold makesQ; constructor <;> intro h <;> first | omega | exact h.elim⟩
 refine zsr <| zpn 1 <| zld ⟨b1, 0, none⟩ (.int .i64 i.op) (blk_cell (hM3.get 0 rfl) rfl) <| zpn 2 ?_
 obtain ⟨B182, hB182⟩ : ∃ B : Bool, B = decide ((i.op : Int) ≥ 41) := ⟨_, rfl⟩
 refine zkp [(1, (pT b1 0)), (5, (.bool ((i.n : Int) == 0))), (6, (.bool false)), (98, (.bool (decide ((i.op : Int) ≥ 41))))] ?_
 rw [← hB182]
 have iB182 : B182 = true ↔ ((i.op : Int) ≥ 41) := by rw [hB182]; simp only [decide_eq_true_eq]
 clear hB182
 intro aC fr
 refine zpk 1 5 [99] fr (news := [(99, (cond B182 (pT b1 0) undef))]) (by cases B182 <;> kernel_rfl) ?_
 intro aC fr
 refine From_either (B := B182) (d := (some 100)) (.int .i64 i.op) fr (by cases B182 <;> kernel_rfl) (fun hB hh => ?_) ?_
 cases B182 <;> first | (exact absurd hB (by decide)) | skip
 have c182 : ((i.op : Int) ≥ 41) := iB182.1 rfl
 exact From_ld (some 100) ⟨b1, 0, none⟩ fr (by kernel_rfl) (.int .i64 i.op) (blk_cell (hM3.get 0 rfl) rfl) hh
 intro aC fr
 refine zpk 3 9 [94, 102] fr (news := [(94, (.bool (B182 && decide ((i.op : Int) ≤ 43)))), (102, (.bool (B182 && decide ((i.op : Int) ≤ 43))))]) (by cases B182 <;> kernel_rfl) ?_
 intro aC fr
 revert aC
 refine zfe <| zcP (B182 && decide ((i.op : Int) ≤ 43)) (((i.op : Int) ≥ 41) ∧ ((i.op : Int) ≤ 43)) (by simp only [Bool.and_eq_true, decide_eq_true_eq, iB182]) (fun c191 => ?_) (fun c191 => ?_)
 refine zrp ?_
 intro aC fr
 exact ⟨1, 1, ((i.n : Int) == 0), false, fr.kp [1, 3, 4, 5, 6], hM3, by rw [shape_big (by omega), caseF (show ((i.n : Int) == 0) = true ↔ ((i.n : Int) = 0) by simp only [beq_iff_eq])]; unfold makesQ; constructor <;> intro h <;> first | omega | exact h.elim⟩
 refine zsp <| zre <| zbr <| zo1 (.bool false) ?_
 have hR : false = true ↔ False := by simp
 have hM194 := hM3.od [] 0
 exact ⟨bool_dec hR (⟨False.elim, fun h => by unfold shapeQ at h; omega⟩), hM194⟩
end Go.Proofs.YtlfbloadopeamaaDoor
namespace Go.Proofs.YtlfbloadopeamaaDoor
open Go.Mor
set_option maxRecDepth 10000 in
theorem rvalid_c (nm : ByteArray) (wk : Bool) (pa va : Int) (A : Option Addr) (c : Nat) (fs : List FBlk) (w : World) (hN : fs.length ≤ 1000) (hok : FOk fs) (hA : RO noS w (.fn A fs)) :
    Calls Tryd.prog 11 #[(fA nm wk pa va A c fs)] w (Ret fun v w' => v = .int .i64 (validN nm pa va fs) ∧ Mem noS w w' []) := by
 have hbl := bsOf_len fs
 have hm : (bsOf fs).length ≤ 1000000 := by omega
 have hB := hA.bs
 refine zen 135 [(fA nm wk pa va A c fs)] Tryd.func11 ?_
 have hM := Mem.init w
 refine zsr <| zbx hM 24 (fA nm wk pa va A c fs) (fV nm wk pa va A c fs) fun b1 w2 hb1 hM3 => ?_
 replace hM3 := hM3.nf
 clear hM
 refine zpn 1 <| zfe <| zsq <| zsr <| zls ⟨b1, 0, none⟩ (fV nm wk pa va A c fs) (blk_cells (hM3.get 0 rfl)) <| zcl (vs := #[(fA nm wk pa va A c fs)]) (rsize_c _ _ _ _ A c fs w2 hN hok (hA.at_ hM3)) ?_
 rintro _ w4 ⟨rfl, hM5x⟩
 have hM5 := hM3.cl hM5x
 refine zpn 2 ?_
 obtain ⟨B6, hB6⟩ : ∃ B : Bool, B = decide ((((sizeF fs : Nat) : Int) : Int) > 20000) := ⟨_, rfl⟩
 refine zkp [(1, (pT b1 0)), (14, (.bool (decide ((((sizeF fs : Nat) : Int) : Int) > 20000))))] ?_
 rw [← hB6]
 have iB6 : B6 = true ↔ ((((sizeF fs : Nat) : Int) : Int) > 20000) := by rw [hB6]; simp only [decide_eq_true_eq]
 clear hB6
 intro aC fr
 refine zpk 1 5 [15] fr (news := [(15, (cond (!B6) (pT b1 3) undef))]) (by cases B6 <;> kernel_rfl) ?_
 intro aC fr
 refine From_either (B := (!B6)) (d := (some 16)) (.int .i64 va) fr (by cases B6 <;> kernel_rfl) (fun hB hh => ?_) ?_
 cases B6 <;> first | (exact absurd hB (by decide)) | skip
 have c6 : ¬ ((((sizeF fs : Nat) : Int) : Int) > 20000) := (fun h => Bool.noConfusion (iB6.2 h) : ¬ ((((sizeF fs : Nat) : Int) : Int) > 20000))
 exact From_ld (some 16) ⟨b1, 3, none⟩ fr (by kernel_rfl) (.int .i64 va) (blk_cell (hM5.get 0 rfl) rfl) hh
 intro aC fr
 refine zpk 2 8 [18] fr (news := [(18, (.bool (B6 || decide ((va : Int) > 20000))))]) (by cases B6 <;> kernel_rfl) ?_
 intro aC fr
 revert aC
 refine zfe <| zcP (B6 || decide ((va : Int) > 20000)) (((((sizeF fs : Nat) : Int) : Int) > 20000) ∨ ((va : Int) > 20000)) (by simp only [Bool.or_eq_true, decide_eq_true_eq, iB6]) (fun c15 => ?_) (fun c15 => ?_)
 have hbig : ((sizeF fs : Int) > 20000 ∨ va > 20000) := by omega
 refine zsp <| zre <| zo1 (.int .i64 12) ?_
 have hM16 := hM5.od [] 0
 exact ⟨congrArg _ (valid_12 hbig), hM16⟩
 have hbig : ¬ ((sizeF fs : Int) > 20000 ∨ va > 20000) := by omega
 refine zsk <| zsq <| zsr <| zpn 1 <| zld ⟨b1, 0, none⟩ (.string nm) (blk_cell (hM5.get 0 rfl) rfl) <| zcl (rname_c nm w4) ?_
 rintro _ w17 ⟨rfl, hM18x⟩
 have hM18 := hM5.cl hM18x
 refine zpn 2 ?_
 obtain ⟨B19, hB19⟩ : ∃ B : Bool, B = (!(decide (nameQ nm))) := ⟨_, rfl⟩
 refine zkp [(1, (pT b1 0)), (23, (.bool (!(decide (nameQ nm)))))] ?_
 rw [← hB19]
 have iB19 : B19 = true ↔ (¬ (nameQ nm)) := by rw [hB19]; simp only [notT, decide_eq_true_eq]
 clear hB19
 intro aC fr
 refine zpk 1 6 [24] fr (news := [(24, (cond (!B19) (pT b1 2) undef))]) (by cases B19 <;> kernel_rfl) ?_
 intro aC fr
 refine From_either (B := (!B19)) (d := (some 25)) (.int .i64 pa) fr (by cases B19 <;> kernel_rfl) (fun hB hh => ?_) ?_
 cases B19 <;> first | (exact absurd hB (by decide)) | skip
 have c19 : ¬ (¬ (nameQ nm)) := (fun h => Bool.noConfusion (iB19.2 h) : ¬ (¬ (nameQ nm)))
 exact From_ld (some 25) ⟨b1, 2, none⟩ fr (by kernel_rfl) (.int .i64 pa) (blk_cell (hM18.get 0 rfl) rfl) hh
 intro aC fr
 refine zpk 3 10 [27, 28] fr (news := [(27, (.bool (B19 || decide ((pa : Int) < 0)))), (28, (.bool (B19 || decide ((pa : Int) < 0))))]) (by cases B19 <;> kernel_rfl) ?_
 intro aC fr
 obtain ⟨B28, hB28⟩ : ∃ B : Bool, B = (B19 || decide ((pa : Int) < 0)) := ⟨_, rfl⟩
 revert aC
 refine zkp [(1, (pT b1 0)), (28, (.bool (B19 || decide ((pa : Int) < 0))))] ?_
 rw [← hB28]
 have iB28 : B28 = true ↔ ((¬ (nameQ nm)) ∨ ((pa : Int) < 0)) := by rw [hB28]; simp only [Bool.or_eq_true, decide_eq_true_eq, iB19]
 clear hB28
 intro aC fr
 refine zpk 1 11 [29] fr (news := [(29, (cond (!B28) (pT b1 2) undef))]) (by cases B28 <;> kernel_rfl) ?_
 intro aC fr
 refine From_either (B := (!B28)) (d := (some 30)) (.int .i64 pa) fr (by cases B28 <;> kernel_rfl) (fun hB hh => ?_) ?_
 cases B28 <;> first | (exact absurd hB (by decide)) | skip
 have c28 : ¬ ((¬ (nameQ nm)) ∨ ((pa : Int) < 0)) := (fun h => Bool.noConfusion (iB28.2 h) : ¬ ((¬ (nameQ nm)) ∨ ((pa : Int) < 0)))
 exact From_ld (some 30) ⟨b1, 2, none⟩ fr (by kernel_rfl) (.int .i64 pa) (blk_cell (hM18.get 0 rfl) rfl) hh
 intro aC fr
 refine zpk 3 15 [32, 33] fr (news := [(32, (.bool (B28 || decide ((pa : Int) > 16)))), (33, (.bool (B28 || decide ((pa : Int) > 16))))]) (by cases B28 <;> kernel_rfl) ?_
 intro aC fr
 obtain ⟨B37, hB37⟩ : ∃ B : Bool, B = (B28 || decide ((pa : Int) > 16)) := ⟨_, rfl⟩
 revert aC
 refine zkp [(1, (pT b1 0)), (33, (.bool (B28 || decide ((pa : Int) > 16))))] ?_
 rw [← hB37]
 have iB37 : B37 = true ↔ (((¬ (nameQ nm)) ∨ ((pa : Int) < 0)) ∨ ((pa : Int) > 16)) := by rw [hB37]; simp only [Bool.or_eq_true, decide_eq_true_eq, iB28]
 clear hB37
 intro aC fr
 refine zpk 1 16 [34] fr (news := [(34, (cond (!B37) (pT b1 2) undef))]) (by cases B37 <;> kernel_rfl) ?_
 intro aC fr
 refine From_either (B := (!B37)) (d := (some 35)) (.int .i64 pa) fr (by cases B37 <;> kernel_rfl) (fun hB hh => ?_) ?_
 cases B37 <;> first | (exact absurd hB (by decide)) | skip
 have c37 : ¬ (((¬ (nameQ nm)) ∨ ((pa : Int) < 0)) ∨ ((pa : Int) > 16)) := (fun h => Bool.noConfusion (iB37.2 h) : ¬ (((¬ (nameQ nm)) ∨ ((pa : Int) < 0)) ∨ ((pa : Int) > 16)))
 exact From_ld (some 35) ⟨b1, 2, none⟩ fr (by kernel_rfl) (.int .i64 pa) (blk_cell (hM18.get 0 rfl) rfl) hh
 intro aC fr
 refine zpk 1 18 [36] fr (news := [(36, (cond (!B37) (pT b1 3) undef))]) (by cases B37 <;> kernel_rfl) ?_
 intro aC fr
 refine From_either (B := (!B37)) (d := (some 37)) (.int .i64 va) fr (by cases B37 <;> kernel_rfl) (fun hB hh => ?_) ?_
 cases B37 <;> first | (exact absurd hB (by decide)) | skip
 have c37 : ¬ (((¬ (nameQ nm)) ∨ ((pa : Int) < 0)) ∨ ((pa : Int) > 16)) := (fun h => Bool.noConfusion (iB37.2 h) : ¬ (((¬ (nameQ nm)) ∨ ((pa : Int) < 0)) ∨ ((pa : Int) > 16)))
 exact From_ld (some 37) ⟨b1, 3, none⟩ fr (by kernel_rfl) (.int .i64 va) (blk_cell (hM18.get 0 rfl) rfl) hh
 intro aC fr
 refine zpk 3 22 [39, 40] fr (news := [(39, (.bool (B37 || decide ((pa : Int) > va)))), (40, (.bool (B37 || decide ((pa : Int) > va))))]) (by cases B37 <;> kernel_rfl) ?_
 intro aC fr
 obtain ⟨B50, hB50⟩ : ∃ B : Bool, B = (B37 || decide ((pa : Int) > va)) := ⟨_, rfl⟩
 revert aC
 refine zkp [(1, (pT b1 0)), (40, (.bool (B37 || decide ((pa : Int) > va))))] ?_
 rw [← hB50]
 have iB50 : B50 = true ↔ ((((¬ (nameQ nm)) ∨ ((pa : Int) < 0)) ∨ ((pa : Int) > 16)) ∨ ((pa : Int) > va)) := by rw [hB50]; simp only [Bool.or_eq_true, decide_eq_true_eq, iB37]
 clear hB50
 intro aC fr
 refine zpk 1 23 [41] fr (news := [(41, (cond (!B50) (pT b1 4) undef))]) (by cases B50 <;> kernel_rfl) ?_
 intro aC fr
 refine From_either (B := (!B50)) (d := (some 42)) (.slice A ((bsOf fs).length) c) fr (by cases B50 <;> kernel_rfl) (fun hB hh => ?_) ?_
 cases B50 <;> first | (exact absurd hB (by decide)) | skip
 have c50 : ¬ ((((¬ (nameQ nm)) ∨ ((pa : Int) < 0)) ∨ ((pa : Int) > 16)) ∨ ((pa : Int) > va)) := (fun h => Bool.noConfusion (iB50.2 h) : ¬ ((((¬ (nameQ nm)) ∨ ((pa : Int) < 0)) ∨ ((pa : Int) > 16)) ∨ ((pa : Int) > va)))
 exact From_ld (some 42) ⟨b1, 4, none⟩ fr (by kernel_rfl) (.slice A ((bsOf fs).length) c) (blk_cell (hM18.get 0 rfl) rfl) hh
 intro aC fr
 refine zpk 4 28 [45, 46] fr (news := [(45, (.bool (B50 || (((((bsOf fs).length : Nat) : Int) : Int) == 0)))), (46, (.bool (B50 || (((((bsOf fs).length : Nat) : Int) : Int) == 0))))]) (by cases B50 <;> kernel_rfl) ?_
 intro aC fr
 obtain ⟨B59, hB59⟩ : ∃ B : Bool, B = (B50 || (((((bsOf fs).length : Nat) : Int) : Int) == 0)) := ⟨_, rfl⟩
 revert aC
 refine zkp [(1, (pT b1 0)), (46, (.bool (B50 || (((((bsOf fs).length : Nat) : Int) : Int) == 0))))] ?_
 rw [← hB59]
 have iB59 : B59 = true ↔ (((((¬ (nameQ nm)) ∨ ((pa : Int) < 0)) ∨ ((pa : Int) > 16)) ∨ ((pa : Int) > va)) ∨ (((((bsOf fs).length : Nat) : Int) : Int) = 0)) := by rw [hB59]; simp only [Bool.or_eq_true, beq_iff_eq, iB50]
 clear hB59
 intro aC fr
 refine zpk 1 29 [47] fr (news := [(47, (cond (!B59) (pT b1 4) undef))]) (by cases B59 <;> kernel_rfl) ?_
 intro aC fr
 refine From_either (B := (!B59)) (d := (some 48)) (.slice A ((bsOf fs).length) c) fr (by cases B59 <;> kernel_rfl) (fun hB hh => ?_) ?_
 cases B59 <;> first | (exact absurd hB (by decide)) | skip
 have c59 : ¬ (((((¬ (nameQ nm)) ∨ ((pa : Int) < 0)) ∨ ((pa : Int) > 16)) ∨ ((pa : Int) > va)) ∨ (((((bsOf fs).length : Nat) : Int) : Int) = 0)) := (fun h => Bool.noConfusion (iB59.2 h) : ¬ (((((¬ (nameQ nm)) ∨ ((pa : Int) < 0)) ∨ ((pa : Int) > 16)) ∨ ((pa : Int) > va)) ∨ (((((bsOf fs).length : Nat) : Int) : Int) = 0)))
 exact From_ld (some 48) ⟨b1, 4, none⟩ fr (by kernel_rfl) (.slice A ((bsOf fs).length) c) (blk_cell (hM18.get 0 rfl) rfl) hh
 intro aC fr
 cases B59
 have c59 : ¬ (((((¬ (nameQ nm)) ∨ ((pa : Int) < 0)) ∨ ((pa : Int) > 16)) ∨ ((pa : Int) > va)) ∨ (((((bsOf fs).length : Nat) : Int) : Int) = 0)) := (fun h => Bool.noConfusion (iB59.2 h) : ¬ (((((¬ (nameQ nm)) ∨ ((pa : Int) < 0)) ∨ ((pa : Int) > 16)) ∨ ((pa : Int) > va)) ∨ (((((bsOf fs).length : Nat) : Int) : Int) = 0)))
 obtain ⟨x0, hx0⟩ := get_of (l := fs) (i := 0) (by omega)
 have hl0 : x0.phis.length ≤ 281474976710656 := (hok.get hx0).lp
 obtain ⟨ad66, rfl⟩ := blocks_some (hM18.ro hB) (bsOf_get hx0)
 revert aC
 refine zix ad66 ((bsOf fs).length) 6 0 <| zpn 1 <| zld ((ad66 : Addr).add ((0 : Int).toNat * 6)) (.slice x0.pA x0.phis.length x0.pc) (fblk_get (hM18.ro hB) rfl hx0 0 _ rfl) <| zpn 3 <| zfe <| zcD ((((x0.phis.length : Nat) : Int) : Int) > 0) (fun c67 => ?_) (fun c67 => ?_)
 refine zsp <| zre <| zo1 (.int .i64 4) ?_
 have hM68 := hM18.od [] 0
 exact ⟨congrArg _ (valid_4 hbig (fun h => by have h1 := h.name; have h2 := h.par; have h3 := h.pos; have h4 := h.phis x0 hx0; unfold nameQ at *; omega)), hM68⟩
 have hfrm : nameQ nm ∧ 0 ≤ pa ∧ pa ≤ 16 ∧ pa ≤ va ∧ 0 < fs.length ∧ x0.phis.length = 0 := by unfold nameQ at *; omega
 obtain ⟨n, hva⟩ : ∃ n : Nat, va = (n : Int) := ⟨va.toNat, by omega⟩
 refine zsk <| zsq <| zsp <| zbk 0 ?_
 intro aC fr
 refine zlp (fun n_ a_ w_ => ∃ (m : Nat), n_ = fs.length - m ∧ Fr a_ 135 [(1, (pT b1 0)), (3, (nV m))] ∧ Mem noS w w_ [.blk b1 24 (fV nm wk pa va (some ad66) c fs)] ∧ (m ≤ fs.length) ∧ (∀ (i : Nat) (x : FBlk), i < m → fs[i]? = some x → endsQ ((bsOf fs).length : Int) x) ∧ (ShapesTo fs m)) (n := _) ⟨0, rfl, fr.kp [1, 3], hM18, by omega, fun _ _ h => absurd h (Nat.not_lt_zero _), fun _ _ h => absurd h (Nat.not_lt_zero _)⟩ ?_
 clear fr aC hM18; rintro n aC w71 ⟨m, rfl, fr, hM72, hm1, hen, hsh⟩
 revert aC
 refine zsq <| zsr <| zpn 2 <| zld ⟨b1, 4, none⟩ (.slice (some ad66) ((bsOf fs).length) c) (blk_cell (hM72.get 0 rfl) rfl) <| zpn 2 <| zfe <| zcD (((m : Int) : Int) < (((bsOf fs).length : Nat) : Int)) (fun c75 => ?_) (fun c75 => ?_)
 refine zsk <| zsq <| zbk 1 <| zsq <| zsq ?_
 obtain ⟨x, hx⟩ := get_of (l := fs) (i := m) (by omega)
 have hl1 : x.phis.length ≤ 281474976710656 := (hok.get hx).lp
 have hl2 : x.insts.length ≤ 281474976710656 := (hok.get hx).li
 obtain ⟨Ben, hBen⟩ : ∃ B : Bool, B = decide (endsQ ((bsOf fs).length : Int) x) := ⟨_, rfl⟩
 refine zkp [(1, (pT b1 0)), (3, (nV m))] ?_
 intro aC fr
 refine zdr (N := 135) (env0 := [(1, (pT b1 0)), (3, (nV m))]) (specAt [.det (fA nm wk pa va (some ad66) c fs), .det (pT b1 4), .det (.slice (some ad66) ((bsOf fs).length) c), .det (nV m), .det (.pointer (some ((ad66 : Addr).add (((m : Int)).toNat * 6)))), .det (xA x), .det (.bool Ben), .det (.bool (!Ben))]) fr (la (la (la (la (la (la (la (la lz (dS ⟨b1, 0, none⟩ (fV nm wk pa va (some ad66) c fs) fun w_ hK => (blk_cells ((hM72.then_ hK).get 0 rfl)))) dP) (dL ⟨b1, 4, none⟩ (.slice (some ad66) ((bsOf fs).length) c) fun w_ hK => (blk_cell ((hM72.then_ hK).get 0 rfl) rfl))) dP) (dI ad66 ((bsOf fs).length) 6 (m : Int))) (dS ((ad66 : Addr).add (((m : Int)).toNat * 6)) (xV x) fun w_ hK => (fblk_get ((hM72.then_ hK).ro hB) rfl hx))) (dD (fun w_ hK => rends_c (.string nm) (.bool wk) (.int .i64 pa) (.int .i64 va) (some ad66) (bsOf fs).length c x w_) (congrArg Value.bool hBen.symm))) dP) ?_
 intro aC w80 vs hK hv fr
 revert aC; refine zkp [(1, (pT b1 0)), (3, (nV m)), (69, (.bool (!Ben)))] ?_
 have hM81 := hM72.then_ hK
 clear hK hv fr aC hM72; clear vs
 cases Ben
 have cen : (decide (endsQ ((bsOf fs).length : Int) x)) = false := hBen.symm
 refine zcT <| zsp <| zre <| zbr <| zbr <| zo1 (.int .i64 4) ?_
 have hM82 := hM81.od [] 0
 exact ⟨congrArg _ (valid_4 hbig (fun h => of_decide_eq_false cen (by rw [hbl]; exact h.ends x (List.mem_of_getElem? hx)))), hM82⟩
 have cen : (decide (endsQ ((bsOf fs).length : Int) x)) = true := hBen.symm
 have heq := of_decide_eq_true cen
 refine zcF <| zsk <| zsp <| zbk 2 ?_
 intro aC fr
 refine zlp (fun n_ a_ w_ => ∃ (j : Nat), n_ = x.insts.length - j ∧ Fr a_ 135 [(1, (pT b1 0)), (3, (nV m)), (4, (nV j))] ∧ Mem noS w w_ [.blk b1 24 (fV nm wk pa va (some ad66) c fs)] ∧ (j ≤ x.insts.length) ∧ (ShapesIn x j)) (n := _) ⟨0, rfl, fr.kp [1, 3, 4], hM81, by omega, fun _ _ h => absurd h (Nat.not_lt_zero _)⟩ ?_
 clear fr aC hM81; rintro n aC w85 ⟨j, rfl, fr, hM86, hj, hsi⟩
 revert aC
 refine zsq <| zsr <| zpn 2 <| zld ⟨b1, 4, none⟩ (.slice (some ad66) ((bsOf fs).length) c) (blk_cell (hM86.get 0 rfl) rfl) <| zpn 1 <| zix ad66 ((bsOf fs).length) 6 (m : Int) <| zpn 1 <| zld (((ad66 : Addr).add (((m : Int)).toNat * 6)).add 1) (.slice x.iA x.insts.length x.ic) (fblk_get (hM86.ro hB) rfl hx 1 _ rfl) <| zpn 2 <| zfe <| zcD (((j : Int) : Int) < ((x.insts.length : Nat) : Int)) (fun c89 => ?_) (fun c89 => ?_)
 refine zsk <| zsq <| zbk 3 <| zsr ?_
 obtain ⟨p, hp3⟩ := get_of (l := x.insts) (i := j) (by omega)
 have hpo : p.Ok := (hok.get hx).insts p (List.mem_of_getElem? hp3)
 refine zpn 1 <| zld ⟨b1, 4, none⟩ (.slice (some ad66) ((bsOf fs).length) c) (blk_cell (hM86.get 0 rfl) rfl) <| zpn 1 <| zix ad66 ((bsOf fs).length) 6 (m : Int) <| zpn 1 <| zld (((ad66 : Addr).add (((m : Int)).toNat * 6)).add 1) (.slice x.iA x.insts.length x.ic) (fblk_get (hM86.ro hB) rfl hx 1 _ rfl) <| zkp [(1, (pT b1 0)), (3, (nV m)), (4, (nV j)), (86, (.slice x.iA x.insts.length x.ic))] <| zpn 1 ?_
 obtain ⟨ad90, had91⟩ := rds_some (hM86.ro (hA.insts hx)) (cs := p.cells) (i := j) (by simp [hp3])
 intro aC fr
 refine From_ixA (some 88) x.iA ad90 x.insts.length 5 (j : Int) fr (by kernel_rfl) had91 (by omega) (by omega) ?_
 intro aC fr
 revert aC
 refine zls ((ad90 : Addr).add (((j : Int)).toNat * 5)) (iV p) (ins_get (hM86.ro (hA.insts hx)) had91 hp3) <| zcl (rshape_c p w85 hpo) ?_
 rintro _ w96 ⟨rfl, hM97x⟩
 have hM97 := hM86.cl hM97x
 refine zpn 1 <| zfe <| zcP (!(decide (shapeQ p))) (¬ (shapeQ p)) (by simp only [notT, decide_eq_true_eq]) (fun c98 => ?_) (fun c98 => ?_)
 refine zsp <| zre <| zbr <| zbr <| zbr <| zbr <| zo1 (.int .i64 4) ?_
 have hM99 := hM97.od [] 0
 exact ⟨congrArg _ (valid_4 hbig (fun h => c98 (h.vals.1 x (List.mem_of_getElem? hx) p (List.mem_of_getElem? hp3)))), hM99⟩
 have hsq := Classical.not_not.1 c98
 refine zsk <| zrg <| zpn 1 <| zar ((j : Int) + 1) <| zpn 1 <| zfe ?_
 intro aC fr
 exact ⟨x.insts.length - (j + 1), by omega, j + 1, rfl, fr.kp [1, 3, 4], hM97, by omega, hsi.next hp3 hsq⟩
 refine zex 2 <| zbh <| zrg <| zpn 1 <| zar ((m : Int) + 1) <| zpn 1 <| zfe ?_
 have hje : j = x.insts.length := by omega
 rw [hje] at hsi
 intro aC fr
 exact ⟨fs.length - (m + 1), by omega, m + 1, rfl, fr.kp [1, 3], hM86, by omega, ends_next hen hx heq, hsh.next hx hsi⟩
 refine zex 0 <| zbh <| zsr <| zls ⟨b1, 0, none⟩ (fV nm wk pa va (some ad66) c fs) (blk_cells (hM72.get 0 rfl)) <| zcl (rmade_c n nm wk pa va (some ad66) c fs w71 hN hok hva (by omega) (by omega) (hA.at_ hM72)) ?_
 rintro _ w104 ⟨Bv, Am, nM, cM, gm, l, rfl, hBv, htab, hM105x⟩
 have hM105 := hM72.cl hM105x
 refine zpn 5 <| zfe <| zsr <| zls ⟨b1, 0, none⟩ (fV nm wk pa va (some ad66) c fs) (blk_cells (hM105.get 0 rfl)) <| zcl (vs := #[(fA nm wk pa va (some ad66) c fs), (.int .i64 (-1))]) (walk_c _ _ _ _ (some ad66) c (bsOf fs) (-1) w104 hm (hB.at_ hM105)) ?_
 rintro _ w108 ⟨A106, c107, rfl, hM109x⟩
 have hM109 := hM105.cl hM109x
 refine zpn 1 <| zfe <| zsq <| zsr ?_
 have hwl := walkL_len (bsOf fs) (-1)
 obtain ⟨gw, rfl⟩ := row_some (hM109.get 2 rfl) (by omega)
 refine zpn 1 <| zfe <| zbk 4 ?_
 intro aC fr
 refine zlp (fun n_ a_ w_ => ∃ (k : Nat) (Bk : Bool), n_ = fs.length - k ∧ Fr a_ 135 [(1, (pT b1 0)), (5, (.slice Am nM cM)), (6, (.bool Bk)), (7, (.slice (sM gw) ((bsOf fs).length) c107)), (8, (nV k))] ∧ Mem noS w w_ [.blk b1 24 (fV nm wk pa va (some ad66) c fs), .row 90 2 (sM gm) n n (mdc l), .row 4 1 (sM gw) ((bsOf fs).length) c107 (bools (walkL (bsOf fs) (-1)))] ∧ (k ≤ fs.length) ∧ (Bk = true ↔ Bv = true ∧ ∀ i : Nat, i < k → walkB (bsOf fs) (-1) (i : Int) = true)) (n := _) ⟨0, Bv, rfl, fr.kp [1, 5, 6, 7, 8], hM109, by omega, ⟨fun h => ⟨h, fun _ h => absurd h (Nat.not_lt_zero _)⟩, fun h => h.1⟩⟩ ?_
 clear fr aC hM109; rintro n aC w112 ⟨k, Bk, rfl, fr, hM113, hk, hbk⟩
 revert aC
 refine zsq <| zsp <| zcD (((k : Int) : Int) < (((bsOf fs).length : Nat) : Int)) (fun c116 => ?_) (fun c116 => ?_)
 refine zsk <| zsq <| zbk 5 <| zrg <| zpn 2 ?_
 obtain ⟨B117, hB117⟩ : ∃ B : Bool, B = Bk := ⟨_, rfl⟩
 refine zkp [(1, (pT b1 0)), (5, (.slice Am nM cM)), (7, (.slice (sM gw) ((bsOf fs).length) c107)), (8, (nV k)), (106, (.bool Bk))] ?_
 rw [← hB117]
 have iB117 : B117 = true ↔ (Bk = true) := by rw [hB117]
 clear hB117
 intro aC fr
 refine zpk 2 4 [107, 108] fr (news := [(107, (cond B117 (.slice (sM gw) ((bsOf fs).length) c107) undef)), (108, (cond B117 (nV k) undef))]) (by cases B117 <;> kernel_rfl) ?_
 intro aC fr
 refine From_either (B := B117) (d := (some 109)) (.pointer (some ((⟨gw, 0, none⟩ : Addr).add (((k : Int)).toNat * 1)))) fr (by cases B117 <;> kernel_rfl) (fun hB hh => ?_) ?_
 cases B117 <;> first | (exact absurd hB (by decide)) | skip
 have c117 : (Bk = true) := iB117.1 rfl
 exact From_ix (some 109) ⟨gw, 0, none⟩ ((bsOf fs).length) 1 (k : Int) fr (by kernel_rfl) (by omega) (by omega) hh
 intro aC fr
 refine From_either (B := B117) (d := (some 110)) (.bool (walkB (bsOf fs) (-1) (k : Int))) fr (by cases B117 <;> kernel_rfl) (fun hB hh => ?_) ?_
 cases B117 <;> first | (exact absurd hB (by decide)) | skip
 have c117 : (Bk = true) := iB117.1 rfl
 exact From_ld (some 110) ((⟨gw, 0, none⟩ : Addr).add (((k : Int)).toNat * 1)) fr (by kernel_rfl) (.bool (walkB (bsOf fs) (-1) (k : Int))) (by rw [← walkL_get (bs := bsOf fs) (bar := -1) (by omega)]; exact rd_get1 (row_rd (hM113.get 2 rfl)) rfl (bools_get (by omega))) hh
 intro aC fr
 refine zpk 2 8 [6, 111] fr (news := [(6, (.bool (B117 && (walkB (bsOf fs) (-1) (k : Int))))), (111, (.bool (B117 && (walkB (bsOf fs) (-1) (k : Int)))))]) (by cases B117 <;> kernel_rfl) ?_
 intro aC fr
 revert aC
 refine zfe <| zrg <| zpn 1 <| zar ((k : Int) + 1) <| zpn 1 <| zfe ?_
 intro aC fr
 exact ⟨fs.length - (k + 1), by omega, k + 1, (B117 && (walkB (bsOf fs) (-1) (k : Int))), rfl, fr.kp [1, 5, 6, 7, 8], hM113, by omega, walk_step hbk iB117⟩
 refine zex 4 <| zbh <| zsq <| zsr <| zpn 3 ?_
 obtain ⟨B130, hB130⟩ : ∃ B : Bool, B = (!Bk) := ⟨_, rfl⟩
 refine zkp [(1, (pT b1 0)), (5, (.slice Am nM cM)), (114, (.bool (!Bk)))] ?_
 rw [← hB130]
 have iB130 : B130 = true ↔ (¬ (Bk = true)) := by rw [hB130]; simp only [notT]
 clear hB130
 cases B130
 have c130 : Bk = true := Classical.not_not.1 ((fun h => Bool.noConfusion (iB130.2 h) : ¬ (¬ (Bk = true))))
 have hbt : Bk = true := by cases Bk <;> first | rfl | (exact absurd rfl c130) | (exact absurd c130 (by decide))
 refine zls ⟨b1, 0, none⟩ (fV nm wk pa va (some ad66) c fs) (blk_cells (hM113.get 0 rfl)) <| zcl (vs := #[(fA nm wk pa va (some ad66) c fs), (.int .i64 0)]) (rsources_c _ _ _ _ (some ad66) c (bsOf fs) 0 w112 hm (hB.at_ hM113)) ?_
 rintro _ w133 ⟨A131, c132, rfl, hM134x⟩
 have hM134 := hM113.cl hM134x
 refine zpn 3 <| zfe <| zcD (((((srcs (bsOf fs) 0).length : Nat) : Int) : Int) > 0) (fun c135 => ?_) (fun c135 => ?_)
 refine zsp <| zre <| zo1 (.int .i64 4) ?_
 have hM136 := hM134.od [] 0
 exact ⟨congrArg _ (valid_4 hbig (fun h => by have := h.src; omega)), hM136⟩
 refine zsk <| zsr ?_
 obtain ⟨hbv, hwk⟩ := hbk.1 hbt
 obtain ⟨e1, e2, e3, htb⟩ := htab hbv
 subst e1
 have e4 := e2.symm
 subst e4
 have e5 := e3.symm
 subst e5
 have hall : (orderL (bsOf fs)).length = fs.length := by rw [← bsOf_len fs]; exact all_walk.2 (fun i hi => hwk i (by omega))
 have hvq : VQ pa va fs := ⟨((show m = fs.length by omega) ▸ hsh : ShapesTo fs fs.length).all, hBv.1 hbv⟩
 have hpos : 0 < fs.length := by omega
 have hag := agree_ref hpos hall
 have hsrc0 : (srcs (bsOf fs) 0).length = 0 := by omega
 refine zls ⟨b1, 0, none⟩ (fV nm wk pa va (some ad66) c fs) (blk_cells (hM134.get 0 rfl)) <| zcl (vs := #[(fA nm wk pa va (some ad66) c fs)]) (over_c _ _ _ _ (some ad66) c (bsOf fs) w133 hm (hB.at_ hM134)) ?_
 rintro _ w140 ⟨A137, c138, rows139, rfl, hfrows139, hM141x⟩
 have hM141 := hM134.cl hM141x
 refine zpn 1 <| zfe <| zsq <| zsp <| zbk 6 ?_
 intro aC fr
 refine zlp (fun n_ a_ w_ => ∃ (k2 : Nat), n_ = fs.length - k2 ∧ Fr a_ 135 [(1, (pT b1 0)), (5, (.slice (sM gm) n n)), (9, (.slice A137 ((bsOf fs).length) c138)), (10, (nV k2))] ∧ Mem noS w w_ [.blk b1 24 (fV nm wk pa va (some ad66) c fs), .row 90 2 (sM gm) n n (mdc l), .row 4 1 (sM gw) ((bsOf fs).length) c107 (bools (walkL (bsOf fs) (-1))), .row 3 1 A131 ((srcs (bsOf fs) 0).length) c132 (ints (srcs (bsOf fs) 0)), .fam 4 rows139, .row 58 1 A137 ((bsOf fs).length) c138 (slv rows139)] ∧ (k2 ≤ fs.length) ∧ (∀ j, j < k2 → readsQ (overD (bsOf fs)) (fun _ => 20000) finR pa va fs j)) (n := _) ⟨0, rfl, fr.kp [1, 5, 9, 10], hM141, by omega, fun _ h => absurd h (Nat.not_lt_zero _)⟩ ?_
 clear fr aC hM141; rintro n aC w144 ⟨k2, rfl, fr, hM145, hk2, hrd⟩
 revert aC
 refine zsq <| zsr <| zpn 2 <| zld ⟨b1, 4, none⟩ (.slice (some ad66) ((bsOf fs).length) c) (blk_cell (hM145.get 0 rfl) rfl) <| zpn 2 <| zfe <| zcD (((k2 : Int) : Int) < (((bsOf fs).length : Nat) : Int)) (fun c148 => ?_) (fun c148 => ?_)
 refine zsk <| zsq <| zbk 7 <| zsr <| zls ⟨b1, 0, none⟩ (fV nm wk pa va (some ad66) c fs) (blk_cells (hM145.get 0 rfl)) <| zpn 3 <| zcl (rreads_c nm wk gm n c138 k2 A137 pa va (some ad66) c fs l rows139 w144 hN (by omega) hok (hA.at_ hM145) (hM145.own_ro 1 rfl) (hM145.own_ro 4 rfl) (hM145.own_ro 5 rfl) hfrows139 hva htb (fun d hd => (hvq.2.1 d hd).1)) ?_
 rintro _ w149 ⟨rfl, hM150x⟩
 have hM150 := hM145.cl hM150x
 refine zpn 1 <| zfe <| zcP (!(decide (readsQ (overD (bsOf fs)) (fun _ => 20000) finR pa va fs k2))) (¬ (readsQ (overD (bsOf fs)) (fun _ => 20000) finR pa va fs k2)) (by simp only [notT, decide_eq_true_eq]) (fun c151 => ?_) (fun c151 => ?_)
 refine zsp <| zre <| zbr <| zbr <| zo1 (.int .i64 4) ?_
 have hM152 := hM150.od [] 0
 exact ⟨congrArg _ (valid_4 hbig (fun h => c151 (hag.symm.readsQ (fun x hx hR => hR) (h.reads k2 (by omega))))), hM152⟩
 have hrq := Classical.not_not.1 c151
 refine zsk <| zrg <| zpn 1 <| zar ((k2 : Int) + 1) <| zpn 1 <| zfe ?_
 intro aC fr
 exact ⟨fs.length - (k2 + 1), by omega, k2 + 1, rfl, fr.kp [1, 5, 9, 10], hM150, by omega, lt_succ_cases hrd hrq⟩
 refine zex 6 <| zbh <| zsp <| zre <| zo1 (.int .i64 0) ?_
 have hM155 := hM145.od [] 0
 exact ⟨congrArg _ (valid_0 hbig ⟨hfrm.1, ⟨hfrm.2.1, hfrm.2.2.1, hfrm.2.2.2.1⟩, hpos, fun x hx => by rw [hx0] at hx; injection hx with hx; subst hx; exact hfrm.2.2.2.2.2, hsrc0, hall, fun x hx => by obtain ⟨i, hi⟩ := List.mem_iff_getElem?.1 hx; have := hen i x (by have := (List.getElem?_eq_some_iff.1 hi).1; omega) hi; rwa [hbl] at this, hvq, fun j hj => hag.readsQ (fun x hx hR => hR) (hrd j (by omega))⟩), hM155⟩
 have c130 : Bk = false := Bool.eq_false_iff.2 (iB130.1 rfl)
 refine zpn 5 <| zfe <| zcT <| zsp <| zre <| zo1 (.int .i64 4) ?_
 have hM156 := hM113.od [] 0
 exact ⟨congrArg _ (valid_4 hbig (fun h => absurd (hbk.2 ⟨hBv.2 h.vals.2, fun i hi => all_walk.1 (by rw [bsOf_len]; exact h.all) i (by omega)⟩) (fun e => by rw [e] at c130; exact absurd c130 (by decide)))), hM156⟩
 have c59 : (((((¬ (nameQ nm)) ∨ ((pa : Int) < 0)) ∨ ((pa : Int) > 16)) ∨ ((pa : Int) > va)) ∨ (((((bsOf fs).length : Nat) : Int) : Int) = 0)) := iB59.1 rfl
 revert aC
 refine zpn 6 <| zfe <| zcT <| zsp <| zre <| zo1 (.int .i64 4) ?_
 have hM157 := hM18.od [] 0
 exact ⟨congrArg _ (valid_4 hbig (fun h => by have h1 := h.name; have h2 := h.par; have h3 := h.pos; unfold nameQ at *; omega)), hM157⟩
end Go.Proofs.YtlfbloadopeamaaDoor
namespace Go.Proofs.YtlfbloadopeamaaDoor
open Go.Mor
set_option maxRecDepth 10000 in
theorem newset_c (n : Nat) (w : World) (hn : n ≤ 1000000) :
    Calls Tryd.prog 51 #[(nV n)] w (Ret fun v w' => ∃ g, v = .slice (sM g) ((n + 63) / 64) ((n + 63) / 64) ∧ Mem noS w w' [.row 86 1 (sM g) ((n + 63) / 64) ((n + 63) / 64) (u64s (List.replicate ((n + 63) / 64) 0))]) := by
 refine zen 8 [(nV n)] Tryd.func51 ?_
 have hM := Mem.init w
 refine zsp <| zsr <| zpn 1 <| zar ((n : Int) + 64) <| zar (((n : Int) + 64) - 1) ?_
 intro aC fr
 refine From_binI (by kernel_rfl : coreAt _ 3 = some (some 6, (.binOp .quo 3 (.tmp 5) (.const (.int .i64 64)) 3), 3, none)) fr (by kernel_rfl) (by kernel_rfl) (k' := 4) rfl (kd := .i64) (kd' := .i64) (i := (n : Int) + 64 - 1) (j := 64) (z := .int .i64 ((((n + 63) / 64) : Nat) : Int)) (by kernel_rfl) (by kernel_rfl) (fun w => by have h := bin_quoN (P := Tryd.prog) (t := 3) (i := n + 63) 64 (by omega) (by decide) w; rw [show ((n + 63 : Nat) : Int) = (n : Int) + 64 - 1 by omega] at h; exact h) ?_
 intro aC ea fr; clear ea
 refine From_make1 (by kernel_rfl : coreAt _ 4 = some (some 7, (.makeSlice 83 (.tmp 6) (.tmp 6)), 83, none)) fr (by kernel_rfl) (by kernel_rfl) (k' := 5) rfl (e := 86) (bytes := 8) (z := (.int .u64 0)) (n := ((n + 63) / 64)) (i := ((((n + 63) / 64) : Nat) : Int)) (by kernel_rfl) (by kernel_rfl) rfl (by kernel_rfl) (by kernel_rfl) rfl (by omega) (by simp only [maxLen]; omega) hM ?_
 intro b5 w6 hb5 _ hM7 _ aC ea fr; clear ea
 replace hM7 := hM7.nf
 clear hM
 revert aC
 refine zpn 1 <| zfe <| zre <| zo1 (.slice (sM b5) ((n + 63) / 64) ((n + 63) / 64)) ?_
 exact ⟨b5, rfl, hM7.cast (by simp [u64s])⟩
set_option maxRecDepth 10000 in
theorem lput_c (ws : List Nat) (n i : Nat) (A : Option Addr) (c : Nat) (w : World) (hfit : Fit ws) (hi0 : i ≤ 1000000) (hn : n = ws.length) (hi : i / 64 < ws.length) (hrow : (Res.row 86 1 A n c (u64s ws)).holds w) :
    Calls Tryd.prog 52 #[(.slice A n c), (nV i)] w (Ret fun v w' => v = .tuple #[] ∧ Mem (Res.row 86 1 A n c (u64s ws)).fp w w' [.row 86 1 A n c (u64s (putw ws i))]) := by
 subst hn
 refine zen 14 [(.slice A ws.length c), (nV i)] Tryd.func52 ?_
 have hM := Mem.initS hrow
 obtain ⟨g0, hg0⟩ := row_some (hM.get 0 rfl) (show 0 < ws.length by omega)
 subst hg0
 refine zkp [(0, (.slice (sM g0) ws.length c)), (1, (nV i))] ?_
 intro aC fr
 refine zdj (N := 14) (env0 := [(0, (.slice (sM g0) ws.length c)), (1, (nV i))]) (specAt [.det (.slice (sM g0) ws.length c), .det (nV i), .det (.int .i64 ((i / 64 : Nat) : Int)), .det (.pointer (some ((⟨g0, 0, none⟩ : Addr).add ((((i / 64 : Nat) : Int)).toNat * 1)))), .det (.int .u64 ((ws.getD (i / 64) 0 : Nat) : Int)), .det (nV i), .det (.int .i64 ((i % 64 : Nat) : Int)), .det (.int .u64 ((2 ^ (i % 64) : Nat) : Int)), .det (.int .u64 ((ws.getD (i / 64) 0 ||| 2 ^ (i % 64) : Nat) : Int)), .det (.pointer (some ((⟨g0, 0, none⟩ : Addr).add ((((i / 64 : Nat) : Int)).toNat * 1)))), .det undef]) (fun ls vs w_ => match ls 10 with | true => (Mem (Res.row 86 1 (sM g0) ws.length c (u64s ws)).fp w w_ [.row 86 1 (sM g0) ws.length c (u64s (putw ws i))]) | false => (Mem (Res.row 86 1 (sM g0) ws.length c (u64s ws)).fp w w_ [.row 86 1 (sM g0) ws.length c (u64s ws)])) fr (plain_ok (.det (.det (.det (.det (.det (.det (.det (.det (.det (.det (.det .nil)))))))))))) (hM.then_ (Mem.drew _)) (la (la (la (la (la (la (la (la (la (la (la lz (dPJ fun _ _ _ _ h => h)) (dPJ fun _ _ _ _ h => h)) ?_) (dIJ ⟨g0, 0, none⟩ ws.length 1 ((i / 64 : Nat) : Int) fun _ _ _ _ h => h)) (dLJ ((⟨g0, 0, none⟩ : Addr).add ((((i / 64 : Nat) : Int)).toNat * 1)) (.int .u64 ((ws.getD (i / 64) 0 : Nat) : Int)) (fun _ _ _ _ h => h) ?_)) (dPJ fun _ _ _ _ h => h)) ?_) ?_) ?_) (dIJ ⟨g0, 0, none⟩ ws.length 1 ((i / 64 : Nat) : Int) fun _ _ _ _ h => h)) ?_) ?_
 intro aa_ w_ ls vs rest_ hJ hi_ hc_ hp hF
 refine ⟨true, opok_guard (g0 := none) (by kernel_rfl) (by kernel_rfl), fun _ => ?_, fun h => Bool.noConfusion h⟩
 replace hF : Fr aa_ 14 [(5, (nV i))] := hF.kp [5]
 refine From_binI (by kernel_rfl : coreAt _ 0 = some (some 6, (.binOp .quo 3 (.tmp 5) (.const (.int .i64 64)) 3), 3, none)) hF (by kernel_rfl) (by kernel_rfl) (k' := 1) rfl (kd := .i64) (kd' := .i64) (i := (i : Int)) (j := 64) (z := .int .i64 ((i / 64 : Nat) : Int)) (by kernel_rfl) (by kernel_rfl) (fun w => bin_quoN 64 (by omega) (by decide) w) ?_
 intro a2 ea _
 refine From_end (by kernel_rfl) ?_; exact op_doneJ (d := some 6) (by kernel_rfl) ea rfl hJ
 intro w_ ls vs hJ hi_ hc_ hp
 have f10 : ls 10 = false := notyet hc_ hi_ (n := 11) (by kernel_rfl)
 have hM_ := hJ
 simp only [f10] at hM_
 exact (rd_get1 (row_rd (hM_.get 0 rfl)) rfl (u64s_get (by omega)))
 intro aa_ w_ ls vs rest_ hJ hi_ hc_ hp hF
 refine ⟨true, opok_guard (g0 := none) (by kernel_rfl) (by kernel_rfl), fun _ => ?_, fun h => Bool.noConfusion h⟩
 replace hF : Fr aa_ 14 [(9, (nV i))] := hF.kp [9]
 refine From_binI (by kernel_rfl : coreAt _ 0 = some (some 10, (.binOp .rem 3 (.tmp 9) (.const (.int .i64 64)) 3), 3, none)) hF (by kernel_rfl) (by kernel_rfl) (k' := 1) rfl (kd := .i64) (kd' := .i64) (i := (i : Int)) (j := 64) (z := .int .i64 ((i % 64 : Nat) : Int)) (by kernel_rfl) (by kernel_rfl) (fun w => bin_remN 64 (by decide) w) ?_
 intro a2 ea _
 refine From_end (by kernel_rfl) ?_; exact op_doneJ (d := some 10) (by kernel_rfl) ea rfl hJ
 intro aa_ w_ ls vs rest_ hJ hi_ hc_ hp hF
 refine ⟨true, opok_guard (g0 := none) (by kernel_rfl) (by kernel_rfl), fun _ => ?_, fun h => Bool.noConfusion h⟩
 replace hF : Fr aa_ 14 [(10, (.int .i64 ((i % 64 : Nat) : Int)))] := hF.kp [10]
 refine From_binI (by kernel_rfl : coreAt _ 0 = some (some 11, (.binOp .shl 86 (.const (.int .u64 1)) (.tmp 10) 3), 86, none)) hF (by kernel_rfl) (by kernel_rfl) (k' := 1) rfl (kd := .u64) (kd' := .i64) (i := 1) (j := ((i % 64 : Nat) : Int)) (z := .int .u64 ((2 ^ (i % 64) : Nat) : Int)) (by kernel_rfl) (by kernel_rfl) (fun w => bin_shl (Nat.mod_lt _ (by decide)) w) ?_
 intro a2 ea _
 refine From_end (by kernel_rfl) ?_; exact op_doneJ (d := some 11) (by kernel_rfl) ea rfl hJ
 intro aa_ w_ ls vs rest_ hJ hi_ hc_ hp hF
 refine ⟨true, opok_guard (g0 := none) (by kernel_rfl) (by kernel_rfl), fun _ => ?_, fun h => Bool.noConfusion h⟩
 replace hF : Fr aa_ 14 [(8, (.int .u64 ((ws.getD (i / 64) 0 : Nat) : Int))), (11, (.int .u64 ((2 ^ (i % 64) : Nat) : Int)))] := hF.kp [8, 11]
 refine From_binI (by kernel_rfl : coreAt _ 0 = some (some 12, (.binOp .or 86 (.tmp 8) (.tmp 11) 86), 86, none)) hF (by kernel_rfl) (by kernel_rfl) (k' := 1) rfl (kd := .u64) (kd' := .u64) (i := ((ws.getD (i / 64) 0 : Nat) : Int)) (j := ((2 ^ (i % 64) : Nat) : Int)) (z := .int .u64 ((ws.getD (i / 64) 0 ||| 2 ^ (i % 64) : Nat) : Int)) (by kernel_rfl) (by kernel_rfl) (fun w => bin_or (hfit.get _) (two_pow_le (Nat.mod_lt _ (by decide))) w) ?_
 intro a2 ea _
 refine From_end (by kernel_rfl) ?_; exact op_doneJ (d := some 12) (by kernel_rfl) ea rfl hJ
 intro aa_ w_ ls vs rest_ hJ hi_ hc_ hp hF
 refine ⟨true, opok_guard (g0 := none) (by kernel_rfl) (by kernel_rfl), fun _ => ?_, fun h => Bool.noConfusion h⟩
 replace hF : Fr aa_ 14 [(12, (.int .u64 ((ws.getD (i / 64) 0 ||| 2 ^ (i % 64) : Nat) : Int))), (13, (.pointer (some ((⟨g0, 0, none⟩ : Addr).add ((((i / 64 : Nat) : Int)).toNat * 1)))))] := hF.kp [12, 13]
 have f10 : ls 10 = false := hi_
 have hM_ := hJ
 simp only [f10] at hM_
 refine From_store_row (by kernel_rfl : coreAt _ 0 = some (none, (.store 86 (.tmp 13) (.tmp 12)), 0, none)) hF (by kernel_rfl) (by kernel_rfl) (k' := 1) rfl (ad := (⟨g0, 0, none⟩ : Addr)) (j := ((((i / 64 : Nat) : Int)).toNat * 1)) (e := 86) (size := 1) (n := ws.length) (cap := c) (v := (.int .u64 ((ws.getD (i / 64) 0 ||| 2 ^ (i % 64) : Nat) : Int))) (xs := (u64s ws)) (ad' := ((⟨g0, 0, none⟩ : Addr).add ((((i / 64 : Nat) : Int)).toNat * 1))) (by kernel_rfl) rfl (by kernel_rfl) (by kernel_rfl) rfl hM_ 0 rfl (by omega) ?_
 intro w2 hm2 _ a2 ea _
 refine From_end (by kernel_rfl) ?_; refine op_doneJ (d := none) (by kernel_rfl) ea rfl ?_
 show _
 exact hm2.cast (by show [Res.row _ _ _ _ _ _] = _; rw [putw, u64s_set, Int.toNat_natCast, Nat.mul_one])
 intro aC w5 ls vs hall hM6 hv fr
 simp only [show ls 10 = true from hall 10 (by decide)] at hM6
 revert aC; refine zkp [] ?_
 clear hall hv fr aC hM; clear vs ls
 refine zo0 ?_
 exact ⟨rfl, hM6⟩
set_option maxRecDepth 10000 in
theorem ltake_c (ws : List Nat) (n i : Nat) (A : Option Addr) (c : Nat) (w : World) (_hfit : Fit ws) (hi0 : i ≤ 1000000) (hn : n = ws.length) (hi : i / 64 < ws.length) (hrow : (Res.row 86 1 A n c (u64s ws)).holds w) :
    Calls Tryd.prog 62 #[(.slice A n c), (nV i)] w (Ret fun v w' => v = .tuple #[] ∧ Mem (Res.row 86 1 A n c (u64s ws)).fp w w' [.row 86 1 A n c (u64s (takew ws i))]) := by
 subst hn
 refine zen 14 [(.slice A ws.length c), (nV i)] Tryd.func62 ?_
 have hM := Mem.initS hrow
 obtain ⟨g0, hg0⟩ := row_some (hM.get 0 rfl) (show 0 < ws.length by omega)
 subst hg0
 refine zkp [(0, (.slice (sM g0) ws.length c)), (1, (nV i))] ?_
 intro aC fr
 refine zdj (N := 14) (env0 := [(0, (.slice (sM g0) ws.length c)), (1, (nV i))]) (specAt [.det (.slice (sM g0) ws.length c), .det (nV i), .det (.int .i64 ((i / 64 : Nat) : Int)), .det (.pointer (some ((⟨g0, 0, none⟩ : Addr).add ((((i / 64 : Nat) : Int)).toNat * 1)))), .det (.int .u64 ((ws.getD (i / 64) 0 : Nat) : Int)), .det (nV i), .det (.int .i64 ((i % 64 : Nat) : Int)), .det (.int .u64 ((2 ^ (i % 64) : Nat) : Int)), .det (.int .u64 ((andn (ws.getD (i / 64) 0) (2 ^ (i % 64)) : Nat) : Int)), .det (.pointer (some ((⟨g0, 0, none⟩ : Addr).add ((((i / 64 : Nat) : Int)).toNat * 1)))), .det undef]) (fun ls vs w_ => match ls 10 with | true => (Mem (Res.row 86 1 (sM g0) ws.length c (u64s ws)).fp w w_ [.row 86 1 (sM g0) ws.length c (u64s (takew ws i))]) | false => (Mem (Res.row 86 1 (sM g0) ws.length c (u64s ws)).fp w w_ [.row 86 1 (sM g0) ws.length c (u64s ws)])) fr (plain_ok (.det (.det (.det (.det (.det (.det (.det (.det (.det (.det (.det .nil)))))))))))) (hM.then_ (Mem.drew _)) (la (la (la (la (la (la (la (la (la (la (la lz (dPJ fun _ _ _ _ h => h)) (dPJ fun _ _ _ _ h => h)) ?_) (dIJ ⟨g0, 0, none⟩ ws.length 1 ((i / 64 : Nat) : Int) fun _ _ _ _ h => h)) (dLJ ((⟨g0, 0, none⟩ : Addr).add ((((i / 64 : Nat) : Int)).toNat * 1)) (.int .u64 ((ws.getD (i / 64) 0 : Nat) : Int)) (fun _ _ _ _ h => h) ?_)) (dPJ fun _ _ _ _ h => h)) ?_) ?_) ?_) (dIJ ⟨g0, 0, none⟩ ws.length 1 ((i / 64 : Nat) : Int) fun _ _ _ _ h => h)) ?_) ?_
 intro aa_ w_ ls vs rest_ hJ hi_ hc_ hp hF
 refine ⟨true, opok_guard (g0 := none) (by kernel_rfl) (by kernel_rfl), fun _ => ?_, fun h => Bool.noConfusion h⟩
 replace hF : Fr aa_ 14 [(5, (nV i))] := hF.kp [5]
 refine From_binI (by kernel_rfl : coreAt _ 0 = some (some 6, (.binOp .quo 3 (.tmp 5) (.const (.int .i64 64)) 3), 3, none)) hF (by kernel_rfl) (by kernel_rfl) (k' := 1) rfl (kd := .i64) (kd' := .i64) (i := (i : Int)) (j := 64) (z := .int .i64 ((i / 64 : Nat) : Int)) (by kernel_rfl) (by kernel_rfl) (fun w => bin_quoN 64 (by omega) (by decide) w) ?_
 intro a2 ea _
 refine From_end (by kernel_rfl) ?_; exact op_doneJ (d := some 6) (by kernel_rfl) ea rfl hJ
 intro w_ ls vs hJ hi_ hc_ hp
 have f10 : ls 10 = false := notyet hc_ hi_ (n := 11) (by kernel_rfl)
 have hM_ := hJ
 simp only [f10] at hM_
 exact (rd_get1 (row_rd (hM_.get 0 rfl)) rfl (u64s_get (by omega)))
 intro aa_ w_ ls vs rest_ hJ hi_ hc_ hp hF
 refine ⟨true, opok_guard (g0 := none) (by kernel_rfl) (by kernel_rfl), fun _ => ?_, fun h => Bool.noConfusion h⟩
 replace hF : Fr aa_ 14 [(9, (nV i))] := hF.kp [9]
 refine From_binI (by kernel_rfl : coreAt _ 0 = some (some 10, (.binOp .rem 3 (.tmp 9) (.const (.int .i64 64)) 3), 3, none)) hF (by kernel_rfl) (by kernel_rfl) (k' := 1) rfl (kd := .i64) (kd' := .i64) (i := (i : Int)) (j := 64) (z := .int .i64 ((i % 64 : Nat) : Int)) (by kernel_rfl) (by kernel_rfl) (fun w => bin_remN 64 (by decide) w) ?_
 intro a2 ea _
 refine From_end (by kernel_rfl) ?_; exact op_doneJ (d := some 10) (by kernel_rfl) ea rfl hJ
 intro aa_ w_ ls vs rest_ hJ hi_ hc_ hp hF
 refine ⟨true, opok_guard (g0 := none) (by kernel_rfl) (by kernel_rfl), fun _ => ?_, fun h => Bool.noConfusion h⟩
 replace hF : Fr aa_ 14 [(10, (.int .i64 ((i % 64 : Nat) : Int)))] := hF.kp [10]
 refine From_binI (by kernel_rfl : coreAt _ 0 = some (some 11, (.binOp .shl 86 (.const (.int .u64 1)) (.tmp 10) 3), 86, none)) hF (by kernel_rfl) (by kernel_rfl) (k' := 1) rfl (kd := .u64) (kd' := .i64) (i := 1) (j := ((i % 64 : Nat) : Int)) (z := .int .u64 ((2 ^ (i % 64) : Nat) : Int)) (by kernel_rfl) (by kernel_rfl) (fun w => bin_shl (Nat.mod_lt _ (by decide)) w) ?_
 intro a2 ea _
 refine From_end (by kernel_rfl) ?_; exact op_doneJ (d := some 11) (by kernel_rfl) ea rfl hJ
 intro aa_ w_ ls vs rest_ hJ hi_ hc_ hp hF
 refine ⟨true, opok_guard (g0 := none) (by kernel_rfl) (by kernel_rfl), fun _ => ?_, fun h => Bool.noConfusion h⟩
 replace hF : Fr aa_ 14 [(8, (.int .u64 ((ws.getD (i / 64) 0 : Nat) : Int))), (11, (.int .u64 ((2 ^ (i % 64) : Nat) : Int)))] := hF.kp [8, 11]
 refine From_binI (by kernel_rfl : coreAt _ 0 = some (some 12, (.binOp .andNot 86 (.tmp 8) (.tmp 11) 86), 86, none)) hF (by kernel_rfl) (by kernel_rfl) (k' := 1) rfl (kd := .u64) (kd' := .u64) (i := ((ws.getD (i / 64) 0 : Nat) : Int)) (j := ((2 ^ (i % 64) : Nat) : Int)) (z := .int .u64 ((andn (ws.getD (i / 64) 0) (2 ^ (i % 64)) : Nat) : Int)) (by kernel_rfl) (by kernel_rfl) (fun w => bin_andn w) ?_
 intro a2 ea _
 refine From_end (by kernel_rfl) ?_; exact op_doneJ (d := some 12) (by kernel_rfl) ea rfl hJ
 intro aa_ w_ ls vs rest_ hJ hi_ hc_ hp hF
 refine ⟨true, opok_guard (g0 := none) (by kernel_rfl) (by kernel_rfl), fun _ => ?_, fun h => Bool.noConfusion h⟩
 replace hF : Fr aa_ 14 [(12, (.int .u64 ((andn (ws.getD (i / 64) 0) (2 ^ (i % 64)) : Nat) : Int))), (13, (.pointer (some ((⟨g0, 0, none⟩ : Addr).add ((((i / 64 : Nat) : Int)).toNat * 1)))))] := hF.kp [12, 13]
 have f10 : ls 10 = false := hi_
 have hM_ := hJ
 simp only [f10] at hM_
 refine From_store_row (by kernel_rfl : coreAt _ 0 = some (none, (.store 86 (.tmp 13) (.tmp 12)), 0, none)) hF (by kernel_rfl) (by kernel_rfl) (k' := 1) rfl (ad := (⟨g0, 0, none⟩ : Addr)) (j := ((((i / 64 : Nat) : Int)).toNat * 1)) (e := 86) (size := 1) (n := ws.length) (cap := c) (v := (.int .u64 ((andn (ws.getD (i / 64) 0) (2 ^ (i % 64)) : Nat) : Int))) (xs := (u64s ws)) (ad' := ((⟨g0, 0, none⟩ : Addr).add ((((i / 64 : Nat) : Int)).toNat * 1))) (by kernel_rfl) rfl (by kernel_rfl) (by kernel_rfl) rfl hM_ 0 rfl (by omega) ?_
 intro w2 hm2 _ a2 ea _
 refine From_end (by kernel_rfl) ?_; refine op_doneJ (d := none) (by kernel_rfl) ea rfl ?_
 show _
 exact hm2.cast (by show [Res.row _ _ _ _ _ _] = _; rw [takew, u64s_set, Int.toNat_natCast, Nat.mul_one])
 intro aC w5 ls vs hall hM6 hv fr
 simp only [show ls 10 = true from hall 10 (by decide)] at hM6
 revert aC; refine zkp [] ?_
 clear hall hv fr aC hM; clear vs ls
 refine zo0 ?_
 exact ⟨rfl, hM6⟩
set_option maxRecDepth 10000 in
theorem lhas_c (ws : List Nat) (n i : Nat) (A : Option Addr) (c : Nat) (w : World) (hfit : Fit ws) (hi0 : i ≤ 1000000) (hn : n = ws.length) (hi : i / 64 < ws.length) (hA : RO noS w (.rd A (u64s ws))) :
    Calls Tryd.prog 60 #[(.slice A n c), (nV i)] w (Ret fun v w' => v = .bool (tb ws i) ∧ Mem noS w w' []) := by
 subst hn
 refine zen 15 [(.slice A ws.length c), (nV i)] Tryd.func60 ?_
 have hM := Mem.init w
 refine zsp <| zsr <| zpn 2 ?_
 intro aC fr
 refine From_binI (by kernel_rfl : coreAt _ 2 = some (some 7, (.binOp .quo 3 (.tmp 6) (.const (.int .i64 64)) 3), 3, none)) fr (by kernel_rfl) (by kernel_rfl) (k' := 3) rfl (kd := .i64) (kd' := .i64) (i := (i : Int)) (j := 64) (z := .int .i64 ((i / 64 : Nat) : Int)) (by kernel_rfl) (by kernel_rfl) (fun w => bin_quoN 64 (by omega) (by decide) w) ?_
 intro aC ea fr; clear ea
 obtain ⟨ad5, rfl⟩ := rd_some (hM.ro hA) (by rw [u64s_len]; omega)
 revert aC
 refine zix ad5 ws.length 1 ((i / 64 : Nat) : Int) <| zld ((ad5 : Addr).add ((((i / 64 : Nat) : Int)).toNat * 1)) (.int .u64 ((ws.getD (i / 64) 0 : Nat) : Int)) (rd_get1 (hM.ro hA) rfl (u64s_get (by omega))) <| zpn 1 ?_
 intro aC fr
 refine From_binI (by kernel_rfl : coreAt _ 6 = some (some 11, (.binOp .rem 3 (.tmp 10) (.const (.int .i64 64)) 3), 3, none)) fr (by kernel_rfl) (by kernel_rfl) (k' := 7) rfl (kd := .i64) (kd' := .i64) (i := (i : Int)) (j := 64) (z := .int .i64 ((i % 64 : Nat) : Int)) (by kernel_rfl) (by kernel_rfl) (fun w => bin_remN 64 (by decide) w) ?_
 intro aC ea fr; clear ea
 refine From_binI (by kernel_rfl : coreAt _ 7 = some (some 12, (.binOp .shr 86 (.tmp 9) (.tmp 11) 3), 86, none)) fr (by kernel_rfl) (by kernel_rfl) (k' := 8) rfl (kd := .u64) (kd' := .i64) (i := ((ws.getD (i / 64) 0 : Nat) : Int)) (j := ((i % 64 : Nat) : Int)) (z := .int .u64 ((ws.getD (i / 64) 0 / 2 ^ (i % 64) : Nat) : Int)) (by kernel_rfl) (by kernel_rfl) (fun w => bin_shr (Nat.mod_lt _ (by decide)) w) ?_
 intro aC ea fr; clear ea
 refine From_binI (by kernel_rfl : coreAt _ 8 = some (some 13, (.binOp .and 86 (.tmp 12) (.const (.int .u64 1)) 86), 86, none)) fr (by kernel_rfl) (by kernel_rfl) (k' := 9) rfl (kd := .u64) (kd' := .u64) (i := ((ws.getD (i / 64) 0 / 2 ^ (i % 64) : Nat) : Int)) (j := 1) (z := .int .u64 ((ws.getD (i / 64) 0 / 2 ^ (i % 64) &&& 1 : Nat) : Int)) (by kernel_rfl) (by kernel_rfl) (fun w => bin_and1 (Nat.lt_of_le_of_lt (Nat.div_le_self _ _) (hfit.get _)) w) ?_
 intro aC ea fr; clear ea
 revert aC
 refine zcm (((ws.getD (i / 64) 0 / 2 ^ (i % 64) &&& 1 : Nat) : Int) == 1) fun Bh hBh => ?_
 refine zpn 1 <| zfe <| zre <| zo1 (.bool Bh) ?_
 exact ⟨by rw [hBh, bit_of]; rfl, hM⟩
set_option maxRecDepth 10000 in
theorem tz_c (k m : Nat) (w : World) (hk : k < 64) (hx : (2 ^ k * (2 * m + 1)) < 2 ^ 64) (hT : RO noS w (.rd (sM 0) tabL)) :
    Calls Tryd.prog 75 #[(.int .u64 (((2 ^ k * (2 * m + 1)) : Nat) : Int))] w (Ret fun v w' => v = .int .i64 (k : Int) ∧ Mem noS w w' []) := by
 have hx0 : 0 < (2 ^ k * (2 * m + 1)) := Nat.mul_pos (Nat.two_pow_pos k) (by omega)
 refine zen 14 [(.int .u64 (((2 ^ k * (2 * m + 1)) : Nat) : Int))] Tryd.func75 ?_
 have hM := Mem.init w
 refine zsp <| zsq <| zsr <| zpn 1 <| zcm ((((2 ^ k * (2 * m + 1)) : Nat) : Int) == 0) fun B1 hB1 => ?_
 obtain rfl : B1 = false := by
   have hkn : ¬ (((((2 ^ k * (2 * m + 1)) : Nat) : Int) : Int) = 0) := by omega
   first | exact hB1.trans (decide_eq_true hkn) | exact hB1.trans (decide_eq_false hkn) | exact hB1.trans (beq_iff_eq.2 hkn) | exact hB1.trans (bne_iff_ne.2 hkn) | exact hB1.trans (Bool.eq_false_iff.2 (fun e => hkn (beq_iff_eq.1 e))) | exact hB1.trans (Bool.eq_false_iff.2 (fun e => hkn (bne_iff_ne.1 e)))
 clear hB1
 refine zfe <| zcF <| zsk <| zsr <| zpn 2 ?_
 intro aC fr
 refine From_unI (by kernel_rfl : coreAt _ 2 = some (some 7, (.unOp .neg 86 (.tmp 6)), 86, none)) fr (by kernel_rfl) (by kernel_rfl) (k' := 3) rfl (kd := .u64) (i := (((2 ^ k * (2 * m + 1)) : Nat) : Int)) (z := .int .u64 ((2 ^ 64 - (2 ^ k * (2 * m + 1)) : Nat) : Int)) (by kernel_rfl) (fun w => un_neg hx0 hx w) ?_
 intro aC ea fr; clear ea
 refine From_binI (by kernel_rfl : coreAt _ 3 = some (some 8, (.binOp .and 86 (.tmp 5) (.tmp 7) 86), 86, none)) fr (by kernel_rfl) (by kernel_rfl) (k' := 4) rfl (kd := .u64) (kd' := .u64) (i := (((2 ^ k * (2 * m + 1)) : Nat) : Int)) (j := ((2 ^ 64 - (2 ^ k * (2 * m + 1)) : Nat) : Int)) (z := .int .u64 ((2 ^ k : Nat) : Int)) (by kernel_rfl) (by kernel_rfl) (fun w => by have h := bin_and (P := Tryd.prog) (t := 86) hx (y := 2 ^ 64 - (2 ^ k * (2 * m + 1))) (by omega) w; rw [low_and hx] at h; exact h) ?_
 intro aC ea fr; clear ea
 refine From_binI (by kernel_rfl : coreAt _ 4 = some (some 9, (.binOp .mul 86 (.tmp 8) (.const (.int .u64 285870213051353865)) 86), 86, none)) fr (by kernel_rfl) (by kernel_rfl) (k' := 5) rfl (kd := .u64) (kd' := .u64) (i := ((2 ^ k : Nat) : Int)) (j := 285870213051353865) (z := .int .u64 ((2 ^ k * 285870213051353865 % 2 ^ 64 : Nat) : Int)) (by kernel_rfl) (by kernel_rfl) (fun w => bin_mulw (y := 285870213051353865) w) ?_
 intro aC ea fr; clear ea
 refine From_binI (by kernel_rfl : coreAt _ 5 = some (some 10, (.binOp .shr 86 (.tmp 9) (.const (.int .u64 58)) 119), 86, none)) fr (by kernel_rfl) (by kernel_rfl) (k' := 6) rfl (kd := .u64) (kd' := .u64) (i := ((2 ^ k * 285870213051353865 % 2 ^ 64 : Nat) : Int)) (j := 58) (z := .int .u64 (((2 ^ k * 285870213051353865 % 2 ^ 64 / 2 ^ 58) : Nat) : Int)) (by kernel_rfl) (by kernel_rfl) (fun w => bin_shr58 w) ?_
 intro aC ea fr; clear ea
 refine From_ixG (by kernel_rfl : coreAt _ 6 = some (some 11, (.indexAddr 118 (.global 0) (.tmp 10)), 0, none)) fr (by kernel_rfl) (by kernel_rfl) (k' := 7) rfl (ad := ⟨0, 0, none⟩) (n := 64) (e := 5) (size := 1) (kd := .u64) (i := (((2 ^ k * 285870213051353865 % 2 ^ 64 / 2 ^ 58) : Nat) : Int)) (by kernel_rfl) (by kernel_rfl) (by kernel_rfl) (by kernel_rfl) (by omega) (by omega) ?_
 intro aC ea fr; clear ea
 revert aC
 refine zld ((⟨0, 0, none⟩ : Addr).add ((((2 ^ k * 285870213051353865 % 2 ^ 64 / 2 ^ 58) : Nat) : Int).toNat * 1)) (.int .u8 (k : Int)) (rd_get1 (hM.ro hT) rfl (tab_get hk)) ?_
 intro aC fr
 refine From_conv (by kernel_rfl : coreAt _ 8 = some (some 13, (.convert 5 3 (.tmp 12)), 3, none)) fr (by kernel_rfl) (by kernel_rfl) (k' := 9) rfl (kd := .u8) (kd' := .i64) (i := (k : Int)) (z := (k : Int)) (by kernel_rfl) Tryd.underlying5 Tryd.underlying3 (IntWalk.i64_in _ (by omega)) ?_
 intro aC ea fr; clear ea
 revert aC
 refine zpn 1 <| zfe <| zre <| zo1 (nV k) ?_
 exact ⟨rfl, hM⟩
end Go.Proofs.YtlfbloadopeamaaDoor
namespace Go.Proofs.YtlfbloadopeamaaDoor
open Go.Mor
set_option maxRecDepth 10000 in
theorem each_c (ws : List Nat) (n : Nat) (A : Option Addr) (c : Nat) (w : World) (hfit : Fit ws) (hn : n = ws.length) (hws : ws.length ≤ 10000) (hA : RO noS w (.rd A (u64s ws))) (hT : RO noS w (.rd (sM 0) tabL)) :
    Calls Tryd.prog 50 #[(.slice A n c)] w (Ret fun v w' => ∃ A' c', v = .slice A' ((eachN ws 0).map (fun i : Nat => (i : Int))).length c' ∧ Mem noS w w' [.row 3 1 A' ((eachN ws 0).map (fun i : Nat => (i : Int))).length c' (ints ((eachN ws 0).map (fun i : Nat => (i : Int))))]) := by
 subst hn
 refine zen 29 [(.slice A ws.length c)] Tryd.func50 ?_
 have hM := Mem.init w
 refine zsp <| zsp <| zsq <| zsp <| zbk 0 ?_
 intro aC fr
 refine zlp (fun n_ a_ w_ => ∃ (q : Nat) (A3 : Option Addr) (n3 : Nat) (c3 : Nat) (l : List Int), n_ = ws.length - q ∧ Fr a_ 29 [(3, (.slice A3 n3 c3)), (6, (.slice A ws.length c)), (7, (.int .i64 ((ws.length : Nat) : Int))), (8, (nV q))] ∧ Mem noS w w_ [.row 3 1 A3 n3 c3 (ints l)] ∧ (q ≤ ws.length) ∧ (n3 = l.length) ∧ (l ++ (eachN (ws.drop q) q).map (fun i : Nat => (i : Int)) = (eachN ws 0).map (fun i : Nat => (i : Int)))) (n := _) ⟨0, none, 0, 0, [], rfl, fr.kp [3, 6, 7, 8], (hM.call (Mem.nilrow _ 3 1)), by omega, rfl, by simp⟩ ?_
 clear fr aC hM; rintro n aC w3 ⟨q, A3, n3, c3, l, rfl, fr, hM4, hq, hn3, hl⟩
 revert aC
 refine zsr <| zcm (decide ((q : Int) < ((ws.length : Nat) : Int))) fun B7 hB7 => ?_
 refine zfe <| zsq ?_
 cases B7
 have c7 : ¬ ((q : Int) < ((ws.length : Nat) : Int)) := of_decide_eq_false hB7.symm
 refine zcF <| zex 0 <| zbh <| zsp <| zre <| zo1 (.slice A3 n3 c3) ?_
 have hqe : q = ws.length := by omega
 rw [hqe, List.drop_length, eachN, List.map_nil, List.append_nil] at hl
 exact row_ret hM4 hl hn3
 have c7 : (q : Int) < ((ws.length : Nat) : Int) := of_decide_eq_true hB7.symm
 refine zcT <| zsk <| zsq <| zbk 1 <| zsr ?_
 have hw0 := get_getD (l := ws) (i := q) 0 (by omega)
 refine zpn 1 ?_
 obtain ⟨ad8, rfl⟩ := rd_some (hM4.ro hA) (by rw [u64s_len]; omega)
 refine zix ad8 ws.length 1 (q : Int) <| zld ((ad8 : Addr).add (((q : Int)).toNat * 1)) (.int .u64 ((ws.getD q 0 : Nat) : Int)) (rd_get1 (hM4.ro hA) rfl (u64s_get (by omega))) <| zpn 2 <| zfe <| zbk 2 ?_
 intro aC fr
 refine zlp (fun n_ a_ w_ => ∃ (wv : Nat) (A4 : Option Addr) (n4 : Nat) (c4 : Nat) (l4 : List Int), n_ = (wbits q wv).length ∧ Fr a_ 29 [(3, (.slice A4 n4 c4)), (4, (nV q)), (5, (.int .u64 (wv : Int))), (6, (.slice (some ad8) ws.length c)), (7, (.int .i64 ((ws.length : Nat) : Int))), (8, (nV q))] ∧ Mem noS w w_ [.row 3 1 A4 n4 c4 (ints l4)] ∧ (wv < 2 ^ 64) ∧ (n4 = l4.length) ∧ (l4 ++ (wbits q wv ++ eachN (ws.drop (q + 1)) (q + 1)).map (fun i : Nat => (i : Int)) = (eachN ws 0).map (fun i : Nat => (i : Int)))) (n := _) ⟨ws.getD q 0, A3, n3, c3, l, rfl, fr.kp [3, 4, 5, 6, 7, 8], hM4, hfit.get _, hn3, by rw [← each_drop hw0]; exact hl⟩ ?_
 clear fr aC hM4; rintro n aC w11 ⟨wv, A4, n4, c4, l4, rfl, fr, hM12, hwv, hn4, hl4⟩
 revert aC
 refine zsq <| zsr <| zpn 1 <| zcm ((wv : Int) != 0) fun Bz hBz => ?_
 refine zfe ?_
 cases Bz
 have cz : ¬ ((wv : Int) ≠ 0) := znn hBz
 refine zcF <| zex 2 <| zbh <| zrg <| zar ((q : Int) + 1) <| zpn 1 <| zfe ?_
 intro aC fr
 exact ⟨ws.length - (q + 1), by omega, q + 1, A4, n4, c4, l4, rfl, fr.kp [3, 6, 7, 8], hM12, by omega, hn4, by rw [show wv = 0 by omega, wbits_zero, List.nil_append] at hl4; exact hl4⟩
 have cz : (wv : Int) ≠ 0 := bne_iff_ne.1 hBz.symm
 refine zcT <| zsk <| zbk 3 <| zsr ?_
 obtain ⟨k, m, hk, rfl⟩ := low_ex (x := wv) (by omega) hwv
 have hxp : 0 < (2 ^ k * (2 * m + 1)) := Nat.mul_pos (Nat.two_pow_pos k) (by omega)
 have hln := congrArg List.length hl4
 have hel := each_len ws 0
 rw [wbits_low hk] at hln
 simp only [List.length_append, List.length_map, List.length_cons] at hln
 refine zpn 2 <| zar ((q : Int) * 64) <| zpn 1 <| zcl (tz_c k m w11 hk hwv (hT.at_ hM12)) ?_
 rintro _ w17 ⟨rfl, hM18x⟩
 have hM18 := hM12.cl hM18x
 refine zar (((q : Int) * 64) + (k : Int)) ?_
 intro aC fr
 refine From_buildSlice (by kernel_rfl : coreAt _ 6 = some (some 21, (.buildSlice 36 1 #[(0, (.tmp 20))]), 36, none)) fr (by kernel_rfl) (by kernel_rfl) (k' := 7) rfl (e := 3) (size := 1) (zs := [(.int .i64 0)]) (vs := [(0, (.int .i64 (((q : Int) * 64) + (k : Int))))]) (cs := [(.int .i64 (((q : Int) * 64) + (k : Int)))]) (by kernel_rfl) (by kernel_rfl) (by kernel_rfl) (by kernel_rfl) (by kernel_rfl) (by kernel_rfl) hM18 ?_
 intro b19 w20 hb19 _ hM21 _ aC ea fr; clear ea
 replace hM21 := hM21.nf
 refine From_append (by kernel_rfl : coreAt _ 7 = some (some 22, (.call { callee := (.builtin .append), args := #[(.tmp 15), (.tmp 21)], argTypes := #[36, 36] }), 36, none)) fr (by kernel_rfl) (by kernel_rfl) (k' := 8) rfl (e := 3) (size := 1) (bytes := 8) (z := (.int .i64 0)) (by kernel_rfl) (by kernel_rfl) (by kernel_rfl) (by kernel_rfl) (A := A4) (B := (sM b19)) (n := n4) (cap := c4) (m := 1) (cap' := 1) (xs := (ints l4)) (news := [(.int .i64 (((q : Int) * 64) + (k : Int)))]) (by kernel_rfl) (by kernel_rfl) hM21 0 rfl (row_rd (hM21.get 1 rfl)) rfl (by simp [Value.oneCell']) (by omega) (by simp only [maxLen]; omega) ?_
 intro A26 c27 w28 hM29 _ aC ea fr; clear ea
 replace hM29 := hM29.nf
 have hM32 := hM29.od [] 1
 revert aC
 refine zpn 1 <| zfe <| zrg <| zpn 2 ?_
 intro aC fr
 refine From_binI (by kernel_rfl : coreAt _ 2 = some (some 25, (.binOp .sub 86 (.tmp 24) (.const (.int .u64 1)) 86), 86, none)) fr (by kernel_rfl) (by kernel_rfl) (k' := 3) rfl (kd := .u64) (kd' := .u64) (i := (((2 ^ k * (2 * m + 1)) : Nat) : Int)) (j := 1) (z := .int .u64 (((2 ^ k * (2 * m + 1)) - 1 : Nat) : Int)) (by kernel_rfl) (by kernel_rfl) (fun w => bin_dec hxp hwv w) ?_
 intro aC ea fr; clear ea
 refine From_binI (by kernel_rfl : coreAt _ 3 = some (some 26, (.binOp .and 86 (.tmp 23) (.tmp 25) 86), 86, none)) fr (by kernel_rfl) (by kernel_rfl) (k' := 4) rfl (kd := .u64) (kd' := .u64) (i := (((2 ^ k * (2 * m + 1)) : Nat) : Int)) (j := (((2 ^ k * (2 * m + 1)) - 1 : Nat) : Int)) (z := .int .u64 (((2 ^ k * (2 * m + 1)) &&& ((2 ^ k * (2 * m + 1)) - 1) : Nat) : Int)) (by kernel_rfl) (by kernel_rfl) (fun w => bin_and hwv (by omega) w) ?_
 intro aC ea fr; clear ea
 revert aC
 refine zpn 1 <| zfe ?_
 intro aC fr
 exact ⟨(wbits q ((2 ^ k * (2 * m + 1)) &&& ((2 ^ k * (2 * m + 1)) - 1))).length, by rw [wbits_low hk]; simp, ((2 ^ k * (2 * m + 1)) &&& ((2 ^ k * (2 * m + 1)) - 1)), A26, n4 + 1, c27, l4 ++ [((q * 64 + k : Nat) : Int)], rfl, fr.kp [3, 4, 5, 6, 7, 8], ((hM32.pick [true] rfl).cast (by rw [ints_append]; rfl)), Nat.lt_of_le_of_lt Nat.and_le_left hwv, by rw [hn4]; simp, by rw [wbits_low hk] at hl4; rw [← hl4]; simp⟩
set_option maxRecDepth 10000 in
theorem pad_c (ws : List Nat) (n : Nat) (A : Option Addr) (c : Nat) (w : World) (hn : n = ws.length) (hw4 : ws.length ≤ 4) (hA : RO noS w (.rd A (u64s ws))) :
    Calls Tryd.prog 78 #[(.slice A n c)] w (Ret fun v w' => ∃ b, v = .slice (sM b) 4 4 ∧ Mem noS w w' [.blk b 111 (u64s (pad4 ws))]) := by
 subst hn
 refine zen 8 [(.slice A ws.length c)] Tryd.func78 ?_
 have hM := Mem.init w
 refine zsp <| zsr <| zal hM 111 [(.int .u64 0), (.int .u64 0), (.int .u64 0), (.int .u64 0)] fun b1 w2 hb1 hM3 => ?_
 replace hM3 := hM3.nf
 clear hM
 refine zfe <| zsr ?_
 intro aC fr
 refine From_sliceAll (by kernel_rfl : coreAt _ 0 = some (some 4, (.slice 111 (.tmp 3) none none none), 82, none)) fr (by kernel_rfl) (by kernel_rfl) (k' := 1) rfl (b := b1) (n := 4) (e := 86) (size := 1) (by kernel_rfl) (by kernel_rfl) (by kernel_rfl) ?_
 intro aC ea fr; clear ea
 revert aC
 refine zpn 1 ?_
 intro aC fr
 refine From_copyB (by kernel_rfl : coreAt _ 2 = some (some 6, (.call { callee := (.builtin .copy), args := #[(.tmp 4), (.tmp 5)], argTypes := #[82, 83] }), 3, none)) fr (by kernel_rfl) (by kernel_rfl) (k' := 3) rfl (e := 86) (b := b1) (t0 := 111) (dn := 4) (dc := 4) (n := ws.length) (cap := c) (A := A) (xs := u64s ws) (cs := [(.int .u64 0), (.int .u64 0), (.int .u64 0), (.int .u64 0)]) (by kernel_rfl) (by kernel_rfl) (by kernel_rfl) (by kernel_rfl) hM3 0 rfl (hM3.ro hA) (u64s_len ws).symm hw4 (by rw [u64s_len]; exact hw4) (by intro v hv; obtain ⟨x, _, rfl⟩ := List.mem_map.1 hv; rfl) ?_
 intro w10 hM11 aC ea fr; clear ea
 revert aC
 refine zfe <| zsr ?_
 intro aC fr
 refine From_sliceAll (by kernel_rfl : coreAt _ 0 = some (some 7, (.slice 111 (.tmp 3) none none none), 82, none)) fr (by kernel_rfl) (by kernel_rfl) (k' := 1) rfl (b := b1) (n := 4) (e := 86) (size := 1) (by kernel_rfl) (by kernel_rfl) (by kernel_rfl) ?_
 intro aC ea fr; clear ea
 revert aC
 refine zpn 1 <| zfe <| zre <| zo1 (.slice (sM b1) 4 4) ?_
 exact ⟨b1, rfl, hM11.cast (by rw [u64s_len, pad4, u64s, u64s, List.map_append, List.map_replicate]; have hd : ws.length ≤ 4 := hw4; match h : ws.length, hd with | 0, _ => rfl | 1, _ => rfl | 2, _ => rfl | 3, _ => rfl | 4, _ => rfl)⟩
end Go.Proofs.YtlfbloadopeamaaDoor
namespace Go.Proofs.YtlfbloadopeamaaDoor
open Go.Mor
set_option maxRecDepth 10000 in
theorem lsame_c (ws xs : List Nat) (n : Nat) (A B : Option Addr) (c d : Nat) (w : World) (hn : n = ws.length) (hn2 : n = xs.length) (hn3 : n ≤ 10000) (hA : RO noS w (.rd A (u64s ws))) (hB : RO noS w (.rd B (u64s xs))) :
    Calls Tryd.prog 55 #[(.slice A n c), (.slice B n d)] w (Ret fun v w' => v = .bool (decide (ws = xs)) ∧ Mem noS w w' []) := by
 refine zen 33 [(.slice A n c), (.slice B n d)] Tryd.func55 ?_
 have hM := Mem.init w
 refine zsp <| zsq <| zsr <| zpn 2 <| zcm (decide (((n : Nat) : Int) ≤ 4)) fun Bsh hBsh => ?_
 refine zfe ?_
 cases Bsh
 have csh : ¬ (((n : Nat) : Int) ≤ 4) := of_decide_eq_false hBsh.symm
 refine zcF <| zsk <| zsq <| zsp <| zbk 0 ?_
 intro aC fr
 refine zlp (fun n_ a_ w_ => ∃ (k : Nat), n_ = n - k ∧ Fr a_ 33 [(0, (.slice A n c)), (1, (.slice B n d)), (19, (.int .i64 ((n : Nat) : Int))), (20, (nV k))] ∧ Mem noS w w_ [] ∧ (k ≤ n) ∧ (ws.take k = xs.take k)) (n := _) ⟨0, rfl, fr.kp [0, 1, 19, 20], hM, by omega, by simp⟩ ?_
 clear fr aC hM; rintro n aC w3 ⟨k, rfl, fr, hM4, hk, ht⟩
 revert aC
 refine zsr <| zcm (decide ((k : Int) < ((n : Nat) : Int))) fun B7 hB7 => ?_
 refine zfe <| zsq ?_
 cases B7
 have c7 : ¬ ((k : Int) < ((n : Nat) : Int)) := of_decide_eq_false hB7.symm
 refine zcF <| zex 0 <| zbh <| zsp <| zre <| zo1 (.bool true) ?_
 exact ⟨by rw [decide_eq_true (by rw [show k = ws.length by omega, List.take_length, List.take_of_length_le (by omega)] at ht; exact ht)], hM4⟩
 have c7 : (k : Int) < ((n : Nat) : Int) := of_decide_eq_true hB7.symm
 refine zcT <| zsk <| zsq <| zbk 1 <| zsp <| zsq ?_
 obtain ⟨ad8, rfl⟩ := rd_some (hM4.ro hA) (by rw [u64s_len]; omega)
 obtain ⟨ad9, rfl⟩ := rd_some (hM4.ro hB) (by rw [u64s_len]; omega)
 obtain ⟨Bne, hBne⟩ : ∃ B : Bool, B = (((ws.getD k 0 : Nat) : Int) != ((xs.getD k 0 : Nat) : Int)) := ⟨_, rfl⟩
 refine zkp [(0, (.slice (some ad8) n c)), (1, (.slice (some ad9) n d)), (5, (nV k)), (19, (.int .i64 ((n : Nat) : Int))), (20, (nV k))] ?_
 intro aC fr
 refine zdr (N := 33) (env0 := [(0, (.slice (some ad8) n c)), (1, (.slice (some ad9) n d)), (5, (nV k)), (19, (.int .i64 ((n : Nat) : Int))), (20, (nV k))]) (specAt [.det (.slice (some ad8) n c), .det (nV k), .det (.pointer (some ((ad8 : Addr).add (((k : Int)).toNat * 1)))), .det (.int .u64 ((ws.getD k 0 : Nat) : Int)), .det (.slice (some ad9) n d), .det (nV k), .det (.pointer (some ((ad9 : Addr).add (((k : Int)).toNat * 1)))), .det (.int .u64 ((xs.getD k 0 : Nat) : Int)), .det (.bool Bne)]) fr (la (la (la (la (la (la (la (la (la lz dP) dP) (dI ad8 n 1 (k : Int))) (dL ((ad8 : Addr).add (((k : Int)).toNat * 1)) (.int .u64 ((ws.getD k 0 : Nat) : Int)) fun w_ hK => (rd_get1 ((hM4.then_ hK).ro hA) rfl (u64s_get (by omega))))) dP) dP) (dI ad9 n 1 (k : Int))) (dL ((ad9 : Addr).add (((k : Int)).toNat * 1)) (.int .u64 ((xs.getD k 0 : Nat) : Int)) fun w_ hK => (rd_get1 ((hM4.then_ hK).ro hB) rfl (u64s_get (by omega))))) (dC (((ws.getD k 0 : Nat) : Int) != ((xs.getD k 0 : Nat) : Int)) hBne)) ?_
 intro aC w14 vs hK hv fr
 revert aC; refine zkp [(0, (.slice (some ad8) n c)), (1, (.slice (some ad9) n d)), (19, (.int .i64 ((n : Nat) : Int))), (20, (nV k)), (31, (.bool Bne))] ?_
 have hM15 := hM4.then_ hK
 clear hK hv fr aC hM4; clear vs
 cases Bne
 have cne : ¬ (((ws.getD k 0 : Nat) : Int) ≠ ((xs.getD k 0 : Nat) : Int)) := znn hBne
 refine zcF <| zsk <| zrg <| zar ((k : Int) + 1) <| zpn 1 <| zfe ?_
 intro aC fr
 exact ⟨n - (k + 1), by omega, k + 1, rfl, fr.kp [0, 1, 19, 20], hM15, by omega, same_get ht (by omega) (by omega) (by omega)⟩
 have cne : ((ws.getD k 0 : Nat) : Int) ≠ ((xs.getD k 0 : Nat) : Int) := bne_iff_ne.1 hBne.symm
 refine zcT <| zsp <| zre <| zbr <| zbr <| zo1 (.bool false) ?_
 exact ⟨by rw [decide_eq_false (fun e => cne (by rw [e]))], hM15⟩
 have csh : ((n : Nat) : Int) ≤ 4 := of_decide_eq_true hBsh.symm
 have hw4 : ws.length ≤ 4 := by omega
 have hx4 : xs.length ≤ 4 := by omega
 refine zcT <| zsq ?_
 obtain ⟨Bq, hBq⟩ : ∃ B : Bool, B = eq4 ws xs := ⟨_, rfl⟩
 refine zkp [(0, (.slice A n c)), (1, (.slice B n d)), (8, (.bool true))] ?_
 intro aC fr
 refine zdr (N := 33) (env0 := [(0, (.slice A n c)), (1, (.slice B n d)), (8, (.bool true))]) (specAt [.det (.slice A n c), .sl 4 [(.int .u64 (((pad4 ws).getD 0 0 : Nat) : Int)), (.int .u64 (((pad4 ws).getD 1 0 : Nat) : Int)), (.int .u64 (((pad4 ws).getD 2 0 : Nat) : Int)), (.int .u64 (((pad4 ws).getD 3 0 : Nat) : Int))], Spec.ptr [(.int .u64 (((pad4 ws).getD 0 0 : Nat) : Int)), (.int .u64 (((pad4 ws).getD 1 0 : Nat) : Int)), (.int .u64 (((pad4 ws).getD 2 0 : Nat) : Int)), (.int .u64 (((pad4 ws).getD 3 0 : Nat) : Int))], .det (.agg #[(.int .u64 (((pad4 ws).getD 0 0 : Nat) : Int)), (.int .u64 (((pad4 ws).getD 1 0 : Nat) : Int)), (.int .u64 (((pad4 ws).getD 2 0 : Nat) : Int)), (.int .u64 (((pad4 ws).getD 3 0 : Nat) : Int))]), .det (.slice B n d), .sl 4 [(.int .u64 (((pad4 xs).getD 0 0 : Nat) : Int)), (.int .u64 (((pad4 xs).getD 1 0 : Nat) : Int)), (.int .u64 (((pad4 xs).getD 2 0 : Nat) : Int)), (.int .u64 (((pad4 xs).getD 3 0 : Nat) : Int))], Spec.ptr [(.int .u64 (((pad4 xs).getD 0 0 : Nat) : Int)), (.int .u64 (((pad4 xs).getD 1 0 : Nat) : Int)), (.int .u64 (((pad4 xs).getD 2 0 : Nat) : Int)), (.int .u64 (((pad4 xs).getD 3 0 : Nat) : Int))], .det (.agg #[(.int .u64 (((pad4 xs).getD 0 0 : Nat) : Int)), (.int .u64 (((pad4 xs).getD 1 0 : Nat) : Int)), (.int .u64 (((pad4 xs).getD 2 0 : Nat) : Int)), (.int .u64 (((pad4 xs).getD 3 0 : Nat) : Int))]), .det (.bool Bq), .det (.bool Bq)]) fr (la (la (la (la (la (la (la (la (la (la lz dP) ?_) (dA2 1 4 [(.int .u64 (((pad4 ws).getD 0 0 : Nat) : Int)), (.int .u64 (((pad4 ws).getD 1 0 : Nat) : Int)), (.int .u64 (((pad4 ws).getD 2 0 : Nat) : Int)), (.int .u64 (((pad4 ws).getD 3 0 : Nat) : Int))] (by simp) (m := 4) (by omega))) (dLA 2 [(.int .u64 (((pad4 ws).getD 0 0 : Nat) : Int)), (.int .u64 (((pad4 ws).getD 1 0 : Nat) : Int)), (.int .u64 (((pad4 ws).getD 2 0 : Nat) : Int)), (.int .u64 (((pad4 ws).getD 3 0 : Nat) : Int))])) dP) ?_) (dA2 5 4 [(.int .u64 (((pad4 xs).getD 0 0 : Nat) : Int)), (.int .u64 (((pad4 xs).getD 1 0 : Nat) : Int)), (.int .u64 (((pad4 xs).getD 2 0 : Nat) : Int)), (.int .u64 (((pad4 xs).getD 3 0 : Nat) : Int))] (by simp) (m := 4) (by omega))) (dLA 6 [(.int .u64 (((pad4 xs).getD 0 0 : Nat) : Int)), (.int .u64 (((pad4 xs).getD 1 0 : Nat) : Int)), (.int .u64 (((pad4 xs).getD 2 0 : Nat) : Int)), (.int .u64 (((pad4 xs).getD 3 0 : Nat) : Int))])) (dEA (fun w => eq_arr4 (P := Tryd.prog) (t := 111) (e := 86) (by kernel_rfl) (by kernel_rfl) (by kernel_rfl) (by kernel_rfl) _ _ _ _ _ _ _ _ w) hBq)) dP) ?_
 intro aa_ w_ vs rest_ hK hp hF
 refine ⟨true, opok_guard (g0 := none) (by kernel_rfl) (by kernel_rfl), fun _ => ?_, fun h => Bool.noConfusion h⟩
 replace hF : Fr aa_ 33 [(9, (.slice A n c))] := hF.kp [9]
 refine From_call (by kernel_rfl : coreAt _ 0 = some (some 10, (.call { callee := (.value (.func 78)), args := #[(.tmp 9)], argTypes := #[83] }), 83, none)) hF (by kernel_rfl) (by kernel_rfl) (k' := 1) rfl (f := 78) (vs := [(.slice A n c)]) (cap := []) (by kernel_rfl) (by kernel_rfl) (by kernel_rfl) (pad_c ws n A c w_ hn hw4 (hA.at_ (hM.then_ hK))) ?_
 rintro _ w2 ⟨bq, rfl, hm_⟩ a2 ea _
 refine From_end (by kernel_rfl) ?_; exact op_done (d := some 10) (by kernel_rfl) ea hm_.kp ⟨_, _, rfl, (pad4_cells hw4) ▸ blk_rd (hm_.get 0 rfl)⟩
 intro aa_ w_ vs rest_ hK hp hF
 refine ⟨true, opok_guard (g0 := none) (by kernel_rfl) (by kernel_rfl), fun _ => ?_, fun h => Bool.noConfusion h⟩
 replace hF : Fr aa_ 33 [(13, (.slice B n d))] := hF.kp [13]
 refine From_call (by kernel_rfl : coreAt _ 0 = some (some 14, (.call { callee := (.value (.func 78)), args := #[(.tmp 13)], argTypes := #[83] }), 83, none)) hF (by kernel_rfl) (by kernel_rfl) (k' := 1) rfl (f := 78) (vs := [(.slice B n d)]) (cap := []) (by kernel_rfl) (by kernel_rfl) (by kernel_rfl) (pad_c xs n B d w_ hn2 hx4 (hB.at_ (hM.then_ hK))) ?_
 rintro _ w2 ⟨bq, rfl, hm_⟩ a2 ea _
 refine From_end (by kernel_rfl) ?_; exact op_done (d := some 14) (by kernel_rfl) ea hm_.kp ⟨_, _, rfl, (pad4_cells hx4) ▸ blk_rd (hm_.get 0 rfl)⟩
 intro aC w26 vs hK hv fr
 revert aC; refine zkp [(4, (.bool Bq))] ?_
 have hM27 := hM.then_ hK
 clear hK hv fr aC hM; clear vs
 refine zre <| zo1 (.bool Bq) ?_
 exact ⟨by rw [hBq]; exact congrArg _ (by rw [Bool.eq_iff_iff, eq4_iff hw4 (by omega), decide_eq_true_eq]), hM27⟩
end Go.Proofs.YtlfbloadopeamaaDoor
namespace Go.Proofs.YtlfbloadopeamaaDoor
open Go.Mor
set_option maxRecDepth 10000 in
theorem into_c (n : Nat) (As : Option Addr) (cs : Nat) (ws : List Nat) (S : Int → Bool) (A : Option Addr) (fs : List FBlk) (k : Nat) (x : FBlk) (w : World) (hn : n ≤ 1000000) (hok : FOk fs) (hx : fs[k]? = some x) (hvr : VR n x) (hS : SetW n ws S) (hA : RO (Res.row 86 1 As ((n + 63) / 64) cs (u64s ws)).fp w (.fn A fs)) (hrow : (Res.row 86 1 As ((n + 63) / 64) cs (u64s ws)).holds w) :
    Calls Tryd.prog 54 #[(xA x), (.slice As ((n + 63) / 64) cs)] w (Ret fun v w' => ∃ ws2, v = .tuple #[] ∧ SetW n ws2 (intoS x S) ∧ Mem (Res.row 86 1 As ((n + 63) / 64) cs (u64s ws)).fp w w' [.row 86 1 As ((n + 63) / 64) cs (u64s ws2)]) := by
 have hl1 : x.phis.length ≤ 281474976710656 := (hok.get hx).lp
 have hl2 : x.insts.length ≤ 281474976710656 := (hok.get hx).li
 refine zen 70 [(xA x), (.slice As ((n + 63) / 64) cs)] Tryd.func54 ?_
 have hM := Mem.initS hrow
 refine zsr <| zbx hM 44 (xA x) (xV x) fun b1 w2 hb1 hM3 => ?_
 replace hM3 := hM3.nf
 clear hM
 refine zfe <| zsq ?_
 intro aC fr
 refine W_cut (fun a_ w_ => ∃ (ws1 : List Nat), Fr a_ 70 [(1, (.slice As ((n + 63) / 64) cs)), (2, (pT b1 0))] ∧ Mem (Res.row 86 1 As ((n + 63) / 64) cs (u64s ws)).fp w w_ [.row 86 1 As ((n + 63) / 64) cs (u64s ws1), .blk b1 44 (xV x)] ∧ (SetW n ws1 (endR x S))) ?_ ?_
 clear fr aC hM3; rintro aC w6 ⟨ws1, fr, hM7, hS1⟩
 revert aC
 refine zsq <| zsr <| zpn 1 <| zld ⟨b1, 1, none⟩ (.slice x.iA x.insts.length x.ic) (blk_cell (hM7.get 1 rfl) rfl) <| zpn 1 <| zar (((x.insts.length : Nat) : Int) - 1) <| zpn 1 <| zfe <| zbk 0 ?_
 intro aC fr
 refine zlp (fun n_ a_ w_ => ∃ (j : Nat) (iv : Int) (ws2 : List Nat), n_ = 2 * j ∧ Fr a_ 70 [(1, (.slice As ((n + 63) / 64) cs)), (2, (pT b1 0)), (4, (.int .i64 iv))] ∧ Mem (Res.row 86 1 As ((n + 63) / 64) cs (u64s ws)).fp w w_ [.row 86 1 As ((n + 63) / 64) cs (u64s ws2), .blk b1 44 (xV x)] ∧ (j ≤ x.insts.length) ∧ (iv = (j : Int) - 1) ∧ (SetW n ws2 (intoB (x.insts.drop j) (endR x S)))) (n := _) ⟨x.insts.length, (((x.insts.length : Nat) : Int) - 1), ws1, rfl, fr.kp [1, 2, 4], hM7, by omega, by omega, by rw [intoB_end]; exact hS1⟩ ?_
 clear fr aC hM7; rintro n aC w12 ⟨j, iv, ws2, rfl, fr, hM13, hj, hiv, hS2⟩
 revert aC
 refine zsq <| zsp <| zcD ((iv : Int) ≥ 0) (fun c16 => ?_) (fun c16 => ?_)
 refine zsk <| zsq <| zbk 1 <| zsr ?_
 obtain ⟨j0, rfl⟩ : ∃ j0, j = j0 + 1 := ⟨j - 1, by omega⟩
 obtain rfl : iv = (j0 : Int) := by omega
 obtain ⟨p3, hp3⟩ := get_of (l := x.insts) (i := j0) (by omega)
 obtain ⟨hpd0, hpd1, hpa⟩ := hvr.insts p3 (List.mem_of_getElem? hp3)
 have hpl3 : p3.args.length ≤ 281474976710656 := ((hok.get hx).insts p3 (List.mem_of_getElem? hp3)).len
 refine zpn 1 <| zld ⟨b1, 1, none⟩ (.slice x.iA x.insts.length x.ic) (blk_cell (hM13.get 1 rfl) rfl) <| zpn 1 ?_
 obtain ⟨ad17, had18⟩ := rds_some (hM13.ro (hA.insts hx)) (cs := p3.cells) (i := j0) (by simp [hp3])
 intro aC fr
 refine From_ixA (some 38) x.iA ad17 x.insts.length 5 (j0 : Int) fr (by kernel_rfl) had18 (by omega) (by omega) ?_
 intro aC fr
 revert aC
 refine zls ((ad17 : Addr).add (((j0 : Int)).toNat * 5)) (iV p3) (ins_get (hM13.ro (hA.insts hx)) had18 hp3) <| zal hM13 40 [(.int .i64 0), (.int .i64 0), (.int .i64 0), (.string ⟨#[]⟩), (.slice none 0 0)] fun b23 w24 hb23 hM25 => ?_
 replace hM25 := hM25.nf
 refine zss hM25 2 (iV p3) rfl fun w26 hM27 => ?_
 replace hM27 := hM27.nf
 refine zfe <| zsq ?_
 intro aC fr
 refine W_cut (fun a_ w_ => ∃ (ws3 : List Nat), Fr a_ 70 [(1, (.slice As ((n + 63) / 64) cs)), (2, (pT b1 0)), (4, (nV j0)), (5, (pT b23 0))] ∧ Mem (Res.row 86 1 As ((n + 63) / 64) cs (u64s ws)).fp w w_ [.row 86 1 As ((n + 63) / 64) cs (u64s ws3), .blk b1 44 (xV x), .blk b23 40 (iV p3)] ∧ (SetW n ws3 (takeD (intoB (x.insts.drop (j0 + 1)) (endR x S)) p3.dst))) ?_ ?_
 clear fr aC hM27; rintro aC w30 ⟨ws3, fr, hM31, hS3⟩
 revert aC
 refine zsr <| zpn 1 <| zld ⟨b23, 4, none⟩ (.slice p3.A p3.args.length p3.c) (blk_cell (hM31.get 2 rfl) rfl) <| zpn 2 <| zfe <| zbk 2 ?_
 intro aC fr
 refine zlp (fun n_ a_ w_ => ∃ (kk : Nat) (ws4 : List Nat), n_ = p3.args.length - kk ∧ Fr a_ 70 [(1, (.slice As ((n + 63) / 64) cs)), (2, (pT b1 0)), (4, (nV j0)), (48, (.slice p3.A p3.args.length p3.c)), (49, (.int .i64 ((p3.args.length : Nat) : Int))), (50, (nV kk))] ∧ Mem (Res.row 86 1 As ((n + 63) / 64) cs (u64s ws)).fp w w_ [.row 86 1 As ((n + 63) / 64) cs (u64s ws4), .blk b1 44 (xV x), .blk b23 40 (iV p3)] ∧ (kk ≤ p3.args.length) ∧ (SetW n ws4 (addL (takeD (intoB (x.insts.drop (j0 + 1)) (endR x S)) p3.dst) (p3.args.take kk)))) (n := _) ⟨0, ws3, rfl, fr.kp [1, 2, 4, 48, 49, 50], hM31, by omega, by rw [List.take_zero, addL_nil]; exact hS3⟩ ?_
 clear fr aC hM31; rintro n aC w36 ⟨kk, ws4, rfl, fr, hM37, hkk, hS4⟩
 revert aC
 refine zsp <| zsq <| zcD (((kk : Int) : Int) < ((p3.args.length : Nat) : Int)) (fun c40 => ?_) (fun c40 => ?_)
 refine zsk <| zsq <| zbk 3 <| zsr ?_
 obtain ⟨a0, ha⟩ := get_of (l := p3.args) (i := kk) (by omega)
 obtain ⟨ha0, ha1⟩ := hpa a0 (List.mem_of_getElem? ha)
 obtain ⟨an, rfl⟩ := Int.eq_ofNat_of_zero_le ha0
 obtain ⟨ad41, had42⟩ := rd_some (hM37.ro (hA.inst hx hp3)) (by simp [ints]; omega)
 intro aC fr
 refine From_ixA (some 52) p3.A ad41 p3.args.length 1 (kk : Int) fr (by kernel_rfl) had42 (by omega) (by omega) ?_
 intro aC fr
 revert aC
 refine zld ((ad41 : Addr).add (((kk : Int)).toNat * 1)) (nV an) (rd_at (hM37.ro (hA.inst hx hp3)) had42 ha) <| zpn 1 <| zfe <| zrg <| zpn 2 <| zcl (lput_c ws4 ((n + 63) / 64) an As cs w36 hS4.fit (by omega) hS4.len.symm (hS4.idx (by omega)) (hM37.get 0 rfl)) ?_
 rintro _ w47 ⟨rfl, hM48x⟩
 have hM48 := hM37.md 0 rfl hM48x
 refine zfe <| zrg <| zar ((kk : Int) + 1) <| zpn 1 <| zfe ?_
 intro aC fr
 exact ⟨p3.args.length - (kk + 1), by omega, kk + 1, (putw ws4 an), rfl, fr.kp [1, 2, 4, 48, 49, 50], hM48, by omega, by rw [← addL_next ha]; exact hS4.put (by omega)⟩
 refine zex 2 <| zbh <| zrg <| zpn 1 <| zar ((j0 : Int) - 1) <| zpn 1 <| zfe ?_
 intro aC fr
 exact ⟨2 * j0, by omega, j0, ((j0 : Int) - 1), ws4, rfl, fr.kp [1, 2, 4], (hM37.tk 2), by omega, by omega, by rw [intoB_drop hp3, insS]; rw [show kk = p3.args.length by omega, List.take_length] at hS4; exact hS4⟩
 revert aC
 refine zsr <| zpn 1 <| zld ⟨b23, 1, none⟩ (.int .i64 p3.dst) (blk_cell (hM27.get 2 rfl) rfl) <| zpn 1 <| zfe <| zcD ((p3.dst : Int) ≥ 0) (fun c53 => ?_) (fun c53 => ?_)
 obtain ⟨dn, hdn⟩ := Int.eq_ofNat_of_zero_le (show 0 ≤ p3.dst by omega)
 refine zrg <| zpn 2 <| zld ⟨b23, 1, none⟩ (.int .i64 (dn : Int)) (by rw [← hdn]; exact blk_cell (hM27.get 2 rfl) rfl) <| zkp [(1, (.slice As ((n + 63) / 64) cs)), (2, (pT b1 0)), (4, (nV j0)), (5, (pT b23 0)), (43, (.slice As ((n + 63) / 64) cs)), (45, (nV dn))] <| zcl (ltake_c ws2 ((n + 63) / 64) dn As cs w26 hS2.fit (by omega) hS2.len.symm (hS2.idx (by omega)) (hM27.get 0 rfl)) ?_
 rintro _ w54 ⟨rfl, hM55x⟩
 have hM55 := hM27.md 0 rfl hM55x
 refine zfe ?_
 intro aC fr
 exact ⟨(takew ws2 dn), fr.kp [1, 2, 4, 5], hM55, by unfold takeD; rw [if_pos (by omega), hdn]; exact hS2.take (by omega)⟩
 refine zsk ?_
 intro aC fr
 exact ⟨ws2, fr.kp [1, 2, 4, 5], hM27, by unfold takeD; rw [if_neg (by omega)]; exact hS2⟩
 refine zex 0 <| zbh <| zsr ?_
 obtain rfl : j = 0 := by omega
 rw [List.drop_zero] at hS2
 refine zpn 1 <| zld ⟨b1, 0, none⟩ (.slice x.pA x.phis.length x.pc) (blk_cell (hM13.get 1 rfl) rfl) <| zpn 2 <| zfe <| zbk 4 ?_
 intro aC fr
 refine zlp (fun n_ a_ w_ => ∃ (q : Nat) (ws5 : List Nat), n_ = x.phis.length - q ∧ Fr a_ 70 [(1, (.slice As ((n + 63) / 64) cs)), (59, (.slice x.pA x.phis.length x.pc)), (60, (.int .i64 ((x.phis.length : Nat) : Int))), (61, (nV q))] ∧ Mem (Res.row 86 1 As ((n + 63) / 64) cs (u64s ws)).fp w w_ [.row 86 1 As ((n + 63) / 64) cs (u64s ws5), .blk b1 44 (xV x)] ∧ (q ≤ x.phis.length) ∧ (SetW n ws5 (phiR (x.phis.take q) (intoB x.insts (endR x S))))) (n := _) ⟨0, ws2, rfl, fr.kp [1, 59, 60, 61], hM13, by omega, by rw [List.take_zero]; exact hS2⟩ ?_
 clear fr aC hM13; rintro n aC w62 ⟨q, ws5, rfl, fr, hM63, hq, hS5⟩
 revert aC
 refine zsp <| zsq <| zcD (((q : Int) : Int) < ((x.phis.length : Nat) : Int)) (fun c66 => ?_) (fun c66 => ?_)
 refine zsk <| zsq <| zbk 5 <| zsr ?_
 obtain ⟨p, hp⟩ := get_of (l := x.phis) (i := q) (by omega)
 obtain ⟨hd0, hd1⟩ := hvr.phis p (List.mem_of_getElem? hp)
 obtain ⟨dn, hdn⟩ := Int.eq_ofNat_of_zero_le hd0
 obtain ⟨ad67, had68⟩ := rds_some (hM63.ro (hA.phis hx)) (cs := p.cells) (i := q) (by simp [hp])
 intro aC fr
 refine From_ixA (some 63) x.pA ad67 x.phis.length 2 (q : Int) fr (by kernel_rfl) had68 (by omega) (by omega) ?_
 intro aC fr
 revert aC
 refine zls ((ad67 : Addr).add (((q : Int)).toNat * 2)) (pV p) (phi_get (hM63.ro (hA.phis hx)) had68 hp) <| zal hM63 65 [(.int .i64 0), (.slice none 0 0)] fun b73 w74 hb73 hM75 => ?_
 replace hM75 := hM75.nf
 refine zss hM75 2 (pV p) rfl fun w76 hM77 => ?_
 replace hM77 := hM77.nf
 refine zfe <| zrg <| zpn 2 <| zld ⟨b73, 0, none⟩ (.int .i64 (dn : Int)) (by rw [← hdn]; exact blk_cell (hM77.get 2 rfl) rfl) <| zcl (ltake_c ws5 ((n + 63) / 64) dn As cs w76 hS5.fit (by omega) hS5.len.symm (hS5.idx (by omega)) (hM77.get 0 rfl)) ?_
 rintro _ w78 ⟨rfl, hM79x⟩
 have hM79 := hM77.md 0 rfl hM79x
 refine zfe <| zrg <| zar ((q : Int) + 1) <| zpn 1 <| zfe ?_
 intro aC fr
 exact ⟨x.phis.length - (q + 1), by omega, q + 1, (takew ws5 dn), rfl, fr.kp [1, 59, 60, 61], (hM79.tk 2), by omega, by rw [phiR_next hp, hdn]; exact hS5.take (by omega)⟩
 refine zex 4 <| zbh <| zo0 ?_
 have hM82 := hM63.od [] 1
 exact ⟨ws5, rfl, by rw [show q = x.phis.length by omega, List.take_length] at hS5; exact hS5, hM82⟩
 revert aC
 refine zsr <| zpn 1 <| zld ⟨b1, 2, none⟩ (.int .i64 x.e) (blk_cell (hM3.get 1 rfl) rfl) <| zpn 2 ?_
 obtain ⟨B83, hB83⟩ : ∃ B : Bool, B = ((x.e : Int) == 1) := ⟨_, rfl⟩
 refine zkp [(1, (.slice As ((n + 63) / 64) cs)), (2, (pT b1 0)), (13, (.bool ((x.e : Int) == 1)))] ?_
 rw [← hB83]
 have iB83 : B83 = true ↔ ((x.e : Int) = 1) := by rw [hB83]; simp only [beq_iff_eq]
 clear hB83
 intro aC fr
 refine zpk 1 5 [14] fr (news := [(14, (cond (!B83) (pT b1 2) undef))]) (by cases B83 <;> kernel_rfl) ?_
 intro aC fr
 refine From_either (B := (!B83)) (d := (some 15)) (.int .i64 x.e) fr (by cases B83 <;> kernel_rfl) (fun hB hh => ?_) ?_
 cases B83 <;> first | (exact absurd hB (by decide)) | skip
 have c83 : ¬ ((x.e : Int) = 1) := (fun h => Bool.noConfusion (iB83.2 h) : ¬ ((x.e : Int) = 1))
 exact From_ld (some 15) ⟨b1, 2, none⟩ fr (by kernel_rfl) (.int .i64 x.e) (blk_cell (hM3.get 1 rfl) rfl) hh
 intro aC fr
 refine zpk 2 8 [17] fr (news := [(17, (cond (!B83) (.bool ((x.e : Int) == 2)) undef))]) (by cases B83 <;> kernel_rfl) ?_
 intro aC fr
 obtain ⟨B92, hB92⟩ : ∃ B : Bool, B = ((x.e : Int) == 2) := ⟨_, rfl⟩
 revert aC
 refine zkp [(1, (.slice As ((n + 63) / 64) cs)), (2, (pT b1 0)), (13, (.bool B83)), (17, (cond (!B83) (.bool ((x.e : Int) == 2)) undef))] ?_
 rw [← hB92]
 have iB92 : B92 = true ↔ ((x.e : Int) = 2) := by rw [hB92]; simp only [beq_iff_eq]
 clear hB92
 intro aC fr
 refine zpk 1 9 [18] fr (news := [(18, (cond (!B83 && B92) (pT b1 3) undef))]) (by cases B83 <;> cases B92 <;> kernel_rfl) ?_
 intro aC fr
 refine From_either (B := (!B83 && B92)) (d := (some 19)) (.int .i64 x.v) fr (by cases B83 <;> cases B92 <;> kernel_rfl) (fun hB hh => ?_) ?_
 cases B83 <;> cases B92 <;> first | (exact absurd hB (by decide)) | skip
 have c83 : ¬ ((x.e : Int) = 1) := (fun h => Bool.noConfusion (iB83.2 h) : ¬ ((x.e : Int) = 1))
 have c92 : ((x.e : Int) = 2) := iB92.1 rfl
 exact From_ld (some 19) ⟨b1, 3, none⟩ fr (by kernel_rfl) (.int .i64 x.v) (blk_cell (hM3.get 1 rfl) rfl) hh
 intro aC fr
 refine zpk 3 13 [22] fr (news := [(22, (.bool (B83 || (B92 && decide ((x.v : Int) ≥ 0)))))]) (by cases B83 <;> cases B92 <;> kernel_rfl) ?_
 intro aC fr
 revert aC
 refine zfe <| zcP (B83 || (B92 && decide ((x.v : Int) ≥ 0))) (((x.e : Int) = 1) ∨ (((x.e : Int) = 2) ∧ ((x.v : Int) ≥ 0))) (by simp only [Bool.or_eq_true, Bool.and_eq_true, decide_eq_true_eq, iB83, iB92]) (fun c101 => ?_) (fun c101 => ?_)
 have hfin : finS x := by unfold finS; omega
 obtain ⟨vn, hvn⟩ := Int.eq_ofNat_of_zero_le (hvr.fin hfin).1
 have hvl := (hvr.fin hfin).2
 refine zrg <| zpn 2 <| zld ⟨b1, 3, none⟩ (.int .i64 (vn : Int)) (by rw [← hvn]; exact blk_cell (hM3.get 1 rfl) rfl) <| zcl (lput_c ws ((n + 63) / 64) vn As cs w2 hS.fit (by omega) hS.len.symm (hS.idx (by omega)) (hM3.get 0 rfl)) ?_
 rintro _ w102 ⟨rfl, hM103x⟩
 have hM103 := hM3.md 0 rfl hM103x
 refine zfe ?_
 intro aC fr
 exact ⟨(putw ws vn), fr.kp [1, 2], hM103, by rw [← endR_yes hfin, hvn]; exact hS.put (by omega)⟩
 have hfin : ¬ finS x := by unfold finS; omega
 refine zsk ?_
 intro aC fr
 exact ⟨ws, fr.kp [1, 2], hM3, by rw [← endR_no hfin]; exact hS⟩
end Go.Proofs.YtlfbloadopeamaaDoor
