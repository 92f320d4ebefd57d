/-
  Texts of the proof, part 10.
-/
import Derived.Test.YtdcgcjibgihbbaaZg9
import Derived.Test.YtdcgcjibgihbbaaRows
set_option maxRecDepth 10000
namespace Go.Proofs.Ytdcgcjibgihbbaa
open Go.Mor
theorem truth_t (w : World) :
    Calls Try.prog 96 #[(.bool true)] w (Ret fun v w' => v = .int .i64 1 ∧ Mem noS w w' []) := by
 refine zen 4 [(.bool true)] Try.func96 ?_
 have hM := Mem.init w
 refine zsp <| zsq <| zsp <| zcT <| zsp <| zre <| zo1 (.int .i64 1) ?_
 exact ⟨rfl, hM⟩
theorem truth_f (w : World) :
    Calls Try.prog 96 #[(.bool false)] w (Ret fun v w' => v = .int .i64 0 ∧ Mem noS w w' []) := by
 refine zen 4 [(.bool false)] Try.func96 ?_
 have hM := Mem.init w
 refine zsp <| zsq <| zsp <| zcF <| zsk <| zsp <| zre <| zo1 (.int .i64 0) ?_
 exact ⟨rfl, hM⟩
theorem truthR_c (b : Bool) (w : World) : Calls Try.prog 96 #[.bool b] w (Ret fun v w' => v = .int .i64 (truthI b) ∧ Mem noS w w' []) := by
  cases b
  · exact truth_f w
  · exact truth_t w
theorem shift_c (b : Int) (w : World) :
    Calls Try.prog 95 #[(.int .i64 b)] w (Ret fun v w' => v = .int .u64 (shN b) ∧ Mem noS w w' []) := by
 refine zen 6 [(.int .i64 b)] Try.func95 ?_
 have hM := Mem.init w
 refine zsp <| zsr <| zpn 1 <| zcv (hz := rfl) b .u64 (IntKind.u64.wrap b) <| zbi .u64 (shN b) 63 <| zpn 1 <| zfe <| zre <| zo1 (.int .u64 (shN b)) ?_
 exact ⟨rfl, hM⟩
theorem shN_nn (b : Int) : 0 ≤ shN b := by
  unfold shN
  have h : ∀ i : Int, 0 ≤ IntKind.u64.wrap i := fun i => by
    unfold IntKind.wrap
    simp [IntKind.signed, IntKind.bits]
    omega
  exact h _
theorem quotient_c (op a b : Int) (w : World) :
    Calls Try.prog 94 #[(.int .i64 op), (.int .i64 a), (.int .i64 b)] w (Ret fun v w' => v = .tuple #[.int .i64 (quoS op a b).1, .int .i64 (quoS op a b).2] ∧ Mem noS w w' []) := by
 refine zen 32 [(.int .i64 op), (.int .i64 a), (.int .i64 b)] Try.func94 ?_
 have hM := Mem.init w
 refine zsp <| zsq <| zbk 0 <| zsp <| zcP ((b : Int) == 0) ((b : Int) = 0) (by simp only [beq_iff_eq]) (fun c1 => ?_) (fun c1 => ?_)
 refine zsp <| zre <| zbr <| zo2 (.int .i64 0) (.int .i64 3) ?_
 refine ⟨?_, hM⟩
 have e_ : quoS op a b = (0, 3) := by
   first | exact quo_1 (by omega) | exact quo_2 (by omega) (by omega) | exact quo_3 (by omega) (by omega) | exact quo_4 (by omega) (by omega) (by omega) | exact quo_5 (by omega) (by omega) (by omega)
 rw [e_]
 refine zsr <| zpn 3 ?_
 obtain ⟨B2, hB2⟩ : ∃ B : Bool, B = ((b : Int) == (-1)) := ⟨_, rfl⟩
 refine zkp [(0, (.int .i64 op)), (1, (.int .i64 a)), (2, (.int .i64 b)), (14, (.bool ((b : Int) == (-1))))] ?_
 rw [← hB2]
 have iB2 : B2 = true ↔ ((b : Int) = (-1)) := by rw [hB2]; simp only [beq_iff_eq]
 clear hB2
 intro aC fr
 refine zpk 4 7 [11, 17] fr (news := [(11, (.bool (B2 && ((op : Int) == 4)))), (17, (.bool (B2 && ((op : Int) == 4))))]) (by cases B2 <;> kernel_rfl) ?_
 intro aC fr
 revert aC
 refine zfe <| zcP (B2 && ((op : Int) == 4)) (((b : Int) = (-1)) ∧ ((op : Int) = 4)) (by simp only [Bool.and_eq_true, beq_iff_eq, iB2]) (fun c7 => ?_) (fun c7 => ?_)
 refine zsr <| zpn 1 <| zui .neg a .i64 (IntKind.i64.wrap (0 - a)) <| zpn 2 <| zfe <| zre <| zbr <| zo2 (.int .i64 (IntKind.i64.wrap (0 - a))) (.int .i64 0) ?_
 refine ⟨?_, hM⟩
 have e_ : quoS op a b = ((IntKind.i64.wrap (0 - a)), 0) := by
   first | exact quo_1 (by omega) | exact quo_2 (by omega) (by omega) | exact quo_3 (by omega) (by omega) | exact quo_4 (by omega) (by omega) (by omega) | exact quo_5 (by omega) (by omega) (by omega)
 rw [e_]
 refine zsp <| zcP ((b : Int) == (-1)) ((b : Int) = (-1)) (by simp only [beq_iff_eq]) (fun c8 => ?_) (fun c8 => ?_)
 refine zsp <| zre <| zbr <| zo2 (.int .i64 0) (.int .i64 0) ?_
 refine ⟨?_, hM⟩
 have e_ : quoS op a b = (0, 0) := by
   first | exact quo_1 (by omega) | exact quo_2 (by omega) (by omega) | exact quo_3 (by omega) (by omega) | exact quo_4 (by omega) (by omega) (by omega) | exact quo_5 (by omega) (by omega) (by omega)
 rw [e_]
 refine zsp <| zcP ((op : Int) == 4) ((op : Int) = 4) (by simp only [beq_iff_eq]) (fun c9 => ?_) (fun c9 => ?_)
 refine zsr <| zpn 2 <| zbd .i64 (IntKind.i64.wrap (a.tdiv b)) b (by assumption) <| zpn 2 <| zfe <| zre <| zbr <| zo2 (.int .i64 (IntKind.i64.wrap (a.tdiv b))) (.int .i64 0) ?_
 refine ⟨?_, hM⟩
 have e_ : quoS op a b = ((IntKind.i64.wrap (a.tdiv b)), 0) := by
   first | exact quo_1 (by omega) | exact quo_2 (by omega) (by omega) | exact quo_3 (by omega) (by omega) | exact quo_4 (by omega) (by omega) (by omega) | exact quo_5 (by omega) (by omega) (by omega)
 rw [e_]
 refine zsk <| zsr <| zpn 2 <| zbd .i64 (a.tmod b) b (by assumption) <| zpn 2 <| zfe <| zre <| zo2 (.int .i64 (a.tmod b)) (.int .i64 0) ?_
 refine ⟨?_, hM⟩
 have e_ : quoS op a b = ((a.tmod b), 0) := by
   first | exact quo_1 (by omega) | exact quo_2 (by omega) (by omega) | exact quo_3 (by omega) (by omega) | exact quo_4 (by omega) (by omega) (by omega) | exact quo_5 (by omega) (by omega) (by omega)
 rw [e_]
set_option maxHeartbeats 2000000 in
theorem bin_c (op a b : Int) (w : World) :
    Calls Try.prog 87 #[(.int .i64 op), (.int .i64 a), (.int .i64 b)] w (Ret fun v w' => v = .tuple #[.int .i64 (binS op a b).1, .int .i64 (binS op a b).2] ∧ Mem noS w w' []) := by
 refine zen 96 [(.int .i64 op), (.int .i64 a), (.int .i64 b)] Try.func87 ?_
 have hM := Mem.init w
 refine zsp <| zsq <| zsp <| zbk 0 <| zsp <| zcP ((op : Int) == 1) ((op : Int) = 1) (by simp only [beq_iff_eq]) (fun c1 => ?_) (fun c1 => ?_)
 refine zsr <| zpn 2 <| zbi .i64 (IntKind.i64.wrap (a + b)) b <| zpn 2 <| zfe <| zre <| zbr <| zo2 (.int .i64 (IntKind.i64.wrap (a + b))) (.int .i64 0) ?_
 refine ⟨?_, hM⟩
 have e_ : binS op a b = ((IntKind.i64.wrap (a + b)), 0) := by
   exact bo1
 rw [e_]
 refine zsp <| zcP ((op : Int) == 2) ((op : Int) = 2) (by simp only [beq_iff_eq]) (fun c2 => ?_) (fun c2 => ?_)
 refine zsr <| zpn 2 <| zbi .i64 (IntKind.i64.wrap (a - b)) b <| zpn 2 <| zfe <| zre <| zbr <| zo2 (.int .i64 (IntKind.i64.wrap (a - b))) (.int .i64 0) ?_
 refine ⟨?_, hM⟩
 have e_ : binS op a b = ((IntKind.i64.wrap (a - b)), 0) := by
   exact bo2
 rw [e_]
 refine zsp <| zcP ((op : Int) == 3) ((op : Int) = 3) (by simp only [beq_iff_eq]) (fun c3 => ?_) (fun c3 => ?_)
 refine zsr <| zpn 2 <| zbi .i64 (IntKind.i64.wrap (a * b)) b <| zpn 2 <| zfe <| zre <| zbr <| zo2 (.int .i64 (IntKind.i64.wrap (a * b))) (.int .i64 0) ?_
 refine ⟨?_, hM⟩
 have e_ : binS op a b = ((IntKind.i64.wrap (a * b)), 0) := by
   exact bo3
 rw [e_]
 refine zsq <| zsp ?_
 obtain ⟨B4, hB4⟩ : ∃ B : Bool, B = ((op : Int) == 4) := ⟨_, rfl⟩
 refine zkp [(0, (.int .i64 op)), (1, (.int .i64 a)), (2, (.int .i64 b)), (8, (.int .i64 op)), (24, (.bool ((op : Int) == 4)))] ?_
 rw [← hB4]
 have iB4 : B4 = true ↔ ((op : Int) = 4) := by rw [hB4]; simp only [beq_iff_eq]
 clear hB4
 cases B4
 have c4 : ¬ ((op : Int) = 4) := (fun h => Bool.noConfusion (iB4.2 h) : ¬ ((op : Int) = 4))
 refine zcF <| zrp <| zcP ((op : Int) == 5) ((op : Int) = 5) (by simp only [beq_iff_eq]) (fun c5 => ?_) (fun c5 => ?_)
 refine zsr <| zpn 3 <| zcl (quotient_c op a b w) ?_
 rintro _ w6 ⟨rfl, M7x⟩
 have M7 := hM.cl M7x
 clear M7x hM
 refine zpn 4 <| zfe <| zre <| zbr <| zo2 (.int .i64 ((quoS op a b).1)) (.int .i64 ((quoS op a b).2)) ?_
 refine ⟨?_, M7⟩
 have e_ : binS op a b = ((quoS op a b).1, (quoS op a b).2) := by
   first | exact bin_45 (by omega) | exact bin_out (by omega)
 rw [e_]
 refine zsp <| zcP ((op : Int) == 6) ((op : Int) = 6) (by simp only [beq_iff_eq]) (fun c8 => ?_) (fun c8 => ?_)
 refine zsr <| zpn 2 <| zbi .i64 (bAnd a b) b <| zpn 2 <| zfe <| zre <| zbr <| zo2 (.int .i64 (bAnd a b)) (.int .i64 0) ?_
 refine ⟨?_, hM⟩
 have e_ : binS op a b = ((bAnd a b), 0) := by
   exact bo6
 rw [e_]
 refine zsp <| zcP ((op : Int) == 7) ((op : Int) = 7) (by simp only [beq_iff_eq]) (fun c9 => ?_) (fun c9 => ?_)
 refine zsr <| zpn 2 <| zbi .i64 (bOr a b) b <| zpn 2 <| zfe <| zre <| zbr <| zo2 (.int .i64 (bOr a b)) (.int .i64 0) ?_
 refine ⟨?_, hM⟩
 have e_ : binS op a b = ((bOr a b), 0) := by
   exact bo7
 rw [e_]
 refine zsp <| zcP ((op : Int) == 8) ((op : Int) = 8) (by simp only [beq_iff_eq]) (fun c10 => ?_) (fun c10 => ?_)
 refine zsr <| zpn 2 <| zbi .i64 (bXor a b) b <| zpn 2 <| zfe <| zre <| zbr <| zo2 (.int .i64 (bXor a b)) (.int .i64 0) ?_
 refine ⟨?_, hM⟩
 have e_ : binS op a b = ((bXor a b), 0) := by
   exact bo8
 rw [e_]
 refine zsp <| zcP ((op : Int) == 9) ((op : Int) = 9) (by simp only [beq_iff_eq]) (fun c11 => ?_) (fun c11 => ?_)
 refine zsr <| zpn 2 <| zcl (shift_c b w) ?_
 rintro _ w12 ⟨rfl, M13x⟩
 have M13 := hM.cl M13x
 clear M13x hM
 refine zbs .i64 .u64 (shlI a (shN b)) (shN b) (shN_nn b) <| zpn 2 <| zfe <| zre <| zbr <| zo2 (.int .i64 (shlI a (shN b))) (.int .i64 0) ?_
 refine ⟨?_, M13⟩
 have e_ : binS op a b = ((shlI a (shN b)), 0) := by
   exact bo9
 rw [e_]
 refine zsp <| zcP ((op : Int) == 10) ((op : Int) = 10) (by simp only [beq_iff_eq]) (fun c14 => ?_) (fun c14 => ?_)
 refine zsr <| zpn 2 <| zcl (shift_c b w) ?_
 rintro _ w15 ⟨rfl, M16x⟩
 have M16 := hM.cl M16x
 clear M16x hM
 refine zbs .i64 .u64 (shrI a (shN b)) (shN b) (shN_nn b) <| zpn 2 <| zfe <| zre <| zbr <| zo2 (.int .i64 (shrI a (shN b))) (.int .i64 0) ?_
 refine ⟨?_, M16⟩
 have e_ : binS op a b = ((shrI a (shN b)), 0) := by
   exact bo10
 rw [e_]
 refine zsp <| zcP ((op : Int) == 11) ((op : Int) = 11) (by simp only [beq_iff_eq]) (fun c17 => ?_) (fun c17 => ?_)
 refine zsr <| zpn 3 <| zcl (truthR_c ((a : Int) == b) w) ?_
 rintro _ w18 ⟨rfl, M19x⟩
 have M19 := hM.cl M19x
 clear M19x hM
 refine zpn 2 <| zfe <| zre <| zbr <| zo2 (.int .i64 (truthI ((a : Int) == b))) (.int .i64 0) ?_
 refine ⟨?_, M19⟩
 have e_ : binS op a b = (truthI ((a : Int) == b), 0) := by
   exact bo11
 rw [e_]
 refine zsp <| zcP ((op : Int) == 12) ((op : Int) = 12) (by simp only [beq_iff_eq]) (fun c20 => ?_) (fun c20 => ?_)
 refine zsr <| zpn 3 <| zcl (truthR_c ((a : Int) != b) w) ?_
 rintro _ w21 ⟨rfl, M22x⟩
 have M22 := hM.cl M22x
 clear M22x hM
 refine zpn 2 <| zfe <| zre <| zbr <| zo2 (.int .i64 (truthI ((a : Int) != b))) (.int .i64 0) ?_
 refine ⟨?_, M22⟩
 have e_ : binS op a b = (truthI ((a : Int) != b), 0) := by
   exact bo12
 rw [e_]
 refine zsp <| zcP ((op : Int) == 13) ((op : Int) = 13) (by simp only [beq_iff_eq]) (fun c23 => ?_) (fun c23 => ?_)
 refine zsr <| zpn 3 <| zcl (truthR_c (decide ((a : Int) < b)) w) ?_
 rintro _ w24 ⟨rfl, M25x⟩
 have M25 := hM.cl M25x
 clear M25x hM
 refine zpn 2 <| zfe <| zre <| zbr <| zo2 (.int .i64 (truthI (decide ((a : Int) < b)))) (.int .i64 0) ?_
 refine ⟨?_, M25⟩
 have e_ : binS op a b = (truthI (decide ((a : Int) < b)), 0) := by
   exact bo13
 rw [e_]
 refine zsp <| zcP ((op : Int) == 14) ((op : Int) = 14) (by simp only [beq_iff_eq]) (fun c26 => ?_) (fun c26 => ?_)
 refine zsr <| zpn 3 <| zcl (truthR_c (decide ((a : Int) ≤ b)) w) ?_
 rintro _ w27 ⟨rfl, M28x⟩
 have M28 := hM.cl M28x
 clear M28x hM
 refine zkp [(83, (.int .i64 (truthI (decide ((a : Int) ≤ b)))))] <| zpn 2 <| zfe <| zre <| zbr <| zo2 (.int .i64 (truthI (decide ((a : Int) ≤ b)))) (.int .i64 0) ?_
 refine ⟨?_, M28⟩
 have e_ : binS op a b = (truthI (decide ((a : Int) ≤ b)), 0) := by
   exact bo14
 rw [e_]
 refine zsp <| zcP ((op : Int) == 15) ((op : Int) = 15) (by simp only [beq_iff_eq]) (fun c29 => ?_) (fun c29 => ?_)
 refine zsr <| zpn 3 <| zcl (truthR_c (decide ((a : Int) > b)) w) ?_
 rintro _ w30 ⟨rfl, M31x⟩
 have M31 := hM.cl M31x
 clear M31x hM
 refine zkp [(89, (.int .i64 (truthI (decide ((a : Int) > b)))))] <| zpn 2 <| zfe <| zre <| zbr <| zo2 (.int .i64 (truthI (decide ((a : Int) > b)))) (.int .i64 0) ?_
 refine ⟨?_, M31⟩
 have e_ : binS op a b = (truthI (decide ((a : Int) > b)), 0) := by
   exact bo15
 rw [e_]
 refine zsp <| zcP ((op : Int) == 16) ((op : Int) = 16) (by simp only [beq_iff_eq]) (fun c32 => ?_) (fun c32 => ?_)
 refine zsr <| zpn 3 <| zcl (truthR_c (decide ((a : Int) ≥ b)) w) ?_
 rintro _ w33 ⟨rfl, M34x⟩
 have M34 := hM.cl M34x
 clear M34x hM
 refine zkp [(95, (.int .i64 (truthI (decide ((a : Int) ≥ b)))))] <| zpn 2 <| zfe <| zre <| zbr <| zo2 (.int .i64 (truthI (decide ((a : Int) ≥ b)))) (.int .i64 0) ?_
 refine ⟨?_, M34⟩
 have e_ : binS op a b = (truthI (decide ((a : Int) ≥ b)), 0) := by
   exact bo16
 rw [e_]
 refine zsk <| zsp <| zre <| zo2 (.int .i64 0) (.int .i64 (-1)) ?_
 refine ⟨?_, hM⟩
 have e_ : binS op a b = (0, (-1)) := by
   first | exact bin_45 (by omega) | exact bin_out (by omega)
 rw [e_]
 have c4 : ((op : Int) = 4) := iB4.1 rfl
 refine zcT <| zsk <| zcT <| zsr <| zpn 3 <| zcl (quotient_c op a b w) ?_
 rintro _ w35 ⟨rfl, M36x⟩
 have M36 := hM.cl M36x
 clear M36x hM
 refine zpn 4 <| zfe <| zre <| zbr <| zo2 (.int .i64 ((quoS op a b).1)) (.int .i64 ((quoS op a b).2)) ?_
 refine ⟨?_, M36⟩
 have e_ : binS op a b = ((quoS op a b).1, (quoS op a b).2) := by
   first | exact bin_45 (by omega) | exact bin_out (by omega)
 rw [e_]
theorem un_c (op a : Int) (w : World) :
    Calls Try.prog 88 #[(.int .i64 op), (.int .i64 a)] w (Ret fun v w' => v = .tuple #[.int .i64 (unS op a).1, .int .i64 (unS op a).2] ∧ Mem noS w w' []) := by
 refine zen 20 [(.int .i64 op), (.int .i64 a)] Try.func88 ?_
 have hM := Mem.init w
 refine zsp <| zsq <| zsp <| zbk 0 <| zsp <| zcP ((op : Int) == 1) ((op : Int) = 1) (by simp only [beq_iff_eq]) (fun c1 => ?_) (fun c1 => ?_)
 refine zsr <| zpn 1 <| zui .neg a .i64 (IntKind.i64.wrap (0 - a)) <| zpn 2 <| zfe <| zre <| zbr <| zo2 (.int .i64 (IntKind.i64.wrap (0 - a))) (.int .i64 0) ?_
 refine ⟨?_, hM⟩
 have e_ : unS op a = ((IntKind.i64.wrap (0 - a)), 0) := by
   first | exact uo1 | exact uo2 | exact uo3 | exact un_no (by assumption) (by assumption) (by assumption)
 rw [e_]
 refine zsp <| zcP ((op : Int) == 2) ((op : Int) = 2) (by simp only [beq_iff_eq]) (fun c2 => ?_) (fun c2 => ?_)
 refine zsr <| zpn 1 <| zui .xor a .i64 (bXor (-1) a) <| zpn 2 <| zfe <| zre <| zbr <| zo2 (.int .i64 (bXor (-1) a)) (.int .i64 0) ?_
 refine ⟨?_, hM⟩
 have e_ : unS op a = ((bXor (-1) a), 0) := by
   first | exact uo1 | exact uo2 | exact uo3 | exact un_no (by assumption) (by assumption) (by assumption)
 rw [e_]
 refine zsp <| zcP ((op : Int) == 3) ((op : Int) = 3) (by simp only [beq_iff_eq]) (fun c3 => ?_) (fun c3 => ?_)
 refine zsr <| zpn 2 <| zcl (truthR_c ((a : Int) == 0) w) ?_
 rintro _ w4 ⟨rfl, M5x⟩
 have M5 := hM.cl M5x
 clear M5x hM
 refine zpn 2 <| zfe <| zre <| zbr <| zo2 (.int .i64 (truthI ((a : Int) == 0))) (.int .i64 0) ?_
 refine ⟨?_, M5⟩
 have e_ : unS op a = (truthI ((a : Int) == 0), 0) := by
   first | exact uo1 | exact uo2 | exact uo3 | exact un_no (by assumption) (by assumption) (by assumption)
 rw [e_]
 refine zsk <| zsp <| zre <| zo2 (.int .i64 0) (.int .i64 (-1)) ?_
 refine ⟨?_, hM⟩
 have e_ : unS op a = (0, (-1)) := by
   first | exact uo1 | exact uo2 | exact uo3 | exact un_no (by assumption) (by assumption) (by assumption)
 rw [e_]
end Go.Proofs.Ytdcgcjibgihbbaa
namespace Go.Proofs.Ytdcgcjibgihbbaa
open Go.Mor
theorem tstop_c (r : Nat) (k c : Int) (w : World) :
    Calls Try.prog 54 #[(pT r 0), (vI k), (vI c)] w (REnds (fun _ _ => False) (fun v w' => v = endT k c ∧ Mem noS w w' [])) := by
 refine xen 10 [(pT r 0), (vI k), (vI c)] Try.func54 ?_
 have hM := Mem.init w
 refine zrg <| zpn 4 <| zpa 99 (.agg #[(vI k), (vI c)]) ?_
 exact fun a_ hf_ => xpp hf_ ⟨rfl, hM⟩
theorem tfault_t (r : Nat) (w : World) :
    Calls Try.prog 71 #[(pT r 0), (.bool true)] w (REnds (fun _ _ => False) (fun v w' => v = endT 5 0 ∧ Mem noS w w' [])) := by
 refine xen 7 [(pT r 0), (.bool true)] Try.func71 ?_
 have hM := Mem.init w
 refine zsp <| zcT <| zrg <| zpn 1 <| zce (tstop_c r 5 0 w) (fun _ w2_ ⟨hv_, hx_⟩ a_ hf_ => by subst hv_; exact xpp hf_ (⟨rfl, (hM.cl hx_)⟩)) ?_
 rintro _ w1 h_; exact h_.elim
theorem tfault_f (r : Nat) (w : World) :
    Calls Try.prog 71 #[(pT r 0), (.bool false)] w (REnds (fun v w' => v = .tuple #[] ∧ Mem noS w w' []) (fun _ _ => False)) := by
 refine xen 7 [(pT r 0), (.bool false)] Try.func71 ?_
 have hM := Mem.init w
 refine zsp <| zcF <| zsk <| xo0 ?_
 exact ⟨rfl, hM⟩
theorem tfault_c (r : Nat) (b : Bool) (w : World) : Calls Try.prog 71 #[pT r 0, .bool b] w (REnds (fun v w' => b = false ∧ v = .tuple #[] ∧ Mem noS w w' []) (fun v w' => b = true ∧ v = endT 5 0 ∧ Mem noS w w' [])) := by
  cases b
  · exact REnds.weak (tfault_f r w) (fun v w' h => ⟨rfl, h⟩) (fun _ _ h => h.elim)
  · exact REnds.weak (tfault_t r w) (fun _ _ h => h.elim) (fun v w' h => ⟨rfl, h⟩)
theorem tstep_c (C : TC) (s : PSt) (oA : Option Addr) (oc : Nat) (w : World) (hC : C.WF) (hG : TGood C s) (hR : (Res.pk (tunL C s oA oc)).holds w)  :
    TCalls Try.prog C s oA oc w 89 [(pT C.r 0)] unitV (stepS C.E.toEnv0 s) := by
 have g1 := hG.s1
 have g2 := hG.s2
 have g3 := hC.fuel
 refine xen 20 [(pT C.r 0)] Try.func89 ?_
 have hM := Mem.unpk hR
 refine zsq <| zsq ?_
 obtain ⟨B1, hB1⟩ : ∃ B : Bool, B = (s.steps == C.E.fuel) := ⟨_, rfl⟩
 refine zkp [(0, (pT C.r 0))] ?_
 intro aC fr
 refine zdr (N := 20) (env0 := [(0, (pT C.r 0))]) (specAt [.det (pT C.r 0), .det (pT C.r 0), .det (pT C.r 8), .det (vI s.steps), .det (pT C.r 0), .det (pT C.r 0), .det (pT C.r 7), .det (vI C.E.fuel), .det (.bool B1)]) fr (la (la (la (la (la (la (la (la (la lz dP) dP) dP) (dL ⟨C.r, 8, none⟩ (vI s.steps) fun w_ hK => (blk_cell ((hM.then_ hK).get 0 rfl) rfl))) dP) dP) dP) (dL ⟨C.r, 7, none⟩ (vI C.E.fuel) fun w_ hK => (blk_cell ((hM.then_ hK).get 0 rfl) rfl))) (dC (s.steps == C.E.fuel) hB1)) ?_
 intro aC w6 vs hK hv fr
 revert aC; refine zkp [(0, (pT C.r 0)), (10, (.bool B1))] ?_
 have M7 := hM.then_ hK
 clear hK hv fr aC hM; clear vs
 have iB1 : B1 = true ↔ ((s.steps : Int) = C.E.fuel) := by rw [hB1]; simp only [beq_iff_eq]
 clear hB1
 refine zcP B1 ((s.steps : Int) = C.E.fuel) iB1 (fun c8 => ?_) (fun c8 => ?_)
 refine zrg <| zpn 1 <| zce (tstop_c C.r 0 0 w6) (fun _ w2_ ⟨hv_, hx_⟩ a_ hf_ => by subst hv_; exact xpp hf_ (⟨_, _, s, oA, oc, step_no (by omega), rfl, hG, (M7.cl hx_)⟩)) ?_
 rintro _ w9 h_; exact h_.elim
 refine zsk <| zrg <| zpn 3 <| zld ⟨C.r, 8, none⟩ (vI s.steps) (blk_cell (M7.get 0 rfl) rfl) <| zar (s.steps + 1) <| zpn 2 <| zsb (ho := (by simp)) M7 0 8 (vI (s.steps + 1)) rfl fun w11 M12 => ?_
 replace M12 := M12.nf
 refine zfe <| xo0 ?_
 exact ⟨(), { s with steps := s.steps + 1 }, oA, oc, step_yes (by omega), rfl, hG.step (by omega), M12⟩
theorem tat_c (C : TC) (s : PSt) (oA : Option Addr) (oc : Nat) (w : World) (n : Int) (hG : TGood C s) (hRb : RO noS w (.blk C.r 66 (tcells C s oA oc))) :
    Calls Try.prog 91 #[(pT C.r 0), (vI n)] w (REnds (fun v w' => (1 ≤ n ∧ n < s.next) ∧ v = .pointer (some ((⟨C.mG, 0, none⟩ : Addr).add (n.toNat * 1))) ∧ Mem noS w w' []) (fun v w' => (n < 1 ∨ n ≥ s.next) ∧ v = endT 5 0 ∧ Mem noS w w' [])) := by
 have g1 := hG.n2
 refine xen 23 [(pT C.r 0), (vI n)] Try.func91 ?_
 have hM := Mem.init w
 refine zsp <| zsr <| zpn 4 ?_
 obtain ⟨B1, hB1⟩ : ∃ B : Bool, B = decide ((n : Int) < 1) := ⟨_, rfl⟩
 refine zkp [(0, (pT C.r 0)), (1, (vI n)), (5, (pT C.r 0)), (8, (.bool (decide ((n : Int) < 1))))] ?_
 rw [← hB1]
 have iB1 : B1 = true ↔ ((n : Int) < 1) := by rw [hB1]; simp only [decide_eq_true_eq]
 clear hB1
 intro aC fr
 refine zpk 4 8 [9, 12] fr (news := [(9, (cond (!B1) (vI n) undef)), (12, (cond (!B1) (pT C.r 4) undef))]) (by cases B1 <;> kernel_rfl) ?_
 intro aC fr
 refine From_either (B := (!B1)) (d := (some 13)) (vI s.next) fr (by cases B1 <;> kernel_rfl) (fun hB hh => ?_) ?_
 cases B1 <;> try exact absurd hB (by decide)
 have c1 : ¬ ((n : Int) < 1) := (fun h => Bool.noConfusion (iB1.2 h) : ¬ ((n : Int) < 1))
 exact From_ld (some 13) ⟨C.r, 4, none⟩ fr (by kernel_rfl) (vI s.next) (blk_cell (hM.ro hRb) rfl) hh
 intro aC fr
 refine zpk 2 11 [15] fr (news := [(15, (.bool (B1 || decide ((n : Int) ≥ s.next))))]) (by cases B1 <;> kernel_rfl) ?_
 intro aC fr
 obtain ⟨B10, hB10⟩ : ∃ B : Bool, B = (B1 || decide ((n : Int) ≥ s.next)) := ⟨_, rfl⟩
 revert aC
 refine zkp [(0, (pT C.r 0)), (1, (vI n)), (5, (pT C.r 0)), (15, (.bool (B1 || decide ((n : Int) ≥ s.next))))] ?_
 rw [← hB10]
 have iB10 : B10 = true ↔ (((n : Int) < 1) ∨ ((n : Int) ≥ s.next)) := by rw [hB10]; simp only [Bool.or_eq_true, decide_eq_true_eq, iB1]
 clear hB10
 refine zkp [(0, (pT C.r 0)), (1, (vI n)), (5, (pT C.r 0)), (15, (.bool B10))] <| zce (tfault_c C.r B10 w) (fun _ w2_ ⟨hb_, hv_, hx_⟩ a_ hf_ => by subst hv_; have cf11 : (((n : Int) < 1) ∨ ((n : Int) ≥ s.next)) := iB10.1 hb_; exact xpp hf_ (⟨cf11, rfl, (hM.cl hx_)⟩)) ?_
 rintro _ w12 ⟨hb_, rfl, M13x⟩
 have M13 := hM.cl M13x
 clear M13x hM
 have cf11 : ¬ (((n : Int) < 1) ∨ ((n : Int) ≥ s.next)) := fun h_ => Bool.noConfusion ((iB10.2 h_).symm.trans hb_)
 clear hb_
 refine zfe <| zsr <| zpn 3 <| zld ⟨C.r, 3, none⟩ (vS (sM C.mG) C.E.memN C.E.memN) (blk_cell (M13.ro hRb) rfl) <| zpn 1 <| zix ⟨C.mG, 0, none⟩ C.E.memN 1 n <| zpn 1 <| zfe <| zre <| xo1 (.pointer (some ((⟨C.mG, 0, none⟩ : Addr).add ((n).toNat * 1)))) ?_
 exact ⟨by omega, rfl, M13⟩
theorem talloc_c (C : TC) (s : PSt) (oA : Option Addr) (oc : Nat) (w : World) (hC : C.WF) (hG : TGood C s) (hR : (Res.pk (tunL C s oA oc)).holds w) (n : Int) :
    TCalls Try.prog C s oA oc w 99 [(pT C.r 0), (vI n)] intV (allocS C.E.toEnv0 n s) := by
 have g1 := hG.n1
 have g2 := hG.n2
 have g3 := hC.mem
 refine xen 37 [(pT C.r 0), (vI n)] Try.func99 ?_
 have hM := Mem.unpk hR
 refine zsp <| zsr <| zpn 3 ?_
 obtain ⟨B1, hB1⟩ : ∃ B : Bool, B = decide ((n : Int) < 0) := ⟨_, rfl⟩
 refine zkp [(0, (pT C.r 0)), (1, (vI n)), (6, (pT C.r 0)), (8, (.bool (decide ((n : Int) < 0))))] ?_
 rw [← hB1]
 have iB1 : B1 = true ↔ ((n : Int) < 0) := by rw [hB1]; simp only [decide_eq_true_eq]
 clear hB1
 refine zkp [(0, (pT C.r 0)), (1, (vI n)), (6, (pT C.r 0)), (8, (.bool B1))] <| zce (tfault_c C.r B1 w) (fun _ w2_ ⟨hb_, hv_, hx_⟩ a_ hf_ => by subst hv_; have cf2 : ((n : Int) < 0) := iB1.1 hb_; exact xpp hf_ (⟨_, _, s, oA, oc, by unfold allocS; rw [if_pos (by omega)], rfl, hG, (hM.cl hx_)⟩)) ?_
 rintro _ w3 ⟨hb_, rfl, M4x⟩
 have M4 := hM.cl M4x
 clear M4x hM
 have cf2 : ¬ ((n : Int) < 0) := fun h_ => Bool.noConfusion ((iB1.2 h_).symm.trans hb_)
 clear hb_
 refine zfe <| zsq <| zsq ?_
 obtain ⟨B5, hB5⟩ : ∃ B : Bool, B = decide (n > (((C.E.memN : Nat) : Int) - s.next)) := ⟨_, rfl⟩
 refine zkp [(0, (pT C.r 0)), (1, (vI n))] ?_
 intro aC fr
 refine zdr (N := 37) (env0 := [(0, (pT C.r 0)), (1, (vI n))]) (specAt [.det (vI n), .det (pT C.r 0), .det (pT C.r 0), .det (pT C.r 3), .det (vS (sM C.mG) C.E.memN C.E.memN), .det (vI ((C.E.memN : Nat) : Int)), .det (pT C.r 0), .det (pT C.r 0), .det (pT C.r 4), .det (vI s.next), .det (vI (((C.E.memN : Nat) : Int) - s.next)), .det (.bool B5)]) fr (la (la (la (la (la (la (la (la (la (la (la (la lz dP) dP) dP) dP) (dL ⟨C.r, 3, none⟩ (vS (sM C.mG) C.E.memN C.E.memN) fun w_ hK => (blk_cell ((M4.then_ hK).get 0 rfl) rfl))) dP) dP) dP) dP) (dL ⟨C.r, 4, none⟩ (vI s.next) fun w_ hK => (blk_cell ((M4.then_ hK).get 0 rfl) rfl))) (dA (((C.E.memN : Nat) : Int) - s.next))) (dC (decide (n > (((C.E.memN : Nat) : Int) - s.next))) hB5)) ?_
 intro aC w10 vs hK hv fr
 revert aC; refine zkp [(0, (pT C.r 0)), (1, (vI n)), (21, (.bool B5))] ?_
 have M11 := M4.then_ hK
 clear hK hv fr aC M4; clear vs
 have iB5 : B5 = true ↔ ((n : Int) > (((C.E.memN : Nat) : Int) - s.next)) := by rw [hB5]; simp only [decide_eq_true_eq]
 clear hB5
 refine zcP B5 ((n : Int) > (((C.E.memN : Nat) : Int) - s.next)) iB5 (fun c12 => ?_) (fun c12 => ?_)
 refine zrg <| zpn 1 <| zce (tstop_c C.r 3 0 w10) (fun _ w2_ ⟨hv_, hx_⟩ a_ hf_ => by subst hv_; exact xpp hf_ (⟨_, _, s, oA, oc, by unfold allocS; rw [if_neg (by omega), if_pos (by omega)], rfl, hG, (M11.cl hx_)⟩)) ?_
 rintro _ w13 h_; exact h_.elim
 refine zsk <| zsr <| zpn 3 <| zld ⟨C.r, 4, none⟩ (vI s.next) (blk_cell (M11.get 0 rfl) rfl) <| zpn 1 <| zfe <| zsr <| zpn 3 <| zld ⟨C.r, 4, none⟩ (vI s.next) (blk_cell (M11.get 0 rfl) rfl) <| zpn 1 ?_
 refine zar (s.next + n) <| zpn 2 <| zsb (ho := (by simp)) M11 0 4 (vI (s.next + n)) rfl fun w15 M16 => ?_
 replace M16 := M16.nf
 refine zfe <| zsp <| zre <| xo1 (vI s.next) ?_
 exact ⟨s.next, { s with next := s.next + n }, oA, oc, by unfold allocS; rw [if_neg (by omega), if_neg (by omega)], rfl, hG.take (by omega) (by omega), M16⟩
theorem tnamei_c (r b : Nat) (l : List (ByteArray × Int)) (nm : ByteArray) (w : World) (hm : RO noS w (.map b (inK .string (vK l)))) :
    Calls Try.prog 56 #[(pT r 0), (.map (some b)), (.string nm)] w (REnds (fun v w' => ∃ n, lkp l nm = some n ∧ v = .int .i64 n ∧ Mem noS w w' []) (fun v w' => lkp l nm = none ∧ v = endT 5 0 ∧ Mem noS w w' [])) := by
 refine xen 20 [(pT r 0), (.map (some b)), (.string nm)] Try.func56 ?_
 have hM := Mem.init w
 refine zsp <| zsr ?_
 cases hq : lkp l nm
 refine zpn 2 <| zlv (ht := Try.underlying60) (strLaw Try.underlying9) nm (vI 0) (hM.ro hm) true (v := (.tuple #[(vI 0), (.bool false)])) (by rw [lkp_vK, hq]; rfl) <| zpn 5 <| zfe <| zsr <| zpn 3 <| zce (tfault_t r w) (fun _ w2_ ⟨hv_, hx_⟩ a_ hf_ => by subst hv_; exact xpp hf_ (⟨rfl, rfl, (hM.cl hx_)⟩)) ?_
 rintro _ w1 h_; exact h_.elim
 rename_i nn
 refine zpn 2 <| zlv (ht := Try.underlying60) (strLaw Try.underlying9) nm (vI 0) (hM.ro hm) true (v := (.tuple #[(vI nn), (.bool true)])) (by rw [lkp_vK, hq]; rfl) <| zpn 5 <| zfe <| zsr <| zpn 3 <| zce (tfault_f r w) (fun _ _ h_ => h_.elim) ?_
 rintro _ w3 ⟨rfl, M4x⟩
 have M4 := hM.cl M4x
 clear M4x hM
 refine zfe <| zsp <| zre <| xo1 (vI nn) ?_
 exact ⟨nn, rfl, rfl, M4⟩
theorem tname6_c (r b : Nat) (l : List (ByteArray × Int)) (nm : ByteArray) (w : World) (hm : RO noS w (.map b (inK .string (vK l)))) :
    Calls Try.prog 98 #[(pT r 0), (.map (some b)), (.string nm)] w (REnds (fun v w' => ∃ n, lkp l nm = some n ∧ v = .int .i64 n ∧ Mem noS w w' []) (fun v w' => lkp l nm = none ∧ v = endT 5 0 ∧ Mem noS w w' [])) := by
 refine xen 20 [(pT r 0), (.map (some b)), (.string nm)] Try.func98 ?_
 have hM := Mem.init w
 refine zsp <| zsr ?_
 cases hq : lkp l nm
 refine zpn 2 <| zlv (ht := Try.underlying64) (strLaw Try.underlying9) nm (vI 0) (hM.ro hm) true (v := (.tuple #[(vI 0), (.bool false)])) (by rw [lkp_vK, hq]; rfl) <| zpn 5 <| zfe <| zsr <| zpn 3 <| zce (tfault_t r w) (fun _ w2_ ⟨hv_, hx_⟩ a_ hf_ => by subst hv_; exact xpp hf_ (⟨rfl, rfl, (hM.cl hx_)⟩)) ?_
 rintro _ w1 h_; exact h_.elim
 rename_i nn
 refine zpn 2 <| zlv (ht := Try.underlying64) (strLaw Try.underlying9) nm (vI 0) (hM.ro hm) true (v := (.tuple #[(vI nn), (.bool true)])) (by rw [lkp_vK, hq]; rfl) <| zpn 5 <| zfe <| zsr <| zpn 3 <| zce (tfault_f r w) (fun _ _ h_ => h_.elim) ?_
 rintro _ w3 ⟨rfl, M4x⟩
 have M4 := hM.cl M4x
 clear M4x hM
 refine zfe <| zsp <| zre <| xo1 (vI nn) ?_
 exact ⟨nn, rfl, rfl, M4⟩
end Go.Proofs.Ytdcgcjibgihbbaa
namespace Go.Mor
open Go.RowKit
section
variable {P : Program} {C : TC} {s s2 : PSt} {oA : Option Addr} {oc : Nat} {w : World} {fn : FuncId} {args : List Value} {g : Got Int} {x k c : Int}
theorem tcalls_ok (hg : g = .ok x s2) (h : TCalls P C s oA oc w fn args intV g) :
    Calls P fn args.toArray w (REnds (fun v w' => v = .int .i64 x ∧ ∃ oA' oc', TGood C s2 ∧ Mem (tS C s oA oc) w w' (tunL C s2 oA' oc')) (fun _ _ => False)) := by
  refine REnds.weak h (fun v w' h => ?_) (fun v w' h => ?_)
  · obtain ⟨x', s', oA', oc', hg', rfl, hG, hm⟩ := h
    have e := hg.symm.trans hg'
    injection e with e1 e2
    subst e1 e2
    exact ⟨rfl, oA', oc', hG, hm⟩
  · obtain ⟨k', c', s', oA', oc', hg', _⟩ := h
    rw [hg] at hg'
    cases hg'
theorem tcalls_stop (hg : g = .stop k c s2) (h : TCalls P C s oA oc w fn args intV g) :
    Calls P fn args.toArray w (REnds (fun _ _ => False) (fun v w' => v = endT k c ∧ ∃ oA' oc', TGood C s2 ∧ Mem (tS C s oA oc) w w' (tunL C s2 oA' oc'))) := by
  refine REnds.weak h (fun v w' h => ?_) (fun v w' h => ?_)
  · obtain ⟨x', s', oA', oc', hg', _⟩ := h
    rw [hg] at hg'
    cases hg'
  · obtain ⟨k', c', s', oA', oc', hg', rfl, hG, hm⟩ := h
    have e := hg.symm.trans hg'
    injection e with e1 e2 e3
    subst e1 e2 e3
    exact ⟨rfl, oA', oc', hG, hm⟩
theorem stepT_steps {E : Env0} {s s' : PSt} {u : Unit} (h : stepS E s = .ok u s') : s'.steps = s.steps + 1 ∧ s'.opened = s.opened := by
  unfold stepS at h
  split at h
  · cases h
  · injection h with _ h
    rw [← h]
    exact ⟨rfl, rfl⟩
theorem kids_start {ev : MEx → PSt → Got Int} {l : List MEx} {s : PSt} : kidsS ev l s = (kidsS ev (l.drop 0) s).bind (fun r s => .ok ([] ++ r) s) := by
  rw [List.drop_zero]
  cases kidsS ev l s <;> rfl
theorem kids_next {ev : MEx → PSt → Got Int} {l : List MEx} {j : Nat} {k : MEx} {s s2 : PSt} {x : Int} {vs : List Int} (hk : l[j]? = some k) (hg : ev k s = .ok x s2) :
    (kidsS ev (l.drop j) s).bind (fun r s => .ok (vs ++ r) s) = (kidsS ev (l.drop (j + 1)) s2).bind (fun r s => .ok ((vs ++ [x]) ++ r) s) := by
  rw [kids_at hk, gbind_ok hg]
  cases kidsS ev (l.drop (j + 1)) s2 <;> simp [Got.bind]
theorem kids_halt {ev : MEx → PSt → Got Int} {l : List MEx} {j : Nat} {k : MEx} {s s2 : PSt} {a b : Int} {vs : List Int} (hk : l[j]? = some k) (hg : ev k s = .stop a b s2) :
    (kidsS ev (l.drop j) s).bind (fun r s => .ok (vs ++ r) s) = .stop a b s2 := by
  rw [kids_at hk, gbind_stop hg]
  rfl
theorem kids_stop {ev : MEx → PSt → Got Int} {l : List MEx} {j : Nat} {s : PSt} {vs : List Int} (h : l.length ≤ j) : (kidsS ev (l.drop j) s).bind (fun r s => .ok (vs ++ r) s) = .ok vs s := by
  rw [List.drop_eq_nil_of_le h]
  show Got.ok (vs ++ []) s = _
  rw [List.append_nil]
end
end Go.Mor
namespace Go.Proofs.Ytdcgcjibgihbbaa
open Go.Mor
theorem tkids_c (C : TC) (s : PSt) (oA : Option Addr) (oc : Nat) (w : World) (hC : C.WF) (hG : TGood C s) (hR : (Res.pk (tunL C s oA oc)).holds w) (hA : RO (tS C s oA oc) w C.ro) (g : Nat) (hE : ExOk Try.prog C 90 (exS C.E g) (g : Int)) (l : List MEx) (A : Option Addr) (c : Nat) (f : Frm) (cb lq m : Nat) (hb : C.E.fuel - s.steps < (g : Int)) (hl : SubEs C.T A l) (hw : ∀ e, e ∈ l → ExW (m : Int) e) (hll : l.length ≤ 17) (hfl : f.loc.length = m) (hFB : RO (tS C s oA oc) w (frmB cb lq m f)) (hFR : RO (tS C s oA oc) w (.rd (sM lq) (ints f.loc))) :
    Calls Try.prog 97 #[(pT C.r 0), (pT cb 0), (vS A l.length c)] w (REnds (fun v w' => ∃ vs s' oA' oc' A' c', kidsS (exS C.E g f.loc) l s = .ok vs s' ∧ v = .slice A' vs.length c' ∧ TGood C s' ∧ vs.length = l.length ∧ Mem (tS C s oA oc) w w' (tunL C s' oA' oc' ++ [.row 2 1 A' vs.length c' (ints vs)])) (fun v w' => TP C (tS C s oA oc) w (kidsS (exS C.E g f.loc) l s) v w')) := by
 refine xen 25 [(pT C.r 0), (pT cb 0), (vS A l.length c)] Try.func97 ?_
 have hM := Mem.unpk hR
 refine zsp <| zsp <| zsq <| zsp <| zbk 0 ?_
 have M1 := hM.cl (Mem.nilrow _ 2 1)
 clear hM
 intro aC fr
 refine zlp (fun n_ a_ w_ => ∃ (j : Nat) (vs : List Int) (sj : PSt) (oAj : Option Addr) (ocj : Nat) (Aj : Option Addr) (cj : Nat), n_ = l.length - j ∧ Fr a_ 25 [(0, (pT C.r 0)), (1, (pT cb 0)), (7, (vS Aj vs.length cj)), (10, (vS A l.length c)), (11, (vI ((l.length : Nat) : Int))), (12, (nV j))] ∧ Mem (tS C s oA oc) w w_ [tb_ C sj oAj ocj, tm_ C sj, to_ sj oAj ocj, .row 2 1 Aj vs.length cj (ints vs)] ∧ (j ≤ l.length) ∧ (vs.length = j) ∧ (TGood C sj) ∧ (s.steps ≤ sj.steps) ∧ (kidsS (exS C.E g f.loc) l s = (kidsS (exS C.E g f.loc) (l.drop j) sj).bind (fun r s => .ok (vs ++ r) s))) (n := _) ⟨0, [], s, oA, oc, none, 0, rfl, fr.kp [0, 1, 7, 10, 11, 12], M1, Nat.zero_le _, rfl, hG, Int.le_refl _, kids_start⟩ ?_
 clear fr aC M1; rintro n aC w4 ⟨j, vs, sj, oAj, ocj, Aj, cj, rfl, fr, M5, hj, hvj, hGj, hsj, hr⟩
 revert aC
 refine zsp <| zsq <| zcD (((j : Int) : Int) < ((l.length : Nat) : Int)) (fun c8 => ?_) (fun c8 => ?_)
 refine zsk <| zsq <| zbk 1 <| zsr ?_
 obtain ⟨k, hk⟩ := get_of (l := l) (i := j) (by omega)
 have hkm := List.mem_of_getElem? hk
 obtain ⟨ad9, rfl⟩ := rds_some (M5.ro (hA.tree hl.1)) (cs := k.cells) (i := j) (gm hk)
 refine zix ad9 l.length 4 (j : Int) ?_
 refine zls ((ad9 : Addr).add (((j : Int)).toNat * 4)) (EC k) (rds_cells (i := j) (M5.ro (hA.tree hl.1)) rfl (gm hk)) ?_
 refine zal M5 53 [(vI 0), (vI 0), (.string ⟨#[]⟩), (vS none 0 0)] fun b10 w11 hb10 M12 => ?_
 replace M12 := M12.nf
 refine zss M12 4 (EC k) rfl fun w13 M14 => ?_
 replace M14 := M14.nf
 refine zfe <| zrg <| zpn 3 <| zls ⟨b10, 0, none⟩ (EC k) (blk_cells (M14.get 4 rfl)) <| zce (hE k f cb lq m sj oAj ocj w13 hGj (by omega) (Mem.pk_holds (l := tunL C sj oAj ocj) M14) (hA.pk_at (l := tunL C sj oAj ocj) M14) (hl.2 k hkm) (hw k hkm) hfl (hFB.pk_at (l := tunL C sj oAj ocj) M14) (hFR.pk_at (l := tunL C sj oAj ocj) M14)) (fun _ w2_ ⟨k_, c_, s_, oA_, oc_, hg_, hv_, hG_, hx_⟩ a_ hf_ => by subst hv_; exact inB_pan <| inB_pan <| xpp hf_ ⟨k_, c_, s_, oA_, oc_, hr.trans (kids_halt hk hg_), rfl, hG_, Mem.tk (Mem.mdk (l := tunL C sj oAj ocj) M14 hx_) 3⟩) ?_
 rintro _ w20 ⟨x15, s16, oA17, oc18, hg19, rfl, hGs16, M21x⟩
 have M21 : Mem (tS C s oA oc) w w20 [tb_ C s16 oA17 oc18, tm_ C s16, to_ s16 oA17 oc18, .row 2 1 Aj vs.length cj (ints vs), .blk b10 53 (EC k)] := M14.mdk M21x
 obtain ⟨hss16, hos16⟩ := (ev_stay C.E g).1 f.loc k sj x15 s16 hg19
 intro aC fr
 refine zBs 21 56 1 #[(0, (.tmp 20))] 56 fr (e := 2) (size := 1) (zs := [(vI 0)]) (vs := [(0, (vI x15))]) (cs := [(vI x15)]) M21 ?_
 intro b22 w23 hb22 _ M24 _ aC ea fr; clear ea
 replace M24 := M24.nf
 refine zAN 22 (.tmp 16) (.tmp 21) 56 56 fr (e := 2) (size := 1) (bytes := 8) (z := (vI 0)) (A := Aj) (B := (sM b22)) (n := vs.length) (cap := cj) (m := 1) (cap' := 1) (xs := (ints vs)) (news := [(vI x15)]) M24 3 rfl (row_rd (M24.get 5 rfl)) rfl (by simp [Value.oneCell']) (by omega) (by simp only [maxLen]; omega) ((vs ++ [x15]).length) (ints (vs ++ [x15])) (by rw [List.length_append]; rfl) (by rw [ints_append]; rfl) ?_
 intro A29 c30 w31 M32 _ aC ea fr; clear ea
 replace M32 := M32.nf
 have M35 := M32.od [4, 4, 4, 4, 4] 5
 revert aC
 refine zpn 1 <| zfe <| zrg <| zar ((j : Int) + 1) <| zkp [(0, (pT C.r 0)), (1, (pT cb 0)), (7, (vS A29 (vs ++ [x15]).length c30)), (10, (vS (some ad9) l.length c)), (11, (vI ((l.length : Nat) : Int))), (23, (vI ((j : Int) + 1)))] <| zpn 1 <| zfe ?_
 intro aC fr
 exact ⟨l.length - (j + 1), by omega, j + 1, vs ++ [x15], s16, oA17, oc18, A29, c30, rfl, fr.kp [0, 1, 7, 10, 11, 12], (M35.tk 4), by omega, by rw [List.length_append, hvj]; rfl, hGs16, by omega, hr.trans (kids_next hk hg19)⟩
 refine zex 0 <| zbh <| zsp <| zre <| xo1 (vS Aj vs.length cj) ?_
 have hj2 : l.length ≤ j := by omega
 exact ⟨vs, sj, oAj, ocj, Aj, cj, hr.trans (kids_stop hj2), rfl, hGj, by omega, M5⟩
end Go.Proofs.Ytdcgcjibgihbbaa
