/-
  Texts of the proof, part 14.
-/
import Derived.Test.YtdcgcjibgihbbaaZa13
import Derived.Laws.BytesArg
import Derived.Test.YtdcgcjibgihbbaaRows
set_option maxRecDepth 10000
namespace Go.Mor
open Go.RowKit
section
variable {P : Program} {c : Code} {K : Act → World → Prop} {Q : Exit → Act → World → Prop} {w : World} {k : Nat} {N : FN} {env : Env}
end
section
variable {P : Program} {c : Code} {Q : Exit → Act → World → Prop} {N : FN} {i : Nat} {env0 : Env} {wr : World} {sp : Nat → Spec}
end
end Go.Mor
namespace Go.Proofs.Ytdcgcjibgihbbaa
open Go.Mor
theorem one15_c (n : Int) (w : World) :
    Calls Try.prog 26 #[(.int .i64 n)] w (Ret fun v w' => v = .agg #[.int .i64 1, .int .i64 n, .string ⟨#[]⟩, .slice none 0 0] ∧ Mem noS w w' []) := by
 refine zen 5 [(.int .i64 n)] Try.func26 ?_
 have hM := Mem.init w
 refine zsr <| zal hM 53 [(.int .i64 0), (.int .i64 0), (.string ⟨#[]⟩), (.slice none 0 0)] fun b1 w2 hb1 M3 => ?_
 replace M3 := M3.nf
 clear hM
 refine zfe <| zsr <| zpn 2 ?_
 intro aC fr
 refine From_storeS_blk (by kernel_rfl : coreAt _ 2 = some (none, (.store 53 (.tmp 2) (.tmp 4)), 0, none)) fr (by kernel_rfl) (by kernel_rfl) (k' := 3) rfl (b := b1) (t0 := 53) (vs := [(.int .i64 1), (.int .i64 n), (.string ⟨#[]⟩), (.slice none 0 0)]) (cs := [(.int .i64 0), (.int .i64 0), (.string ⟨#[]⟩), (.slice none 0 0)]) (by kernel_rfl) (by kernel_rfl) (by kernel_rfl) (by simp only [List.mem_cons, List.not_mem_nil, or_false]; intro v hv; rcases hv with rfl | rfl | rfl | rfl <;> first | rfl | assumption) M3 0 rfl rfl ?_
 intro w4 M5 _ aC ea fr; clear ea
 replace M5 := M5.nf
 revert aC
 refine zfe <| zre ?_
 intro aC fr
 refine outC (ad := ⟨b1, 0, none⟩) (vs := [(.int .i64 1), (.int .i64 n), (.string ⟨#[]⟩), (.slice none 0 0)]) fr rfl (by kernel_rfl) (by kernel_rfl) (blk_cells (M5.get 0 rfl)) ?_
 refine ⟨_, rfl, ?_⟩
 have M12 := M5.od [] 0
 exact ⟨rfl, M12⟩
theorem local15_c (n : Int) (w : World) :
    Calls Try.prog 25 #[(.int .i64 n)] w (Ret fun v w' => v = .agg #[.int .i64 2, .int .i64 n, .string ⟨#[]⟩, .slice none 0 0] ∧ Mem noS w w' []) := by
 refine zen 5 [(.int .i64 n)] Try.func25 ?_
 have hM := Mem.init w
 refine zsr <| zal hM 53 [(.int .i64 0), (.int .i64 0), (.string ⟨#[]⟩), (.slice none 0 0)] fun b1 w2 hb1 M3 => ?_
 replace M3 := M3.nf
 clear hM
 refine zfe <| zsr <| zpn 2 ?_
 intro aC fr
 refine From_storeS_blk (by kernel_rfl : coreAt _ 2 = some (none, (.store 53 (.tmp 2) (.tmp 4)), 0, none)) fr (by kernel_rfl) (by kernel_rfl) (k' := 3) rfl (b := b1) (t0 := 53) (vs := [(.int .i64 2), (.int .i64 n), (.string ⟨#[]⟩), (.slice none 0 0)]) (cs := [(.int .i64 0), (.int .i64 0), (.string ⟨#[]⟩), (.slice none 0 0)]) (by kernel_rfl) (by kernel_rfl) (by kernel_rfl) (by simp only [List.mem_cons, List.not_mem_nil, or_false]; intro v hv; rcases hv with rfl | rfl | rfl | rfl <;> first | rfl | assumption) M3 0 rfl rfl ?_
 intro w4 M5 _ aC ea fr; clear ea
 replace M5 := M5.nf
 revert aC
 refine zfe <| zre ?_
 intro aC fr
 refine outC (ad := ⟨b1, 0, none⟩) (vs := [(.int .i64 2), (.int .i64 n), (.string ⟨#[]⟩), (.slice none 0 0)]) fr rfl (by kernel_rfl) (by kernel_rfl) (blk_cells (M5.get 0 rfl)) ?_
 refine ⟨_, rfl, ?_⟩
 have M12 := M5.od [] 0
 exact ⟨rfl, M12⟩
theorem awake15_d (w : World) :
    Calls Try.prog 10 #[] w (Ret fun v w' => v = .bool (decide (True)) ∧ Mem noS w w' []) := by
 refine zen 48 [] Try.func10 ?_
 have hM := Mem.init w
 refine zsp <| zsr <| zcl (local15_c 0 w) ?_
 rintro _ w1 ⟨rfl, M2x⟩
 have M2 := hM.cl M2x
 clear M2x hM
 refine zcl (one15_c 1 w1) ?_
 rintro _ w3 ⟨rfl, M4x⟩
 have M4 := M2.cl M4x
 intro aC fr
 refine zBs 6 46 2 #[(0, (.tmp 4)), (1, (.tmp 5))] 46 fr (e := 53) (size := 4) (zs := [(.int .i64 0), (.int .i64 0), (.string ⟨#[]⟩), (.slice none 0 0)]) (vs := [(0, (.agg #[(.int .i64 2), (.int .i64 0), (.string ⟨#[]⟩), (.slice none 0 0)])), (1, (.agg #[(.int .i64 1), (.int .i64 1), (.string ⟨#[]⟩), (.slice none 0 0)]))]) (cs := [(.int .i64 2), (.int .i64 0), (.string ⟨#[]⟩), (.slice none 0 0), (.int .i64 1), (.int .i64 1), (.string ⟨#[]⟩), (.slice none 0 0)]) M4 ?_
 intro b5 w6 hb5 _ M7 _ aC ea fr; clear ea
 replace M7 := M7.nf
 revert aC
 refine zpn 1 ?_
 intro aC fr
 refine zBs 8 46 1 #[(0, (.tmp 7))] 46 fr (e := 53) (size := 4) (zs := [(.int .i64 0), (.int .i64 0), (.string ⟨#[]⟩), (.slice none 0 0)]) (vs := [(0, (.agg #[(.int .i64 3), (.int .i64 1), (.string ⟨#[]⟩), (.slice (sM b5) 2 2)]))]) (cs := [(.int .i64 3), (.int .i64 1), (.string ⟨#[]⟩), (.slice (sM b5) 2 2)]) M7 ?_
 intro b12 w13 hb12 _ M14 _ aC ea fr; clear ea
 replace M14 := M14.nf
 revert aC
 refine zpn 1 ?_
 intro aC fr
 refine zBs 10 43 1 #[(0, (.tmp 9))] 43 fr (e := 48) (size := 5) (zs := [(.int .i64 0), (.int .i64 0), (.slice none 0 0), (.slice none 0 0), (.slice none 0 0)]) (vs := [(0, (.agg #[(.int .i64 9), (.int .i64 0), (.slice (sM b12) 1 1), (.slice none 0 0), (.slice none 0 0)]))]) (cs := [(.int .i64 9), (.int .i64 0), (.slice (sM b12) 1 1), (.slice none 0 0), (.slice none 0 0)]) M14 ?_
 intro b19 w20 hb19 _ M21 _ aC ea fr; clear ea
 replace M21 := M21.nf
 revert aC
 refine zpn 1 <| zal M21 45 [(.string ⟨#[]⟩), (.bool false), (.int .i64 0), (.int .i64 0), (.slice none 0 0)] fun b26 w27 hb26 M28 => ?_
 replace M28 := M28.nf
 refine zss M28 3 [(.string ⟨#[102]⟩), (.bool false), (.int .i64 1), (.int .i64 1), (.slice (sM b19) 1 1)] rfl fun w29 M30 => ?_
 replace M30 := M30.nf
 refine zfe <| zsr <| zpn 1 ?_
 intro aC fr
 refine zBs 13 43 1 #[(0, (.tmp 12))] 43 fr (e := 48) (size := 5) (zs := [(.int .i64 0), (.int .i64 0), (.slice none 0 0), (.slice none 0 0), (.slice none 0 0)]) (vs := [(0, (.agg #[(.int .i64 10), (.int .i64 5), (.slice none 0 0), (.slice none 0 0), (.slice none 0 0)]))]) (cs := [(.int .i64 10), (.int .i64 5), (.slice none 0 0), (.slice none 0 0), (.slice none 0 0)]) M30 ?_
 intro b31 w32 hb31 _ M33 _ aC ea fr; clear ea
 replace M33 := M33.nf
 revert aC
 refine zkp [(1, (pT b26 0)), (13, (.slice (sM b31) 1 1))] <| zpn 1 <| zal M33 45 [(.string ⟨#[]⟩), (.bool false), (.int .i64 0), (.int .i64 0), (.slice none 0 0)] fun b38 w39 hb38 M40 => ?_
 replace M40 := M40.nf
 refine zss M40 5 [(.string ⟨#[103]⟩), (.bool false), (.int .i64 0), (.int .i64 0), (.slice (sM b31) 1 1)] rfl fun w41 M42 => ?_
 replace M42 := M42.nf
 refine zfe <| zsr <| zls ⟨b38, 0, none⟩ [(.string ⟨#[103]⟩), (.bool false), (.int .i64 0), (.int .i64 0), (.slice (sM b31) 1 1)] (blk_cells (M42.get 5 rfl)) ?_
 intro aC fr
 refine zBs 16 22 1 #[(0, (.tmp 15))] 22 fr (e := 45) (size := 5) (zs := [(.string ⟨#[]⟩), (.bool false), (.int .i64 0), (.int .i64 0), (.slice none 0 0)]) (vs := [(0, (.agg #[(.string ⟨#[103]⟩), (.bool false), (.int .i64 0), (.int .i64 0), (.slice (sM b31) 1 1)]))]) (cs := [(.string ⟨#[103]⟩), (.bool false), (.int .i64 0), (.int .i64 0), (.slice (sM b31) 1 1)]) M42 ?_
 intro b43 w44 hb43 _ M45 _ aC ea fr; clear ea
 replace M45 := M45.nf
 revert aC
 refine zpn 1 ?_
 intro aC fr
 refine zBs 18 32 1 #[(0, (.tmp 17))] 32 fr (e := 25) (size := 3) (zs := [(.string ⟨#[]⟩), (.slice none 0 0), (.slice none 0 0)]) (vs := [(0, (.agg #[(.string ⟨#[]⟩), (.slice (sM b43) 1 1), (.slice none 0 0)]))]) (cs := [(.string ⟨#[]⟩), (.slice (sM b43) 1 1), (.slice none 0 0)]) M45 ?_
 intro b50 w51 hb50 _ M52 _ aC ea fr; clear ea
 replace M52 := M52.nf
 refine zBs 19 33 1 #[(0, (.const (.string { data := #[103] })))] 33 fr (e := 9) (size := 1) (zs := [(.string ⟨#[]⟩)]) (vs := [(0, (.string ⟨#[103]⟩))]) (cs := [(.string ⟨#[103]⟩)]) M52 ?_
 intro b57 w58 hb57 _ M59 _ aC ea fr; clear ea
 replace M59 := M59.nf
 revert aC
 refine zcl (vs := #[(.slice (sM b50) 1 1), (.slice (sM b57) 1 1), (.int .i64 10), (.slice none 0 0), (.int .i64 10)]) ((by have h9 := trun_c [awM1 (sM b43) (sM b31)] (sM b50) 1 [⟨#[103]⟩] (sM b57) 1 10 [] none 0 10 w58 (aw1_in (A13 := (sM b31)) (A16 := (sM b43)) (M59.get 7 rfl) (M59.get 8 rfl) (M59.get 6 rfl) (M59.get 4 rfl)) (by show (0 : Nat) ≤ _; omega); rw [aw1_run] at h9; exact h9)) ?_
 rintro _ w64 ⟨oA62, oc63, rfl, M65x⟩
 have M65 := M59.cl M65x
 refine zal M65 38 [(.int .i64 0), (.int .i64 0), (.slice none 0 0), (.int .i64 0)] fun b66 w67 hb66 M68 => ?_
 replace M68 := M68.nf
 refine zss M68 10 [(.int .i64 2), (.int .i64 5), (.slice oA62 0 oc63), (.int .i64 1)] rfl fun w69 M70 => ?_
 replace M70 := M70.nf
 refine zfe <| zsr <| zls ⟨b26, 0, none⟩ [(.string ⟨#[102]⟩), (.bool false), (.int .i64 1), (.int .i64 1), (.slice (sM b19) 1 1)] (blk_cells (M70.get 3 rfl)) <| zkp [(1, (pT b26 0)), (2, (pT b38 0)), (3, (pT b66 0)), (21, (.agg #[(.string ⟨#[102]⟩), (.bool false), (.int .i64 1), (.int .i64 1), (.slice (sM b19) 1 1)]))] <| zcl (vs := #[(.agg #[(.string ⟨#[102]⟩), (.bool false), (.int .i64 1), (.int .i64 1), (.slice (sM b19) 1 1)])]) ((by have h9 := tsize_c (awFn (sM b5) (sM b12) (sM b19)) _ w69 (awFn_ro (A6 := (sM b5)) (A8 := (sM b12)) (A10 := (sM b19)) (M70.get 0 rfl) (M70.get 1 rfl) (M70.get 2 rfl)) (sub_fn (List.mem_singleton.2 rfl)) awFn_in (by show (4 : Nat) ≤ _; omega); exact h9)) ?_
 rintro _ w71 ⟨rfl, M72x⟩
 have M72 := M70.cl M72x
 refine zpn 2 <| zls ⟨b26, 0, none⟩ [(.string ⟨#[102]⟩), (.bool false), (.int .i64 1), (.int .i64 1), (.slice (sM b19) 1 1)] (blk_cells (M72.get 3 rfl)) <| zls ⟨b38, 0, none⟩ [(.string ⟨#[103]⟩), (.bool false), (.int .i64 0), (.int .i64 0), (.slice (sM b31) 1 1)] (blk_cells (M72.get 5 rfl)) ?_
 intro aC fr
 refine From_buildSlice (by kernel_rfl : coreAt _ 6 = some (some 27, (.buildSlice 22 2 #[(0, (.tmp 25)), (1, (.tmp 26))]), 22, some (3, true))) fr (by kernel_rfl) (by kernel_rfl) (k' := 7) rfl (e := 45) (size := 5) (zs := [(.string ⟨#[]⟩), (.bool false), (.int .i64 0), (.int .i64 0), (.slice none 0 0)]) (vs := [(0, (.agg #[(.string ⟨#[102]⟩), (.bool false), (.int .i64 1), (.int .i64 1), (.slice (sM b19) 1 1)])), (1, (.agg #[(.string ⟨#[103]⟩), (.bool false), (.int .i64 0), (.int .i64 0), (.slice (sM b31) 1 1)]))]) (cs := [(.string ⟨#[102]⟩), (.bool false), (.int .i64 1), (.int .i64 1), (.slice (sM b19) 1 1), (.string ⟨#[103]⟩), (.bool false), (.int .i64 0), (.int .i64 0), (.slice (sM b31) 1 1)]) (by kernel_rfl) (by kernel_rfl) (by kernel_rfl) (by kernel_rfl) (by kernel_rfl) (by kernel_rfl) M72 ?_
 intro b73 w74 hb73 _ M75 _ aC ea fr; clear ea
 replace M75 := M75.nf
 revert aC
 refine zpn 1 <| zcl (tsmall_c (awM2 (sM b73) (sM b5) (sM b12) (sM b19) (sM b31)) w74 (awM2_ro (A27 := (sM b73)) (A6 := (sM b5)) (A8 := (sM b12)) (A10 := (sM b19)) (A13 := (sM b31)) (M75.get 11 rfl) (M75.get 0 rfl) (M75.get 1 rfl) (M75.get 2 rfl) (M75.get 4 rfl)) awM2_in) ?_
 rintro _ w84 ⟨fs82, A80, c81, hf83, rfl, M85x⟩
 have M85 := M75.cl M85x
 rw [aw_small_len hf83]
 have hfl_ := aw_small_len hf83
 refine zpn 5 <| zld ⟨b66, 0, none⟩ (.int .i64 2) (blk_cell (M85.get 10 rfl) rfl) <| zpn 4 <| zld ⟨b66, 1, none⟩ (.int .i64 5) (blk_cell (M85.get 10 rfl) rfl) <| zpn 4 <| zld ⟨b66, 3, none⟩ (.int .i64 1) (blk_cell (M85.get 10 rfl) rfl) <| zkp [(43, (.bool true)), (45, (.int .i64 1))] <| zpn 3 <| zfe <| zre ?_
 refine zo1 (.bool true) ?_
 have hR : true = true ↔ True := by simp
 have M86 := M85.od [] 0
 exact ⟨bool_dec hR (⟨fun _ => trivial, fun _ => by first | trivial | omega | rfl⟩), M86⟩
theorem awake15_c (w : World) : Calls Try.prog 10 #[] w (Ret fun v w' => v = .bool true ∧ Mem noS w w' []) := by
  have h := awake15_d w
  simpa using h
end Go.Proofs.Ytdcgcjibgihbbaa
namespace Go.Proofs.Ytdcgcjibgihbbaa
open Go.Mor
set_option maxHeartbeats 1000000 in
theorem treeCounts_d (k : Nat) (hk : k ≤ 255) (w : World) :
    Calls Try.prog 8 #[(.int .u8 (k : Int))] w (Ret fun v w' => v = .bool (decide (True)) ∧ Mem noS w w' []) := by
 refine zen 78 [(.int .u8 (k : Int))] Try.func8 ?_
 have hM := Mem.init w
 refine zsp <| zsr <| zpn 1 <| zcv (hz := (IntWalk.i64_in _ ⟨by omega, by omega⟩)) (k : Int) .i64 (k : Int) <| zpn 1 <| zfe <| zsr <| zcl (local15_c 0 w) ?_
 rintro _ w1 ⟨rfl, M2x⟩
 have M2 := hM.cl M2x
 clear M2x hM
 intro aC fr
 refine zBs 11 46 1 #[(0, (.tmp 10))] 46 fr (e := 53) (size := 4) (zs := [(.int .i64 0), (.int .i64 0), (.string ⟨#[]⟩), (.slice none 0 0)]) (vs := [(0, (.agg #[(.int .i64 2), (.int .i64 0), (.string ⟨#[]⟩), (.slice none 0 0)]))]) (cs := [(.int .i64 2), (.int .i64 0), (.string ⟨#[]⟩), (.slice none 0 0)]) M2 ?_
 intro b3 w4 hb3 _ M5 _ aC ea fr; clear ea
 replace M5 := M5.nf
 revert aC
 refine zpn 1 ?_
 intro aC fr
 refine zBs 13 46 1 #[(0, (.tmp 12))] 46 fr (e := 53) (size := 4) (zs := [(.int .i64 0), (.int .i64 0), (.string ⟨#[]⟩), (.slice none 0 0)]) (vs := [(0, (.agg #[(.int .i64 4), (.int .i64 3), (.string ⟨#[]⟩), (.slice (sM b3) 1 1)]))]) (cs := [(.int .i64 4), (.int .i64 3), (.string ⟨#[]⟩), (.slice (sM b3) 1 1)]) M5 ?_
 intro b10 w11 hb10 _ M12 _ aC ea fr; clear ea
 replace M12 := M12.nf
 revert aC
 refine zpn 1 ?_
 intro aC fr
 refine zBs 15 43 1 #[(0, (.tmp 14))] 43 fr (e := 48) (size := 5) (zs := [(.int .i64 0), (.int .i64 0), (.slice none 0 0), (.slice none 0 0), (.slice none 0 0)]) (vs := [(0, (.agg #[(.int .i64 7), (.int .i64 0), (.slice none 0 0), (.slice none 0 0), (.slice none 0 0)]))]) (cs := [(.int .i64 7), (.int .i64 0), (.slice none 0 0), (.slice none 0 0), (.slice none 0 0)]) M12 ?_
 intro b17 w18 hb17 _ M19 _ aC ea fr; clear ea
 replace M19 := M19.nf
 revert aC
 refine zpn 1 <| zcl (local15_c 0 w18) ?_
 rintro _ w24 ⟨rfl, M25x⟩
 have M25 := M19.cl M25x
 refine zkp [(3, (nV k)), (16, (.agg #[(.int .i64 5), (.int .i64 0), (.slice (sM b10) 1 1), (.slice (sM b17) 1 1), (.slice none 0 0)])), (17, (.agg #[(.int .i64 2), (.int .i64 0), (.string ⟨#[]⟩), (.slice none 0 0)]))] ?_
 intro aC fr
 refine zBs 18 46 1 #[(0, (.tmp 17))] 46 fr (e := 53) (size := 4) (zs := [(.int .i64 0), (.int .i64 0), (.string ⟨#[]⟩), (.slice none 0 0)]) (vs := [(0, (.agg #[(.int .i64 2), (.int .i64 0), (.string ⟨#[]⟩), (.slice none 0 0)]))]) (cs := [(.int .i64 2), (.int .i64 0), (.string ⟨#[]⟩), (.slice none 0 0)]) M25 ?_
 intro b26 w27 hb26 _ M28 _ aC ea fr; clear ea
 replace M28 := M28.nf
 revert aC
 refine zpn 1 <| zcl (local15_c 0 w27) ?_
 rintro _ w33 ⟨rfl, M34x⟩
 have M34 := M28.cl M34x
 refine zcl (one15_c 1 w33) ?_
 rintro _ w35 ⟨rfl, M36x⟩
 have M36 := M34.cl M36x
 intro aC fr
 refine zBs 22 46 2 #[(0, (.tmp 20)), (1, (.tmp 21))] 46 fr (e := 53) (size := 4) (zs := [(.int .i64 0), (.int .i64 0), (.string ⟨#[]⟩), (.slice none 0 0)]) (vs := [(0, (.agg #[(.int .i64 2), (.int .i64 0), (.string ⟨#[]⟩), (.slice none 0 0)])), (1, (.agg #[(.int .i64 1), (.int .i64 1), (.string ⟨#[]⟩), (.slice none 0 0)]))]) (cs := [(.int .i64 2), (.int .i64 0), (.string ⟨#[]⟩), (.slice none 0 0), (.int .i64 1), (.int .i64 1), (.string ⟨#[]⟩), (.slice none 0 0)]) M36 ?_
 intro b37 w38 hb37 _ M39 _ aC ea fr; clear ea
 replace M39 := M39.nf
 revert aC
 refine zpn 1 ?_
 intro aC fr
 refine zBs 24 46 1 #[(0, (.tmp 23))] 46 fr (e := 53) (size := 4) (zs := [(.int .i64 0), (.int .i64 0), (.string ⟨#[]⟩), (.slice none 0 0)]) (vs := [(0, (.agg #[(.int .i64 3), (.int .i64 2), (.string ⟨#[]⟩), (.slice (sM b37) 2 2)]))]) (cs := [(.int .i64 3), (.int .i64 2), (.string ⟨#[]⟩), (.slice (sM b37) 2 2)]) M39 ?_
 intro b44 w45 hb44 _ M46 _ aC ea fr; clear ea
 replace M46 := M46.nf
 revert aC
 refine zpn 1 ?_
 intro aC fr
 refine zBs 26 43 3 #[(0, (.tmp 16)), (1, (.tmp 19)), (2, (.tmp 25))] 43 fr (e := 48) (size := 5) (zs := [(.int .i64 0), (.int .i64 0), (.slice none 0 0), (.slice none 0 0), (.slice none 0 0)]) (vs := [(0, (.agg #[(.int .i64 5), (.int .i64 0), (.slice (sM b10) 1 1), (.slice (sM b17) 1 1), (.slice none 0 0)])), (1, (.agg #[(.int .i64 4), (.int .i64 0), (.slice (sM b26) 1 1), (.slice none 0 0), (.slice none 0 0)])), (2, (.agg #[(.int .i64 1), (.int .i64 0), (.slice (sM b44) 1 1), (.slice none 0 0), (.slice none 0 0)]))]) (cs := [(.int .i64 5), (.int .i64 0), (.slice (sM b10) 1 1), (.slice (sM b17) 1 1), (.slice none 0 0), (.int .i64 4), (.int .i64 0), (.slice (sM b26) 1 1), (.slice none 0 0), (.slice none 0 0), (.int .i64 1), (.int .i64 0), (.slice (sM b44) 1 1), (.slice none 0 0), (.slice none 0 0)]) M46 ?_
 intro b51 w52 hb51 _ M53 _ aC ea fr; clear ea
 replace M53 := M53.nf
 revert aC
 refine zpn 1 <| zfe <| zsr <| zpn 1 <| zcl (one15_c (k : Int) w52) ?_
 rintro _ w58 ⟨rfl, M59x⟩
 have M59 := M53.cl M59x
 refine zkp [(3, (nV k)), (4, (.slice (sM b51) 3 3)), (28, (.agg #[(.int .i64 1), (nV k), (.string ⟨#[]⟩), (.slice none 0 0)]))] ?_
 intro aC fr
 refine zBs 29 46 1 #[(0, (.tmp 28))] 46 fr (e := 53) (size := 4) (zs := [(.int .i64 0), (.int .i64 0), (.string ⟨#[]⟩), (.slice none 0 0)]) (vs := [(0, (.agg #[(.int .i64 1), (nV k), (.string ⟨#[]⟩), (.slice none 0 0)]))]) (cs := [(.int .i64 1), (nV k), (.string ⟨#[]⟩), (.slice none 0 0)]) M59 ?_
 intro b60 w61 hb60 _ M62 _ aC ea fr; clear ea
 replace M62 := M62.nf
 revert aC
 refine zpn 3 ?_
 intro aC fr
 refine zBs 33 43 2 #[(0, (.tmp 30)), (1, (.tmp 32))] 43 fr (e := 48) (size := 5) (zs := [(.int .i64 0), (.int .i64 0), (.slice none 0 0), (.slice none 0 0), (.slice none 0 0)]) (vs := [(0, (.agg #[(.int .i64 1), (.int .i64 0), (.slice (sM b60) 1 1), (.slice none 0 0), (.slice none 0 0)])), (1, (.agg #[(.int .i64 6), (.int .i64 0), (.slice none 0 0), (.slice (sM b51) 3 3), (.slice none 0 0)]))]) (cs := [(.int .i64 1), (.int .i64 0), (.slice (sM b60) 1 1), (.slice none 0 0), (.slice none 0 0), (.int .i64 6), (.int .i64 0), (.slice none 0 0), (.slice (sM b51) 3 3), (.slice none 0 0)]) M62 ?_
 intro b67 w68 hb67 _ M69 _ aC ea fr; clear ea
 replace M69 := M69.nf
 revert aC
 refine zpn 1 <| zal M69 45 [(.string ⟨#[]⟩), (.bool false), (.int .i64 0), (.int .i64 0), (.slice none 0 0)] fun b74 w75 hb74 M76 => ?_
 replace M76 := M76.nf
 refine zss M76 9 [(.string ⟨#[102]⟩), (.bool false), (.int .i64 0), (.int .i64 1), (.slice (sM b67) 2 2)] rfl fun w77 M78 => ?_
 replace M78 := M78.nf
 refine zfe <| zsr <| zls ⟨b74, 0, none⟩ [(.string ⟨#[102]⟩), (.bool false), (.int .i64 0), (.int .i64 1), (.slice (sM b67) 2 2)] (blk_cells (M78.get 9 rfl)) ?_
 intro aC fr
 refine zBs 36 22 1 #[(0, (.tmp 35))] 22 fr (e := 45) (size := 5) (zs := [(.string ⟨#[]⟩), (.bool false), (.int .i64 0), (.int .i64 0), (.slice none 0 0)]) (vs := [(0, (.agg #[(.string ⟨#[102]⟩), (.bool false), (.int .i64 0), (.int .i64 1), (.slice (sM b67) 2 2)]))]) (cs := [(.string ⟨#[102]⟩), (.bool false), (.int .i64 0), (.int .i64 1), (.slice (sM b67) 2 2)]) M78 ?_
 intro b79 w80 hb79 _ M81 _ aC ea fr; clear ea
 replace M81 := M81.nf
 revert aC
 refine zpn 1 ?_
 intro aC fr
 refine zBs 38 32 1 #[(0, (.tmp 37))] 32 fr (e := 25) (size := 3) (zs := [(.string ⟨#[]⟩), (.slice none 0 0), (.slice none 0 0)]) (vs := [(0, (.agg #[(.string ⟨#[]⟩), (.slice (sM b79) 1 1), (.slice none 0 0)]))]) (cs := [(.string ⟨#[]⟩), (.slice (sM b79) 1 1), (.slice none 0 0)]) M81 ?_
 intro b86 w87 hb86 _ M88 _ aC ea fr; clear ea
 replace M88 := M88.nf
 refine zBs 39 33 1 #[(0, (.const (.string { data := #[102] })))] 33 fr (e := 9) (size := 1) (zs := [(.string ⟨#[]⟩)]) (vs := [(0, (.string ⟨#[102]⟩))]) (cs := [(.string ⟨#[102]⟩)]) M88 ?_
 intro b93 w94 hb93 _ M95 _ aC ea fr; clear ea
 replace M95 := M95.nf
 revert aC
 refine zcl (vs := #[(.slice (sM b86) 1 1), (.slice (sM b93) 1 1), (.int .i64 1), (.slice none 0 0), (.int .i64 100000)]) ((by have h9 := trun_c [(ctM (k : Int) (sM b3) (sM b10) (sM b17) (sM b26) (sM b37) (sM b44) (sM b51) (sM b60) (sM b67) (sM b79))] (sM b86) 1 [⟨#[102]⟩] (sM b93) 1 1 [] none 0 100000 w94 (ct1_in (e38 := 25) (e39 := 9) hk (M95.get 11 rfl) (M95.get 12 rfl) (ctM_ro (k := k) (A36 := (sM b79)) (e36 := 45) (M95.get 10 rfl) (ct_own (k := k) (A11 := (sM b3)) (A13 := (sM b10)) (A15 := (sM b17)) (A18 := (sM b26)) (A22 := (sM b37)) (A24 := (sM b44)) (A26 := (sM b51)) (A29 := (sM b60)) (A33 := (sM b67)) (e11 := 53) (e13 := 53) (e18 := 53) (e22 := 53) (e24 := 53) (e29 := 53) (e15 := 48) (e26 := 48) (e33 := 48) (M95.get 0 rfl) (M95.get 1 rfl) (M95.get 2 rfl) (M95.get 3 rfl) (M95.get 4 rfl) (M95.get 5 rfl) (M95.get 6 rfl) (M95.get 7 rfl) (M95.get 8 rfl)))) (by show (0 : Nat) ≤ _; omega); rw [ct_run hk] at h9; exact h9)) ?_
 rintro _ w100 ⟨oA98, oc99, rfl, M101x⟩
 have M101 := M95.cl M101x
 refine zkp [(3, (nV k)), (40, (.agg #[(.int .i64 1), (.int .i64 0), (.slice oA98 ((downL k).length) oc99), (.int .i64 (10 * (k : Int) + 8))]))] <| zal M101 38 [(.int .i64 0), (.int .i64 0), (.slice none 0 0), (.int .i64 0)] fun b102 w103 hb102 M104 => ?_
 replace M104 := M104.nf
 refine zss M104 14 [(.int .i64 1), (.int .i64 0), (.slice oA98 ((downL k).length) oc99), (.int .i64 (10 * (k : Int) + 8))] rfl fun w105 M106 => ?_
 replace M106 := M106.nf
 refine zfe <| zsq <| zsr ?_
 have hdl := downL_len k
 refine zpn 1 <| zld ⟨b102, 0, none⟩ (.int .i64 1) (blk_cell (M106.get 14 rfl) rfl) <| zcm ((1 : Int) != 1) fun B107 hB107 => ?_
 obtain rfl : B107 = false := by
   have hkn : ¬ ((1 : Int) ≠ 1) := by omega
   first | exact hB107.trans (decide_eq_true hkn) | exact hB107.trans (decide_eq_false hkn) | exact hB107.trans (beq_iff_eq.2 hkn) | exact hB107.trans (bne_iff_ne.2 hkn) | exact hB107.trans (Bool.eq_false_iff.2 (fun e => hkn (beq_iff_eq.1 e))) | exact hB107.trans (Bool.eq_false_iff.2 (fun e => hkn (bne_iff_ne.1 e)))
 clear hB107
 refine zpn 2 <| zld ⟨b102, 2, none⟩ (.slice oA98 ((downL k).length) oc99) (blk_cell (M106.get 14 rfl) rfl) <| zpn 2 <| zcm ((((downL k).length : Nat) : Int) != (k : Int)) fun B108 hB108 => ?_
 obtain rfl : B108 = false := by
   have hkn : ¬ (((((downL k).length : Nat) : Int) : Int) ≠ (k : Int)) := by omega
   first | exact hB108.trans (decide_eq_true hkn) | exact hB108.trans (decide_eq_false hkn) | exact hB108.trans (beq_iff_eq.2 hkn) | exact hB108.trans (bne_iff_ne.2 hkn) | exact hB108.trans (Bool.eq_false_iff.2 (fun e => hkn (beq_iff_eq.1 e))) | exact hB108.trans (Bool.eq_false_iff.2 (fun e => hkn (bne_iff_ne.1 e)))
 clear hB108
 refine zpn 3 <| zld ⟨b102, 3, none⟩ (.int .i64 (10 * (k : Int) + 8)) (blk_cell (M106.get 14 rfl) rfl) <| zpn 1 <| zar (10 * (k : Int)) <| zkp [(3, (nV k)), (6, (pT b102 0)), (51, (.bool false)), (53, (.int .i64 (10 * (k : Int) + 8))), (55, (.int .i64 (10 * (k : Int))))] <| zar ((10 * (k : Int)) + 8) <| zcm ((10 * (k : Int) + 8) != ((10 * (k : Int)) + 8)) fun B109 hB109 => ?_
 obtain rfl : B109 = false := by
   have hkn : ¬ (((10 * (k : Int) + 8) : Int) ≠ ((10 * (k : Int)) + 8)) := by omega
   first | exact hB109.trans (decide_eq_true hkn) | exact hB109.trans (decide_eq_false hkn) | exact hB109.trans (beq_iff_eq.2 hkn) | exact hB109.trans (bne_iff_ne.2 hkn) | exact hB109.trans (Bool.eq_false_iff.2 (fun e => hkn (beq_iff_eq.1 e))) | exact hB109.trans (Bool.eq_false_iff.2 (fun e => hkn (bne_iff_ne.1 e)))
 clear hB109
 refine zpn 1 <| zfe <| zcF <| zsk <| zsq <| zsp <| zbk 0 ?_
 intro aC fr
 refine zlp (fun n_ a_ w_ => ∃ (i : Nat), n_ = k - i ∧ Fr a_ 78 [(3, (nV k)), (6, (pT b102 0)), (7, (nV i))] ∧ Mem noS w w_ [.row 53 4 (sM b3) 1 1 [(.int .i64 2), (.int .i64 0), (.string ⟨#[]⟩), (.slice none 0 0)], .row 53 4 (sM b10) 1 1 [(.int .i64 4), (.int .i64 3), (.string ⟨#[]⟩), (.slice (sM b3) 1 1)], .row 48 5 (sM b17) 1 1 [(.int .i64 7), (.int .i64 0), (.slice none 0 0), (.slice none 0 0), (.slice none 0 0)], .row 53 4 (sM b26) 1 1 [(.int .i64 2), (.int .i64 0), (.string ⟨#[]⟩), (.slice none 0 0)], .row 53 4 (sM b37) 2 2 [(.int .i64 2), (.int .i64 0), (.string ⟨#[]⟩), (.slice none 0 0), (.int .i64 1), (.int .i64 1), (.string ⟨#[]⟩), (.slice none 0 0)], .row 53 4 (sM b44) 1 1 [(.int .i64 3), (.int .i64 2), (.string ⟨#[]⟩), (.slice (sM b37) 2 2)], .row 48 5 (sM b51) 3 3 [(.int .i64 5), (.int .i64 0), (.slice (sM b10) 1 1), (.slice (sM b17) 1 1), (.slice none 0 0), (.int .i64 4), (.int .i64 0), (.slice (sM b26) 1 1), (.slice none 0 0), (.slice none 0 0), (.int .i64 1), (.int .i64 0), (.slice (sM b44) 1 1), (.slice none 0 0), (.slice none 0 0)], .row 53 4 (sM b60) 1 1 [(.int .i64 1), (nV k), (.string ⟨#[]⟩), (.slice none 0 0)], .row 48 5 (sM b67) 2 2 [(.int .i64 1), (.int .i64 0), (.slice (sM b60) 1 1), (.slice none 0 0), (.slice none 0 0), (.int .i64 6), (.int .i64 0), (.slice none 0 0), (.slice (sM b51) 3 3), (.slice none 0 0)], .blk b74 45 [(.string ⟨#[102]⟩), (.bool false), (.int .i64 0), (.int .i64 1), (.slice (sM b67) 2 2)], .row 45 5 (sM b79) 1 1 [(.string ⟨#[102]⟩), (.bool false), (.int .i64 0), (.int .i64 1), (.slice (sM b67) 2 2)], .row 25 3 (sM b86) 1 1 [(.string ⟨#[]⟩), (.slice (sM b79) 1 1), (.slice none 0 0)], .row 9 1 (sM b93) 1 1 [(.string ⟨#[102]⟩)], .row 5 1 oA98 ((downL k).length) oc99 (u8s (downL k)), .blk b102 38 [(.int .i64 1), (.int .i64 0), (.slice oA98 ((downL k).length) oc99), (.int .i64 (10 * (k : Int) + 8))]] ∧ (i ≤ k)) (n := _) ⟨0, rfl, fr.kp [3, 6, 7], M106, Nat.zero_le _⟩ ?_
 clear fr aC M106; rintro n aC w112 ⟨i, rfl, fr, M113, hi⟩
 revert aC
 refine zsq <| zsr <| zpn 2 <| zld ⟨b102, 2, none⟩ (.slice oA98 ((downL k).length) oc99) (blk_cell (M113.get 14 rfl) rfl) <| zpn 2 <| zfe <| zcD (((i : Int) : Int) < (((downL k).length : Nat) : Int)) (fun c116 => ?_) (fun c116 => ?_)
 refine zsk <| zsq <| zbk 1 <| zsr ?_
 have hdi := downL_at k i (by omega)
 refine zpn 1 <| zld ⟨b102, 2, none⟩ (.slice oA98 ((downL k).length) oc99) (blk_cell (M113.get 14 rfl) rfl) <| zpn 1 ?_
 obtain ⟨g118, rfl⟩ := row_some (M113.get 13 rfl) (by omega)
 refine zix ⟨g118, 0, none⟩ ((downL k).length) 1 (i : Int) ?_
 refine zld ((⟨g118, 0, none⟩ : Addr).add (((i : Int)).toNat * 1)) (.int .u8 ((k : Int) - (i : Int))) (rd_get1 (j := i) (row_rd (M113.get 13 rfl)) rfl (by rw [u8s, List.getElem?_map, hdi]; rfl)) ?_
 refine zpn 1 <| zcv (hz := (IntWalk.u8_in _ ⟨by omega, by omega⟩)) (k : Int) .u8 (k : Int) <| zpn 1 <| zcv (hz := (IntWalk.u8_in _ ⟨by omega, by omega⟩)) (i : Int) .u8 (i : Int) <| zkp [(3, (nV k)), (6, (pT b102 0)), (7, (nV i)), (70, (.int .u8 ((k : Int) - (i : Int)))), (72, (.int .u8 (k : Int))), (74, (.int .u8 (i : Int)))] <| zbi .u8 (IntKind.u8.wrap ((k : Int) - (i : Int))) (i : Int) <| zcm (((k : Int) - (i : Int)) != (IntKind.u8.wrap ((k : Int) - (i : Int)))) fun B119 hB119 => ?_
 obtain rfl : B119 = false := by
   have hkn : ¬ ((((k : Int) - (i : Int)) : Int) ≠ (IntKind.u8.wrap ((k : Int) - (i : Int)))) := by rw [IntWalk.u8_in _ ⟨by omega, by omega⟩]; simp
   first | exact hB119.trans (decide_eq_true hkn) | exact hB119.trans (decide_eq_false hkn) | exact hB119.trans (beq_iff_eq.2 hkn) | exact hB119.trans (bne_iff_ne.2 hkn) | exact hB119.trans (Bool.eq_false_iff.2 (fun e => hkn (beq_iff_eq.1 e))) | exact hB119.trans (Bool.eq_false_iff.2 (fun e => hkn (bne_iff_ne.1 e)))
 clear hB119
 refine zfe <| zcF <| zsk <| zrg <| zpn 1 <| zar ((i : Int) + 1) <| zpn 1 <| zfe ?_
 intro aC fr
 exact ⟨k - (i + 1), by omega, i + 1, rfl, fr.kp [3, 6, 7], M113, by omega⟩
 refine zex 0 <| zbh <| zsr <| zcl (awake15_c w112) ?_
 rintro _ w122 ⟨rfl, M123x⟩
 have M123 := M113.cl M123x
 refine zpn 1 <| zfe <| zre <| zo1 (.bool true) ?_
 have hR : true = true ↔ True := by simp
 have M124 := M123.od [] 0
 exact ⟨bool_dec hR (⟨fun _ => trivial, fun _ => by first | trivial | omega⟩), M124⟩
theorem treeCounts_c (k : Nat) (hk : k ≤ 255) (w : World) : Calls Try.prog 8 #[.int .u8 (k : Int)] w (Ret fun v w' => v = .bool true ∧ Mem noS w w' []) := by
  have h := treeCounts_d k hk w
  simpa using h
theorem treeCounts_i (x : Int) (h0 : 0 ≤ x) (h1 : x ≤ 255) (w : World) : Calls Try.prog 8 #[.int .u8 x] w (Ret fun v w' => v = .bool true ∧ Mem noS w w' []) := by
  obtain ⟨k, rfl⟩ : ∃ k : Nat, x = (k : Int) := ⟨x.toNat, by omega⟩
  exact treeCounts_c k (by omega) w
end Go.Proofs.Ytdcgcjibgihbbaa
